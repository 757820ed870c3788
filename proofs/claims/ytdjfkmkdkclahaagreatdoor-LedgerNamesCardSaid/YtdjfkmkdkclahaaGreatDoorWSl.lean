/-
  The symbolic walk: operations in order, statements, calls by contract; and that a walk which comes through proves the call.
  Conditions: none.
-/
import Derived.Test.YtdjfkmkdkclahaaGreatDoorWSy
import Derived.RangeFuncLeaves
import Derived.RangeFuncRecord
import Derived.RangeFuncSeq
set_option linter.unusedSectionVars false
set_option linter.unusedSimpArgs false
set_option linter.unusedVariables false
namespace Go.Proofs.YtdjfkmkdkclahaaGreatDoor
open Go.RowKit
section
variable {P:Program}
def aE9 (ti:TypeId->Option TI) (src dst:TypeId) (s:SV) (K:SV->Prop):Prop:=
 match ti dst with
 |some { td:= .int k, .. }=>(match s with| .d (.int k0 n)=>(ti src).isSome=true/\conv k0 k n K|_=>aD "convert: to an int")
 |some { td:= .string, .. }=>
  (match ti src with
   |some { td:= .slice e, .. }=>
    (match ti e with
    |some { td:= .int .u8, .. }=>
     (match mT s with
      |some (1,rows)=>rows=(unb rows).map bB/\K (.d (.str (unb rows)))
      |_=>aD "convert: to a string")
    |_=>aD "convert: to a string")
   |_=>aD "convert: to a string")
 |_=>aD "convert: it makes memory"
theorem aIl {ti:TypeId->Option TI}(hti:cG P ti) {o:Oper}{src dst:TypeId}{x:Operand}(ho:o.op= .convert src dst x) {fr:Fr}{hp:Hp}{K:SV->Prop}
  (h:ev fr x λs=>aE9 ti src dst s K):cP P o fr hp K:=by
 intro E ρ a w hm hf
 obtain⟨s,hs,hv⟩:=bR h
 have hr:=aR hf hs
 have hrun: ∀v w',(convert src dst (a.eval x)).run P w'= .ok v w'->(execOp a.eval o).run P w'= .ok (.value v) w':=by
  intro v w' e
  simp [execOp,ho,e]
 unfold aE9 at hv
 split at hv
 ·rename_i k _ _ _ hT
  obtain⟨d,i,z,hT⟩:=aL (hti _ _ hT)
  have hd:=jH hT.td
  subst hd
  split at hv
  ·rename_i k0 n
   obtain⟨d',hd'⟩:=nY hti hv.1
   refine⟨_,_,λw' _=>hrun _ w' ?_, .d _ _ (.int _ _),aGl hv.2⟩
   simp [convert,run_underlying hd',run_underlying hT.und,hr.int_inv,Conv.intToInt]
  ·exact hv.elim
 ·rename_i hT
  obtain⟨d,i,z,hT⟩:=aL (hti _ _ hT)
  have hd:=dZ hT.td
  subst hd
  split at hv
  ·rename_i e _ _ _ hT2
   obtain⟨d2,i2,z2,hT2⟩:=aL (hti _ _ hT2)
   have hd:=bK hT2.td
   subst hd
   split at hv
   ·rename_i hT3
    obtain⟨d3,i3,z3,hT3⟩:=aL (hti _ _ hT3)
    have hd:=jH hT3.td
    subst hd
    split at hv
    ·rename_i rows hrows
     obtain⟨he,hk⟩:=hv
     obtain⟨A,cap,b,off,e1,hnc,hcm,hA,hview⟩:=(gL hrows hr).of_sl
     have hlen:(unb rows).length=rows.length:=by simp [unb]
     have hle:(unb rows).length<=maxLen:=by rw [hlen];omega
     refine⟨_,_,λw' hg=>hrun _ w' ?_, .d _ _ (RepD.str (unb rows) hle),hk⟩
     rw [e1]
     by_cases hne:rows=[]
     ·subst hne
      rcases A with _|ad
      ·rw [run_convert_bytes_string w' src dst e _ _ _ hT2.und hT3.und hT.und]
       rfl
      ·have:=run_convert_bytes_back (P:=P) w' src dst e ad cap [] hT2.und hT3.und hT.und (λj hj=>by simp at hj)
       simpa [unb]using this
     ·have hA':=hA hne
      subst hA'
      have := run_convert_bytes_back (P := P) w' src dst e ⟨b, off, none⟩ cap (unb rows) hT2.und hT3.und hT.und (λj hj => by
       rw [bV]
       have hj':j < rows.length:=by omega
       have hrow:rows[j]? =some (bB (unb rows)[j]):=by
        conv=>lhs;rw [he]
        rw [List.getElem?_map,List.getElem?_eq_getElem hj];rfl
       obtain⟨v,c1,c2,_,c4⟩:=hview.cell j _ 0 _ hrow (by simp [bB];rfl)
       cases c4
       have ej:j * 1+0=j:=by omega
       rw [ej]at c1 c2
       exact(hg.s _ _ c2).trans c1)
      rw [hlen]at this
      exact this
    ·exact hv.elim
   ·exact hv.elim
  ·exact hv.elim
 ·exact hv.elim
def isX:SV->Bool
 | .mw _ _ _=>true
 | .ms _ _ _ _ _=>true
 | .xv _ _=>true
 |_=>false
def aOz:SV->Bool
 | .ms _ _ _ _ _=>true
 | .xv _ _=>true
 |_=>false
def aP0:SV->Bool
 | .d (.int _ _)=>true
 |_=>false
def aP2:SV->Bool
 | .msl _ _ _ _=>true
 | .d (.sl _ _)=>true
 |_=>false
def bO (P:Program) (o:Oper) (fr:Fr) (hp:Hp) (K:SV->Prop):Prop:=cP P o fr hp K
def aP1 (ti:TypeId->Option TI) (t:TypeId):Bool:=match ti t with|some { td:= .array _ _, .. }=>true|some { td:= .other, .. }=>true|none=>true|_=>false
def jZ (P:Program) (ti:TypeId->Option TI) (fr:Fr) (hp:Hp) (o:Oper) (K:SV->Prop):Prop:=
 match o.op with
 | .move x=>ev fr x K
 | .assign x=>ev fr x K
 | .pick c x y => ev fr c λt => (match t with
   | .d (.bool b)=>brB b (ev fr x K) (ev fr y K)
   |_=>aD "pick: no bool")
 | .load t x=>ev fr x λs=>aCn ti t s hp K
 | .nilCheck x=>ev fr x λs=>aO4 s K
 | .binOp op t x y _=>(match aP1 ti t with|true=>bO P o fr hp K|false=>ev fr x λs=>ev fr y λr=>aOm P ti op t s r K)
 | .unOp op _ x=>ev fr x λs=>vUn op s K
 | .makeFunc (.func f) first cap => (match evL fr first.toList with
   |some l=>(match evL fr cap.toList with|some m=>K (.fn f l m)|none=>aD "makeFunc")
   |none=>aD "makeFunc")
 | .slice t x lo hi mx => ev fr x λs => (match isX s with
   |true=>bO P o fr hp K
   | false => ev fr x λs => (match rJ fr lo with
    | some l => (match rJ fr hi with
     |some h=>(match rJ fr mx with|some m=>aE6 ti t s l h m K|none=>aD "slice: max")
     |none=>aD "slice: high")
    |none=>aD "slice: low"))
 | .fieldAddr t x f=>ev fr x λs=>lY ti t s f K
 | .field t x f=>ev fr x λs=>aE8 ti t s f K
 | .indexAddr t x y=>(match x with| .global _=>bO P o fr hp K|x=>ev fr x λs=>ev fr y λi=>lX ti t s i K)
 | .index t x y=>ev fr x λs=>ev fr y λi=>aE7 ti t s i K
 | .extract x i=>ev fr x λs=>uP s i K
 | .build t parts=>(match evP fr parts.toList with|some l=>aEb ti t l K|none=>aD "build: a part")
 | .convert src dst x=>ev fr x λs=>aE9 ti src dst s K
 | .lookup _ _ _ _=>bO P o fr hp K
 | .call { callee:= .builtin .len,args:=⟨[x]⟩,argTypes:=⟨[t]⟩ }=>ev fr x λs=>(match aOz s with|true=>bO P o fr hp K|false=>ev fr x λs=>aOk ti t s K)
 | .call { callee:= .builtin .cap,args:=⟨[x]⟩,argTypes:=⟨[t]⟩ }=>ev fr x λs=>(match aOz s with|true=>bO P o fr hp K|false=>ev fr x λs=>aOl ti t s hp K)
 |_=>aD "not a pure operation"
theorem vI {ti:TypeId->Option TI}(hti:cG P ti) {o:Oper}{fr:Fr}{hp:Hp}{K:SV->Prop}(h:jZ P ti fr hp o K):cP P o fr hp K:=by
 have gen: ∀{x:Operand} {f:SV->Bool} {G:Prop},(ev fr x λs=>(match f s with|true=>bO P o fr hp K|false=>G))->(G->cP P o fr hp K)->cP P o fr hp K:=by
  intro x f G h hg
  obtain⟨s,_,h⟩:=bR h
  split at h
  ·exact h
  ·exact hg h
 unfold jZ at h
 split at h
 ·exact aFf (.inl (by assumption)) h
 ·exact aFf (.inr (by assumption)) h
 ·exact aLd (by assumption) h
 ·exact aFh hti (by assumption) h
 ·exact aN8 (by assumption) h
 ·split at h
  ·exact h
  ·exact aNb hti (by assumption) h
 ·exact aOs (by assumption) h
 ·exact aOt (by assumption) h
 ·exact gen h λh=>aIf hti (by assumption) h
 ·exact xW hti (by assumption) h
 ·exact aIj hti (by assumption) h
 ·split at h
  ·exact h
  ·exact xV hti (by assumption) h
 ·exact aIi hti (by assumption) h
 ·exact aD7 (by assumption) h
 ·exact aIm hti (by assumption) h
 ·exact aIl hti (by assumption) h
 ·exact h
 ·exact gen h λh=>aN9 hti (by assumption) h
 ·exact gen h λh=>aNa hti (by assumption) h
 ·exact h.elim
def FW (r:Option Nat):Fence:={ Fence.wide with round:=r }
theorem dH {r:Option Nat}{n:Nat}{f:FuncId}{args:Array Value}{w:World}{R:Ending->World->Prop}:CallsIn (FW r) n P f args w R↔Calls P f args w R:=
 Iff.trans (Iff.of_eq rfl) (callsIn_wide (n:=n))
theorem aKh {o:Oper}(hd: ∀c,o.op≠ .defer c) {r:Option Nat}{a:Act}{w:World}{next:Act->World->Prop}{Q:Exit->Act->World->Prop}(h:o.wp P a w next Q):o.wpIn (FW r) 0 P a w next Q:=by
 refine⟨λ_ _=>trivial, ?_⟩
 rw [Oper.semAt_eq _ _ _ hd]
 unfold Oper.wp at h
 cases hr:(execOp a.eval o).run P w with
 |ok n w'=>
  rw [hr]at h
  cases n with
  |value v=>exact h
  |skip=>exact h
  |defer d=>exact h
  |enter f args=>exact⟨λh=>(by cases h),dH.2 h⟩
  |row row args=>
   refine⟨λh=>(by cases h),λc cs _=> ?_⟩
   obtain⟨v,w'',q1,q2⟩:=h c cs
   exact⟨v,w'',q1,stepsIn_wide.2 q2⟩
  |round=>exact h.elim
  |_=>first|exact h.elim|exact h
 |halt x w'=>
  rw [hr]at h
  cases x<;>first|exact h.elim|exact h
def aH9 (P:Program) (o:Oper) (pin:Pin) (fr:Fr) (hp:Hp) (K:SV->Hp->Prop):Prop:=
 ∀(E:Entry) (ρ:Env) (a:Act) (w:World),E.pin=pin->Mem E ρ hp w->bW ρ w fr a.tmps-> ∀(next:Act->World->Prop) (Q:Exit->Act->World->Prop),
  (∀v w' ρ' s hp',K s hp'->Mem E ρ' hp' w'->bW ρ' w' fr a.tmps->Rep w' ρ' s v->next (a.put o.dst v) w')->
  (∀ch w' ρ' hp',Chn pin.pv ch->pin.kp fr hp'->Mem E ρ' hp' w'->bW ρ' w' fr a.tmps->Q (.panic ch) a w')->o.wpIn (FW E.rd) 0 P a w next Q
theorem oL.r {o:Oper}{pin:Pin}{fr:Fr}{hp:Hp}{K:SV->Hp->Prop}(hd: ∀c,o.op≠ .defer c) (h:oL P o pin fr hp K):aH9 P o pin fr hp K:=
 λE ρ a w h1 h2 h3 next Q hn _=>aKh hd (h E ρ a w h1 h2 h3 next Q hn)
theorem aIh {o:Oper}{x:Operand}(ho:o.op= .panic x) {pin:Pin}{fr:Fr}{hp:Hp}{K:SV->Hp->Prop}{t:TypeId}{v:Value}(hx:evO fr x=some (.d (.lit (.iface t v)))) (hv:aOp pin.pv t v) (h:pin.kp fr hp):aH9 P o pin fr hp K:=by
 intro E ρ a w hpin hm hf next Q hn hq
 have hd: ∀c,o.op≠ .defer c:= λc e=>by rw [ho]at e;cases e
 refine⟨λ_ _=>trivial, ?_⟩
 rw [Oper.semAt_eq _ _ _ hd]
 have e:=(aR hf hx).lit_inv
 have hrun:(execOp a.eval o).run P w= .halt (.panic (.iface t v)) w:=by
  simp only [execOp,ho,e,Sem.run_bind]
  rfl
 rw [hrun]
 exact hq _ w ρ hp ⟨_,_,rfl,hv⟩ h hm hf
def cZ (P:Program) (f:FuncId):Bool:=
 match P.funcs[f]? with
 |some fn=>fn.body.isSome && !(fn.name== "runtime.NumGoroutine")
 |none=>false
def bU (w:World) (ρ:Env) (args:List SV) (vs:Array Value):Prop:=
 vs.size=args.length/\ ∀(j:Nat) (s:SV) (v:Value),args[j]? =some s->vs[j]? =some v->Rep w ρ s v
def aF (P:Program) (pin:Pin) (fr:Fr) (hp:Hp) (f:FuncId) (args:List SV) (K:SV->Hp->Prop):Prop:=
 ∀(E:Entry) (ρ:Env) (w:World) (tm:Array Value),E.pin=pin->Mem E ρ hp w->bW ρ w fr tm-> ∀vs:Array Value,bU w ρ args vs->
  Calls P f vs w λe w'=>(∃v ρ' s hp',e= .returned v/\K s hp'/\Mem E ρ' hp' w'/\bW ρ' w' fr tm/\Rep w' ρ' s v)\/ ∃ch ρ' hp',e= .panicked ch/\Chn pin.pv ch/\pin.kp fr hp'/\Mem E ρ' hp' w'/\bW ρ' w' fr tm
def aMj:SV->Option (FuncId×List SV×List SV)
 | .fn f a b=>some (f,a,b)
 | .d (.lit (.func (.func f) ⟨[]⟩ ⟨[]⟩))=>some (f,[],[])
 |_=>none
theorem rF {w:World}{ρ:Env}{s:SV}{v:Value}{f:FuncId}{a b:List SV}(h:aMj s=some (f,a,b)) (hr:Rep w ρ s v):
  ∃fv cv:Array Value,v= .func (.func f) fv cv/\bU w ρ a fv/\bU w ρ b cv:=by
 unfold aMj at h
 split at h
 ·simp at h
  obtain⟨rfl,rfl,rfl⟩:=h
  obtain⟨fv,cv,e,h1,h2,h3,h4⟩:=hr.fn_inv
  exact⟨fv,cv,e,⟨h1,h3⟩,⟨h2,h4⟩⟩
 ·simp at h
  obtain⟨rfl,rfl,rfl⟩:=h
  exact⟨#[],#[],hr.lit_inv,⟨rfl,by simp⟩,⟨rfl,by simp⟩⟩
 ·cases h
theorem bU.append {w:World}{ρ:Env}{a b:List SV}{u v:Array Value}(h:bU w ρ a u) (k:bU w ρ b v):bU w ρ (a++b) (u++v):=by
 refine⟨by simp [h.1,k.1],λj s x hs hx=> ?_⟩
 by_cases hj:j < a.length
 ·rw [List.getElem?_append_left hj]at hs
  rw [Array.getElem?_append_left (by rw [h.1];exact hj)]at hx
  exact h.2 j s x hs hx
 ·rw [List.getElem?_append_right (by omega)]at hs
  rw [Array.getElem?_append_right (by rw [h.1];omega),h.1]at hx
  exact k.2 _ s x hs hx
def YVC (P:Program) (pin:Pin) (fr:Fr) (hp:Hp) (id:Nat) (args:List SV) (K:SV->Hp->Prop):Prop:=
 ∀(E:Entry) (ρ:Env) (w:World) (tm:Array Value),E.pin=pin->Mem E ρ hp w->bW ρ w fr tm-> ∀(l:Nat) (vs:Array Value),ρ.blk id=some l->bU w ρ args vs->
  YieldAt Fence.wide 0 P l vs w λe w'=> ∃v ρ' s hp',e= .returned v/\K s hp'/\Mem E ρ' hp' w'/\bW ρ' w' fr tm/\Rep w' ρ' s v
def aP (P:Program) (o:Oper) (pin:Pin) (fr:Fr) (hp:Hp) (K:SV->Hp->Prop):Prop:=oL P o pin fr hp K
def aK9 (P:Program) (o:Oper) (pin:Pin) (fr:Fr) (hp:Hp) (f:Operand) (args:List Operand) (K:SV->Hp->Prop):Prop:=
 ev fr f λs=>match s with
  | .yld id => (match evL fr args with
   |some l=>YVC P pin fr hp id l K
   |none=>aD "call: an argument")
  |s=>match aMj s with
  | some (g, first, cap) => (match evL fr args with
   | some l => (match cZ P g with
    |true=>aF P pin fr hp g (first++l++cap) K
    |false=>aP P o pin fr hp K)
   |none=>aD "call: an argument")
  |none=>aP P o pin fr hp K
theorem aLf {o:Oper}{f:Operand}{args:Array Operand}{ts:Array TypeId}(ho:o.op= .call { callee:= .value f,args:=args,argTypes:=ts }) {pin:Pin}{fr:Fr}{hp:Hp}{K:SV->Hp->Prop}
  (h:aK9 P o pin fr hp f args.toList K):aH9 P o pin fr hp K:=by
 obtain⟨s,hs,hv⟩:=bR h
 have hd: ∀c,o.op≠ .defer c:= λc e=>by rw [ho]at e;cases e
 split at hv
 ·rename_i id
  intro E ρ a w hpin hm hf next Q hn _
  have hr:=aR hf hs
  obtain⟨lb,hlb,e⟩:=hr.yld_inv
  split at hv
  ·rename_i l hl
   obtain⟨l1,l2⟩:=nD hf _ _ hl
   have hargs:bU w ρ l (args.map a.eval):=by
    refine⟨by simpa using l1,λj s' v hs' hv'=>l2 j s' v hs' ?_⟩
    rw [<-Array.toList_map];simpa using hv'
   obtain⟨fn,tmps,assign,body,hy,hround⟩:=hv E ρ w a.tmps hpin hm hf lb _ hlb hargs
   refine⟨λ_ _=>trivial, ?_⟩
   rw [Oper.semAt_eq _ _ _ hd]
   have hrun:(execOp a.eval o).run P w= .ok (.round lb fn tmps assign body) w:=by
    simp only [execOp,ho,resolve,e,Deferred.ofValue,invoke,Sem.run_bind,Sem.run_pure,Result.andThen_ok]
    simpa using hy
   rw [hrun]
   refine⟨λh=>(by cases h),RoundIn.mono (show RoundIn (FW E.rd) 0 P lb fn tmps assign body w _ from hround) ?_⟩
   rintro e' w' ⟨v,ρ',s',hp',rfl,k1,k2,k3,k4⟩
   exact hn v w' ρ' s' hp' k1 k2 k3 k4
  ·exact hv.elim
 ·intro E ρ a w hpin hm hf next Q hn hq
  refine aKh hd ?_
  have hr:=aR hf hs
  split at hv
  ·rename_i g first cap hfn
   obtain⟨fv,cv,e,h1,h2⟩:=rF hfn hr
   split at hv
   ·rename_i l hl
    split at hv
    case h_2=>exact hv E ρ a w hpin hm hf next Q hn
    rename_i hcall
    obtain⟨l1,l2⟩:=nD hf _ _ hl
    have hargs:bU w ρ (first++l++cap) (fv++args.map a.eval++cv):=by
     refine(h1.append ⟨?_, ?_⟩).append h2
     ·simpa using l1
     ·intro j s' v hs' hv'
      refine l2 j s' v hs' ?_
      rw [<-Array.toList_map];simpa using hv'
    have hrun:(execOp a.eval o).run P w= .ok (.enter g (fv++args.map a.eval++cv)) w:=by
     unfold cZ at hcall
     split at hcall
     ·rename_i fn hfn'
      simp only [Bool.and_eq_true,Bool.not_eq_true']at hcall
      obtain⟨c1,c2⟩:=hcall
      have c3:fn.body.isNone=false:=by cases hb:fn.body<;>simp_all
      simp only [execOp,ho,resolve,e,Deferred.ofValue,invoke,callFunc,Sem.run_bind,Sem.run_pure,Result.andThen_ok,run_program,hfn',c2,c3,Bool.false_eq_true,if_false]
     ·cases hcall
    unfold Oper.wp
    rw [hrun]
    simp only [Oper.upon]
    refine(hv E ρ w a.tmps hpin hm hf _ hargs).mono ?_
    rintro e' w' (⟨v,ρ',s',hp',rfl,k1,k2,k3,k4⟩|⟨ch,ρ',hp',rfl,k0,k1,k2,k3⟩)
    ·exact hn v w' ρ' s' hp' k1 k2 k3 k4
    ·exact hq ch w' ρ' hp' k0 k1 k2 k3
   ·exact hv.elim
  ·exact hv E ρ a w hpin hm hf next Q hn
def uW (ti:TypeId->Option TI) (t:TypeId) (s r:SV) (hp:Hp) (K:Hp->Prop):Prop:=
 match s with
 | .mp id z i off ver=>zQ ti t id z i off ver r hp K
 |s=>aE5 ti t s r hp K
theorem tU {ti:TypeId->Option TI}(hti:cG P ti) {o:Oper}{t:TypeId}{x y:Operand}(ho:o.op= .store t x y) {pin:Pin}{fr:Fr}{hp:Hp}{K:SV->Hp->Prop}
  (h:ev fr x λs=>ev fr y λr=>uW ti t s r hp λhp'=>K (.d (.lit undef)) hp'):oL P o pin fr hp K:=by
 obtain⟨s,hs,hv0⟩:=bR h
 obtain⟨r,hr,hv⟩:=bR hv0
 unfold uW at hv
 split at hv
 ·exact aFd hti ho hs hr hv
 ·refine aIe hti ho ?_
  unfold ev;rw [hs];simp only;rw [hr];exact hv
def wE (ti:TypeId->Option TI) (t tx:TypeId) (id:Nat) (s x:SV) (pin:Pin) (fr:Fr) (hp:Hp) (K:SV->Hp->Prop):Prop:=
 match s with
 | .d .nil=>nX ti t tx id x pin fr hp K
 | .zc=>nX ti t tx id x pin fr hp K
 |s=>zS ti t tx s x hp K
theorem tW {ti:TypeId->Option TI}(hti:cG P ti) {o:Oper}{t tx:TypeId}{x y:Operand}{id:Nat}(ho:o.op= .call { callee:= .builtin .append,args:= #[x,y],argTypes:= #[t,tx] }) {pin:Pin}{fr:Fr}{hp:Hp}{K:SV->Hp->Prop}
  (h:ev fr x λs=>ev fr y λr=>wE ti t tx id s r pin fr hp K):rX P o pin fr hp K:=by
 obtain⟨s,hs,hv0⟩:=bR h
 obtain⟨r,hr,hv⟩:=bR hv0
 unfold wE at hv
 split at hv
 ·exact tV hti ho hs (.inl rfl) hr hv
 ·exact tV hti ho hs (.inr rfl) hr hv
 ·refine aFj hti ho ?_
  unfold ev;rw [hs];simp only;rw [hr];exact hv
def oK (ti:TypeId->Option TI) (t tx:TypeId) (id:Nat) (s x:SV) (pin:Pin) (fr:Fr) (hp:Hp) (K:SV->Hp->Prop):Prop:=
 match s with
 | .mw i z n=>uQ ti t tx i z n x hp K
 |s=>wE ti t tx id s x pin fr hp K
theorem pI {ti:TypeId->Option TI}(hti:cG P ti) {o:Oper}{t tx:TypeId}{x y:Operand}{id:Nat}(ho:o.op= .call { callee:= .builtin .append,args:= #[x,y],argTypes:= #[t,tx] }) {pin:Pin}{fr:Fr}{hp:Hp}{K:SV->Hp->Prop}
  (h:ev fr x λs=>ev fr y λr=>oK ti t tx id s r pin fr hp K):oL P o pin fr hp K:=by
 obtain⟨s,hs,hv0⟩:=bR h
 obtain⟨r,hr,hv⟩:=bR hv0
 unfold oK at hv
 split at hv
 ·exact aD8 hti ho hs hr hv
 ·refine(tW hti (id:=id) ho ?_).drop
  unfold ev;rw [hs];simp only;rw [hr];exact hv
def aJy:Op->Nat
 | .move _=>0
 | .assign _=>0
 | .pick _ _ _=>0
 | .load _ _=>0
 | .nilCheck _=>0
 | .binOp _ _ _ _ _=>0
 | .unOp _ _ _=>0
 | .makeFunc _ _ _=>0
 | .slice _ _ _ _ _=>0
 | .fieldAddr _ _ _=>0
 | .field _ _ _=>0
 | .indexAddr _ _ _=>0
 | .index _ _ _=>0
 | .extract _ _=>0
 | .build _ _=>0
 | .lookup _ _ _ _=>0
 | .call { callee:= .builtin .len,args:=_,argTypes:=_ }=>0
 | .call { callee:= .builtin .cap,args:=_,argTypes:=_ }=>0
 | .defer _=>2
 |_=>1
def aO2 (ti:TypeId->Option TI) (t:TypeId) (hp:Hp) (K:SV->Hp->Prop):Prop:=
 match ti t with
 |some { td:= .slice e, .. }=>(match ti e with|some _=>K .zc hp|none=>aD "buildSlice: an element's type")
 |_=>aD "buildSlice: a type"
theorem aN7 {ti:TypeId->Option TI}(hti:cG P ti) {o:Oper}{t:TypeId}(ho:o.op= .buildSlice t 0 #[]) {pin:Pin}{fr:Fr}{hp:Hp}{K:SV->Hp->Prop}(h:aO2 ti t hp K):oL P o pin fr hp K:=by
 intro E ρ a w hpin hm hf next Q hn
 unfold aO2 at h
 split at h
 ·rename_i e _ _ _ hT
  obtain⟨d,i,z,hT⟩:=aL (hti _ _ hT)
  have hd:=bK hT.td
  subst hd
  split at h
  ·rename_i T hT2
   obtain⟨d2,i2,z2,hT2⟩:=aL (hti _ _ hT2)
   have hr0:Array.range 0= #[]:=by apply Array.eq_empty_of_size_eq_zero;simp
   have hrun:(execOp a.eval o).run P w= .ok (.value (.slice (some ⟨w.heap.size,0,none⟩) 0 0)) (w.alloc (.cells #[] e)):=by
    simp only [execOp,ho,Sem.run_bind,Instr.buildSlice,run_underlying hT.und,Result.andThen_ok,hT2.run_size]
    simp [Instr.fill,newRow,hr0]
   obtain⟨m1,m2⟩:=hm.grow_same (Grew.alloc w (.cells #[] e))
   exact bN hrun (hn _ _ ρ _ _ h m1 (m2 fr _ hf) (.zc _))
  ·exact h.elim
 ·exact h.elim
def aO9 (P:Program) (ti:TypeId->Option TI) (zc:Bool) (pin:Pin) (fr:Fr) (hp:Hp) (dst:Nat) (o:Oper) (K:SV->Hp->Prop):Prop:=
 match o.op with
 | .alloc t => (match ti t with
   |some T=>fA dst pin fr hp/\K (.ptr dst 0) ((dst, .cells t (T.zero.map .d))::hp)
   |none=>aD "alloc: a type")
 | .box t x => ev fr x λs => (match fQ s with
   |some cs=>fA dst pin fr hp/\dst∉SV.idsL cs/\K (.ptr dst 0) ((dst, .cells t cs)::hp)
   |none=>aD "box: cells")
 | .buildSlice t len parts => (match zc, len, parts with
   |true,0,⟨[]⟩=>aO2 ti t hp K
   | _, len, parts => (match ti t with
    |none=>aP P o pin fr hp K
    |some _=>(match evP fr parts.toList with|some l=>gU ti t len dst l pin fr hp K|none=>aD "buildSlice: a part")))
 | .makeSlice t x y=>ev fr x λl=>ev fr y λc=>aHq ti t dst l c pin fr hp K
 | .store t x y=>ev fr x λs=>ev fr y λr=>uW ti t s r hp λhp'=>K (.d (.lit undef)) hp'
 | .convert src dst x=>ev fr x λs=>aKi ti src dst s hp K
 | .call { callee := .builtin .append, args := ⟨[x, y]⟩, argTypes := ⟨[t, tx]⟩ } => ev fr x λs => (match aOz s with
   |true=>aP P o pin fr hp K
   | false => ev fr x λs => ev fr y λr => (match aP0 r || aP2 s with
    |true=>aP P o pin fr hp K
    | false => (match ti t with
     |none=>aP P o pin fr hp K
     |some _=>oK ti t tx dst s r pin fr hp K)))
 | .call { callee:= .value f,args:=args,argTypes:=_ }=>aK9 P o pin fr hp f args.toList K
 | .panic x=>ev fr x λs=>(match s with| .d (.lit (.iface t v))=>pvK pin.pv t v (pin.kp fr hp)|_=>aD "panic: a value")
 | p => (match aJy p with
   | 0=>jZ P ti fr hp o λs=>K s hp
   | 1=>aP P o pin fr hp K
   |_=>aD "no rule")
theorem xR {ti:TypeId->Option TI}{fr:Fr}{hp:Hp}{o:Oper}{K:SV->Prop}(h:jZ P ti fr hp o K): ∀c,o.op≠ .defer c:=by
 intro c e
 unfold jZ at h
 rw [e]at h
 exact h
theorem aN6 {ti:TypeId->Option TI}(hti:cG P ti) {o:Oper}{pin:Pin}{fr:Fr}{hp:Hp}{dst:Nat}{zc:Bool}{K:SV->Hp->Prop}(h:aO9 P ti zc pin fr hp dst o K):aH9 P o pin fr hp K:=by
 have nd: ∀p:Op,o.op=p->(∀c,p≠ .defer c)-> ∀c,o.op≠ .defer c:= λp e h c=>by rw [e];exact h c
 unfold aO9 at h
 split at h
 ·rename_i ho;exact((aBi hti ho h).drop).r (nd _ ho (by intro c e;cases e))
 ·rename_i ho;exact((aJu ho h).drop).r (nd _ ho (by intro c e;cases e))
 ·rename_i ho
  split at h
  ·exact(aN7 hti ho h).r (nd _ ho (by intro c e;cases e))
  ·split at h
   ·exact oL.r (nd _ ho (by intro c e;cases e)) h
   exact((lD hti ho h).drop).r (nd _ ho (by intro c e;cases e))
 ·rename_i ho;exact((aFg hti ho h).drop).r (nd _ ho (by intro c e;cases e))
 ·rename_i ho;exact(tU hti ho h).r (nd _ ho (by intro c e;cases e))
 ·rename_i ho;exact(aLe hti ho h).r (nd _ ho (by intro c e;cases e))
 ·rename_i ho
  obtain⟨s,_,h⟩:=bR h
  split at h
  ·exact oL.r (nd _ ho (by intro c e;cases e)) h
  ·obtain⟨s2,hs2,h⟩:=bR h
   obtain⟨r2,hr2,h⟩:=bR h
   split at h
   ·exact oL.r (nd _ ho (by intro c e;cases e)) h
   ·split at h
    ·exact oL.r (nd _ ho (by intro c e;cases e)) h
    refine(pI hti (id:=dst) ho ?_).r (nd _ ho (by intro c e;cases e))
    unfold ev;rw [hs2];simp only;rw [hr2];exact h
 ·exact aLf (by assumption) h
 ·rename_i ho
  obtain⟨s,hs,h⟩:=bR h
  split at h
  ·exact aIh ho hs (aJs h).1 (aJs h).2
  ·exact h.elim
 ·split at h
  ·exact(oL.pure (vI hti h)).r (xR h)
  ·rename_i hk
   exact oL.r (λc e=>by rw [e]at hk;simp [aJy]at hk) h
  ·exact h.elim
structure Cfg where
 P:Program
 ti:TypeId->Option TI
 pin:Pin
 nt:Nat
 keep:Nat->Bool
 off:Nat
 rd:Option Nat
 zc:Bool:=false
 frz:List Nat:=[]
def zX:Fr->Nat->SV->Fr
 | [],t,s=>[(t,s)]
 |(k,x)::r,t,s=>if k=t then (k,s)::r else (k,x)::zX r t s
theorem fT (fr:Fr) (t:Nat) (s:SV) (u:Nat):dE (zX fr t s) u=if u=t then some s else dE fr u:=by
 induction fr with
 |nil=>
  simp only [zX,dE]
  by_cases e:u=t
  ·simp [e]
  ·simp [e,Ne.symm e]
 |cons p r ih=>
  obtain⟨k,x⟩:=p
  simp only [zX]
  by_cases e:k=t
  ·subst e
   simp only [if_true,dE]
   by_cases e':u=k
   ·simp [e']
   ·simp [e',Ne.symm e']
  ·simp only [e,if_false,dE]
   by_cases e':k=u
   ·subst e';simp [e]
   ·simp [e',ih]
def vA:Fr->Nat->SV->(Fr->Prop)->Prop
 | [],t,s,K=>K [(t,s)]
 |(k,x)::r,t,s,K=>if k=t then K ((k,s)::r)else vA r t s λr'=>K ((k,x)::r')
theorem jL: ∀(fr:Fr) (t:Nat) (s:SV) (K:Fr->Prop),vA fr t s K=K (zX fr t s):=by
 intro fr
 induction fr with
 |nil=>intro t s K;rfl
 |cons p r ih=>
  obtain⟨k,x⟩:=p
  intro t s K
  simp only [vA,zX]
  split
  ·rfl
  ·rw [ih]
def aF5 (keep:Nat->Bool) (fr:Fr):Fr:=fr.filter λp=>keep p.1
def iU (keep:Nat->Bool):Fr->(Fr->Prop)->Prop
 | [],K=>K []
 |(k,x)::r,K=>match keep k with|true=>iU keep r λr'=>K ((k,x)::r')|false=>iU keep r K
theorem fO (keep:Nat->Bool): ∀(fr:Fr) (K:Fr->Prop),iU keep fr K=K (aF5 keep fr):=by
 intro fr
 induction fr with
 |nil=>intro K;rfl
 |cons p r ih=>
  obtain⟨k,x⟩:=p
  intro K
  unfold aF5 at ih |-
  simp only [iU]
  cases hk:keep k
  ·rw [List.filter_cons_of_neg (by simp [hk])];exact ih K
  ·rw [List.filter_cons_of_pos (by simp [hk])];exact ih _
theorem eE (keep:Nat->Bool) (fr:Fr) (t:Nat) (s:SV) (h:dE (aF5 keep fr) t=some s):dE fr t=some s:=by
 induction fr with
 |nil=>simp [aF5,dE]at h
 |cons p r ih=>
  obtain⟨k,x⟩:=p
  unfold aF5 at h ih
  by_cases hk:keep k=true
  ·rw [List.filter_cons_of_pos (by simpa using hk)]at h
   simp only [dE]at h |-
   by_cases e:k=t
   ·simpa [e]using h
   ·simp [e]at h;simp [e,ih h]
  ·rw [List.filter_cons_of_neg (by simpa using hk)]at h
   have:=ih h
   simp only [dE]
   by_cases e:k=t
   ·subst e
    exfalso
    -- the pruned frame knows no slot that is not kept
    have: ∀l:Fr,dE (l.filter λp=>keep p.1) k=none:=by
     intro l
     induction l with
     |nil=>rfl
     |cons q r' ih'=>
      obtain⟨k',x'⟩:=q
      by_cases hk':keep k'=true
      ·rw [List.filter_cons_of_pos (by simpa using hk')]
       simp only [dE]
       rw [if_neg (λ(e:k'=k)=>hk (e ▸ hk'))]
       exact ih'
      ·rw [List.filter_cons_of_neg (by simpa using hk')]
       exact ih'
    rw [this]at h
    cases h
   ·simp [e,this]
def put (C:Cfg) (dst:Option Nat) (s:SV) (fr:Fr) (K:Fr->Prop):Prop:=
 match dst with
 |some d=>if d < C.nt then (match C.keep d with|true=>vA fr d s K|false=>K ((d,s)::fr))else aD "a slot out of range"
 |none=>K fr
theorem cN {C:Cfg}{dst:Option Nat}{s:SV}{fr:Fr}{K:Fr->Prop}(h:put C dst s fr K) {ρ:Env}{w:World}{a:Act}{v:Value}(hn:a.tmps.size=C.nt) (hf:bW ρ w fr a.tmps) (hr:Rep w ρ s v):
  ∃fr',K fr'/\bW ρ w fr' (a.put dst v).tmps:=by
 unfold put at h
 split at h
 ·rename_i d
  split at h
  ·rename_i hd
   have key: ∀t x,(if t=d then some s else dE fr t)=some x-> ∃u,(a.put (some d) v).tmps[t]? =some u/\Rep w ρ x u:=by
    intro t x hx
    by_cases e:t=d
    ·subst e
     simp at hx
     subst hx
     exact⟨v,by simp [Act.put,Array.getElem?_setIfInBounds_self_of_lt (show t < a.tmps.size by omega)],hr⟩
    ·simp [e]at hx
     obtain⟨u,h1,h2⟩:=hf t x hx
     exact⟨u,by simp only [Act.put];rw [Array.getElem?_setIfInBounds_ne (λe'=>e e'.symm)];exact h1,h2⟩
   split at h
   ·rw [jL]at h
    exact⟨_,h,λt x hx=>key t x (by rw [fT]at hx;exact hx)⟩
   ·refine⟨_,h,λt x hx=>key t x ?_⟩
    simp only [dE]at hx
    by_cases e:t=d
    ·simpa [e]using hx
    ·simpa [e,Ne.symm e]using hx
  ·exact h.elim
 ·exact⟨fr,h,hf⟩
theorem aU (a:Act) (d:Option Nat) (v:Value):(a.put d v).tmps.size=a.tmps.size:=by
 cases d<;>simp [Act.put]
theorem put_defers (a:Act) (d:Option Nat) (v:Value):(a.put d v).defers=a.defers:=by
 cases d<;>rfl
def hX (all:List Oper) (fr:Fr) (g:Option (Nat×Bool)) (yes no:Fr->Prop):Prop:=
 match g with
 |none=>yes fr
 |some (j,want)=>
  match (all[j]?).bind (·.dst)with
  |some d=>
   match dE fr d with
   |some (.d (.bool b))=>
    match want with
    |true=>brB b (vA fr d (.d (.bool true)) yes) (vA fr d (.d (.bool false)) no)
    |false=>brB b (vA fr d (.d (.bool true)) no) (vA fr d (.d (.bool false)) yes)
   |some (.d (.lit v))=>(match v with| .bool _=>aD "guard" |_=>no fr)
   |_=>aD "guard: no bool"
  |none=>aD "guard: no slot"
theorem bW.same {ρ:Env}{w:World}{fr:Fr}{tm:Array Value}(hf:bW ρ w fr tm) {d:Nat}{s:SV}(h:dE fr d=some s):bW ρ w (zX fr d s) tm:=by
 intro t x hx
 rw [fT]at hx
 by_cases e:t=d
 ·subst e;simp at hx;subst hx;exact hf t s h
 ·simp [e]at hx;exact hf t x hx
theorem cC {all:List Oper}{fr:Fr}{o:Oper}{yes no:Fr->Prop}(h:hX all fr o.guard yes no) {ρ:Env}{w:World}{a:Act}(hf:bW ρ w fr a.tmps):
  ∃fr',bW ρ w fr' a.tmps/\((Region.wanted o (yielded all.toArray a.tmps)=true/\yes fr')\/(Region.wanted o (yielded all.toArray a.tmps)=false/\no fr')):=by
 unfold hX at h
 unfold Region.wanted
 split at h
 ·rename_i hg;rw [hg];exact⟨fr,hf, .inl ⟨rfl,h⟩⟩
 ·rename_i j want hg
  rw [hg]
  split at h
  ·rename_i d hd
   have hd':(all.toArray[j]?).bind (·.dst)=some d:=by simpa using hd
   split at h
   ·rename_i b hb
    obtain⟨v,h1,h2⟩:=hf d _ hb
    have e:=h2.bool_inv
    subst e
    have hy:yielded all.toArray a.tmps j=some b:=by simp only [yielded,hd',Option.bind_some,h1]
    simp only [hy]
    cases b<;>cases want
    ·exact⟨_,hf.same hb, .inl ⟨by simp,by have h1:=aJc h rfl;rwa [jL]at h1⟩⟩
    ·exact⟨_,hf.same hb, .inr ⟨by simp,by have h1:=aJc h rfl;rwa [jL]at h1⟩⟩
    ·exact⟨_,hf.same hb, .inr ⟨by simp,by have h1:=aJb h rfl;rwa [jL]at h1⟩⟩
    ·exact⟨_,hf.same hb, .inl ⟨by simp,by have h1:=aJb h rfl;rwa [jL]at h1⟩⟩
   ·rename_i u hu
    obtain⟨v,h1,h2⟩:=hf d _ hu
    have e:=h2.lit_inv
    subst e
    split at h
    ·exact h.elim
    ·rename_i hnb
     have hy:yielded all.toArray a.tmps j=none:=by
      simp only [yielded,hd',Option.bind_some,h1]
      cases v<;>first|rfl|(exfalso;exact hnb _ rfl)
     exact⟨fr,hf, .inr ⟨by simp [hy],h⟩⟩
   ·exact h.elim
  ·exact h.elim
def aJ3:Hp->Nat->(Hp->Prop)->Prop
 | [],_,K=>K []
 |(k,o)::r,t,K=>if k=t then (t∉jP r/\K r)else aJ3 r t λr'=>K ((k,o)::r')
theorem aC7: ∀(hp:Hp) (t:Nat) (K:Hp->Prop),aJ3 hp t K-> ∃hp',K hp'/\ ∀i o,aM hp' i=some o->i≠t/\aM hp i=some o
 | [],t,K,h=>⟨[],h,by simp [aM]⟩
 |(k,o)::r,t,K,h=>by
  simp only [aJ3]at h
  by_cases e:k=t
  ·subst e
   simp only [if_true]at h
   refine⟨r,h.2,λi x hx=> ?_⟩
   have hne:i≠k:= λe=>h.1 (bA (by rw [<-e];exact hx) (.inl rfl))
   exact⟨hne,by simp only [aM,if_neg (Ne.symm hne)];exact hx⟩
  ·simp only [e,if_false]at h
   obtain⟨r',k1,k2⟩:=aC7 r t _ h
   refine⟨_,k1,λi x hx=> ?_⟩
   simp only [aM]at hx |-
   by_cases e':k=i
   ·subst e'
    simp only [if_true]at hx |-
    exact⟨e,hx⟩
   ·simp only [e',if_false]at hx |-
    exact k2 i x hx
def aK2 (fr:Fr) (hp:Hp) (t:Nat) (K:Fr->Hp->Prop):Prop:=
 match dE fr t with
 | some (.ptr id 0) => (match aM hp id with
  | some (.cells _ cs) => (match aMo cs with
   |some xs=>vA fr t (.ea xs.length [xs] 0 0) λfr'=>aJ3 hp id λhp'=>K fr' hp'
   |none=>K fr hp)
  |_=>K fr hp)
 |_=>K fr hp
def aNn:List Nat->Fr->Hp->(Fr->Hp->Prop)->Prop
 | [],fr,hp,K=>K fr hp
 |t::r,fr,hp,K=>aK2 fr hp t λfr' hp'=>aNn r fr' hp' K
theorem Mem.froz {E:Entry}{ρ:Env}{hp:Hp}{w:World}(h:Mem E ρ hp w) {id g:Nat}{t:TypeId}{xs:List D}(ho:aM hp id=some (.cells t (xs.map .d))) (hg:ρ.blk id=some g) {hp':Hp}(hsub: ∀i o,aM hp' i=some o->i≠id/\aM hp i=some o):
  Mem E (ρ.withS λb i=>ρ.S b i\/(b=g/\i < xs.length)) hp' w/\View w (λb i=>ρ.S b i\/(b=g/\i < xs.length)) xs.length [xs] g 0:=by
 have hat:ρ.at id (.cells t (xs.map .d))=some g:=hg
 have hgl:=h.blk_lt ho hat
 obtain⟨g',h1,⟨cur,h2,h3,h4,h5⟩,h6⟩:=h.sat id _ ho
 rw [hg]at h1;injection h1 with h1;subst h1
 have hcl:cur.size=xs.length:=by simpa using h3
 have hk:bL ρ.S w w:= λ_ _ _=>rfl
 refine⟨⟨h.os,h.tape,h.output,h.size,h.old,λb i hs=> .inl (h.sold b i hs), ?_, ?_,h.kp, ?_, ?_, ?_,h.mv, ?_,h.md⟩, ?_, ?_⟩
 ·rintro b i (hs|⟨rfl,_⟩) hb hB
  ·exact h.snew b i hs hb hB
  ·rcases h.hb id _ _ ho hat with q|q
   ·omega
   ·exact absurd q hB
 ·rintro b i (hs|⟨rfl,_⟩)
  ·exact h.slt b i hs
  ·exact hgl
 ·intro j o hj
  obtain⟨hne,hj⟩:=hsub j o hj
  refine(h.sat j o hj).keep hk (λb i x=> .inl x) (λi _=>ρ.moved_withS _ i) ⟨rfl,rfl⟩ (λ_ _=>rfl) ?_
  rintro g2 hg2 i (hs|⟨rfl,_⟩)
  ·exact hs
  ·exact absurd (h.inj j o id _ _ hj ho hg2 hat) hne
 ·intro j o j' o' g2 a b c d
  exact h.inj j o j' o' g2 (hsub _ _ a).2 (hsub _ _ b).2 (by cases o<;>exact c) (by cases o'<;>exact d)
 ·intro j o g2 a b
  exact h.hb j o g2 (hsub _ _ a).2 (by cases o<;>exact b)
 ·intro j oR g2 a hrd b j' o' c d
  exact h.ro j oR g2 (hsub _ _ a).2 hrd b j' o' (hsub _ _ c).2 (by cases o'<;>exact d)
 ·intro row hr
  simp only [List.mem_singleton]at hr
  rw [hr]
 ·intro i row j x hi hj
  have hi0:i=0:=by
   have:=(List.getElem?_eq_some_iff.1 hi).1
   simp at this;exact this
  subst hi0
  simp at hi
  subst hi
  have hjl:=(List.getElem?_eq_some_iff.1 hj).1
  have hjc:j < cur.size:=by omega
  refine⟨cur[j], ?_, .inr ⟨rfl,by omega⟩,h4 _ (Array.getElem_mem hjc), ?_⟩
  ·rw [Nat.zero_mul,Nat.zero_add,Nat.zero_add,cell_of_row w _ j cur t (0,0) h2]
   exact Array.getElem?_eq_getElem hjc
  ·have hr:=h5 j (.d x) cur[j] (by rw [List.getElem?_map,hj];rfl) (Array.getElem?_eq_getElem hjc)
   cases hr with
   |d _ _ hr=>exact hr.mono hk λb i x=> .inl x
theorem mL: ∀(l:List Nat) {fr:Fr}{hp:Hp}{K:Fr->Hp->Prop}{E:Entry}{ρ:Env}{a:Act}{w:World},aNn l fr hp K->Mem E ρ hp w->bW ρ w fr a.tmps-> ∃fr' hp' ρ',K fr' hp'/\Mem E ρ' hp' w/\bW ρ' w fr' a.tmps
 | [],fr,hp,K,E,ρ,a,w,h,hm,hf=>⟨fr,hp,ρ,h,hm,hf⟩
 |t::r,fr,hp,K,E,ρ,a,w,h,hm,hf=>by
  simp only [aNn]at h
  unfold aK2 at h
  split at h
  ·rename_i id ht
   split at h
   ·rename_i ty cs ho
    split at h
    ·rename_i xs hxs
     rw [jL]at h
     obtain⟨hp',h,hsub⟩:=aC7 _ _ _ h
     have hcs:=aCg hxs
     subst hcs
     obtain⟨v,hv,hr⟩:=hf t _ ht
     obtain⟨g,hg,e1⟩:=hr.ptr_inv
     obtain⟨m1,m2⟩:=hm.froz ho hg hsub
     refine mL r h m1 ?_
     intro k x hx
     rw [fT]at hx
     by_cases e:k=t
     ·subst e
      simp at hx
      subst hx
      refine⟨v,hv, ?_⟩
      subst e1
      have:=Rep.ea (w:=w) (ρ:=ρ.withS λb i=>ρ.S b i\/(b=g/\i < xs.length)) xs.length [xs] 0 0 g 0 m2
      simpa using this
     ·simp [e]at hx
      obtain⟨u,u1,u2⟩:=hf k x hx
      exact⟨u,u1,u2.mono (λ_ _ _=>rfl) (λb i q=> .inl q) λi _=>ρ.moved_withS _ i⟩
    ·exact mL r h hm hf
   ·exact mL r h hm hf
  ·exact mL r h hm hf
def aNl (C:Cfg) (all:List Oper) (o:Oper) (fr:Fr) (hp:Hp) (k:Fr->Hp->Prop):Prop:=
 hX all fr o.guard
  (λfr=>aO9 C.P C.ti C.zc C.pin fr hp (C.off+o.dst.getD 0) o λs hp'=>put C o.dst s fr λfr'=>k fr' hp')
  (λfr=>put C o.dst (.d (.lit undef)) fr λfr'=>k fr' hp)
def mF (C:Cfg) (all:List Oper) (K:Fr->Hp->Prop):List Oper->Fr->Hp->Prop
 | [],fr,hp=>iU C.keep fr λfr'=>aNn C.frz fr' hp K
 |o::r,fr,hp=>aNl C all o fr hp λfr' hp'=>mF C all K r fr' hp'
inductive Ex where
 |normal|exit (id:Nat)|goto (l:Nat)|ret|pan
def Ex.rel (pv:Option (TypeId->Value->Prop)):Ex->Exit->Prop
 | .normal, .normal=>True
 | .exit i, .exit j=>i=j
 | .goto i, .goto j=>i=j
 | .ret, .ret=>True
 | .pan, .panic ch=>Chn pv ch
 |_,_=>False
def KX (pin:Pin) (K:Ex->Fr->Hp->Prop):Ex->Fr->Hp->Prop
 | .pan,fr,hp=>pin.kp fr hp
 |x,fr,hp=>K x fr hp
theorem KX.mono {pin:Pin}{K K':Ex->Fr->Hp->Prop}(hk: ∀e fr hp,K e fr hp->K' e fr hp) {x:Ex}{fr:Fr}{hp:Hp}(h:KX pin K x fr hp):KX pin K' x fr hp:=by
 cases x<;>first|exact hk _ _ _ h|exact h
structure Ext (E E':Entry):Prop where
 w:E'.w=E.w
 S:E'.S=E.S
 B:E'.B=E.B
 pin:E'.pin=E.pin
 ρ:E'.ρ=E.ρ
 rd:E'.rd=E.rd
 D: ∃D',E'.D=D'++E.D/\E'.k=D'.length+E.k/\D'.Nodup/\ ∀b∈D',E.w.heap.size<=b/\b∉E.D
theorem Ext.refl (E:Entry):Ext E E:=⟨rfl,rfl,rfl,rfl,rfl,rfl,[],rfl,by simp, .nil,by simp⟩
theorem Ext.trans {A B C:Entry}(h:Ext A B) (k:Ext B C):Ext A C:=by
 obtain⟨D1,d1,d2,d3,d4⟩:=h.D
 obtain⟨D2,e1,e2,e3,e4⟩:=k.D
 refine⟨k.w.trans h.w,k.S.trans h.S,k.B.trans h.B,k.pin.trans h.pin,k.ρ.trans h.ρ,k.rd.trans h.rd,D2++D1,by rw [e1,d1,List.append_assoc],by rw [e2,d2,List.length_append];omega, ?_, ?_⟩
 ·refine List.nodup_append.2 ⟨e3,d3,λa ha b hb e=> ?_⟩
  subst e
  exact(e4 a ha).2 (by rw [d1];exact List.mem_append_left _ hb)
 ·intro b hb
  rcases List.mem_append.1 hb with hb|hb
  ·have:=e4 b hb
   rw [h.w,d1]at this
   exact⟨this.1,λhm=>this.2 (List.mem_append_right _ hm)⟩
  ·exact d4 b hb
def aO1 (rd:Option Nat) (E:Entry):Prop:=
 match rd with
 |none=>E.rd=none
 |some id=>id∈E.pin/\E.ρ.blk id=E.rd/\E.rd.isSome=true
theorem aO1.ext {rd:Option Nat}{E E':Entry}(h:aO1 rd E) (k:Ext E E'):aO1 rd E':=by
 unfold aO1 at *
 cases rd with
 |none=>exact k.rd.trans h
 |some id=>simp only at h |-;rw [k.pin,k.ρ,k.rd];exact h
def fV (C:Cfg) (E:Entry) (K:Ex->Fr->Hp->Prop) (e:Exit) (a:Act) (w:World):Prop:= ∃x fr hp E',Ext E E'/\Ex.rel C.pin.pv x e/\KX C.pin K x fr hp/\Sat E' C.nt ⟨fr,hp⟩ a w
theorem fV.noOut {C:Cfg}{E:Entry}{K:Ex->Fr->Hp->Prop}:¬ LetsOut (fV C E K):=by
 rintro⟨a,w,x,fr,hp,E',_,h,_⟩
 cases x<;>exact h
def aH (C:Cfg) (c:Code) (fr:Fr) (hp:Hp) (K:Ex->Fr->Hp->Prop):Prop:=
 ∀(E:Entry) (a:Act) (w:World),E.pin=C.pin->aO1 C.rd E->Sat E C.nt ⟨fr,hp⟩ a w->c.wpIn (FW E.rd) 0 C.P (fV C E K) a w
def aNr (fr:Fr) (hp:Hp) (c:Operand) (a b:Fr->Hp->(Ex->Fr->Hp->Prop)->Prop) (K:Ex->Fr->Hp->Prop):Prop:=
 ev fr c λs=>(match s with| .d (.bool t)=>brB t (a fr hp K) (b fr hp K)|_=>aD "cond: no bool")
def X (C:Cfg):Code->Fr->Hp->(Ex->Fr->Hp->Prop)->Prop
 | .skip,fr,hp,K=>K .normal fr hp
 | .label _,fr,hp,K=>K .normal fr hp
 | .region id ops draw,fr,hp,K=>if draw then aH C (.region id ops true) fr hp K else mF C ops.toList (K .normal) ops.toList fr hp
 | .seq a b,fr,hp,K=>X C a fr hp λe fr hp=>match e with| .normal=>X C b fr hp K|e=>K e fr hp
 | .cond c a b,fr,hp,K=>aNr fr hp c (λfr hp K=>X C a fr hp K) (λfr hp K=>X C b fr hp K) K
 | .block id c,fr,hp,K=>X C c fr hp λe fr hp=>match e with| .exit i=>if i=id then K .normal fr hp else K (.exit i) fr hp|e=>K e fr hp
 | .loop c,fr,hp,K=>aH C (.loop c) fr hp K
 | .exit id,fr,hp,K=>K (.exit id) fr hp
 | .goto l,fr,hp,K=>K (.goto l) fr hp
 | .ret,fr,hp,K=>K .ret fr hp
 |c,fr,hp,K=>aH C c fr hp K
theorem fR {C:Cfg}(hti:cG C.P C.ti) {all:List Oper}{K:Fr->Hp->Prop}{E:Entry}{Q:Exit->Act->World->Prop}(hpin:E.pin=C.pin) (hQ: ∀fr hp a w,K fr hp->Sat E C.nt ⟨fr,hp⟩ a w->Q .normal a w) (hQp: ∀ch fr hp a w,Chn C.pin.pv ch->C.pin.kp fr hp->Sat E C.nt ⟨fr,hp⟩ a w->Q (.panic ch) a w):
  ∀(l:List Oper) (k:Nat) (fr:Fr) (hp:Hp) (a:Act) (w:World),all.drop k=l->mF C all K l fr hp->Sat E C.nt ⟨fr,hp⟩ a w->wpOpsIn (FW E.rd) 0 C.P all.toArray Q (List.range' k l.length) a w:=by
 intro l
 induction l with
 |nil=>
  intro k fr hp a w _ h hs
  simp only [mF,fO]at h
  obtain⟨h1,h2,ρ,h3,h4⟩:=hs
  simp only [List.length_nil,List.range'_zero,wpOpsIn]
  obtain⟨fr',hp',ρ',q1,q2,q3⟩:=mL C.frz (a:=a) h h3 (λt s hts=>h4 t s (eE _ _ t s hts))
  exact hQ _ hp' a w q1 ⟨h1,h2,ρ',q2,q3⟩
 |cons o r ih=>
  intro k fr hp a w hk h hs
  simp only [mF,aNl]at h
  obtain⟨h1,h2,ρ,h3,h4⟩:=hs
  have hko:all.toArray[k]? =some o:=by
   have:all[k]? =some o:=by
    have:=congrArg (λl=>l[0]?) hk
    simpa [List.getElem?_drop]using this
   simpa using this
  have hkr:all.drop (k+1)=r:=by
   rw [<-List.drop_drop,hk];rfl
  simp only [List.length_cons,List.range'_succ,wpOpsIn,hko]
  obtain⟨fr0,h4,hh⟩:=cC h h4
  rcases hh with⟨hw,h⟩|⟨hw,h⟩
  ·simp only [hw,if_true]
   refine aN6 hti h E ρ a w hpin h3 h4 _ Q (λv w' ρ' s hp' hk' hm' hf' hr'=> ?_) (λch w' ρ' hp' q0 q1 q2 q3=>hQp ch fr0 hp' a w' q0 q1 ⟨h1,h2,ρ',q2,q3⟩)
   obtain⟨fr',q1,q2⟩:=cN hk' h1 hf' hr'
   exact ih (k+1) fr' hp' _ w' hkr q1 ⟨by rw [aU];exact h1,by rw [put_defers];exact h2,ρ',hm',q2⟩
  ·simp only [hw,Bool.false_eq_true,if_false]
   obtain⟨fr',q1,q2⟩:=cN h h1 h4 (Rep.d _ undef (.lit undef))
   exact⟨λ_ _=>trivial,ih (k+1) fr' hp _ w hkr q1 ⟨by rw [aU];exact h1,by rw [put_defers];exact h2,ρ,h3,q2⟩⟩
theorem iG {C:Cfg}(hti:cG C.P C.ti): ∀(c:Code) (fr:Fr) (hp:Hp) (K:Ex->Fr->Hp->Prop),X C c fr hp K->aH C c fr hp K:=by
 intro c
 induction c with
 |skip=>intro fr hp K h E a w _ _ hs;exact wpIn_skip ⟨.normal,fr,hp,E, .refl E,trivial,h,hs⟩
 |label l=>intro fr hp K h E a w _ _ hs;exact wpIn_label ⟨.normal,fr,hp,E, .refl E,trivial,h,hs⟩
 |region id ops draw=>
  intro fr hp K h
  simp only [X]at h
  cases draw
  ·simp at h
   intro E a w hpin _ hs
   refine wpIn_region ?_
   have:=fR (C:=C) hti (all:=ops.toList) (Q:=fV C E K) hpin (λfr hp a w hk hs=>⟨.normal,fr,hp,E, .refl E,trivial,hk,hs⟩) (λch fr hp a w hc hk hs=>⟨.pan,fr,hp,E, .refl E,hc,hk,hs⟩) ops.toList 0 fr hp a w rfl h hs
   simpa [List.range_eq_range']using this
  ·simpa using h
 |seq x y ihx ihy=>
  intro fr hp K h E a w hpin hrd hs
  simp only [X]at h
  refine wpIn_seq (wpIn_mono (ihx fr hp _ h E a w hpin hrd hs) ?_)
  rintro e a' w' ⟨ex,fr',hp',E',hE,hrel,hk,hs'⟩
  cases ex<;>cases e<;>simp only [Ex.rel]at hrel
  ·have:=ihy fr' hp' K hk E' a' w' (hE.pin.trans hpin) (hrd.ext hE) hs'
   rw [hE.rd]at this
   exact wpIn_mono this λe a w ⟨ex,fr',hp',E'',hE',rest⟩=>⟨ex,fr',hp',E'',hE.trans hE',rest⟩
  ·exact⟨.exit _,fr',hp',E',hE,hrel,hk,hs'⟩
  ·exact⟨.goto _,fr',hp',E',hE,hrel,hk,hs'⟩
  ·exact⟨.ret,fr',hp',E',hE,hrel,hk,hs'⟩
  ·exact⟨.pan,fr',hp',E',hE,hrel,hk,hs'⟩
 |cond c x y ihx ihy=>
  intro fr hp K h E a w hpin hrd hs
  simp only [X,aNr]at h
  obtain⟨s,hs1,hv⟩:=bR h
  obtain⟨h1,h2,ρ,h3,h4⟩:=hs
  have hr:=aR h4 hs1
  split at hv
  ·rename_i t
   refine wpIn_cond (t:=t) hr.bool_inv ?_
   cases t
   ·exact ihy fr hp K (aJc hv rfl) E a w hpin hrd ⟨h1,h2,ρ,h3,h4⟩
   ·exact ihx fr hp K (aJb hv rfl) E a w hpin hrd ⟨h1,h2,ρ,h3,h4⟩
  ·exact hv.elim
 |block id c ih=>
  intro fr hp K h E a w hpin hrd hs
  simp only [X]at h
  refine wpIn_block (wpIn_mono (ih fr hp _ h E a w hpin hrd hs) ?_)
  rintro e a' w' ⟨ex,fr',hp',E',hE,hrel,hk,hs'⟩
  cases ex<;>cases e<;>simp only [Ex.rel]at hrel
  ·exact⟨.normal,fr',hp',E',hE,trivial,hk,hs'⟩
  ·subst hrel
   simp only [Exit.inBlock]
   split
   ·rename_i e;simp only [KX,e,if_true]at hk;exact⟨.normal,fr',hp',E',hE,trivial,hk,hs'⟩
   ·rename_i e;simp only [KX,e,if_false]at hk;exact⟨.exit _,fr',hp',E',hE,rfl,hk,hs'⟩
  ·exact⟨.goto _,fr',hp',E',hE,hrel,hk,hs'⟩
  ·exact⟨.ret,fr',hp',E',hE,hrel,hk,hs'⟩
  ·exact⟨.pan,fr',hp',E',hE,hrel,hk,hs'⟩
 |loop c _=>intro fr hp K h;exact h
 |rangeFunc=>intro fr hp K h;exact h
 |exit id=>intro fr hp K h E a w _ _ hs;exact wpIn_exit ⟨.exit id,fr,hp,E, .refl E,rfl,h,hs⟩
 |scope body _=>intro fr hp K h;exact h
 |goto l=>intro fr hp K h E a w _ _ hs;exact wpIn_goto ⟨.goto l,fr,hp,E, .refl E,rfl,h,hs⟩
 |ret=>intro fr hp K h E a w _ _ hs;exact wpIn_ret ⟨.ret,fr,hp,E, .refl E,trivial,h,hs⟩
 |refuse=>intro fr hp K h;exact h
end
end Go.Proofs.YtdjfkmkdkclahaaGreatDoor
