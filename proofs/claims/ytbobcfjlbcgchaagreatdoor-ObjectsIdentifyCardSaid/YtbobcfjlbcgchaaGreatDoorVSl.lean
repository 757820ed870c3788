/-
  The symbolic walk: operations in order, statements, calls by contract; and that a walk which comes through proves the call.
  Conditions: none.
-/
import Derived.Test.YtbobcfjlbcgchaaGreatDoorVSy
import Derived.RangeFuncLeaves
import Derived.RangeFuncRecord
import Derived.RangeFuncSeq
set_option linter.unusedSectionVars false
set_option linter.unusedSimpArgs false
set_option linter.unusedVariables false
namespace Go.Proofs.YtbobcfjlbcgchaaGreatDoor
open Go.RowKit
section
variable {P:Program}
def aL6 (ti:TypeId->Option TI) (src dst:TypeId) (s:SV) (K:SV->Prop):Prop:=
 match ti dst with
 |some { td:= .int k, .. }=>(match s with| .d (.int k0 n)=>(ti src).isSome=true/\conv k0 k n K|_=>aG "convert: to an int")
 |some { td:= .string, .. }=>
  (match ti src with
   |some { td:= .slice e, .. }=>
    (match ti e with
    |some { td:= .int .u8, .. }=>
     (match tF s with
      |some (1,rows)=>rows=(unb rows).map bE/\K (.d (.str (unb rows)))
      |_=>aG "convert: to a string")
    |_=>aG "convert: to a string")
   |_=>aG "convert: to a string")
 |_=>aG "convert: it makes memory"
theorem aQ1 {ti:TypeId->Option TI}(hti:dX P ti) {o:Oper}{src dst:TypeId}{x:Operand}(ho:o.op= .convert src dst x) {fr:Fr}{hp:Hp}{K:SV->Prop}
  (h:ev fr x λs=>aL6 ti src dst s K):eC P o fr hp K:=by
 intro E ρ a w hm hf
 obtain⟨s,hs,hv⟩:=cP h
 have hr:=aR hf hs
 have hrun: ∀v w',(convert src dst (a.eval x)).run P w'= .ok v w'->(execOp a.eval o).run P w'= .ok (.value v) w':=by
  intro v w' e
  simp [execOp,ho,e]
 unfold aL6 at hv
 split at hv
 ·rename_i k _ _ _ hT
  obtain⟨d,i,z,hT⟩:=aM (hti _ _ hT)
  have hd:=kN hT.td
  subst hd
  split at hv
  ·rename_i k0 n
   obtain⟨d',hd'⟩:=uG hti hv.1
   refine⟨_,_,λw' _=>hrun _ w' ?_, .d _ _ (.int _ _),aNz hv.2⟩
   simp [convert,run_underlying hd',run_underlying hT.und,hr.int_inv,Conv.intToInt]
  ·exact hv.elim
 ·rename_i hT
  obtain⟨d,i,z,hT⟩:=aM (hti _ _ hT)
  have hd:=fL hT.td
  subst hd
  split at hv
  ·rename_i e _ _ _ hT2
   obtain⟨d2,i2,z2,hT2⟩:=aM (hti _ _ hT2)
   have hd:=cF hT2.td
   subst hd
   split at hv
   ·rename_i hT3
    obtain⟨d3,i3,z3,hT3⟩:=aM (hti _ _ hT3)
    have hd:=kN hT3.td
    subst hd
    split at hv
    ·rename_i rows hrows
     obtain⟨he,hk⟩:=hv
     obtain⟨A,cap,b,off,e1,hnc,hcm,hA,hview⟩:=(jQ hrows hr).of_sl
     have hlen:(unb rows).length=rows.length:=by simp [unb]
     have hle:(unb rows).length<=maxLen:=by rw [hlen];omega
     refine⟨_,_,λw' hg=>hrun _ w' ?_, .d _ _ (RepD.str (unb rows) hle),hk⟩
     rw [e1]
     by_cases hne:rows=[]
     ·subst hne
      rcases A with _|ad
      ·rw [run_convert_bytes_string w' src dst e _ _ _ hT2.und hT3.und hT.und]
       rfl
      ·have:=run_convert_bytes_back (P:=P) w' src dst e ad cap [] hT2.und hT3.und hT.und (λj hj=>by simp at hj)
       simpa [unb]using this
     ·have hA':=hA hne
      subst hA'
      have := run_convert_bytes_back (P := P) w' src dst e ⟨b, off, none⟩ cap (unb rows) hT2.und hT3.und hT.und (λj hj => by
       rw [cN]
       have hj':j < rows.length:=by omega
       have hrow:rows[j]? =some (bE (unb rows)[j]):=by
        conv=>lhs;rw [he]
        rw [List.getElem?_map,List.getElem?_eq_getElem hj];rfl
       obtain⟨v,c1,c2,_,c4⟩:=hview.cell j _ 0 _ hrow (by simp [bE];rfl)
       cases c4
       have ej:j * 1+0=j:=by omega
       rw [ej]at c1 c2
       exact(hg.s _ _ c2).trans c1)
      rw [hlen]at this
      exact this
    ·exact hv.elim
   ·exact hv.elim
  ·exact hv.elim
 ·exact hv.elim
def isX:SV->Bool
 | .mw _ _ _=>true
 | .ms _ _ _ _ _=>true
 | .xv _ _=>true
 |_=>false
def aXg:SV->Bool
 | .ms _ _ _ _ _=>true
 | .xv _ _=>true
 |_=>false
def aXh:SV->Bool
 | .d (.int _ _)=>true
 |_=>false
def aXj:SV->Bool
 | .msl _ _ _ _=>true
 | .d (.sl _ _)=>true
 |_=>false
def bS (P:Program) (o:Oper) (fr:Fr) (hp:Hp) (K:SV->Prop):Prop:=eC P o fr hp K
def aXi (ti:TypeId->Option TI) (t:TypeId):Bool:=match ti t with|some { td:= .array _ _, .. }=>true|some { td:= .other, .. }=>true|none=>true|_=>false
def qM (P:Program) (ti:TypeId->Option TI) (fr:Fr) (hp:Hp) (o:Oper) (K:SV->Prop):Prop:=
 match o.op with
 | .move x=>ev fr x K
 | .assign x=>ev fr x K
 | .pick c x y => ev fr c λt => (match t with
   | .d (.bool b)=>brB b (ev fr x K) (ev fr y K)
   |_=>aG "pick: no bool")
 | .load t x=>ev fr x λs=>aIf ti t s hp K
 | .nilCheck x=>ev fr x λs=>aW9 s K
 | .binOp op t x y _=>(match aXi ti t with|true=>bS P o fr hp K|false=>ev fr x λs=>ev fr y λr=>aWr P ti op t s r K)
 | .unOp op _ x=>ev fr x λs=>vUn op s K
 | .makeFunc (.func f) first cap => (match evL fr first.toList with
   |some l=>(match evL fr cap.toList with|some m=>K (.fn f l m)|none=>aG "makeFunc")
   |none=>aG "makeFunc")
 | .slice t x lo hi mx => ev fr x λs => (match isX s with
   |true=>bS P o fr hp K
   | false => ev fr x λs => (match xI fr lo with
    | some l => (match xI fr hi with
     |some h=>(match xI fr mx with|some m=>aL3 ti t s l h m K|none=>aG "slice: max")
     |none=>aG "slice: high")
    |none=>aG "slice: low"))
 | .fieldAddr t x f=>ev fr x λs=>rW ti t s f K
 | .field t x f=>ev fr x λs=>aL5 ti t s f K
 | .indexAddr t x y=>(match x with| .global _=>bS P o fr hp K|x=>ev fr x λs=>ev fr y λi=>rV ti t s i K)
 | .index t x y=>ev fr x λs=>ev fr y λi=>aL4 ti t s i K
 | .extract x i=>ev fr x λs=>aAj s i K
 | .build t parts=>(match evP fr parts.toList with|some l=>aL7 ti t l K|none=>aG "build: a part")
 | .convert src dst x=>ev fr x λs=>aL6 ti src dst s K
 | .lookup _ _ _ _=>bS P o fr hp K
 | .call { callee:= .builtin .len,args:=⟨[x]⟩,argTypes:=⟨[t]⟩ }=>ev fr x λs=>(match aXg s with|true=>bS P o fr hp K|false=>ev fr x λs=>aWp ti t s K)
 | .call { callee:= .builtin .cap,args:=⟨[x]⟩,argTypes:=⟨[t]⟩ }=>ev fr x λs=>(match aXg s with|true=>bS P o fr hp K|false=>ev fr x λs=>aWq ti t s hp K)
 |_=>aG "not a pure operation"
theorem aF2 {ti:TypeId->Option TI}(hti:dX P ti) {o:Oper}{fr:Fr}{hp:Hp}{K:SV->Prop}(h:qM P ti fr hp o K):eC P o fr hp K:=by
 have gen: ∀{x:Operand} {f:SV->Bool} {G:Prop},(ev fr x λs=>(match f s with|true=>bS P o fr hp K|false=>G))->(G->eC P o fr hp K)->eC P o fr hp K:=by
  intro x f G h hg
  obtain⟨s,_,h⟩:=cP h
  split at h
  ·exact h
  ·exact hg h
 unfold qM at h
 split at h
 ·exact aMp (.inl (by assumption)) h
 ·exact aMp (.inr (by assumption)) h
 ·exact aT5 (by assumption) h
 ·exact aMr hti (by assumption) h
 ·exact aV2 (by assumption) h
 ·split at h
  ·exact h
  ·exact aV5 hti (by assumption) h
 ·exact aXc (by assumption) h
 ·exact aXd (by assumption) h
 ·exact gen h λh=>aPw hti (by assumption) h
 ·exact aCq hti (by assumption) h
 ·exact aPz hti (by assumption) h
 ·split at h
  ·exact h
  ·exact aCp hti (by assumption) h
 ·exact aPy hti (by assumption) h
 ·exact aJ4 (by assumption) h
 ·exact aQ2 hti (by assumption) h
 ·exact aQ1 hti (by assumption) h
 ·exact h
 ·exact gen h λh=>aV3 hti (by assumption) h
 ·exact gen h λh=>aV4 hti (by assumption) h
 ·exact h.elim
def FW (r:Option Nat):Fence:={ Fence.wide with round:=r }
theorem kF {r:Option Nat}{n:Nat}{f:FuncId}{args:Array Value}{w:World}{R:Ending->World->Prop}:CallsIn (FW r) n P f args w R↔Calls P f args w R:=
 Iff.trans (Iff.of_eq rfl) (callsIn_wide (n:=n))
theorem aS2 {o:Oper}(hd: ∀c,o.op≠ .defer c) {r:Option Nat}{a:Act}{w:World}{next:Act->World->Prop}{Q:Exit->Act->World->Prop}(h:o.wp P a w next Q):o.wpIn (FW r) 0 P a w next Q:=by
 refine⟨λ_ _=>trivial, ?_⟩
 rw [Oper.semAt_eq _ _ _ hd]
 unfold Oper.wp at h
 cases hr:(execOp a.eval o).run P w with
 |ok n w'=>
  rw [hr]at h
  cases n with
  |value v=>exact h
  |skip=>exact h
  |defer d=>exact h
  |enter f args=>exact⟨λh=>(by cases h),kF.2 h⟩
  |row row args=>
   refine⟨λh=>(by cases h),λc cs _=> ?_⟩
   obtain⟨v,w'',q1,q2⟩:=h c cs
   exact⟨v,w'',q1,stepsIn_wide.2 q2⟩
  |round=>exact h.elim
  |_=>first|exact h.elim|exact h
 |halt x w'=>
  rw [hr]at h
  cases x<;>first|exact h.elim|exact h
def aR9 (P:Program) (o:Oper) (pin:Pin) (fr:Fr) (hp:Hp) (K:SV->Hp->Prop):Prop:=
 ∀(E:Entry) (ρ:Env) (a:Act) (w:World),E.pin=pin->Mem E ρ hp w->dD ρ w fr a.tmps-> ∀(next:Act->World->Prop) (Q:Exit->Act->World->Prop),
  (∀v w' ρ' s hp',K s hp'->Mem E ρ' hp' w'->dD ρ' w' fr a.tmps->Rep w' ρ' s v->next (a.put o.dst v) w')->
  (∀ch w' ρ' hp',Chn ch->pin.kp fr hp'->Mem E ρ' hp' w'->dD ρ' w' fr a.tmps->Q (.panic ch) a w')->o.wpIn (FW E.rd) 0 P a w next Q
theorem aAe.r {o:Oper}{pin:Pin}{fr:Fr}{hp:Hp}{K:SV->Hp->Prop}(hd: ∀c,o.op≠ .defer c) (h:aAe P o pin fr hp K):aR9 P o pin fr hp K:=
 λE ρ a w h1 h2 h3 next Q hn _=>aS2 hd (h E ρ a w h1 h2 h3 next Q hn)
theorem aPx {o:Oper}{x:Operand}(ho:o.op= .panic x) {pin:Pin}{fr:Fr}{hp:Hp}{K:SV->Hp->Prop}{t:TypeId}{v:Value}(hx:evO fr x=some (.d (.lit (.iface t v)))) (h:pin.kp fr hp):aR9 P o pin fr hp K:=by
 intro E ρ a w hpin hm hf next Q hn hq
 have hd: ∀c,o.op≠ .defer c:= λc e=>by rw [ho]at e;cases e
 refine⟨λ_ _=>trivial, ?_⟩
 rw [Oper.semAt_eq _ _ _ hd]
 have e:=(aR hf hx).lit_inv
 have hrun:(execOp a.eval o).run P w= .halt (.panic (.iface t v)) w:=by
  simp only [execOp,ho,e,Sem.run_bind]
  rfl
 rw [hrun]
 exact hq _ w ρ hp ⟨_,_,rfl⟩ h hm hf
def dA (P:Program) (f:FuncId):Bool:=
 match P.funcs[f]? with
 |some fn=>fn.body.isSome && !(fn.name== "runtime.NumGoroutine")
 |none=>false
def cL (w:World) (ρ:Env) (args:List SV) (vs:Array Value):Prop:=
 vs.size=args.length/\ ∀(j:Nat) (s:SV) (v:Value),args[j]? =some s->vs[j]? =some v->Rep w ρ s v
def aF (P:Program) (pin:Pin) (fr:Fr) (hp:Hp) (f:FuncId) (args:List SV) (K:SV->Hp->Prop):Prop:=
 ∀(E:Entry) (ρ:Env) (w:World) (tm:Array Value),E.pin=pin->Mem E ρ hp w->dD ρ w fr tm-> ∀vs:Array Value,cL w ρ args vs->
  Calls P f vs w λe w'=>(∃v ρ' s hp',e= .returned v/\K s hp'/\Mem E ρ' hp' w'/\dD ρ' w' fr tm/\Rep w' ρ' s v)\/ ∃ch ρ' hp',e= .panicked ch/\Chn ch/\pin.kp fr hp'/\Mem E ρ' hp' w'/\dD ρ' w' fr tm
def aRk:SV->Option (FuncId×List SV×List SV)
 | .fn f a b=>some (f,a,b)
 | .d (.lit (.func (.func f) ⟨[]⟩ ⟨[]⟩))=>some (f,[],[])
 |_=>none
theorem xC {w:World}{ρ:Env}{s:SV}{v:Value}{f:FuncId}{a b:List SV}(h:aRk s=some (f,a,b)) (hr:Rep w ρ s v):
  ∃fv cv:Array Value,v= .func (.func f) fv cv/\cL w ρ a fv/\cL w ρ b cv:=by
 unfold aRk at h
 split at h
 ·simp at h
  obtain⟨rfl,rfl,rfl⟩:=h
  obtain⟨fv,cv,e,h1,h2,h3,h4⟩:=hr.fn_inv
  exact⟨fv,cv,e,⟨h1,h3⟩,⟨h2,h4⟩⟩
 ·simp at h
  obtain⟨rfl,rfl,rfl⟩:=h
  exact⟨#[],#[],hr.lit_inv,⟨rfl,by simp⟩,⟨rfl,by simp⟩⟩
 ·cases h
theorem cL.append {w:World}{ρ:Env}{a b:List SV}{u v:Array Value}(h:cL w ρ a u) (k:cL w ρ b v):cL w ρ (a++b) (u++v):=by
 refine⟨by simp [h.1,k.1],λj s x hs hx=> ?_⟩
 by_cases hj:j < a.length
 ·rw [List.getElem?_append_left hj]at hs
  rw [Array.getElem?_append_left (by rw [h.1];exact hj)]at hx
  exact h.2 j s x hs hx
 ·rw [List.getElem?_append_right (by omega)]at hs
  rw [Array.getElem?_append_right (by rw [h.1];omega),h.1]at hx
  exact k.2 _ s x hs hx
def YVC (P:Program) (pin:Pin) (fr:Fr) (hp:Hp) (id:Nat) (args:List SV) (K:SV->Hp->Prop):Prop:=
 ∀(E:Entry) (ρ:Env) (w:World) (tm:Array Value),E.pin=pin->Mem E ρ hp w->dD ρ w fr tm-> ∀(l:Nat) (vs:Array Value),ρ.blk id=some l->cL w ρ args vs->
  YieldAt Fence.wide 0 P l vs w λe w'=> ∃v ρ' s hp',e= .returned v/\K s hp'/\Mem E ρ' hp' w'/\dD ρ' w' fr tm/\Rep w' ρ' s v
def aQ (P:Program) (o:Oper) (pin:Pin) (fr:Fr) (hp:Hp) (K:SV->Hp->Prop):Prop:=aAe P o pin fr hp K
def aRr (P:Program) (o:Oper) (pin:Pin) (fr:Fr) (hp:Hp) (f:Operand) (args:List Operand) (K:SV->Hp->Prop):Prop:=
 ev fr f λs=>match s with
  | .yld id => (match evL fr args with
   |some l=>YVC P pin fr hp id l K
   |none=>aG "call: an argument")
  |s=>match aRk s with
  | some (g, first, cap) => (match evL fr args with
   | some l => (match dA P g with
    |true=>aF P pin fr hp g (first++l++cap) K
    |false=>aQ P o pin fr hp K)
   |none=>aG "call: an argument")
  |none=>aQ P o pin fr hp K
theorem aT7 {o:Oper}{f:Operand}{args:Array Operand}{ts:Array TypeId}(ho:o.op= .call { callee:= .value f,args:=args,argTypes:=ts }) {pin:Pin}{fr:Fr}{hp:Hp}{K:SV->Hp->Prop}
  (h:aRr P o pin fr hp f args.toList K):aR9 P o pin fr hp K:=by
 obtain⟨s,hs,hv⟩:=cP h
 have hd: ∀c,o.op≠ .defer c:= λc e=>by rw [ho]at e;cases e
 split at hv
 ·rename_i id
  intro E ρ a w hpin hm hf next Q hn _
  have hr:=aR hf hs
  obtain⟨lb,hlb,e⟩:=hr.yld_inv
  split at hv
  ·rename_i l hl
   obtain⟨l1,l2⟩:=xJ hf _ _ hl
   have hargs:cL w ρ l (args.map a.eval):=by
    refine⟨by simpa using l1,λj s' v hs' hv'=>l2 j s' v hs' ?_⟩
    rw [<-Array.toList_map];simpa using hv'
   obtain⟨fn,tmps,assign,body,hy,hround⟩:=hv E ρ w a.tmps hpin hm hf lb _ hlb hargs
   refine⟨λ_ _=>trivial, ?_⟩
   rw [Oper.semAt_eq _ _ _ hd]
   have hrun:(execOp a.eval o).run P w= .ok (.round lb fn tmps assign body) w:=by
    simp only [execOp,ho,resolve,e,Deferred.ofValue,invoke,Sem.run_bind,Sem.run_pure,Result.andThen_ok]
    simpa using hy
   rw [hrun]
   refine⟨λh=>(by cases h),RoundIn.mono (show RoundIn (FW E.rd) 0 P lb fn tmps assign body w _ from hround) ?_⟩
   rintro e' w' ⟨v,ρ',s',hp',rfl,k1,k2,k3,k4⟩
   exact hn v w' ρ' s' hp' k1 k2 k3 k4
  ·exact hv.elim
 ·intro E ρ a w hpin hm hf next Q hn hq
  refine aS2 hd ?_
  have hr:=aR hf hs
  split at hv
  ·rename_i g first cap hfn
   obtain⟨fv,cv,e,h1,h2⟩:=xC hfn hr
   split at hv
   ·rename_i l hl
    split at hv
    case h_2=>exact hv E ρ a w hpin hm hf next Q hn
    rename_i hcall
    obtain⟨l1,l2⟩:=xJ hf _ _ hl
    have hargs:cL w ρ (first++l++cap) (fv++args.map a.eval++cv):=by
     refine(h1.append ⟨?_, ?_⟩).append h2
     ·simpa using l1
     ·intro j s' v hs' hv'
      refine l2 j s' v hs' ?_
      rw [<-Array.toList_map];simpa using hv'
    have hrun:(execOp a.eval o).run P w= .ok (.enter g (fv++args.map a.eval++cv)) w:=by
     unfold dA at hcall
     split at hcall
     ·rename_i fn hfn'
      simp only [Bool.and_eq_true,Bool.not_eq_true']at hcall
      obtain⟨c1,c2⟩:=hcall
      have c3:fn.body.isNone=false:=by cases hb:fn.body<;>simp_all
      simp only [execOp,ho,resolve,e,Deferred.ofValue,invoke,callFunc,Sem.run_bind,Sem.run_pure,Result.andThen_ok,run_program,hfn',c2,c3,Bool.false_eq_true,if_false]
     ·cases hcall
    unfold Oper.wp
    rw [hrun]
    simp only [Oper.upon]
    refine(hv E ρ w a.tmps hpin hm hf _ hargs).mono ?_
    rintro e' w' (⟨v,ρ',s',hp',rfl,k1,k2,k3,k4⟩|⟨ch,ρ',hp',rfl,k0,k1,k2,k3⟩)
    ·exact hn v w' ρ' s' hp' k1 k2 k3 k4
    ·exact hq ch w' ρ' hp' k0 k1 k2 k3
   ·exact hv.elim
  ·exact hv E ρ a w hpin hm hf next Q hn
def aAq (ti:TypeId->Option TI) (t:TypeId) (s r:SV) (hp:Hp) (K:Hp->Prop):Prop:=
 match s with
 | .mp id z i off ver=>aEe ti t id z i off ver r hp K
 |s=>aL2 ti t s r hp K
theorem zP {ti:TypeId->Option TI}(hti:dX P ti) {o:Oper}{t:TypeId}{x y:Operand}(ho:o.op= .store t x y) {pin:Pin}{fr:Fr}{hp:Hp}{K:SV->Hp->Prop}
  (h:ev fr x λs=>ev fr y λr=>aAq ti t s r hp λhp'=>K (.d (.lit undef)) hp'):aAe P o pin fr hp K:=by
 obtain⟨s,hs,hv0⟩:=cP h
 obtain⟨r,hr,hv⟩:=cP hv0
 unfold aAq at hv
 split at hv
 ·exact aMo hti ho hs hr hv
 ·refine aPv hti ho ?_
  unfold ev;rw [hs];simp only;rw [hr];exact hv
def aBu (ti:TypeId->Option TI) (t tx:TypeId) (id:Nat) (s x:SV) (pin:Pin) (fr:Fr) (hp:Hp) (K:SV->Hp->Prop):Prop:=
 match s with
 | .d .nil=>uD ti t tx id x pin fr hp K
 | .zc=>uD ti t tx id x pin fr hp K
 |s=>aEf ti t tx s x hp K
theorem zR {ti:TypeId->Option TI}(hti:dX P ti) {o:Oper}{t tx:TypeId}{x y:Operand}{id:Nat}(ho:o.op= .call { callee:= .builtin .append,args:= #[x,y],argTypes:= #[t,tx] }) {pin:Pin}{fr:Fr}{hp:Hp}{K:SV->Hp->Prop}
  (h:ev fr x λs=>ev fr y λr=>aBu ti t tx id s r pin fr hp K):xZ P o pin fr hp K:=by
 obtain⟨s,hs,hv0⟩:=cP h
 obtain⟨r,hr,hv⟩:=cP hv0
 unfold aBu at hv
 split at hv
 ·exact zQ hti ho hs (.inl rfl) hr hv
 ·exact zQ hti ho hs (.inr rfl) hr hv
 ·refine aMs hti ho ?_
  unfold ev;rw [hs];simp only;rw [hr];exact hv
def aBt (ti:TypeId->Option TI) (t tx:TypeId) (id:Nat) (s x:SV) (pin:Pin) (fr:Fr) (hp:Hp) (K:SV->Hp->Prop):Prop:=
 match s with
 | .mw i z n=>aAk ti t tx i z n x hp K
 |s=>aBu ti t tx id s x pin fr hp K
theorem aF7 {ti:TypeId->Option TI}(hti:dX P ti) {o:Oper}{t tx:TypeId}{x y:Operand}{id:Nat}(ho:o.op= .call { callee:= .builtin .append,args:= #[x,y],argTypes:= #[t,tx] }) {pin:Pin}{fr:Fr}{hp:Hp}{K:SV->Hp->Prop}
  (h:ev fr x λs=>ev fr y λr=>aBt ti t tx id s r pin fr hp K):aAe P o pin fr hp K:=by
 obtain⟨s,hs,hv0⟩:=cP h
 obtain⟨r,hr,hv⟩:=cP hv0
 unfold aBt at hv
 split at hv
 ·exact aJ6 hti ho hs hr hv
 ·refine(zR hti (id:=id) ho ?_).drop
  unfold ev;rw [hs];simp only;rw [hr];exact hv
def aRf:Op->Nat
 | .move _=>0
 | .assign _=>0
 | .pick _ _ _=>0
 | .load _ _=>0
 | .nilCheck _=>0
 | .binOp _ _ _ _ _=>0
 | .unOp _ _ _=>0
 | .makeFunc _ _ _=>0
 | .slice _ _ _ _ _=>0
 | .fieldAddr _ _ _=>0
 | .field _ _ _=>0
 | .indexAddr _ _ _=>0
 | .index _ _ _=>0
 | .extract _ _=>0
 | .build _ _=>0
 | .lookup _ _ _ _=>0
 | .call { callee:= .builtin .len,args:=_,argTypes:=_ }=>0
 | .call { callee:= .builtin .cap,args:=_,argTypes:=_ }=>0
 | .defer _=>2
 |_=>1
def aWl (ti:TypeId->Option TI) (t:TypeId) (hp:Hp) (K:SV->Hp->Prop):Prop:=
 match ti t with
 |some { td:= .slice e, .. }=>(match ti e with|some _=>K .zc hp|none=>aG "buildSlice: an element's type")
 |_=>aG "buildSlice: a type"
theorem aXb {ti:TypeId->Option TI}(hti:dX P ti) {o:Oper}{t:TypeId}(ho:o.op= .buildSlice t 0 #[]) {pin:Pin}{fr:Fr}{hp:Hp}{K:SV->Hp->Prop}(h:aWl ti t hp K):aAe P o pin fr hp K:=by
 intro E ρ a w hpin hm hf next Q hn
 unfold aWl at h
 split at h
 ·rename_i e _ _ _ hT
  obtain⟨d,i,z,hT⟩:=aM (hti _ _ hT)
  have hd:=cF hT.td
  subst hd
  split at h
  ·rename_i T hT2
   obtain⟨d2,i2,z2,hT2⟩:=aM (hti _ _ hT2)
   have hr0:Array.range 0= #[]:=by apply Array.eq_empty_of_size_eq_zero;simp
   have hrun:(execOp a.eval o).run P w= .ok (.value (.slice (some ⟨w.heap.size,0,none⟩) 0 0)) (w.alloc (.cells #[] e)):=by
    simp only [execOp,ho,Sem.run_bind,Instr.buildSlice,run_underlying hT.und,Result.andThen_ok,hT2.run_size]
    simp [Instr.fill,newRow,hr0]
   obtain⟨m1,m2⟩:=hm.grow_same (Grew.alloc w (.cells #[] e))
   exact bU hrun (hn _ _ ρ _ _ h m1 (m2 fr _ hf) (.zc _))
  ·exact h.elim
 ·exact h.elim
def aXa (P:Program) (ti:TypeId->Option TI) (zc:Bool) (pin:Pin) (fr:Fr) (hp:Hp) (dst:Nat) (o:Oper) (K:SV->Hp->Prop):Prop:=
 match o.op with
 | .alloc t => (match ti t with
   |some T=>eN dst pin fr hp/\K (.ptr dst 0) ((dst, .cells t (T.zero.map .d))::hp)
   |none=>aG "alloc: a type")
 | .box t x => ev fr x λs => (match iK s with
   |some cs=>eN dst pin fr hp/\dst∉SV.idsL cs/\K (.ptr dst 0) ((dst, .cells t cs)::hp)
   |none=>aG "box: cells")
 | .buildSlice t len parts => (match zc, len, parts with
   |true,0,⟨[]⟩=>aWl ti t hp K
   |_,len,parts=>(match evP fr parts.toList with|some l=>kM ti t len dst l pin fr hp K|none=>aG "buildSlice: a part"))
 | .makeSlice t x y=>ev fr x λl=>ev fr y λc=>aOu ti t dst l c pin fr hp K
 | .store t x y=>ev fr x λs=>ev fr y λr=>aAq ti t s r hp λhp'=>K (.d (.lit undef)) hp'
 | .convert src dst x=>ev fr x λs=>aS8 ti src dst s hp K
 | .call { callee := .builtin .append, args := ⟨[x, y]⟩, argTypes := ⟨[t, tx]⟩ } => ev fr x λs => (match aXg s with
   |true=>aQ P o pin fr hp K
   | false => ev fr x λs => ev fr y λr => (match aXh r || aXj s with
    |true=>aQ P o pin fr hp K
    |false=>aBt ti t tx dst s r pin fr hp K))
 | .call { callee:= .value f,args:=args,argTypes:=_ }=>aRr P o pin fr hp f args.toList K
 | .panic x=>ev fr x λs=>(match s with| .d (.lit (.iface _ _))=>pin.kp fr hp|_=>aG "panic: a value")
 | p => (match aRf p with
   | 0=>qM P ti fr hp o λs=>K s hp
   | 1=>aQ P o pin fr hp K
   |_=>aG "no rule")
theorem aCl {ti:TypeId->Option TI}{fr:Fr}{hp:Hp}{o:Oper}{K:SV->Prop}(h:qM P ti fr hp o K): ∀c,o.op≠ .defer c:=by
 intro c e
 unfold qM at h
 rw [e]at h
 exact h
theorem aX9 {ti:TypeId->Option TI}(hti:dX P ti) {o:Oper}{pin:Pin}{fr:Fr}{hp:Hp}{dst:Nat}{zc:Bool}{K:SV->Hp->Prop}(h:aXa P ti zc pin fr hp dst o K):aR9 P o pin fr hp K:=by
 have nd: ∀p:Op,o.op=p->(∀c,p≠ .defer c)-> ∀c,o.op≠ .defer c:= λp e h c=>by rw [e];exact h c
 unfold aXa at h
 split at h
 ·rename_i ho;exact((aGy hti ho h).drop).r (nd _ ho (by intro c e;cases e))
 ·rename_i ho;exact((aRe ho h).drop).r (nd _ ho (by intro c e;cases e))
 ·rename_i ho
  split at h
  ·exact(aXb hti ho h).r (nd _ ho (by intro c e;cases e))
  ·exact((qP hti ho h).drop).r (nd _ ho (by intro c e;cases e))
 ·rename_i ho;exact((aMq hti ho h).drop).r (nd _ ho (by intro c e;cases e))
 ·rename_i ho;exact(zP hti ho h).r (nd _ ho (by intro c e;cases e))
 ·rename_i ho;exact(aT6 hti ho h).r (nd _ ho (by intro c e;cases e))
 ·rename_i ho
  obtain⟨s,_,h⟩:=cP h
  split at h
  ·exact aAe.r (nd _ ho (by intro c e;cases e)) h
  ·obtain⟨s2,hs2,h⟩:=cP h
   obtain⟨r2,hr2,h⟩:=cP h
   split at h
   ·exact aAe.r (nd _ ho (by intro c e;cases e)) h
   ·refine(aF7 hti (id:=dst) ho ?_).r (nd _ ho (by intro c e;cases e))
    unfold ev;rw [hs2];simp only;rw [hr2];exact h
 ·exact aT7 (by assumption) h
 ·rename_i ho
  obtain⟨s,hs,h⟩:=cP h
  split at h
  ·exact aPx ho hs h
  ·exact h.elim
 ·split at h
  ·exact(aAe.pure (aF2 hti h)).r (aCl h)
  ·rename_i hk
   exact aAe.r (λc e=>by rw [e]at hk;simp [aRf]at hk) h
  ·exact h.elim
structure Cfg where
 P:Program
 ti:TypeId->Option TI
 pin:Pin
 nt:Nat
 keep:Nat->Bool
 off:Nat
 rd:Option Nat
 zc:Bool:=false
 frz:List Nat:=[]
def aIp:Fr->Nat->SV->Fr
 | [],t,s=>[(t,s)]
 |(k,x)::r,t,s=>if k=t then (k,s)::r else (k,x)::aIp r t s
theorem iM (fr:Fr) (t:Nat) (s:SV) (u:Nat):gM (aIp fr t s) u=if u=t then some s else gM fr u:=by
 induction fr with
 |nil=>
  simp only [aIp,gM]
  by_cases e:u=t
  ·simp [e]
  ·simp [e,Ne.symm e]
 |cons p r ih=>
  obtain⟨k,x⟩:=p
  simp only [aIp]
  by_cases e:k=t
  ·subst e
   simp only [if_true,gM]
   by_cases e':u=k
   ·simp [e']
   ·simp [e',Ne.symm e']
  ·simp only [e,if_false,gM]
   by_cases e':k=u
   ·subst e';simp [e]
   ·simp [e',ih]
def aAx:Fr->Nat->SV->(Fr->Prop)->Prop
 | [],t,s,K=>K [(t,s)]
 |(k,x)::r,t,s,K=>if k=t then K ((k,s)::r)else aAx r t s λr'=>K ((k,x)::r')
theorem nH: ∀(fr:Fr) (t:Nat) (s:SV) (K:Fr->Prop),aAx fr t s K=K (aIp fr t s):=by
 intro fr
 induction fr with
 |nil=>intro t s K;rfl
 |cons p r ih=>
  obtain⟨k,x⟩:=p
  intro t s K
  simp only [aAx,aIp]
  split
  ·rfl
  ·rw [ih]
def aMl (keep:Nat->Bool) (fr:Fr):Fr:=fr.filter λp=>keep p.1
def qN (keep:Nat->Bool):Fr->(Fr->Prop)->Prop
 | [],K=>K []
 |(k,x)::r,K=>match keep k with|true=>qN keep r λr'=>K ((k,x)::r')|false=>qN keep r K
theorem mD (keep:Nat->Bool): ∀(fr:Fr) (K:Fr->Prop),qN keep fr K=K (aMl keep fr):=by
 intro fr
 induction fr with
 |nil=>intro K;rfl
 |cons p r ih=>
  obtain⟨k,x⟩:=p
  intro K
  unfold aMl at ih |-
  simp only [qN]
  cases hk:keep k
  ·rw [List.filter_cons_of_neg (by simp [hk])];exact ih K
  ·rw [List.filter_cons_of_pos (by simp [hk])];exact ih _
theorem jW (keep:Nat->Bool) (fr:Fr) (t:Nat) (s:SV) (h:gM (aMl keep fr) t=some s):gM fr t=some s:=by
 induction fr with
 |nil=>simp [aMl,gM]at h
 |cons p r ih=>
  obtain⟨k,x⟩:=p
  unfold aMl at h ih
  by_cases hk:keep k=true
  ·rw [List.filter_cons_of_pos (by simpa using hk)]at h
   simp only [gM]at h |-
   by_cases e:k=t
   ·simpa [e]using h
   ·simp [e]at h;simp [e,ih h]
  ·rw [List.filter_cons_of_neg (by simpa using hk)]at h
   have:=ih h
   simp only [gM]
   by_cases e:k=t
   ·subst e
    exfalso
    -- the pruned frame knows no slot that is not kept
    have: ∀l:Fr,gM (l.filter λp=>keep p.1) k=none:=by
     intro l
     induction l with
     |nil=>rfl
     |cons q r' ih'=>
      obtain⟨k',x'⟩:=q
      by_cases hk':keep k'=true
      ·rw [List.filter_cons_of_pos (by simpa using hk')]
       simp only [gM]
       rw [if_neg (λ(e:k'=k)=>hk (e ▸ hk'))]
       exact ih'
      ·rw [List.filter_cons_of_neg (by simpa using hk')]
       exact ih'
    rw [this]at h
    cases h
   ·simp [e,this]
def put (C:Cfg) (dst:Option Nat) (s:SV) (fr:Fr) (K:Fr->Prop):Prop:=
 match dst with
 |some d=>if d < C.nt then (match C.keep d with|true=>aAx fr d s K|false=>K ((d,s)::fr))else aG "a slot out of range"
 |none=>K fr
theorem fJ {C:Cfg}{dst:Option Nat}{s:SV}{fr:Fr}{K:Fr->Prop}(h:put C dst s fr K) {ρ:Env}{w:World}{a:Act}{v:Value}(hn:a.tmps.size=C.nt) (hf:dD ρ w fr a.tmps) (hr:Rep w ρ s v):
  ∃fr',K fr'/\dD ρ w fr' (a.put dst v).tmps:=by
 unfold put at h
 split at h
 ·rename_i d
  split at h
  ·rename_i hd
   have key: ∀t x,(if t=d then some s else gM fr t)=some x-> ∃u,(a.put (some d) v).tmps[t]? =some u/\Rep w ρ x u:=by
    intro t x hx
    by_cases e:t=d
    ·subst e
     simp at hx
     subst hx
     exact⟨v,by simp [Act.put,Array.getElem?_setIfInBounds_self_of_lt (show t < a.tmps.size by omega)],hr⟩
    ·simp [e]at hx
     obtain⟨u,h1,h2⟩:=hf t x hx
     exact⟨u,by simp only [Act.put];rw [Array.getElem?_setIfInBounds_ne (λe'=>e e'.symm)];exact h1,h2⟩
   split at h
   ·rw [nH]at h
    exact⟨_,h,λt x hx=>key t x (by rw [iM]at hx;exact hx)⟩
   ·refine⟨_,h,λt x hx=>key t x ?_⟩
    simp only [gM]at hx
    by_cases e:t=d
    ·simpa [e]using hx
    ·simpa [e,Ne.symm e]using hx
  ·exact h.elim
 ·exact⟨fr,h,hf⟩
theorem cE (a:Act) (d:Option Nat) (v:Value):(a.put d v).tmps.size=a.tmps.size:=by
 cases d<;>simp [Act.put]
theorem put_defers (a:Act) (d:Option Nat) (v:Value):(a.put d v).defers=a.defers:=by
 cases d<;>rfl
def sO (all:List Oper) (fr:Fr) (g:Option (Nat×Bool)) (yes no:Fr->Prop):Prop:=
 match g with
 |none=>yes fr
 |some (j,want)=>
  match (all[j]?).bind (·.dst)with
  |some d=>
   match gM fr d with
   |some (.d (.bool b))=>
    match want with
    |true=>brB b (aAx fr d (.d (.bool true)) yes) (aAx fr d (.d (.bool false)) no)
    |false=>brB b (aAx fr d (.d (.bool true)) no) (aAx fr d (.d (.bool false)) yes)
   |some (.d (.lit v))=>(match v with| .bool _=>aG "guard" |_=>no fr)
   |_=>aG "guard: no bool"
  |none=>aG "guard: no slot"
theorem dD.same {ρ:Env}{w:World}{fr:Fr}{tm:Array Value}(hf:dD ρ w fr tm) {d:Nat}{s:SV}(h:gM fr d=some s):dD ρ w (aIp fr d s) tm:=by
 intro t x hx
 rw [iM]at hx
 by_cases e:t=d
 ·subst e;simp at hx;subst hx;exact hf t s h
 ·simp [e]at hx;exact hf t x hx
theorem eY {all:List Oper}{fr:Fr}{o:Oper}{yes no:Fr->Prop}(h:sO all fr o.guard yes no) {ρ:Env}{w:World}{a:Act}(hf:dD ρ w fr a.tmps):
  ∃fr',dD ρ w fr' a.tmps/\((Region.wanted o (yielded all.toArray a.tmps)=true/\yes fr')\/(Region.wanted o (yielded all.toArray a.tmps)=false/\no fr')):=by
 unfold sO at h
 unfold Region.wanted
 split at h
 ·rename_i hg;rw [hg];exact⟨fr,hf, .inl ⟨rfl,h⟩⟩
 ·rename_i j want hg
  rw [hg]
  split at h
  ·rename_i d hd
   have hd':(all.toArray[j]?).bind (·.dst)=some d:=by simpa using hd
   split at h
   ·rename_i b hb
    obtain⟨v,h1,h2⟩:=hf d _ hb
    have e:=h2.bool_inv
    subst e
    have hy:yielded all.toArray a.tmps j=some b:=by simp only [yielded,hd',Option.bind_some,h1]
    simp only [hy]
    cases b<;>cases want
    ·exact⟨_,hf.same hb, .inl ⟨by simp,by have h1:=aQx h rfl;rwa [nH]at h1⟩⟩
    ·exact⟨_,hf.same hb, .inr ⟨by simp,by have h1:=aQx h rfl;rwa [nH]at h1⟩⟩
    ·exact⟨_,hf.same hb, .inr ⟨by simp,by have h1:=aQw h rfl;rwa [nH]at h1⟩⟩
    ·exact⟨_,hf.same hb, .inl ⟨by simp,by have h1:=aQw h rfl;rwa [nH]at h1⟩⟩
   ·rename_i u hu
    obtain⟨v,h1,h2⟩:=hf d _ hu
    have e:=h2.lit_inv
    subst e
    split at h
    ·exact h.elim
    ·rename_i hnb
     have hy:yielded all.toArray a.tmps j=none:=by
      simp only [yielded,hd',Option.bind_some,h1]
      cases v<;>first|rfl|(exfalso;exact hnb _ rfl)
     exact⟨fr,hf, .inr ⟨by simp [hy],h⟩⟩
   ·exact h.elim
  ·exact h.elim
def aQr:Hp->Nat->(Hp->Prop)->Prop
 | [],_,K=>K []
 |(k,o)::r,t,K=>if k=t then (t∉fG r/\K r)else aQr r t λr'=>K ((k,o)::r')
theorem aHq: ∀(hp:Hp) (t:Nat) (K:Hp->Prop),aQr hp t K-> ∃hp',K hp'/\ ∀i o,aN hp' i=some o->i≠t/\aN hp i=some o
 | [],t,K,h=>⟨[],h,by simp [aN]⟩
 |(k,o)::r,t,K,h=>by
  simp only [aQr]at h
  by_cases e:k=t
  ·subst e
   simp only [if_true]at h
   refine⟨r,h.2,λi x hx=> ?_⟩
   have hne:i≠k:= λe=>h.1 (bJ (by rw [<-e];exact hx) (.inl rfl))
   exact⟨hne,by simp only [aN,if_neg (Ne.symm hne)];exact hx⟩
  ·simp only [e,if_false]at h
   obtain⟨r',k1,k2⟩:=aHq r t _ h
   refine⟨_,k1,λi x hx=> ?_⟩
   simp only [aN]at hx |-
   by_cases e':k=i
   ·subst e'
    simp only [if_true]at hx |-
    exact⟨e,hx⟩
   ·simp only [e',if_false]at hx |-
    exact k2 i x hx
def aRh (fr:Fr) (hp:Hp) (t:Nat) (K:Fr->Hp->Prop):Prop:=
 match gM fr t with
 | some (.ptr id 0) => (match aN hp id with
  | some (.cells _ cs) => (match aU1 cs with
   |some xs=>aAx fr t (.ea xs.length [xs] 0 0) λfr'=>aQr hp id λhp'=>K fr' hp'
   |none=>K fr hp)
  |_=>K fr hp)
 |_=>K fr hp
def aWi:List Nat->Fr->Hp->(Fr->Hp->Prop)->Prop
 | [],fr,hp,K=>K fr hp
 |t::r,fr,hp,K=>aRh fr hp t λfr' hp'=>aWi r fr' hp' K
theorem Mem.froz {E:Entry}{ρ:Env}{hp:Hp}{w:World}(h:Mem E ρ hp w) {id g:Nat}{t:TypeId}{xs:List D}(ho:aN hp id=some (.cells t (xs.map .d))) (hg:ρ.blk id=some g) {hp':Hp}(hsub: ∀i o,aN hp' i=some o->i≠id/\aN hp i=some o):
  Mem E (ρ.withS λb i=>ρ.S b i\/(b=g/\i < xs.length)) hp' w/\View w (λb i=>ρ.S b i\/(b=g/\i < xs.length)) xs.length [xs] g 0:=by
 have hat:ρ.at id (.cells t (xs.map .d))=some g:=hg
 have hgl:=h.blk_lt ho hat
 obtain⟨g',h1,⟨cur,h2,h3,h4,h5⟩,h6⟩:=h.sat id _ ho
 rw [hg]at h1;injection h1 with h1;subst h1
 have hcl:cur.size=xs.length:=by simpa using h3
 have hk:cD ρ.S w w:= λ_ _ _=>rfl
 refine⟨⟨h.os,h.tape,h.output,h.size,h.old,λb i hs=> .inl (h.sold b i hs), ?_, ?_,h.kp, ?_, ?_, ?_,h.mv, ?_,h.md⟩, ?_, ?_⟩
 ·rintro b i (hs|⟨rfl,_⟩) hb hB
  ·exact h.snew b i hs hb hB
  ·rcases h.hb id _ _ ho hat with q|q
   ·omega
   ·exact absurd q hB
 ·rintro b i (hs|⟨rfl,_⟩)
  ·exact h.slt b i hs
  ·exact hgl
 ·intro j o hj
  obtain⟨hne,hj⟩:=hsub j o hj
  refine(h.sat j o hj).keep hk (λb i x=> .inl x) (λi _=>ρ.moved_withS _ i) ⟨rfl,rfl⟩ (λ_ _=>rfl) ?_
  rintro g2 hg2 i (hs|⟨rfl,_⟩)
  ·exact hs
  ·exact absurd (h.inj j o id _ _ hj ho hg2 hat) hne
 ·intro j o j' o' g2 a b c d
  exact h.inj j o j' o' g2 (hsub _ _ a).2 (hsub _ _ b).2 (by cases o<;>exact c) (by cases o'<;>exact d)
 ·intro j o g2 a b
  exact h.hb j o g2 (hsub _ _ a).2 (by cases o<;>exact b)
 ·intro j oR g2 a hrd b j' o' c d
  exact h.ro j oR g2 (hsub _ _ a).2 hrd b j' o' (hsub _ _ c).2 (by cases o'<;>exact d)
 ·intro row hr
  simp only [List.mem_singleton]at hr
  rw [hr]
 ·intro i row j x hi hj
  have hi0:i=0:=by
   have:=(List.getElem?_eq_some_iff.1 hi).1
   simp at this;exact this
  subst hi0
  simp at hi
  subst hi
  have hjl:=(List.getElem?_eq_some_iff.1 hj).1
  have hjc:j < cur.size:=by omega
  refine⟨cur[j], ?_, .inr ⟨rfl,by omega⟩,h4 _ (Array.getElem_mem hjc), ?_⟩
  ·rw [Nat.zero_mul,Nat.zero_add,Nat.zero_add,cell_of_row w _ j cur t (0,0) h2]
   exact Array.getElem?_eq_getElem hjc
  ·have hr:=h5 j (.d x) cur[j] (by rw [List.getElem?_map,hj];rfl) (Array.getElem?_eq_getElem hjc)
   cases hr with
   |d _ _ hr=>exact hr.mono hk λb i x=> .inl x
theorem wZ: ∀(l:List Nat) {fr:Fr}{hp:Hp}{K:Fr->Hp->Prop}{E:Entry}{ρ:Env}{a:Act}{w:World},aWi l fr hp K->Mem E ρ hp w->dD ρ w fr a.tmps-> ∃fr' hp' ρ',K fr' hp'/\Mem E ρ' hp' w/\dD ρ' w fr' a.tmps
 | [],fr,hp,K,E,ρ,a,w,h,hm,hf=>⟨fr,hp,ρ,h,hm,hf⟩
 |t::r,fr,hp,K,E,ρ,a,w,h,hm,hf=>by
  simp only [aWi]at h
  unfold aRh at h
  split at h
  ·rename_i id ht
   split at h
   ·rename_i ty cs ho
    split at h
    ·rename_i xs hxs
     rw [nH]at h
     obtain⟨hp',h,hsub⟩:=aHq _ _ _ h
     have hcs:=aI0 hxs
     subst hcs
     obtain⟨v,hv,hr⟩:=hf t _ ht
     obtain⟨g,hg,e1⟩:=hr.ptr_inv
     obtain⟨m1,m2⟩:=hm.froz ho hg hsub
     refine wZ r h m1 ?_
     intro k x hx
     rw [iM]at hx
     by_cases e:k=t
     ·subst e
      simp at hx
      subst hx
      refine⟨v,hv, ?_⟩
      subst e1
      have:=Rep.ea (w:=w) (ρ:=ρ.withS λb i=>ρ.S b i\/(b=g/\i < xs.length)) xs.length [xs] 0 0 g 0 m2
      simpa using this
     ·simp [e]at hx
      obtain⟨u,u1,u2⟩:=hf k x hx
      exact⟨u,u1,u2.mono (λ_ _ _=>rfl) (λb i q=> .inl q) λi _=>ρ.moved_withS _ i⟩
    ·exact wZ r h hm hf
   ·exact wZ r h hm hf
  ·exact wZ r h hm hf
def aVf (C:Cfg) (all:List Oper) (o:Oper) (fr:Fr) (hp:Hp) (k:Fr->Hp->Prop):Prop:=
 sO all fr o.guard
  (λfr=>aXa C.P C.ti C.zc C.pin fr hp (C.off+o.dst.getD 0) o λs hp'=>put C o.dst s fr λfr'=>k fr' hp')
  (λfr=>put C o.dst (.d (.lit undef)) fr λfr'=>k fr' hp)
def aB7 (C:Cfg) (all:List Oper) (K:Fr->Hp->Prop):List Oper->Fr->Hp->Prop
 | [],fr,hp=>qN C.keep fr λfr'=>aWi C.frz fr' hp K
 |o::r,fr,hp=>aVf C all o fr hp λfr' hp'=>aB7 C all K r fr' hp'
inductive Ex where
 |normal|exit (id:Nat)|goto (l:Nat)|ret|pan
def Ex.rel:Ex->Exit->Prop
 | .normal, .normal=>True
 | .exit i, .exit j=>i=j
 | .goto i, .goto j=>i=j
 | .ret, .ret=>True
 | .pan, .panic ch=>Chn ch
 |_,_=>False
def KX (pin:Pin) (K:Ex->Fr->Hp->Prop):Ex->Fr->Hp->Prop
 | .pan,fr,hp=>pin.kp fr hp
 |x,fr,hp=>K x fr hp
theorem KX.mono {pin:Pin}{K K':Ex->Fr->Hp->Prop}(hk: ∀e fr hp,K e fr hp->K' e fr hp) {x:Ex}{fr:Fr}{hp:Hp}(h:KX pin K x fr hp):KX pin K' x fr hp:=by
 cases x<;>first|exact hk _ _ _ h|exact h
structure Ext (E E':Entry):Prop where
 w:E'.w=E.w
 S:E'.S=E.S
 B:E'.B=E.B
 pin:E'.pin=E.pin
 ρ:E'.ρ=E.ρ
 rd:E'.rd=E.rd
 D: ∃D',E'.D=D'++E.D/\E'.k=D'.length+E.k/\D'.Nodup/\ ∀b∈D',E.w.heap.size<=b/\b∉E.D
theorem Ext.refl (E:Entry):Ext E E:=⟨rfl,rfl,rfl,rfl,rfl,rfl,[],rfl,by simp, .nil,by simp⟩
theorem Ext.trans {A B C:Entry}(h:Ext A B) (k:Ext B C):Ext A C:=by
 obtain⟨D1,d1,d2,d3,d4⟩:=h.D
 obtain⟨D2,e1,e2,e3,e4⟩:=k.D
 refine⟨k.w.trans h.w,k.S.trans h.S,k.B.trans h.B,k.pin.trans h.pin,k.ρ.trans h.ρ,k.rd.trans h.rd,D2++D1,by rw [e1,d1,List.append_assoc],by rw [e2,d2,List.length_append];omega, ?_, ?_⟩
 ·refine List.nodup_append.2 ⟨e3,d3,λa ha b hb e=> ?_⟩
  subst e
  exact(e4 a ha).2 (by rw [d1];exact List.mem_append_left _ hb)
 ·intro b hb
  rcases List.mem_append.1 hb with hb|hb
  ·have:=e4 b hb
   rw [h.w,d1]at this
   exact⟨this.1,λhm=>this.2 (List.mem_append_right _ hm)⟩
  ·exact d4 b hb
def aU8 (rd:Option Nat) (E:Entry):Prop:=
 match rd with
 |none=>E.rd=none
 |some id=>id∈E.pin/\E.ρ.blk id=E.rd/\E.rd.isSome=true
theorem aU8.ext {rd:Option Nat}{E E':Entry}(h:aU8 rd E) (k:Ext E E'):aU8 rd E':=by
 unfold aU8 at *
 cases rd with
 |none=>exact k.rd.trans h
 |some id=>simp only at h |-;rw [k.pin,k.ρ,k.rd];exact h
def kK (C:Cfg) (E:Entry) (K:Ex->Fr->Hp->Prop) (e:Exit) (a:Act) (w:World):Prop:= ∃x fr hp E',Ext E E'/\Ex.rel x e/\KX C.pin K x fr hp/\Sat E' C.nt ⟨fr,hp⟩ a w
theorem kK.noOut {C:Cfg}{E:Entry}{K:Ex->Fr->Hp->Prop}:¬ LetsOut (kK C E K):=by
 rintro⟨a,w,x,fr,hp,E',_,h,_⟩
 cases x<;>exact h
def aJ (C:Cfg) (c:Code) (fr:Fr) (hp:Hp) (K:Ex->Fr->Hp->Prop):Prop:=
 ∀(E:Entry) (a:Act) (w:World),E.pin=C.pin->aU8 C.rd E->Sat E C.nt ⟨fr,hp⟩ a w->c.wpIn (FW E.rd) 0 C.P (kK C E K) a w
def aVo (fr:Fr) (hp:Hp) (c:Operand) (a b:Fr->Hp->(Ex->Fr->Hp->Prop)->Prop) (K:Ex->Fr->Hp->Prop):Prop:=
 ev fr c λs=>(match s with| .d (.bool t)=>brB t (a fr hp K) (b fr hp K)|_=>aG "cond: no bool")
def X (C:Cfg):Code->Fr->Hp->(Ex->Fr->Hp->Prop)->Prop
 | .skip,fr,hp,K=>K .normal fr hp
 | .label _,fr,hp,K=>K .normal fr hp
 | .region id ops draw,fr,hp,K=>if draw then aJ C (.region id ops true) fr hp K else aB7 C ops.toList (K .normal) ops.toList fr hp
 | .seq a b,fr,hp,K=>X C a fr hp λe fr hp=>match e with| .normal=>X C b fr hp K|e=>K e fr hp
 | .cond c a b,fr,hp,K=>aVo fr hp c (λfr hp K=>X C a fr hp K) (λfr hp K=>X C b fr hp K) K
 | .block id c,fr,hp,K=>X C c fr hp λe fr hp=>match e with| .exit i=>if i=id then K .normal fr hp else K (.exit i) fr hp|e=>K e fr hp
 | .loop c,fr,hp,K=>aJ C (.loop c) fr hp K
 | .exit id,fr,hp,K=>K (.exit id) fr hp
 | .goto l,fr,hp,K=>K (.goto l) fr hp
 | .ret,fr,hp,K=>K .ret fr hp
 |c,fr,hp,K=>aJ C c fr hp K
theorem qO {C:Cfg}(hti:dX C.P C.ti) {all:List Oper}{K:Fr->Hp->Prop}{E:Entry}{Q:Exit->Act->World->Prop}(hpin:E.pin=C.pin) (hQ: ∀fr hp a w,K fr hp->Sat E C.nt ⟨fr,hp⟩ a w->Q .normal a w) (hQp: ∀ch fr hp a w,Chn ch->C.pin.kp fr hp->Sat E C.nt ⟨fr,hp⟩ a w->Q (.panic ch) a w):
  ∀(l:List Oper) (k:Nat) (fr:Fr) (hp:Hp) (a:Act) (w:World),all.drop k=l->aB7 C all K l fr hp->Sat E C.nt ⟨fr,hp⟩ a w->wpOpsIn (FW E.rd) 0 C.P all.toArray Q (List.range' k l.length) a w:=by
 intro l
 induction l with
 |nil=>
  intro k fr hp a w _ h hs
  simp only [aB7,mD]at h
  obtain⟨h1,h2,ρ,h3,h4⟩:=hs
  simp only [List.length_nil,List.range'_zero,wpOpsIn]
  obtain⟨fr',hp',ρ',q1,q2,q3⟩:=wZ C.frz (a:=a) h h3 (λt s hts=>h4 t s (jW _ _ t s hts))
  exact hQ _ hp' a w q1 ⟨h1,h2,ρ',q2,q3⟩
 |cons o r ih=>
  intro k fr hp a w hk h hs
  simp only [aB7,aVf]at h
  obtain⟨h1,h2,ρ,h3,h4⟩:=hs
  have hko:all.toArray[k]? =some o:=by
   have:all[k]? =some o:=by
    have:=congrArg (λl=>l[0]?) hk
    simpa [List.getElem?_drop]using this
   simpa using this
  have hkr:all.drop (k+1)=r:=by
   rw [<-List.drop_drop,hk];rfl
  simp only [List.length_cons,List.range'_succ,wpOpsIn,hko]
  obtain⟨fr0,h4,hh⟩:=eY h h4
  rcases hh with⟨hw,h⟩|⟨hw,h⟩
  ·simp only [hw,if_true]
   refine aX9 hti h E ρ a w hpin h3 h4 _ Q (λv w' ρ' s hp' hk' hm' hf' hr'=> ?_) (λch w' ρ' hp' q0 q1 q2 q3=>hQp ch fr0 hp' a w' q0 q1 ⟨h1,h2,ρ',q2,q3⟩)
   obtain⟨fr',q1,q2⟩:=fJ hk' h1 hf' hr'
   exact ih (k+1) fr' hp' _ w' hkr q1 ⟨by rw [cE];exact h1,by rw [put_defers];exact h2,ρ',hm',q2⟩
  ·simp only [hw,Bool.false_eq_true,if_false]
   obtain⟨fr',q1,q2⟩:=fJ h h1 h4 (Rep.d _ undef (.lit undef))
   exact⟨λ_ _=>trivial,ih (k+1) fr' hp _ w hkr q1 ⟨by rw [cE];exact h1,by rw [put_defers];exact h2,ρ,h3,q2⟩⟩
theorem kZ {C:Cfg}(hti:dX C.P C.ti): ∀(c:Code) (fr:Fr) (hp:Hp) (K:Ex->Fr->Hp->Prop),X C c fr hp K->aJ C c fr hp K:=by
 intro c
 induction c with
 |skip=>intro fr hp K h E a w _ _ hs;exact wpIn_skip ⟨.normal,fr,hp,E, .refl E,trivial,h,hs⟩
 |label l=>intro fr hp K h E a w _ _ hs;exact wpIn_label ⟨.normal,fr,hp,E, .refl E,trivial,h,hs⟩
 |region id ops draw=>
  intro fr hp K h
  simp only [X]at h
  cases draw
  ·simp at h
   intro E a w hpin _ hs
   refine wpIn_region ?_
   have:=qO (C:=C) hti (all:=ops.toList) (Q:=kK C E K) hpin (λfr hp a w hk hs=>⟨.normal,fr,hp,E, .refl E,trivial,hk,hs⟩) (λch fr hp a w hc hk hs=>⟨.pan,fr,hp,E, .refl E,hc,hk,hs⟩) ops.toList 0 fr hp a w rfl h hs
   simpa [List.range_eq_range']using this
  ·simpa using h
 |seq x y ihx ihy=>
  intro fr hp K h E a w hpin hrd hs
  simp only [X]at h
  refine wpIn_seq (wpIn_mono (ihx fr hp _ h E a w hpin hrd hs) ?_)
  rintro e a' w' ⟨ex,fr',hp',E',hE,hrel,hk,hs'⟩
  cases ex<;>cases e<;>simp only [Ex.rel]at hrel
  ·have:=ihy fr' hp' K hk E' a' w' (hE.pin.trans hpin) (hrd.ext hE) hs'
   rw [hE.rd]at this
   exact wpIn_mono this λe a w ⟨ex,fr',hp',E'',hE',rest⟩=>⟨ex,fr',hp',E'',hE.trans hE',rest⟩
  ·exact⟨.exit _,fr',hp',E',hE,hrel,hk,hs'⟩
  ·exact⟨.goto _,fr',hp',E',hE,hrel,hk,hs'⟩
  ·exact⟨.ret,fr',hp',E',hE,hrel,hk,hs'⟩
  ·exact⟨.pan,fr',hp',E',hE,hrel,hk,hs'⟩
 |cond c x y ihx ihy=>
  intro fr hp K h E a w hpin hrd hs
  simp only [X,aVo]at h
  obtain⟨s,hs1,hv⟩:=cP h
  obtain⟨h1,h2,ρ,h3,h4⟩:=hs
  have hr:=aR h4 hs1
  split at hv
  ·rename_i t
   refine wpIn_cond (t:=t) hr.bool_inv ?_
   cases t
   ·exact ihy fr hp K (aQx hv rfl) E a w hpin hrd ⟨h1,h2,ρ,h3,h4⟩
   ·exact ihx fr hp K (aQw hv rfl) E a w hpin hrd ⟨h1,h2,ρ,h3,h4⟩
  ·exact hv.elim
 |block id c ih=>
  intro fr hp K h E a w hpin hrd hs
  simp only [X]at h
  refine wpIn_block (wpIn_mono (ih fr hp _ h E a w hpin hrd hs) ?_)
  rintro e a' w' ⟨ex,fr',hp',E',hE,hrel,hk,hs'⟩
  cases ex<;>cases e<;>simp only [Ex.rel]at hrel
  ·exact⟨.normal,fr',hp',E',hE,trivial,hk,hs'⟩
  ·subst hrel
   simp only [Exit.inBlock]
   split
   ·rename_i e;simp only [KX,e,if_true]at hk;exact⟨.normal,fr',hp',E',hE,trivial,hk,hs'⟩
   ·rename_i e;simp only [KX,e,if_false]at hk;exact⟨.exit _,fr',hp',E',hE,rfl,hk,hs'⟩
  ·exact⟨.goto _,fr',hp',E',hE,hrel,hk,hs'⟩
  ·exact⟨.ret,fr',hp',E',hE,hrel,hk,hs'⟩
  ·exact⟨.pan,fr',hp',E',hE,hrel,hk,hs'⟩
 |loop c _=>intro fr hp K h;exact h
 |rangeFunc=>intro fr hp K h;exact h
 |exit id=>intro fr hp K h E a w _ _ hs;exact wpIn_exit ⟨.exit id,fr,hp,E, .refl E,rfl,h,hs⟩
 |scope body _=>intro fr hp K h;exact h
 |goto l=>intro fr hp K h E a w _ _ hs;exact wpIn_goto ⟨.goto l,fr,hp,E, .refl E,rfl,h,hs⟩
 |ret=>intro fr hp K h E a w _ _ hs;exact wpIn_ret ⟨.ret,fr,hp,E, .refl E,trivial,h,hs⟩
 |refuse=>intro fr hp K h;exact h
end
end Go.Proofs.YtbobcfjlbcgchaaGreatDoor
