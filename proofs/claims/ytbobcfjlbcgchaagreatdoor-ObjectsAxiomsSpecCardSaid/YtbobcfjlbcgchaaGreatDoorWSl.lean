/-
  The symbolic walk: operations in order, statements, calls by contract; and that a walk which comes through proves the call.
  Conditions: none.
-/
import Derived.Test.YtbobcfjlbcgchaaGreatDoorWSy
import Derived.RangeFuncLeaves
import Derived.RangeFuncRecord
import Derived.RangeFuncSeq
set_option linter.unusedSectionVars false
set_option linter.unusedSimpArgs false
set_option linter.unusedVariables false
namespace Go.Proofs.YtbobcfjlbcgchaaGreatDoor
section
open Go.RowKit
section
variable {P:Program}
def aQy (ti:TypeId->Option TI) (src dst:TypeId) (s:SV) (K:SV->Prop):Prop:=
 match ti dst with
 |some { td:= .int k, .. }=>(match s with| .d (.int k0 n)=>(ti src).isSome=true/\conv k0 k n K|_=>aH "convert: to an int")
 |some { td:= .string, .. }=>
  (match ti src with
   |some { td:= .slice e, .. }=>
    (match ti e with
    |some { td:= .int .u8, .. }=>
     (match xJ s with
      |some (1,rows)=>rows=(unb rows).map aN/\K (.d (.str (unb rows)))
      |_=>aH "convert: to a string")
    |_=>aH "convert: to a string")
   |_=>aH "convert: to a string")
 |_=>aH "convert: it makes memory"
theorem aWo {ti:TypeId->Option TI}(hti:fH P ti) {o:Oper}{src dst:TypeId}{x:Operand}(ho:o.op= .convert src dst x) {fr:Fr}{hp:Hp}{K:SV->Prop}
  (h:ev fr x λs=>aQy ti src dst s K):fI P o fr hp K:=by
 intro E ρ a w hm S
 obtain⟨s,Q,c⟩:=dB h
 have I:=aV S Q
 have m: ∀v w',(convert src dst (a.eval x)).run P w'= .ok v w'->(execOp a.eval o).run P w'= .ok (.value v) w':=by
  intro v w' e
  simp [execOp,ho,e]
 unfold aQy at c
 split at c
 ·rename_i k _ _ _ l
  obtain⟨d,i,z,l⟩:=aO (hti _ _ l)
  have t:=mY l.td
  subst t
  split at c
  ·rename_i k0 n
   obtain⟨d',C⟩:=yK hti c.1
   refine⟨_,_,λw' _=>m _ w' ?_, .d _ _ (.int _ _),aU6 c.2⟩
   simp [convert,run_underlying C,run_underlying l.und,I.int_inv,Conv.intToInt]
  ·exact c.elim
 ·rename_i l
  obtain⟨d,i,z,l⟩:=aO (hti _ _ l)
  have t:=iB l.td
  subst t
  split at c
  ·rename_i e _ _ _ f
   obtain⟨d2,i2,z2,f⟩:=aO (hti _ _ f)
   have t:=cK f.td
   subst t
   split at c
   ·rename_i g
    obtain⟨d3,i3,z3,g⟩:=aO (hti _ _ g)
    have t:=mY g.td
    subst t
    split at c
    ·rename_i rows r
     obtain⟨R,L⟩:=c
     obtain⟨A,cap,b,off,e1,hnc,hcm,N,q⟩:=(mA r I).of_sl
     have p:(unb rows).length=rows.length:=by simp [unb]
     have D:(unb rows).length<=maxLen:=by rw [p];omega
     refine⟨_,_,λw' J=>m _ w' ?_, .d _ _ (RepD.str (unb rows) D),L⟩
     rw [e1]
     by_cases y:rows=[]
     ·subst y
      rcases A with _|O
      ·rw [run_convert_bytes_string w' src dst e _ _ _ f.und g.und l.und]
       rfl
      ·have:=run_convert_bytes_back (P:=P) w' src dst e O cap [] f.und g.und l.und (λj B=>by simp at B)
       simpa [unb]using this
     ·have F:=N y
      subst F
      have := run_convert_bytes_back (P := P) w' src dst e ⟨b, off, none⟩ cap (unb rows) f.und g.und l.und (λj B => by
       rw [cW]
       have hj':j < rows.length:=by omega
       have u:rows[j]? =some (aN (unb rows)[j]):=by
        conv=>lhs;rw [R]
        rw [List.getElem?_map,List.getElem?_eq_getElem B];rfl
       obtain⟨v,H,G,_,T⟩:=q.cell j _ 0 _ u (by simp [aN];rfl)
       cases T
       have M:j * 1+0=j:=by omega
       rw [M]at H G
       exact(J.s _ _ G).trans H)
      rw [p]at this
      exact this
    ·exact c.elim
   ·exact c.elim
  ·exact c.elim
 ·exact c.elim
def isX:SV->Bool
 | .mw _ _ _=>true
 | .ms _ _ _ _ _=>true
 | .xv _ _=>true
 |_=>false
def bEo:SV->Bool
 | .ms _ _ _ _ _=>true
 | .xv _ _=>true
 |_=>false
def bEp:SV->Bool
 | .d (.int _ _)=>true
 |_=>false
def bEr:SV->Bool
 | .msl _ _ _ _=>true
 | .d (.sl _ _)=>true
 |_=>false
def cG (P:Program) (o:Oper) (fr:Fr) (hp:Hp) (K:SV->Prop):Prop:=fI P o fr hp K
def bEq (ti:TypeId->Option TI) (t:TypeId):Bool:=match ti t with|some { td:= .array _ _, .. }=>true|some { td:= .other, .. }=>true|none=>true|_=>false
def uS (P:Program) (ti:TypeId->Option TI) (fr:Fr) (hp:Hp) (o:Oper) (K:SV->Prop):Prop:=
 match o.op with
 | .move x=>ev fr x K
 | .assign x=>ev fr x K
 | .pick c x y => ev fr c λt => (match t with
   | .d (.bool b)=>brB b (ev fr x K) (ev fr y K)
   |_=>aH "pick: no bool")
 | .load t x=>ev fr x λs=>aO0 ti t s hp K
 | .nilCheck x=>ev fr x λs=>bDc s K
 | .binOp op t x y _=>(match bEq ti t with|true=>cG P o fr hp K|false=>ev fr x λs=>ev fr y λr=>bDy P ti op t s r K)
 | .unOp op _ x=>ev fr x λs=>vUn op s K
 | .makeFunc (.func f) first cap => (match evL fr first.toList with
   |some l=>(match evL fr cap.toList with|some m=>K (.fn f l m)|none=>aH "makeFunc")
   |none=>aH "makeFunc")
 | .slice t x lo hi mx => ev fr x λs => (match isX s with
   |true=>cG P o fr hp K
   | false => ev fr x λs => (match aBa fr lo with
    | some l => (match aBa fr hi with
     |some h=>(match aBa fr mx with|some m=>aQv ti t s l h m K|none=>aH "slice: max")
     |none=>aH "slice: high")
    |none=>aH "slice: low"))
 | .fieldAddr t x f=>ev fr x λs=>wL ti t s f K
 | .field t x f=>ev fr x λs=>aQx ti t s f K
 | .indexAddr t x y=>(match x with| .global _=>cG P o fr hp K|x=>ev fr x λs=>ev fr y λi=>wK ti t s i K)
 | .index t x y=>ev fr x λs=>ev fr y λi=>aQw ti t s i K
 | .extract x i=>ev fr x λs=>aEh s i K
 | .build t parts=>(match evP fr parts.toList with|some l=>aQz ti t l K|none=>aH "build: a part")
 | .convert src dst x=>ev fr x λs=>aQy ti src dst s K
 | .lookup _ _ _ _=>cG P o fr hp K
 | .call { callee:= .builtin .len,args:=⟨[x]⟩,argTypes:=⟨[t]⟩ }=>ev fr x λs=>(match bEo s with|true=>cG P o fr hp K|false=>ev fr x λs=>bDw ti t s K)
 | .call { callee:= .builtin .cap,args:=⟨[x]⟩,argTypes:=⟨[t]⟩ }=>ev fr x λs=>(match bEo s with|true=>cG P o fr hp K|false=>ev fr x λs=>bDx ti t s hp K)
 |_=>aH "not a pure operation"
theorem aKc {ti:TypeId->Option TI}(hti:fH P ti) {o:Oper}{fr:Fr}{hp:Hp}{K:SV->Prop}(h:uS P ti fr hp o K):fI P o fr hp K:=by
 have a: ∀{x:Operand} {f:SV->Bool} {G:Prop},(ev fr x λs=>(match f s with|true=>cG P o fr hp K|false=>G))->(G->fI P o fr hp K)->fI P o fr hp K:=by
  intro x f G h b
  obtain⟨s,_,h⟩:=dB h
  split at h
  ·exact h
  ·exact b h
 unfold uS at h
 split at h
 ·exact aSv (.inl (by assumption)) h
 ·exact aSv (.inr (by assumption)) h
 ·exact bA0 (by assumption) h
 ·exact aSx hti (by assumption) h
 ·exact bC4 (by assumption) h
 ·split at h
  ·exact h
  ·exact bC7 hti (by assumption) h
 ·exact bEj (by assumption) h
 ·exact bEk (by assumption) h
 ·exact a h λh=>aWj hti (by assumption) h
 ·exact aHm hti (by assumption) h
 ·exact aWm hti (by assumption) h
 ·split at h
  ·exact h
  ·exact aHl hti (by assumption) h
 ·exact aWl hti (by assumption) h
 ·exact aP0 (by assumption) h
 ·exact aWp hti (by assumption) h
 ·exact aWo hti (by assumption) h
 ·exact h
 ·exact a h λh=>bC5 hti (by assumption) h
 ·exact a h λh=>bC6 hti (by assumption) h
 ·exact h.elim
def FW (r:Option Nat):Fence:={ Fence.wide with round:=r }
theorem mO {r:Option Nat}{n:Nat}{f:FuncId}{args:Array Value}{w:World}{R:Ending->World->Prop}:CallsIn (FW r) n P f args w R↔Calls P f args w R:=
 Iff.trans (Iff.of_eq rfl) (callsIn_wide (n:=n))
theorem aZ3 {o:Oper}(hd: ∀c,o.op≠ .defer c) {r:Option Nat}{a:Act}{w:World}{next:Act->World->Prop}{Q:Exit->Act->World->Prop}(h:o.wp P a w next Q):o.wpIn (FW r) 0 P a w next Q:=by
 refine⟨λ_ _=>trivial, ?_⟩
 rw [Oper.semAt_eq _ _ _ hd]
 unfold Oper.wp at h
 cases hr:(execOp a.eval o).run P w with
 |ok n w'=>
  rw [hr]at h
  cases n with
  |value v=>exact h
  |skip=>exact h
  |defer d=>exact h
  |enter f args=>exact⟨λh=>(by cases h),mO.2 h⟩
  |row row args=>
   refine⟨λh=>(by cases h),λc cs _=> ?_⟩
   obtain⟨v,b,g,e⟩:=h c cs
   exact⟨v,b,g,stepsIn_wide.2 e⟩
  |round=>exact h.elim
  |_=>first|exact h.elim|exact h
 |halt x w'=>
  rw [hr]at h
  cases x<;>first|exact h.elim|exact h
def aY6 (P:Program) (o:Oper) (pin:Pin) (fr:Fr) (hp:Hp) (K:SV->Hp->Prop):Prop:=
 ∀(E:Entry) (ρ:Env) (a:Act) (w:World),E.pin=pin->Mem E ρ hp w->dV ρ w fr a.tmps-> ∀(next:Act->World->Prop) (Q:Exit->Act->World->Prop),
  (∀v w' ρ' s hp',K s hp'->Mem E ρ' hp' w'->dV ρ' w' fr a.tmps->Rep w' ρ' s v->next (a.put o.dst v) w')->
  (∀ch w' ρ' hp',Chn ch->pin.kp fr hp'->Mem E ρ' hp' w'->dV ρ' w' fr a.tmps->Q (.panic ch) a w')->o.wpIn (FW E.rd) 0 P a w next Q
theorem aEb.r {o:Oper}{pin:Pin}{fr:Fr}{hp:Hp}{K:SV->Hp->Prop}(hd: ∀c,o.op≠ .defer c) (h:aEb P o pin fr hp K):aY6 P o pin fr hp K:=
 λE ρ a w b f d next Q e _=>aZ3 hd (h E ρ a w b f d next Q e)
theorem aWk {o:Oper}{x:Operand}(ho:o.op= .panic x) {pin:Pin}{fr:Fr}{hp:Hp}{K:SV->Hp->Prop}{t:TypeId}{v:Value}(hx:evO fr x=some (.d (.lit (.iface t v)))) (h:pin.kp fr hp):aY6 P o pin fr hp K:=by
 intro E ρ a w hpin g f next Q hn i
 have j: ∀c,o.op≠ .defer c:= λc e=>by rw [ho]at e;cases e
 refine⟨λ_ _=>trivial, ?_⟩
 rw [Oper.semAt_eq _ _ _ j]
 have e:=(aV f hx).lit_inv
 have b:(execOp a.eval o).run P w= .halt (.panic (.iface t v)) w:=by
  simp only [execOp,ho,e,Sem.run_bind]
  rfl
 rw [b]
 exact i _ w ρ hp ⟨_,_,rfl⟩ h g f
def dY (P:Program) (f:FuncId):Bool:=
 match P.funcs[f]? with
 |some fn=>fn.body.isSome && !(fn.name== "runtime.NumGoroutine")
 |none=>false
def cS (w:World) (ρ:Env) (args:List SV) (vs:Array Value):Prop:=
 vs.size=args.length/\ ∀(j:Nat) (s:SV) (v:Value),args[j]? =some s->vs[j]? =some v->Rep w ρ s v
def aF (P:Program) (pin:Pin) (fr:Fr) (hp:Hp) (f:FuncId) (args:List SV) (K:SV->Hp->Prop):Prop:=
 ∀(E:Entry) (ρ:Env) (w:World) (tm:Array Value),E.pin=pin->Mem E ρ hp w->dV ρ w fr tm-> ∀vs:Array Value,cS w ρ args vs->
  Calls P f vs w λe w'=>(∃v ρ' s hp',e= .returned v/\K s hp'/\Mem E ρ' hp' w'/\dV ρ' w' fr tm/\Rep w' ρ' s v)\/ ∃ch ρ' hp',e= .panicked ch/\Chn ch/\pin.kp fr hp'/\Mem E ρ' hp' w'/\dV ρ' w' fr tm
def aYl:SV->Option (FuncId×List SV×List SV)
 | .fn f a b=>some (f,a,b)
 | .d (.lit (.func (.func f) ⟨[]⟩ ⟨[]⟩))=>some (f,[],[])
 |_=>none
theorem aB4 {w:World}{ρ:Env}{s:SV}{v:Value}{f:FuncId}{a b:List SV}(h:aYl s=some (f,a,b)) (hr:Rep w ρ s v):
  ∃c cv:Array Value,v= .func (.func f) c cv/\cS w ρ a c/\cS w ρ b cv:=by
 unfold aYl at h
 split at h
 ·simp at h
  obtain⟨rfl,rfl,rfl⟩:=h
  obtain⟨c,cv,e,d,g,j,i⟩:=hr.fn_inv
  exact⟨c,cv,e,⟨d,j⟩,⟨g,i⟩⟩
 ·simp at h
  obtain⟨rfl,rfl,rfl⟩:=h
  exact⟨#[],#[],hr.lit_inv,⟨rfl,by simp⟩,⟨rfl,by simp⟩⟩
 ·cases h
theorem cS.append {w:World}{ρ:Env}{a b:List SV}{u v:Array Value}(h:cS w ρ a u) (k:cS w ρ b v):cS w ρ (a++b) (u++v):=by
 refine⟨by simp [h.1,k.1],λj s x c hx=> ?_⟩
 by_cases d:j < a.length
 ·rw [List.getElem?_append_left d]at c
  rw [Array.getElem?_append_left (by rw [h.1];exact d)]at hx
  exact h.2 j s x c hx
 ·rw [List.getElem?_append_right (by omega)]at c
  rw [Array.getElem?_append_right (by rw [h.1];omega),h.1]at hx
  exact k.2 _ s x c hx
def YVC (P:Program) (pin:Pin) (fr:Fr) (hp:Hp) (id:Nat) (args:List SV) (K:SV->Hp->Prop):Prop:=
 ∀(E:Entry) (ρ:Env) (w:World) (tm:Array Value),E.pin=pin->Mem E ρ hp w->dV ρ w fr tm-> ∀(l:Nat) (vs:Array Value),ρ.blk id=some l->cS w ρ args vs->
  YieldAt Fence.wide 0 P l vs w λe w'=> ∃v ρ' s hp',e= .returned v/\K s hp'/\Mem E ρ' hp' w'/\dV ρ' w' fr tm/\Rep w' ρ' s v
def aT (P:Program) (o:Oper) (pin:Pin) (fr:Fr) (hp:Hp) (K:SV->Hp->Prop):Prop:=aEb P o pin fr hp K
def aYq (P:Program) (o:Oper) (pin:Pin) (fr:Fr) (hp:Hp) (f:Operand) (args:List Operand) (K:SV->Hp->Prop):Prop:=
 ev fr f λs=>match s with
  | .yld id => (match evL fr args with
   |some l=>YVC P pin fr hp id l K
   |none=>aH "call: an argument")
  |s=>match aYl s with
  | some (g, first, cap) => (match evL fr args with
   | some l => (match dY P g with
    |true=>aF P pin fr hp g (first++l++cap) K
    |false=>aT P o pin fr hp K)
   |none=>aH "call: an argument")
  |none=>aT P o pin fr hp K
theorem bA2 {o:Oper}{f:Operand}{args:Array Operand}{ts:Array TypeId}(ho:o.op= .call { callee:= .value f,args:=args,argTypes:=ts }) {pin:Pin}{fr:Fr}{hp:Hp}{K:SV->Hp->Prop}
  (h:aYq P o pin fr hp f args.toList K):aY6 P o pin fr hp K:=by
 obtain⟨s,N,m⟩:=dB h
 have O: ∀c,o.op≠ .defer c:= λc e=>by rw [ho]at e;cases e
 split at m
 ·rename_i id
  intro E ρ a w d x p next Q A _
  have I:=aV p N
  obtain⟨J,F,e⟩:=I.yld_inv
  split at m
  ·rename_i l hl
   obtain⟨H,D⟩:=aBb p _ _ hl
   have i:cS w ρ l (args.map a.eval):=by
    refine⟨by simpa using H,λj r v q t=>D j r v q ?_⟩
    rw [<-Array.toList_map];simpa using t
   obtain⟨fn,tmps,assign,body,S,n⟩:=m E ρ w a.tmps d x p J _ F i
   refine⟨λ_ _=>trivial, ?_⟩
   rw [Oper.semAt_eq _ _ _ O]
   have k:(execOp a.eval o).run P w= .ok (.round J fn tmps assign body) w:=by
    simp only [execOp,ho,resolve,e,Deferred.ofValue,invoke,Sem.run_bind,Sem.run_pure,Result.andThen_ok]
    simpa using S
   rw [k]
   refine⟨λh=>(by cases h),RoundIn.mono (show RoundIn (FW E.rd) 0 P J fn tmps assign body w _ from n) ?_⟩
   rintro R w' ⟨v,B,r,hp',rfl,z,C,y,G⟩
   exact A v w' B r hp' z C y G
  ·exact m.elim
 ·intro E ρ a w d x p next Q A U
  refine aZ3 O ?_
  have I:=aV p N
  split at m
  ·rename_i g first cap L
   obtain⟨M,cv,e,T,Z⟩:=aB4 L I
   split at m
   ·rename_i l hl
    split at m
    case h_2=>exact m E ρ a w d x p next Q A
    rename_i b
    obtain⟨H,D⟩:=aBb p _ _ hl
    have i:cS w ρ (first++l++cap) (M++args.map a.eval++cv):=by
     refine(T.append ⟨?_, ?_⟩).append Z
     ·simpa using H
     ·intro j r v q t
      refine D j r v q ?_
      rw [<-Array.toList_map];simpa using t
    have k:(execOp a.eval o).run P w= .ok (.enter g (M++args.map a.eval++cv)) w:=by
     unfold dY at b
     split at b
     ·rename_i fn u
      simp only [Bool.and_eq_true,Bool.not_eq_true']at b
      obtain⟨c1,W⟩:=b
      have Y:fn.body.isNone=false:=by cases hb:fn.body<;>simp_all
      simp only [execOp,ho,resolve,e,Deferred.ofValue,invoke,callFunc,Sem.run_bind,Sem.run_pure,Result.andThen_ok,run_program,u,W,Y,Bool.false_eq_true,if_false]
     ·cases b
    unfold Oper.wp
    rw [k]
    simp only [Oper.upon]
    refine(m E ρ w a.tmps d x p _ i).mono ?_
    rintro R w' (⟨v,B,r,hp',rfl,z,C,y,G⟩|⟨V,B,hp',rfl,k0,z,C,y⟩)
    ·exact A v w' B r hp' z C y G
    ·exact U V w' B hp' k0 z C y
   ·exact m.elim
  ·exact m E ρ a w d x p next Q A
def aEt (ti:TypeId->Option TI) (t:TypeId) (s r:SV) (hp:Hp) (K:Hp->Prop):Prop:=
 match s with
 | .mp id z i off ver=>aJk ti t id z i off ver r hp K
 |s=>aQu ti t s r hp K
theorem aDf {ti:TypeId->Option TI}(hti:fH P ti) {o:Oper}{t:TypeId}{x y:Operand}(ho:o.op= .store t x y) {pin:Pin}{fr:Fr}{hp:Hp}{K:SV->Hp->Prop}
  (h:ev fr x λs=>ev fr y λr=>aEt ti t s r hp λhp'=>K (.d (.lit undef)) hp'):aEb P o pin fr hp K:=by
 obtain⟨s,c,b⟩:=dB h
 obtain⟨r,e,a⟩:=dB b
 unfold aEt at a
 split at a
 ·exact aSu hti ho c e a
 ·refine aWi hti ho ?_
  unfold ev;rw [c];simp only;rw [e];exact a
def aGe (ti:TypeId->Option TI) (t tx:TypeId) (id:Nat) (s x:SV) (pin:Pin) (fr:Fr) (hp:Hp) (K:SV->Hp->Prop):Prop:=
 match s with
 | .d .nil=>yG ti t tx id x pin fr hp K
 | .zc=>yG ti t tx id x pin fr hp K
 |s=>aJl ti t tx s x hp K
theorem aDh {ti:TypeId->Option TI}(hti:fH P ti) {o:Oper}{t tx:TypeId}{x y:Operand}{id:Nat}(ho:o.op= .call { callee:= .builtin .append,args:= #[x,y],argTypes:= #[t,tx] }) {pin:Pin}{fr:Fr}{hp:Hp}{K:SV->Hp->Prop}
  (h:ev fr x λs=>ev fr y λr=>aGe ti t tx id s r pin fr hp K):aBu P o pin fr hp K:=by
 obtain⟨s,b,d⟩:=dB h
 obtain⟨r,c,a⟩:=dB d
 unfold aGe at a
 split at a
 ·exact aDg hti ho b (.inl rfl) c a
 ·exact aDg hti ho b (.inr rfl) c a
 ·refine aSy hti ho ?_
  unfold ev;rw [b];simp only;rw [c];exact a
def aGd (ti:TypeId->Option TI) (t tx:TypeId) (id:Nat) (s x:SV) (pin:Pin) (fr:Fr) (hp:Hp) (K:SV->Hp->Prop):Prop:=
 match s with
 | .mw i z n=>aEi ti t tx i z n x hp K
 |s=>aGe ti t tx id s x pin fr hp K
theorem aKi {ti:TypeId->Option TI}(hti:fH P ti) {o:Oper}{t tx:TypeId}{x y:Operand}{id:Nat}(ho:o.op= .call { callee:= .builtin .append,args:= #[x,y],argTypes:= #[t,tx] }) {pin:Pin}{fr:Fr}{hp:Hp}{K:SV->Hp->Prop}
  (h:ev fr x λs=>ev fr y λr=>aGd ti t tx id s r pin fr hp K):aEb P o pin fr hp K:=by
 obtain⟨s,c,b⟩:=dB h
 obtain⟨r,d,a⟩:=dB b
 unfold aGd at a
 split at a
 ·exact aP2 hti ho c d a
 ·refine(aDh hti (id:=id) ho ?_).drop
  unfold ev;rw [c];simp only;rw [d];exact a
def aYg:Op->Nat
 | .move _=>0
 | .assign _=>0
 | .pick _ _ _=>0
 | .load _ _=>0
 | .nilCheck _=>0
 | .binOp _ _ _ _ _=>0
 | .unOp _ _ _=>0
 | .makeFunc _ _ _=>0
 | .slice _ _ _ _ _=>0
 | .fieldAddr _ _ _=>0
 | .field _ _ _=>0
 | .indexAddr _ _ _=>0
 | .index _ _ _=>0
 | .extract _ _=>0
 | .build _ _=>0
 | .lookup _ _ _ _=>0
 | .call { callee:= .builtin .len,args:=_,argTypes:=_ }=>0
 | .call { callee:= .builtin .cap,args:=_,argTypes:=_ }=>0
 | .defer _=>2
 |_=>1
def bDt (ti:TypeId->Option TI) (t:TypeId) (hp:Hp) (K:SV->Hp->Prop):Prop:=
 match ti t with
 |some { td:= .slice e, .. }=>(match ti e with|some _=>K .zc hp|none=>aH "buildSlice: an element's type")
 |_=>aH "buildSlice: a type"
theorem bEi {ti:TypeId->Option TI}(hti:fH P ti) {o:Oper}{t:TypeId}(ho:o.op= .buildSlice t 0 #[]) {pin:Pin}{fr:Fr}{hp:Hp}{K:SV->Hp->Prop}(h:bDt ti t hp K):aEb P o pin fr hp K:=by
 intro E ρ a w hpin k n next Q m
 unfold bDt at h
 split at h
 ·rename_i e _ _ _ f
  obtain⟨d,i,z,f⟩:=aO (hti _ _ f)
  have p:=cK f.td
  subst p
  split at h
  ·rename_i T b
   obtain⟨d2,i2,z2,b⟩:=aO (hti _ _ b)
   have g:Array.range 0= #[]:=by apply Array.eq_empty_of_size_eq_zero;simp
   have c:(execOp a.eval o).run P w= .ok (.value (.slice (some ⟨w.heap.size,0,none⟩) 0 0)) (w.alloc (.cells #[] e)):=by
    simp only [execOp,ho,Sem.run_bind,Instr.buildSlice,run_underlying f.und,Result.andThen_ok,b.run_size]
    simp [Instr.fill,newRow,g]
   obtain⟨j,l⟩:=k.grow_same (Grew.alloc w (.cells #[] e))
   exact bW c (m _ _ ρ _ _ h j (l fr _ n) (.zc _))
  ·exact h.elim
 ·exact h.elim
def bEh (P:Program) (ti:TypeId->Option TI) (zc:Bool) (pin:Pin) (fr:Fr) (hp:Hp) (dst:Nat) (o:Oper) (K:SV->Hp->Prop):Prop:=
 match o.op with
 | .alloc t => (match ti t with
   |some T=>fE dst pin fr hp/\K (.ptr dst 0) ((dst, .cells t (T.zero.map .d))::hp)
   |none=>aH "alloc: a type")
 | .box t x => ev fr x λs => (match kF s with
   |some cs=>fE dst pin fr hp/\dst∉SV.idsL cs/\K (.ptr dst 0) ((dst, .cells t cs)::hp)
   |none=>aH "box: cells")
 | .buildSlice t len parts => (match zc, len, parts with
   |true,0,⟨[]⟩=>bDt ti t hp K
   |_,len,parts=>(match evP fr parts.toList with|some l=>mW ti t len dst l pin fr hp K|none=>aH "buildSlice: a part"))
 | .makeSlice t x y=>ev fr x λl=>ev fr y λc=>aV3 ti t dst l c pin fr hp K
 | .store t x y=>ev fr x λs=>ev fr y λr=>aEt ti t s r hp λhp'=>K (.d (.lit undef)) hp'
 | .convert src dst x=>ev fr x λs=>aZ6 ti src dst s hp K
 | .call { callee := .builtin .append, args := ⟨[x, y]⟩, argTypes := ⟨[t, tx]⟩ } => ev fr x λs => (match bEo s with
   |true=>aT P o pin fr hp K
   | false => ev fr x λs => ev fr y λr => (match bEp r || bEr s with
    |true=>aT P o pin fr hp K
    |false=>aGd ti t tx dst s r pin fr hp K))
 | .call { callee:= .value f,args:=args,argTypes:=_ }=>aYq P o pin fr hp f args.toList K
 | .panic x=>ev fr x λs=>(match s with| .d (.lit (.iface _ _))=>pin.kp fr hp|_=>aH "panic: a value")
 | p => (match aYg p with
   | 0=>uS P ti fr hp o λs=>K s hp
   | 1=>aT P o pin fr hp K
   |_=>aH "no rule")
theorem aHg {ti:TypeId->Option TI}{fr:Fr}{hp:Hp}{o:Oper}{K:SV->Prop}(h:uS P ti fr hp o K): ∀c,o.op≠ .defer c:=by
 intro c e
 unfold uS at h
 rw [e]at h
 exact h
theorem bEg {ti:TypeId->Option TI}(hti:fH P ti) {o:Oper}{pin:Pin}{fr:Fr}{hp:Hp}{dst:Nat}{zc:Bool}{K:SV->Hp->Prop}(h:bEh P ti zc pin fr hp dst o K):aY6 P o pin fr hp K:=by
 have nd: ∀p:Op,o.op=p->(∀c,p≠ .defer c)-> ∀c,o.op≠ .defer c:= λp e h c=>by rw [e];exact h c
 unfold bEh at h
 split at h
 ·rename_i a;exact((aMh hti a h).drop).r (nd _ a (by intro c e;cases e))
 ·rename_i a;exact((aYa a h).drop).r (nd _ a (by intro c e;cases e))
 ·rename_i a
  split at h
  ·exact(bEi hti a h).r (nd _ a (by intro c e;cases e))
  ·exact((uX hti a h).drop).r (nd _ a (by intro c e;cases e))
 ·rename_i a;exact((aSw hti a h).drop).r (nd _ a (by intro c e;cases e))
 ·rename_i a;exact(aDf hti a h).r (nd _ a (by intro c e;cases e))
 ·rename_i a;exact(bA1 hti a h).r (nd _ a (by intro c e;cases e))
 ·rename_i a
  obtain⟨s,_,h⟩:=dB h
  split at h
  ·exact aEb.r (nd _ a (by intro c e;cases e)) h
  ·obtain⟨s2,d,h⟩:=dB h
   obtain⟨r2,b,h⟩:=dB h
   split at h
   ·exact aEb.r (nd _ a (by intro c e;cases e)) h
   ·refine(aKi hti (id:=dst) a ?_).r (nd _ a (by intro c e;cases e))
    unfold ev;rw [d];simp only;rw [b];exact h
 ·exact bA2 (by assumption) h
 ·rename_i a
  obtain⟨s,g,h⟩:=dB h
  split at h
  ·exact aWk a g h
  ·exact h.elim
 ·split at h
  ·exact(aEb.pure (aKc hti h)).r (aHg h)
  ·rename_i f
   exact aEb.r (λc e=>by rw [e]at f;simp [aYg]at f) h
  ·exact h.elim
structure Cfg where
 P:Program
 ti:TypeId->Option TI
 pin:Pin
 nt:Nat
 keep:Nat->Bool
 off:Nat
 rd:Option Nat
 zc:Bool:=false
 frz:List Nat:=[]
def aOd:Fr->Nat->SV->Fr
 | [],t,s=>[(t,s)]
 |(k,x)::r,t,s=>if k=t then (k,s)::r else (k,x)::aOd r t s
theorem kM (fr:Fr) (t:Nat) (s:SV) (u:Nat):jB (aOd fr t s) u=if u=t then some s else jB fr u:=by
 induction fr with
 |nil=>
  simp only [aOd,jB]
  by_cases e:u=t
  ·simp [e]
  ·simp [e,Ne.symm e]
 |cons p r ih=>
  obtain⟨k,x⟩:=p
  simp only [aOd]
  by_cases e:k=t
  ·subst e
   simp only [if_true,jB]
   by_cases a:u=k
   ·simp [a]
   ·simp [a,Ne.symm a]
  ·simp only [e,if_false,jB]
   by_cases a:k=u
   ·subst a;simp [e]
   ·simp [a,ih]
def aF3:Fr->Nat->SV->(Fr->Prop)->Prop
 | [],t,s,K=>K [(t,s)]
 |(k,x)::r,t,s,K=>if k=t then K ((k,s)::r)else aF3 r t s λr'=>K ((k,x)::r')
theorem rN: ∀(fr:Fr) (t:Nat) (s:SV) (K:Fr->Prop),aF3 fr t s K=K (aOd fr t s):=by
 intro fr
 induction fr with
 |nil=>intro t s K;rfl
 |cons p r ih=>
  obtain⟨k,x⟩:=p
  intro t s K
  simp only [aF3,aOd]
  split
  ·rfl
  ·rw [ih]
def aSn (keep:Nat->Bool) (fr:Fr):Fr:=fr.filter λp=>keep p.1
def uT (keep:Nat->Bool):Fr->(Fr->Prop)->Prop
 | [],K=>K []
 |(k,x)::r,K=>match keep k with|true=>uT keep r λr'=>K ((k,x)::r')|false=>uT keep r K
theorem oU (keep:Nat->Bool): ∀(fr:Fr) (K:Fr->Prop),uT keep fr K=K (aSn keep fr):=by
 intro fr
 induction fr with
 |nil=>intro K;rfl
 |cons p r ih=>
  obtain⟨k,x⟩:=p
  intro K
  unfold aSn at ih |-
  simp only [uT]
  cases hk:keep k
  ·rw [List.filter_cons_of_neg (by simp [hk])];exact ih K
  ·rw [List.filter_cons_of_pos (by simp [hk])];exact ih _
theorem mI (keep:Nat->Bool) (fr:Fr) (t:Nat) (s:SV) (h:jB (aSn keep fr) t=some s):jB fr t=some s:=by
 induction fr with
 |nil=>simp [aSn,jB]at h
 |cons p r ih=>
  obtain⟨k,x⟩:=p
  unfold aSn at h ih
  by_cases b:keep k=true
  ·rw [List.filter_cons_of_pos (by simpa using b)]at h
   simp only [jB]at h |-
   by_cases e:k=t
   ·simpa [e]using h
   ·simp [e]at h;simp [e,ih h]
  ·rw [List.filter_cons_of_neg (by simpa using b)]at h
   have:=ih h
   simp only [jB]
   by_cases e:k=t
   ·subst e
    exfalso
    -- the pruned frame knows no slot that is not kept
    have: ∀l:Fr,jB (l.filter λp=>keep p.1) k=none:=by
     intro l
     induction l with
     |nil=>rfl
     |cons q r' ih'=>
      obtain⟨c,x'⟩:=q
      by_cases a:keep c=true
      ·rw [List.filter_cons_of_pos (by simpa using a)]
       simp only [jB]
       rw [if_neg (λ(e:c=k)=>b (e ▸ a))]
       exact ih'
      ·rw [List.filter_cons_of_neg (by simpa using a)]
       exact ih'
    rw [this]at h
    cases h
   ·simp [e,this]
def put (C:Cfg) (dst:Option Nat) (s:SV) (fr:Fr) (K:Fr->Prop):Prop:=
 match dst with
 |some d=>if d < C.nt then (match C.keep d with|true=>aF3 fr d s K|false=>K ((d,s)::fr))else aH "a slot out of range"
 |none=>K fr
theorem gY {C:Cfg}{dst:Option Nat}{s:SV}{fr:Fr}{K:Fr->Prop}(h:put C dst s fr K) {ρ:Env}{w:World}{a:Act}{v:Value}(hn:a.tmps.size=C.nt) (hf:dV ρ w fr a.tmps) (hr:Rep w ρ s v):
  ∃fr',K fr'/\dV ρ w fr' (a.put dst v).tmps:=by
 unfold put at h
 split at h
 ·rename_i d
  split at h
  ·rename_i hd
   have key: ∀t x,(if t=d then some s else jB fr t)=some x-> ∃u,(a.put (some d) v).tmps[t]? =some u/\Rep w ρ x u:=by
    intro t x hx
    by_cases e:t=d
    ·subst e
     simp at hx
     subst hx
     exact⟨v,by simp [Act.put,Array.getElem?_setIfInBounds_self_of_lt (show t < a.tmps.size by omega)],hr⟩
    ·simp [e]at hx
     obtain⟨u,b,f⟩:=hf t x hx
     exact⟨u,by simp only [Act.put];rw [Array.getElem?_setIfInBounds_ne (λc=>e c.symm)];exact b,f⟩
   split at h
   ·rw [rN]at h
    exact⟨_,h,λt x hx=>key t x (by rw [kM]at hx;exact hx)⟩
   ·refine⟨_,h,λt x hx=>key t x ?_⟩
    simp only [jB]at hx
    by_cases e:t=d
    ·simpa [e]using hx
    ·simpa [e,Ne.symm e]using hx
  ·exact h.elim
 ·exact⟨fr,h,hf⟩
theorem cH (a:Act) (d:Option Nat) (v:Value):(a.put d v).tmps.size=a.tmps.size:=by
 cases d<;>simp [Act.put]
theorem put_defers (a:Act) (d:Option Nat) (v:Value):(a.put d v).defers=a.defers:=by
 cases d<;>rfl
def wX (all:List Oper) (fr:Fr) (g:Option (Nat×Bool)) (yes no:Fr->Prop):Prop:=
 match g with
 |none=>yes fr
 |some (j,want)=>
  match (all[j]?).bind (·.dst)with
  |some d=>
   match jB fr d with
   |some (.d (.bool b))=>
    match want with
    |true=>brB b (aF3 fr d (.d (.bool true)) yes) (aF3 fr d (.d (.bool false)) no)
    |false=>brB b (aF3 fr d (.d (.bool true)) no) (aF3 fr d (.d (.bool false)) yes)
   |some (.d (.lit v))=>(match v with| .bool _=>aH "guard" |_=>no fr)
   |_=>aH "guard: no bool"
  |none=>aH "guard: no slot"
theorem dV.same {ρ:Env}{w:World}{fr:Fr}{tm:Array Value}(hf:dV ρ w fr tm) {d:Nat}{s:SV}(h:jB fr d=some s):dV ρ w (aOd fr d s) tm:=by
 intro t x hx
 rw [kM]at hx
 by_cases e:t=d
 ·subst e;simp at hx;subst hx;exact hf t s h
 ·simp [e]at hx;exact hf t x hx
theorem gI {all:List Oper}{fr:Fr}{o:Oper}{yes no:Fr->Prop}(h:wX all fr o.guard yes no) {ρ:Env}{w:World}{a:Act}(hf:dV ρ w fr a.tmps):
  ∃fr',dV ρ w fr' a.tmps/\((Region.wanted o (yielded all.toArray a.tmps)=true/\yes fr')\/(Region.wanted o (yielded all.toArray a.tmps)=false/\no fr')):=by
 unfold wX at h
 unfold Region.wanted
 split at h
 ·rename_i m;rw [m];exact⟨fr,hf, .inl ⟨rfl,h⟩⟩
 ·rename_i j f m
  rw [m]
  split at h
  ·rename_i d p
   have g:(all.toArray[j]?).bind (·.dst)=some d:=by simpa using p
   split at h
   ·rename_i b hb
    obtain⟨v,c,l⟩:=hf d _ hb
    have e:=l.bool_inv
    subst e
    have k:yielded all.toArray a.tmps j=some b:=by simp only [yielded,g,Option.bind_some,c]
    simp only [k]
    cases b<;>cases f
    ·exact⟨_,hf.same hb, .inl ⟨by simp,by have c:=aXu h rfl;rwa [rN]at c⟩⟩
    ·exact⟨_,hf.same hb, .inr ⟨by simp,by have c:=aXu h rfl;rwa [rN]at c⟩⟩
    ·exact⟨_,hf.same hb, .inr ⟨by simp,by have c:=aXt h rfl;rwa [rN]at c⟩⟩
    ·exact⟨_,hf.same hb, .inl ⟨by simp,by have c:=aXt h rfl;rwa [rN]at c⟩⟩
   ·rename_i u n
    obtain⟨v,c,l⟩:=hf d _ n
    have e:=l.lit_inv
    subst e
    split at h
    ·exact h.elim
    ·rename_i i
     have k:yielded all.toArray a.tmps j=none:=by
      simp only [yielded,g,Option.bind_some,c]
      cases v<;>first|rfl|(exfalso;exact i _ rfl)
     exact⟨fr,hf, .inr ⟨by simp [k],h⟩⟩
   ·exact h.elim
  ·exact h.elim
def aXj:Hp->Nat->(Hp->Prop)->Prop
 | [],_,K=>K []
 |(k,o)::r,t,K=>if k=t then (t∉gH r/\K r)else aXj r t λr'=>K ((k,o)::r')
theorem aNa: ∀(hp:Hp) (t:Nat) (K:Hp->Prop),aXj hp t K-> ∃hp',K hp'/\ ∀i o,aP hp' i=some o->i≠t/\aP hp i=some o
 | [],t,K,h=>⟨[],h,by simp [aP]⟩
 |(k,o)::r,t,K,h=>by
  simp only [aXj]at h
  by_cases e:k=t
  ·subst e
   simp only [if_true]at h
   refine⟨r,h.2,λi x hx=> ?_⟩
   have a:i≠k:= λe=>h.1 (bR (by rw [<-e];exact hx) (.inl rfl))
   exact⟨a,by simp only [aP,if_neg (Ne.symm a)];exact hx⟩
  ·simp only [e,if_false]at h
   obtain⟨r',c,d⟩:=aNa r t _ h
   refine⟨_,c,λi x hx=> ?_⟩
   simp only [aP]at hx |-
   by_cases b:k=i
   ·subst b
    simp only [if_true]at hx |-
    exact⟨e,hx⟩
   ·simp only [b,if_false]at hx |-
    exact d i x hx
def aYi (fr:Fr) (hp:Hp) (t:Nat) (K:Fr->Hp->Prop):Prop:=
 match jB fr t with
 | some (.ptr id 0) => (match aP hp id with
  | some (.cells _ cs) => (match bAx cs with
   |some xs=>aF3 fr t (.ea xs.length [xs] 0 0) λfr'=>aXj hp id λhp'=>K fr' hp'
   |none=>K fr hp)
  |_=>K fr hp)
 |_=>K fr hp
def bCj:List Nat->Fr->Hp->(Fr->Hp->Prop)->Prop
 | [],fr,hp,K=>K fr hp
 |t::r,fr,hp,K=>aYi fr hp t λfr' hp'=>bCj r fr' hp' K
theorem Mem.froz {E:Entry}{ρ:Env}{hp:Hp}{w:World}(h:Mem E ρ hp w) {id g:Nat}{t:TypeId}{xs:List D}(ho:aP hp id=some (.cells t (xs.map .d))) (hg:ρ.blk id=some g) {hp':Hp}(hsub: ∀i o,aP hp' i=some o->i≠id/\aP hp i=some o):
  Mem E (ρ.withS λb i=>ρ.S b i\/(b=g/\i < xs.length)) hp' w/\View w (λb i=>ρ.S b i\/(b=g/\i < xs.length)) xs.length [xs] g 0:=by
 have k:ρ.at id (.cells t (xs.map .d))=some g:=hg
 have y:=h.blk_lt ho k
 obtain⟨g',p,⟨cur,H,G,I,J⟩,h6⟩:=h.sat id _ ho
 rw [hg]at p;injection p with p;subst p
 have hcl:cur.size=xs.length:=by simpa using G
 have C:cF ρ.S w w:= λ_ _ _=>rfl
 refine⟨⟨h.os,h.tape,h.output,h.size,h.old,λb i l=> .inl (h.sold b i l), ?_, ?_,h.kp, ?_, ?_, ?_,h.mv, ?_,h.md⟩, ?_, ?_⟩
 ·rintro b i (l|⟨rfl,_⟩) hb B
  ·exact h.snew b i l hb B
  ·rcases h.hb id _ _ ho k with q|q
   ·omega
   ·exact absurd q B
 ·rintro b i (l|⟨rfl,_⟩)
  ·exact h.slt b i l
  ·exact y
 ·intro j o e
  obtain⟨u,e⟩:=hsub j o e
  refine(h.sat j o e).keep C (λb i x=> .inl x) (λi _=>ρ.moved_withS _ i) ⟨rfl,rfl⟩ (λ_ _=>rfl) ?_
  rintro n r i (l|⟨rfl,_⟩)
  ·exact l
  ·exact absurd (h.inj j o id _ _ e ho r k) u
 ·intro j o A o' n a b c d
  exact h.inj j o A o' n (hsub _ _ a).2 (hsub _ _ b).2 (by cases o<;>exact c) (by cases o'<;>exact d)
 ·intro j o n a b
  exact h.hb j o n (hsub _ _ a).2 (by cases o<;>exact b)
 ·intro j F n a v b A o' c d
  exact h.ro j F n (hsub _ _ a).2 v b A o' (hsub _ _ c).2 (by cases o'<;>exact d)
 ·intro s m
  simp only [List.mem_singleton]at m
  rw [m]
 ·intro i s j x hi e
  have z:i=0:=by
   have:=(List.getElem?_eq_some_iff.1 hi).1
   simp at this;exact this
  subst z
  simp at hi
  subst hi
  have hjl:=(List.getElem?_eq_some_iff.1 e).1
  have f:j < cur.size:=by omega
  refine⟨cur[j], ?_, .inr ⟨rfl,by omega⟩,I _ (Array.getElem_mem f), ?_⟩
  ·rw [Nat.zero_mul,Nat.zero_add,Nat.zero_add,cell_of_row w _ j cur t (0,0) H]
   exact Array.getElem?_eq_getElem f
  ·have m:=J j (.d x) cur[j] (by rw [List.getElem?_map,e];rfl) (Array.getElem?_eq_getElem f)
   cases m with
   |d _ _ m=>exact m.mono C λb i x=> .inl x
theorem wZ: ∀(l:List Nat) {fr:Fr}{hp:Hp}{K:Fr->Hp->Prop}{E:Entry}{ρ:Env}{a:Act}{w:World},bCj l fr hp K->Mem E ρ hp w->dV ρ w fr a.tmps-> ∃fr' hp' ρ',K fr' hp'/\Mem E ρ' hp' w/\dV ρ' w fr' a.tmps
 | [],fr,hp,K,E,ρ,a,w,h,hm,hf=>⟨fr,hp,ρ,h,hm,hf⟩
 |t::r,fr,hp,K,E,ρ,a,w,h,hm,hf=>by
  simp only [bCj]at h
  unfold aYi at h
  split at h
  ·rename_i id A
   split at h
   ·rename_i ty cs y
    split at h
    ·rename_i xs d
     rw [rN]at h
     obtain⟨hp',h,c⟩:=aNa _ _ _ h
     have f:=aNn d
     subst f
     obtain⟨v,o,p⟩:=hf t _ A
     obtain⟨g,s,e1⟩:=p.ptr_inv
     obtain⟨j,n⟩:=hm.froz y s c
     refine wZ r h j ?_
     intro k x hx
     rw [kM]at hx
     by_cases e:k=t
     ·subst e
      simp at hx
      subst hx
      refine⟨v,o, ?_⟩
      subst e1
      have:=Rep.ea (w:=w) (ρ:=ρ.withS λb i=>ρ.S b i\/(b=g/\i < xs.length)) xs.length [xs] 0 0 g 0 n
      simpa using this
     ·simp [e]at hx
      obtain⟨u,m,z⟩:=hf k x hx
      exact⟨u,m,z.mono (λ_ _ _=>rfl) (λb i q=> .inl q) λi _=>ρ.moved_withS _ i⟩
    ·exact wZ r h hm hf
   ·exact wZ r h hm hf
  ·exact wZ r h hm hf
def bCe (C:Cfg) (all:List Oper) (o:Oper) (fr:Fr) (hp:Hp) (k:Fr->Hp->Prop):Prop:=
 wX all fr o.guard
  (λfr=>bEh C.P C.ti C.zc C.pin fr hp (C.off+o.dst.getD 0) o λs hp'=>put C o.dst s fr λfr'=>k fr' hp')
  (λfr=>put C o.dst (.d (.lit undef)) fr λfr'=>k fr' hp)
def aFo (C:Cfg) (all:List Oper) (K:Fr->Hp->Prop):List Oper->Fr->Hp->Prop
 | [],fr,hp=>uT C.keep fr λfr'=>bCj C.frz fr' hp K
 |o::r,fr,hp=>bCe C all o fr hp λfr' hp'=>aFo C all K r fr' hp'
inductive Ex where
 |normal|exit (id:Nat)|goto (l:Nat)|ret|pan
def Ex.rel:Ex->Exit->Prop
 | .normal, .normal=>True
 | .exit i, .exit j=>i=j
 | .goto i, .goto j=>i=j
 | .ret, .ret=>True
 | .pan, .panic ch=>Chn ch
 |_,_=>False
def KX (pin:Pin) (K:Ex->Fr->Hp->Prop):Ex->Fr->Hp->Prop
 | .pan,fr,hp=>pin.kp fr hp
 |x,fr,hp=>K x fr hp
theorem KX.mono {pin:Pin}{K K':Ex->Fr->Hp->Prop}(hk: ∀e fr hp,K e fr hp->K' e fr hp) {x:Ex}{fr:Fr}{hp:Hp}(h:KX pin K x fr hp):KX pin K' x fr hp:=by
 cases x<;>first|exact hk _ _ _ h|exact h
structure Ext (E E':Entry):Prop where
 w:E'.w=E.w
 S:E'.S=E.S
 B:E'.B=E.B
 pin:E'.pin=E.pin
 ρ:E'.ρ=E.ρ
 rd:E'.rd=E.rd
 D: ∃D',E'.D=D'++E.D/\E'.k=D'.length+E.k/\D'.Nodup/\ ∀b∈D',E.w.heap.size<=b/\b∉E.D
theorem Ext.refl (E:Entry):Ext E E:=⟨rfl,rfl,rfl,rfl,rfl,rfl,[],rfl,by simp, .nil,by simp⟩
theorem Ext.trans {A B C:Entry}(h:Ext A B) (k:Ext B C):Ext A C:=by
 obtain⟨D1,d1,j,f,d⟩:=h.D
 obtain⟨D2,e1,e2,l,c⟩:=k.D
 refine⟨k.w.trans h.w,k.S.trans h.S,k.B.trans h.B,k.pin.trans h.pin,k.ρ.trans h.ρ,k.rd.trans h.rd,D2++D1,by rw [e1,d1,List.append_assoc],by rw [e2,j,List.length_append];omega, ?_, ?_⟩
 ·refine List.nodup_append.2 ⟨l,f,λa i b hb e=> ?_⟩
  subst e
  exact(c a i).2 (by rw [d1];exact List.mem_append_left _ hb)
 ·intro b hb
  rcases List.mem_append.1 hb with hb|hb
  ·have:=c b hb
   rw [h.w,d1]at this
   exact⟨this.1,λg=>this.2 (List.mem_append_right _ g)⟩
  ·exact d b hb
def bB4 (rd:Option Nat) (E:Entry):Prop:=
 match rd with
 |none=>E.rd=none
 |some id=>id∈E.pin/\E.ρ.blk id=E.rd/\E.rd.isSome=true
theorem bB4.ext {rd:Option Nat}{E E':Entry}(h:bB4 rd E) (k:Ext E E'):bB4 rd E':=by
 unfold bB4 at *
 cases rd with
 |none=>exact k.rd.trans h
 |some id=>simp only at h |-;rw [k.pin,k.ρ,k.rd];exact h
def mS (C:Cfg) (E:Entry) (K:Ex->Fr->Hp->Prop) (e:Exit) (a:Act) (w:World):Prop:= ∃x fr hp E',Ext E E'/\Ex.rel x e/\KX C.pin K x fr hp/\Sat E' C.nt ⟨fr,hp⟩ a w
theorem mS.noOut {C:Cfg}{E:Entry}{K:Ex->Fr->Hp->Prop}:¬ LetsOut (mS C E K):=by
 rintro⟨a,w,x,fr,hp,E',_,h,_⟩
 cases x<;>exact h
def aK (C:Cfg) (c:Code) (fr:Fr) (hp:Hp) (K:Ex->Fr->Hp->Prop):Prop:=
 ∀(E:Entry) (a:Act) (w:World),E.pin=C.pin->bB4 C.rd E->Sat E C.nt ⟨fr,hp⟩ a w->c.wpIn (FW E.rd) 0 C.P (mS C E K) a w
def bCs (fr:Fr) (hp:Hp) (c:Operand) (a b:Fr->Hp->(Ex->Fr->Hp->Prop)->Prop) (K:Ex->Fr->Hp->Prop):Prop:=
 ev fr c λs=>(match s with| .d (.bool t)=>brB t (a fr hp K) (b fr hp K)|_=>aH "cond: no bool")
def X (C:Cfg):Code->Fr->Hp->(Ex->Fr->Hp->Prop)->Prop
 | .skip,fr,hp,K=>K .normal fr hp
 | .label _,fr,hp,K=>K .normal fr hp
 | .region id ops draw,fr,hp,K=>if draw then aK C (.region id ops true) fr hp K else aFo C ops.toList (K .normal) ops.toList fr hp
 | .seq a b,fr,hp,K=>X C a fr hp λe fr hp=>match e with| .normal=>X C b fr hp K|e=>K e fr hp
 | .cond c a b,fr,hp,K=>bCs fr hp c (λfr hp K=>X C a fr hp K) (λfr hp K=>X C b fr hp K) K
 | .block id c,fr,hp,K=>X C c fr hp λe fr hp=>match e with| .exit i=>if i=id then K .normal fr hp else K (.exit i) fr hp|e=>K e fr hp
 | .loop c,fr,hp,K=>aK C (.loop c) fr hp K
 | .exit id,fr,hp,K=>K (.exit id) fr hp
 | .goto l,fr,hp,K=>K (.goto l) fr hp
 | .ret,fr,hp,K=>K .ret fr hp
 |c,fr,hp,K=>aK C c fr hp K
theorem uV {C:Cfg}(hti:fH C.P C.ti) {all:List Oper}{K:Fr->Hp->Prop}{E:Entry}{Q:Exit->Act->World->Prop}(hpin:E.pin=C.pin) (hQ: ∀fr hp a w,K fr hp->Sat E C.nt ⟨fr,hp⟩ a w->Q .normal a w) (hQp: ∀p fr hp a w,Chn p->C.pin.kp fr hp->Sat E C.nt ⟨fr,hp⟩ a w->Q (.panic p) a w):
  ∀(l:List Oper) (k:Nat) (fr:Fr) (hp:Hp) (a:Act) (w:World),all.drop k=l->aFo C all K l fr hp->Sat E C.nt ⟨fr,hp⟩ a w->wpOpsIn (FW E.rd) 0 C.P all.toArray Q (List.range' k l.length) a w:=by
 intro l
 induction l with
 |nil=>
  intro k fr hp a w _ h F
  simp only [aFo,oU]at h
  obtain⟨c,j,ρ,n,g⟩:=F
  simp only [List.length_nil,List.range'_zero,wpOpsIn]
  obtain⟨b,hp',m,f,e,x⟩:=wZ C.frz (a:=a) h n (λt s u=>g t s (mI _ _ t s u))
  exact hQ _ hp' a w f ⟨c,j,m,e,x⟩
 |cons o r ih=>
  intro k fr hp a w H h F
  simp only [aFo,bCe]at h
  obtain⟨c,j,ρ,n,g⟩:=F
  have D:all.toArray[k]? =some o:=by
   have:all[k]? =some o:=by
    have:=congrArg (λl=>l[0]?) H
    simpa [List.getElem?_drop]using this
   simpa using this
  have i:all.drop (k+1)=r:=by
   rw [<-List.drop_drop,H];rfl
  simp only [List.length_cons,List.range'_succ,wpOpsIn,D]
  obtain⟨A,g,J⟩:=gI h g
  rcases J with⟨G,h⟩|⟨G,h⟩
  ·simp only [G,if_true]
   refine bEg hti h E ρ a w hpin n g _ Q (λv w' m s hp' q B y z=> ?_) (λp w' m hp' I f e x=>hQp p A hp' a w' I f ⟨c,j,m,e,x⟩)
   obtain⟨b,f,e⟩:=gY q c y z
   exact ih (k+1) b hp' _ w' i f ⟨by rw [cH];exact c,by rw [put_defers];exact j,m,B,e⟩
  ·simp only [G,Bool.false_eq_true,if_false]
   obtain⟨b,f,e⟩:=gY h c g (Rep.d _ undef (.lit undef))
   exact⟨λ_ _=>trivial,ih (k+1) b hp _ w i f ⟨by rw [cH];exact c,by rw [put_defers];exact j,ρ,n,e⟩⟩
theorem nM {C:Cfg}(hti:fH C.P C.ti): ∀(c:Code) (fr:Fr) (hp:Hp) (K:Ex->Fr->Hp->Prop),X C c fr hp K->aK C c fr hp K:=by
 intro c
 induction c with
 |skip=>intro fr hp K h E a w _ _ i;exact wpIn_skip ⟨.normal,fr,hp,E, .refl E,trivial,h,i⟩
 |label l=>intro fr hp K h E a w _ _ i;exact wpIn_label ⟨.normal,fr,hp,E, .refl E,trivial,h,i⟩
 |region id ops draw=>
  intro fr hp K h
  simp only [X]at h
  cases draw
  ·simp at h
   intro E a w d _ i
   refine wpIn_region ?_
   have:=uV (C:=C) hti (all:=ops.toList) (Q:=mS C E K) d (λfr hp a w j i=>⟨.normal,fr,hp,E, .refl E,trivial,j,i⟩) (λch fr hp a w v j i=>⟨.pan,fr,hp,E, .refl E,v,j,i⟩) ops.toList 0 fr hp a w rfl h i
   simpa [List.range_eq_range']using this
  ·simpa using h
 |seq x y ihx ihy=>
  intro fr hp K h E a w d m i
  simp only [X]at h
  refine wpIn_seq (wpIn_mono (ihx fr hp _ h E a w d m i) ?_)
  rintro e a' w' ⟨ex,f,hp',E',k,b,j,g⟩
  cases ex<;>cases e<;>simp only [Ex.rel]at b
  ·have:=ihy f hp' K j E' a' w' (k.pin.trans d) (m.ext k) g
   rw [k.rd]at this
   exact wpIn_mono this λe a w ⟨ex,f,hp',E'',hE',rest⟩=>⟨ex,f,hp',E'',k.trans hE',rest⟩
  ·exact⟨.exit _,f,hp',E',k,b,j,g⟩
  ·exact⟨.goto _,f,hp',E',k,b,j,g⟩
  ·exact⟨.ret,f,hp',E',k,b,j,g⟩
  ·exact⟨.pan,f,hp',E',k,b,j,g⟩
 |cond c x y ihx ihy=>
  intro fr hp K h E a w d m i
  simp only [X,bCs]at h
  obtain⟨s,o,n⟩:=dB h
  obtain⟨q,u,ρ,r,p⟩:=i
  have z:=aV p o
  split at n
  ·rename_i t
   refine wpIn_cond (t:=t) z.bool_inv ?_
   cases t
   ·exact ihy fr hp K (aXu n rfl) E a w d m ⟨q,u,ρ,r,p⟩
   ·exact ihx fr hp K (aXt n rfl) E a w d m ⟨q,u,ρ,r,p⟩
  ·exact n.elim
 |block id c ih=>
  intro fr hp K h E a w d m i
  simp only [X]at h
  refine wpIn_block (wpIn_mono (ih fr hp _ h E a w d m i) ?_)
  rintro e a' w' ⟨ex,f,hp',E',k,b,j,g⟩
  cases ex<;>cases e<;>simp only [Ex.rel]at b
  ·exact⟨.normal,f,hp',E',k,trivial,j,g⟩
  ·subst b
   simp only [Exit.inBlock]
   split
   ·rename_i e;simp only [KX,e,if_true]at j;exact⟨.normal,f,hp',E',k,trivial,j,g⟩
   ·rename_i e;simp only [KX,e,if_false]at j;exact⟨.exit _,f,hp',E',k,rfl,j,g⟩
  ·exact⟨.goto _,f,hp',E',k,b,j,g⟩
  ·exact⟨.ret,f,hp',E',k,b,j,g⟩
  ·exact⟨.pan,f,hp',E',k,b,j,g⟩
 |loop c _=>intro fr hp K h;exact h
 |rangeFunc=>intro fr hp K h;exact h
 |exit id=>intro fr hp K h E a w _ _ i;exact wpIn_exit ⟨.exit id,fr,hp,E, .refl E,rfl,h,i⟩
 |scope body _=>intro fr hp K h;exact h
 |goto l=>intro fr hp K h E a w _ _ i;exact wpIn_goto ⟨.goto l,fr,hp,E, .refl E,rfl,h,i⟩
 |ret=>intro fr hp K h E a w _ _ i;exact wpIn_ret ⟨.ret,fr,hp,E, .refl E,trivial,h,i⟩
 |refuse=>intro fr hp K h;exact h
end
end
end Go.Proofs.YtbobcfjlbcgchaaGreatDoor
