/-
  Rows known cell by cell: slices of them, copy, append of zero values; and back to rows. Arrays of numbers: are two equal? And a row of a package-level array. Rows known cell by cell: at a call's begin and end. Terms: concepts and axioms as data.
  Conditions: none.
-/
import Derived.Test.YtbobcfjlbcgchaaGreatDoorVSna
import Derived.Lib.AppendZerosOnto
set_option linter.unnecessarySimpa false
set_option linter.unusedSectionVars false
set_option linter.unusedSimpArgs false
set_option linter.unusedVariables false
namespace Go.Proofs.YtbobcfjlbcgchaaGreatDoor
open Go.RowKit
section
variable {P:Program}
def slT (ti:TypeId->Option TI) (t:TypeId):Option (TypeId×TI):=
 match ti t with
 |some { td:= .slice e, .. }=>(match ti e with|some T=>some (e,T)|none=>none)
 |_=>none
theorem zG {ti:TypeId->Option TI}(hti:dX P ti) {t e:TypeId}{T:TI}(h:slT ti t=some (e,T)):P.underlying t=some (.slice e)/\ ∃d i z,TIok P e T d i z:=by
 unfold slT at h
 split at h
 ·rename_i e' _ _ _ hT
  obtain⟨d,i,z,hT⟩:=aM (hti _ _ hT)
  have hd:=cF hT.td
  subst hd
  split at h
  ·rename_i T' hT2
   simp only [Option.some.injEq,Prod.mk.injEq]at h
   obtain⟨rfl,rfl⟩:=h
   exact⟨hT.und,aM (hti _ _ hT2)⟩
  ·cases h
 ·cases h
theorem aLr {ti:TypeId->Option TI}(hti:dX P ti) {o:Oper}{t e:TypeId}{T:TI}{x:Operand}{lo hi:Option Operand}(ho:o.op= .slice t x lo hi none) (hT:slT ti t=some (e,T)) {a:Act}{A:Option Addr}{len cap a' b m':Nat}
  (e1:a.eval x= .slice A len cap) {w':World} (e2:(Instr.sliceBounds true len cap (lo.map a.eval) (hi.map a.eval) none).run P w'= .ok (a',b,m') w'):
  (execOp a.eval o).run P w'= .ok (.value (.slice (if m'=a' then A else A.map (·.add (a' * T.size))) (b - a') (m' - a'))) w':=by
 obtain⟨hu,d,i,z,hT2⟩:=zG hti hT
 simp [execOp,ho,Instr.sliceAt,run_underlying hu,Instr.slice,e1,e2,hT2.run_size]
end
end Go.Proofs.YtbobcfjlbcgchaaGreatDoor
namespace Go.Proofs.YtbobcfjlbcgchaaGreatDoor
open Go.RowKit
section
variable {P:Program}
def aR6 (P:Program) (t:TypeId):Bool:= !P.eqGuardType P.depth t
def pP (td:TD):List D->List D->Option Bool
 | [],[]=>some true
 |x::xs,y::ys=>match aDi td x y with
  |some c=>match pP td xs ys with|some b=>some (c && b)|none=>none
  |none=>none
 |_,_=>none
theorem xM {td:TD}: ∀{xs ys:List D}{b:Bool},pP td xs ys=some b->xs.length=ys.length
 | [],[],_,_=>rfl
 |x::xs,y::ys,b,h=>by
  simp only [pP]at h
  split at h
  ·split at h
   ·rename_i h'
    simp [xM h']
   ·cases h
  ·cases h
 | [],_::_,_,h=>by simp [pP]at h
 |_::_,[],_,h=>by simp [pP]at h
theorem vP {t:TypeId}{T:TI}{dd:TypeDesc}{i:TypeInfo}{z:Value}(hT:TIok P t T dd i z) (ha:T.td.isAgg=false) {w:World}{S:Nat->Nat->Prop}(d:Nat) (w':World): ∀(xs ys:List D) (b:Bool) (k:Nat) (us vs:Array Value),pP T.td xs ys=some b->
  (∀(j:Nat) (x:D),xs[j]? =some x-> ∃u,us[k+j]? =some u/\RepD w S x u)->(∀(j:Nat) (x:D),ys[j]? =some x-> ∃u,vs[k+j]? =some u/\RepD w S x u)->
  (forIn (m := Sem) (List.range' k xs.length) ((none, ()) : Option Bool × Unit) (λi _ => do
    let x <-part t us i
    let y <-part t vs i
    let c <-Op.equalIn (d+1) t x y
    if (!c)=true then pure (ForInStep.done (some false,()))else pure (ForInStep.yield (none,())))).run P w'= .ok ((if b then none else some false),()) w'
 | [],[],b,k,us,vs,h,_,_=>by
  simp [pP]at h
  subst h
  simp
 |x::xs,y::ys,b,k,us,vs,h,hx,hy=>by
  simp only [pP]at h
  split at h
  ·rename_i c hc
   split at h
   ·rename_i b' hb'
    injection h with h
    obtain⟨u,u1,u2⟩:=hx 0 x rfl
    obtain⟨v,v1,v2⟩:=hy 0 y rfl
    have hr:=zL (P:=P) hc u2 v2 hT rfl d w'
    have ih := vP hT ha d w' xs ys b' (k + 1) us vs hb' (λj x' h' => by
     obtain⟨q,q1,q2⟩:=hx (j+1) x' (by simpa using h')
     exact⟨q,by rw [<-q1];congr 1;omega,q2⟩) (λj x' h'=>by
     obtain⟨q,q1,q2⟩:=hy (j+1) x' (by simpa using h')
     exact⟨q,by rw [<-q1];congr 1;omega,q2⟩)
    simp only [Nat.add_zero]at u1 v1
    simp only [List.length_cons,List.range'_succ,List.forIn_cons,Sem.run_bind,iV hT,ha,Bool.false_eq_true,if_false,u1,v1,Result.andThen_ok,hr,Sem.run_ite]
    cases c
    ·simp at h
     subst h
     simp
    ·simp at h
     subst h
     simpa using ih
   ·cases h
  ·cases h
 | [],_::_,_,_,_,_,h,_,_=>by simp [pP]at h
 |_::_,[],_,_,_,_,h,_,_=>by simp [pP]at h
theorem lU {t e:TypeId}{n:Nat}{T:TI}{dd:TypeDesc}{i:TypeInfo}{z:Value}(ht:P.underlying t=some (.array n e)) (hT:TIok P e T dd i z) (h1:T.size=1) {d:Nat}{us vs:Array Value}{w':World}{b:Bool}
  (h : (forIn (m := Sem) (List.range' 0 n) ((none, ()) : Option Bool × Unit) (λi _ => do
    let x <-part e us i
    let y <-part e vs i
    let c <-Op.equalIn (d+1) e x y
    if (!c)=true then pure (ForInStep.done (some false,()))else pure (ForInStep.yield (none,())))).run P w'= .ok ((if b then none else some false),()) w'):
  (Op.equalIn (d+2) t (.agg us) (.agg vs)).run P w'= .ok b w':=by
 rw [Op.equalIn]
 simp only [Sem.run_bind,run_underlying ht,Result.andThen_ok,hT.run_size w',h1,Nat.mul_one]
 rw [Std.Legacy.Range.forIn_eq_forIn_range']
 simp only [Std.Legacy.Range.size,Nat.sub_zero,Nat.add_sub_cancel,Nat.div_one]
 first|rw [h]|erw [h]
 cases b<;>simp
theorem aTt {ti:TypeId->Option TI}(hti:dX P ti) {o:Oper}{t t' e:TypeId}{n:Nat}{x y:Operand}(ho:o.op= .binOp .eql t x y t') {Ts T:TI}(hT:ti t=some Ts) (htd:Ts.td= .array n e) (hE:ti e=some T) (ha:T.td.isAgg=false) (h1:T.size=1) (hg:aR6 P t=true) {fr:Fr}{hp:Hp}{K:SV->Prop}{xs ys:List D}{b:Bool}
  (hx:evO fr x=some (.d (.agg xs))) (hy:evO fr y=some (.d (.agg ys))) (hn:xs.length=n) (hb:pP T.td xs ys=some b) (hk:K (.d (.bool b))):bS P o fr hp K:=by
 intro E ρ a w hm hf
 obtain⟨us,e1,hl1,hh1⟩:=(aR hf hx).dagg_inv
 obtain⟨vs,e2,hl2,hh2⟩:=(aR hf hy).dagg_inv
 obtain⟨d0,i0,z0,hT0⟩:=aM (hti _ _ hT)
 obtain⟨d1,i1,z1,hE1⟩:=aM (hti _ _ hE)
 have hd:d0= .array n e:=by
  have:=hT0.td
  rw [htd]at this
  cases d0<;>simp [aBz]at this
  obtain⟨rfl,rfl⟩:=this
  rfl
 subst hd
 have hlen:=xM hb
 refine⟨.bool b,_,λw' _=> ?_, .d _ _ (.bool _),hk⟩
 have k2:P.eqGuardType P.depth t=false:=by simpa [aR6]using hg
 have hrun := vP (P := P) hE1 ha (w := w) (S := ρ.S) 9998 w' xs ys b 0 us vs hb (λj x h => by
  have hj:=(List.getElem?_eq_some_iff.1 h).1
  exact⟨us[j]'(by omega),by rw [Nat.zero_add];exact Array.getElem?_eq_getElem (by omega),hh1 j x _ h (Array.getElem?_eq_getElem (by omega))⟩) (λj x h=>by
  have hj:=(List.getElem?_eq_some_iff.1 h).1
  exact⟨vs[j]'(by omega),by rw [Nat.zero_add];exact Array.getElem?_eq_getElem (by omega),hh2 j x _ h (Array.getElem?_eq_getElem (by omega))⟩)
 have heq:(Op.equalIn 10000 t (.agg us) (.agg vs)).run P w'= .ok b w':=lU hT0.und hE1 h1 (by rw [<-hn];exact hrun)
 simp only [execOp,ho,e1,e2,Sem.run_bind,run_eqGuard_agg w' _ t x y us vs k2,Result.andThen_ok,run_eql_struct,heq]
 rfl
theorem cR {ti:TypeId->Option TI}(hti:dX P ti) {o:Oper}{t e:TypeId}{g m z:Nat}{y:Operand}(ho:o.op= .indexAddr t (.global g) y) {Ts T:TI}(hT:ti t=some Ts) (htd:Ts.td= .array m e) (hE:ti e=some T) {fr:Fr}{hp:Hp}{K:SV->Prop}{id:Nat}{rows:List (List D)}
  (hg:aN hp id=some (.glob g z rows)) (hz:T.size=z) {k:IntKind} {n:Int} (hy:evO fr y=some (.d (.int k n))) (h0:0<=n) (h1:n.toNat < m) (hk:K (.ea z rows n.toNat 0)):bS P o fr hp K:=by
 intro E ρ a w hm hf
 have ei:=(aR hf hy).int_inv
 obtain⟨d0,i0,z0,hT0⟩:=aM (hti _ _ hT)
 obtain⟨d1,i1,z1,hE1⟩:=aM (hti _ _ hE)
 have hd:d0= .array m e:=by
  have:=hT0.td
  rw [htd]at this
  exact kJ this
 subst hd
 have hv:View w ρ.S z rows g 0:=hm.sat id _ hg
 have e1:a.eval (.global g)= .pointer (some ⟨g,0,none⟩):=rfl
 refine⟨.pointer (some (Addr.add ⟨g,0,none⟩ (n.toNat * T.size))),_,λw' _=> ?_, ?_,hk⟩
 ·have:=fT (P:=P) hT0.und hE1 w' ⟨g,0,none⟩ k n h0 h1
  simp [execOp,ho,e1,ei,this]
 ·rw [cN,hz]
  exact .ea z rows n.toNat 0 g 0 hv
theorem aJ.mownC {C:Cfg}{c:Code}{fr:Fr}{hp:Hp}{K:Ex->Fr->Hp->Prop}(i id t e z k:Nat) {cs:List SV}(hnil:aN hp i=some (.cells t cs)) (hk:cs[k]? =some (.d .nil)) (hfr:eN id C.pin fr hp)
  (h:aJ C c fr ((id, .mrow e z 0 [])::dU hp i (.cells t (cs.set k (.mw id z 0)))) K):aJ C c fr hp K:=by
 intro E a w hpin hrd hsat
 obtain⟨h1,h2,ρ,h3,h4⟩:=hsat
 obtain⟨f1,f2,f3⟩:=hfr
 obtain⟨m1,m2,m3⟩:=h3.newMrow (id:=id) (e:=e) (z:=z) (cap:=0) (rows:=[]) (v:= .slice none 0 0) f3 (by rw [hpin];exact f1) (Grew.refl w) (.inl ⟨rfl,rfl,none,rfl⟩) (λg hg=>by simp [eM]at hg)
 have hne:i≠id:= λe=>f3 (by subst e;exact bJ hnil (.inl rfl))
 have hi':aN ((id,HObj.mrow e z 0 [])::hp) i=some (.cells t cs):=by
  simp only [aN];rw [if_neg (Ne.symm hne)];exact hnil
 have hkl:k < cs.length:=(List.getElem?_eq_some_iff.1 hk).1
 have m4 := m1.recell hi' (cs' := cs.set k (.mw id z 0)) (by simp) (λj s' v hs' hv => by
  by_cases e:j=k
  ·subst e
   rw [List.getElem?_set_self hkl]at hs'
   injection hs' with hs'
   subst hs'
   have:=(hv _ hk).nil_inv
   subst this
   exact .mw id z 0 0 none (by simp) (by simp) (λh=>absurd rfl h) (by simp) (by simp [Env.retop])
  ·rw [List.getElem?_set_ne (Ne.symm e)]at hs'
   exact hv _ hs')
 have e2:dU ((id,HObj.mrow e z 0 [])::hp) i (.cells t (cs.set k (.mw id z 0)))=(id, .mrow e z 0 [])::dU hp i (.cells t (cs.set k (.mw id z 0))):=by
  simp only [dU];rw [if_neg (Ne.symm hne)]
 rw [e2]at m4
 exact h E a w hpin hrd ⟨h1,h2,_,m4,h4.mono (ρ':=ρ.retop id 0 (.slice none 0 0)) m2 (λ_ _ x=>x) λj hj=>m3 j λe=>f2 (e ▸ hj)⟩
end
end Go.Proofs.YtbobcfjlbcgchaaGreatDoor
namespace Go.Proofs.YtbobcfjlbcgchaaGreatDoor
open Go.RowKit
section
variable {P:Program}
end
end Go.Proofs.YtbobcfjlbcgchaaGreatDoor
namespace Go.Proofs.YtbobcfjlbcgchaaGreatDoor
open Go.Proofs
inductive Cn where
 |mk (kind:Int) (name:List UInt8) (lo hi:Int) (parts:List Cn)
def Cn.kind:Cn->Int| .mk k _ _ _ _=>k
def Cn.name:Cn->List UInt8| .mk _ n _ _ _=>n
def Cn.lo:Cn->Int| .mk _ _ l _ _=>l
def Cn.hi:Cn->Int| .mk _ _ _ h _=>h
def Cn.parts:Cn->List Cn| .mk _ _ _ _ p=>p
mutual
def cnR:Cn->List D
 | .mk k n lo hi ps=>[.int .i64 k, .str n, .int .i64 lo, .int .i64 hi, .sl 5 (aVp ps)]
def aVp:List Cn->List (List D)
 | []=>[]
 |c::r=>cnR c::aVp r
end
theorem aBq: ∀l,aVp l=l.map cnR
 | []=>rfl
 |c::r=>by rw [aVp,aBq r];rfl
theorem aT (c:Cn):cnR c=[.int .i64 c.kind, .str c.name, .int .i64 c.lo, .int .i64 c.hi, .sl 5 (c.parts.map cnR)]:=by
 cases c;rw [cnR,aBq];rfl
def cv (c:Cn):D:= .agg (cnR c)
def cnl (l:List Cn):D:= .sl 5 (l.map cnR)
mutual
theorem Cn.ind {p:Cn->Prop}(h: ∀c,(∀q∈c.parts,p q)->p c): ∀c,p c
 | .mk k n lo hi ps=>h _ (Cn.indL h ps)
theorem Cn.indL {p:Cn->Prop}(h: ∀c,(∀q∈c.parts,p q)->p c): ∀(l:List Cn),∀q∈l,p q
 | []=>by simp
 |c::r=>by
  intro q hq
  rcases List.mem_cons.1 hq with e|e
  ·rw [e];exact Cn.ind h c
  ·exact Cn.indL h r q e
end
def eO (s:List UInt8):List D:=[.str s]
def aKk (l:List (List UInt8)):D:= .sl 1 (l.map eO)
structure Ax where
 kind:Int
 isopen:Bool
 left:Cn
 right:Cn
 roles:List (List UInt8)
 role:List UInt8
 a:List UInt8
 b:List UInt8
def axR (x : Ax) : List D := [.int .i64 x.kind, .bool x.isopen, .int .i64 x.left.kind, .str x.left.name, .int .i64 x.left.lo, .int .i64 x.left.hi, cnl x.left.parts,
 .int .i64 x.right.kind, .str x.right.name, .int .i64 x.right.lo, .int .i64 x.right.hi,cnl x.right.parts,aKk x.roles, .str x.role, .str x.a, .str x.b]
theorem aRi {id:Nat}{pin:Pin}{fr0 fr:Fr}{hp:Hp}(h1: ∀k,100<=k->k∉pin) (h2: ∀k,100<=k->k∉eQ fr0) (h4: ∀k,100<=k->k∉fG hp) (hid:100<=id) (h3:(eQ fr).all (λk=>decide (k < 100))=true):eN id (pin.under fr0 (eQ fr0)) fr hp:=by
 refine⟨?_, ?_,h4 id hid⟩
 ·simp [h1 id hid,h2 id hid]
 ·intro hm
  have:=List.all_eq_true.1 h3 id hm
  simp at this
  omega
theorem aQz {k0:Nat}{o:HObj}{hp:Hp}(h0:k0 < 100) (h1:o.ids=[]) (h2: ∀k,100<=k->k∉fG hp): ∀k,100<=k->k∉fG ((k0,o)::hp):=by
 intro k hk hm
 simp only [fG,List.flatMap_cons,List.mem_append,List.mem_cons,h1,List.not_mem_nil,or_false]at hm
 rcases hm with hm|hm
 ·omega
 ·exact h2 k hk hm
theorem aUf {pin:Pin}{fr0:Fr}(h1: ∀k,100<=k->k∉pin) (h2: ∀k,100<=k->k∉eQ fr0): ∀k,100<=k->k∉pin.under fr0 (eQ fr0):=by
 intro k hk;simp [h1 k hk,h2 k hk]
theorem aUg {fr:Fr}(h3:(eQ fr).all (λk=>decide (k < 100))=true): ∀k,100<=k->k∉eQ fr:=by
 intro k hk hm
 have:=List.all_eq_true.1 h3 k hm
 simp at this
 omega
theorem bV {α:Type}{f:α->List D}{l:List α}{i:Nat}(h:i < l.length):(l.map f)[((i:Nat):Int).toNat]? =some (f l[i]):=by
 rw [Int.toNat_natCast,List.getElem?_map,List.getElem?_eq_getElem h];rfl
end Go.Proofs.YtbobcfjlbcgchaaGreatDoor
