/-
  Rows known cell by cell: slices of them, copy, append of zero values; and back to rows. Arrays of numbers: are two equal? And a row of a package-level array. Rows known cell by cell: at a call's begin and end. Terms: concepts and axioms as data.
  Conditions: none.
-/
import Derived.Test.YtfhoddcminbffaaGreatDoorVSna
import Derived.Lib.AppendZerosOnto
import Derived.Test.YtfhoddcminbffaaGreatDoorVSw
set_option linter.unnecessarySimpa false
set_option linter.unusedSectionVars false
set_option linter.unusedSimpArgs false
set_option linter.unusedVariables false
namespace Go.Proofs.YtfhoddcminbffaaGreatDoor
open Go.RowKit
section
variable {P:Program}
def slT (ti:TypeId->Option TI) (t:TypeId):Option (TypeId×TI):=
 match ti t with
 |some { td:= .slice e, .. }=>(match ti e with|some T=>some (e,T)|none=>none)
 |_=>none
theorem aEd {ti:TypeId->Option TI}(hti:dS P ti) {t e:TypeId}{T:TI}(h:slT ti t=some (e,T)):P.underlying t=some (.slice e)/\ ∃d i z,TIok P e T d i z:=by
 unfold slT at h
 split at h
 ·rename_i e' _ _ _ hT
  obtain⟨d,i,z,hT⟩:=aP (hti _ _ hT)
  have hd:=bS hT.td
  subst hd
  split at h
  ·rename_i T' hT2
   simp only [Option.some.injEq,Prod.mk.injEq]at h
   obtain⟨rfl,rfl⟩:=h
   exact⟨hT.und,aP (hti _ _ hT2)⟩
  ·cases h
 ·cases h
theorem aEc {ti:TypeId->Option TI}(hti:dS P ti) {o:Oper}{t e:TypeId}{T:TI}{x:Operand}{lo hi:Option Operand}(ho:o.op= .slice t x lo hi none) (hT:slT ti t=some (e,T)) {a:Act}{A:Option Addr}{len cap a' b m':Nat}
  (e1:a.eval x= .slice A len cap) {w':World} (e2:(Instr.sliceBounds true len cap (lo.map a.eval) (hi.map a.eval) none).run P w'= .ok (a',b,m') w'):
  (execOp a.eval o).run P w'= .ok (.value (.slice (if m'=a' then A else A.map (·.add (a' * T.size))) (b - a') (m' - a'))) w':=by
 obtain⟨hu,d,i,z,hT2⟩:=aEd hti hT
 simp [execOp,ho,Instr.sliceAt,run_underlying hu,Instr.slice,e1,e2,hT2.run_size]
end
end Go.Proofs.YtfhoddcminbffaaGreatDoor
namespace Go.Proofs.YtfhoddcminbffaaGreatDoor
open Go.RowKit
section
variable {P:Program}
theorem cM {ti:TypeId->Option TI}(hti:dS P ti) {o:Oper}{t e:TypeId}{g m z:Nat}{y:Operand}(ho:o.op= .indexAddr t (.global g) y) {Ts T:TI}(hT:ti t=some Ts) (htd:Ts.td= .array m e) (hE:ti e=some T) {fr:Fr}{hp:Hp}{K:SV->Prop}{id:Nat}{rows:List (List D)}
  (hg:bB hp id=some (.glob g z rows)) (hz:T.size=z) {k:IntKind} {n:Int} (hy:evO fr y=some (.d (.int k n))) (h0:0<=n) (h1:n.toNat < m) (hk:K (.ea z rows n.toNat 0)):dQ P o fr hp K:=by
 intro E ρ a w hm hf
 have ei:=(aX hf hy).int_inv
 obtain⟨d0,i0,z0,hT0⟩:=aP (hti _ _ hT)
 obtain⟨d1,i1,z1,hE1⟩:=aP (hti _ _ hE)
 have hd:d0= .array m e:=by
  have:=hT0.td
  rw [htd]at this
  exact iT this
 subst hd
 have hv:View w ρ.S z rows g 0:=hm.sat id _ hg
 have e1:a.eval (.global g)= .pointer (some ⟨g,0,none⟩):=rfl
 refine⟨.pointer (some (Addr.add ⟨g,0,none⟩ (n.toNat * T.size))),_,λw' _=> ?_, ?_,hk⟩
 ·have:=fK (P:=P) hT0.und hE1 w' ⟨g,0,none⟩ k n h0 h1
  simp [execOp,ho,e1,ei,this]
 ·rw [cE,hz]
  exact .ea z rows n.toNat 0 g 0 hv
theorem aHs {o:Oper}{x y:Operand}{ts:Array TypeId}(ho:o.op= .call { callee:= .builtin .max,args:= #[x,y],argTypes:=ts }) {pin:List Nat}{fr:Fr}{hp:Hp}{K:SV->Hp->Prop}{k k':IntKind}{a b:Int}
  (hx:evO fr x=some (.d (.int k a))) (hy:evO fr y=some (.d (.int k' b))) (hk:K (.d (.int k (max a b))) hp):bN P o pin fr hp K:=by
 intro E ρ ac w _ hm hf next Q hn
 have e1:=(aX hf hx).int_inv
 have e2:=(aX hf hy).int_inv
 have hrun:(execOp ac.eval o).run P w= .ok (.value (.int k (max a b))) w:=by
  have:(if b >a then b else a)=max a b:=by omega
  simp [aT ho,builtin,Builtin.max_,Builtin.max2,e1,e2,this]
 exact cN hrun (hn _ _ ρ _ _ hk hm hf (.d _ _ (.int _ _)))
theorem aV.mownC {C:Cfg}{c:Code}{fr:Fr}{hp:Hp}{K:Ex->Fr->Hp->Prop}(i id t e z k:Nat) {cs:List SV}(hnil:bB hp i=some (.cells t cs)) (hk:cs[k]? =some (.d .nil)) (hfr:fB id C.pin fr hp)
  (h:aV C c fr ((id, .mrow e z 0 [])::nT hp i (.cells t (cs.set k (.mw id z 0)))) K):aV C c fr hp K:=by
 intro E a w hpin hrd hsat
 obtain⟨h1,h2,ρ,h3,h4⟩:=hsat
 obtain⟨f1,f2,f3⟩:=hfr
 obtain⟨m1,m2,m3⟩:=h3.newMrow (id:=id) (e:=e) (z:=z) (cap:=0) (rows:=[]) (v:= .slice none 0 0) f3 (by rw [hpin];exact f1) (Grew.refl w) (.inl ⟨rfl,rfl,none,rfl⟩) (λg hg=>by simp [eP]at hg)
 have hne:i≠id:= λe=>f3 (by subst e;exact bQ hnil (.inl rfl))
 have hi':bB ((id,HObj.mrow e z 0 [])::hp) i=some (.cells t cs):=by
  simp only [bB];rw [if_neg (Ne.symm hne)];exact hnil
 have hkl:k < cs.length:=(List.getElem?_eq_some_iff.1 hk).1
 have m4 := m1.recell hi' (cs' := cs.set k (.mw id z 0)) (by simp) (λj s' v hs' hv => by
  by_cases e:j=k
  ·subst e
   rw [List.getElem?_set_self hkl]at hs'
   injection hs' with hs'
   subst hs'
   have:=(hv _ hk).nil_inv
   subst this
   exact .mw id z 0 0 none (by simp) (by simp) (λh=>absurd rfl h) (by simp) (by simp [Env.retop])
  ·rw [List.getElem?_set_ne (Ne.symm e)]at hs'
   exact hv _ hs')
 have e2:nT ((id,HObj.mrow e z 0 [])::hp) i (.cells t (cs.set k (.mw id z 0)))=(id, .mrow e z 0 [])::nT hp i (.cells t (cs.set k (.mw id z 0))):=by
  simp only [nT];rw [if_neg (Ne.symm hne)]
 rw [e2]at m4
 exact h E a w hpin hrd ⟨h1,h2,_,m4,h4.mono (ρ':=ρ.retop id 0 (.slice none 0 0)) m2 (λ_ _ x=>x) λj hj=>m3 j λe=>f2 (e ▸ hj)⟩
end
end Go.Proofs.YtfhoddcminbffaaGreatDoor
namespace Go.Proofs.YtfhoddcminbffaaGreatDoor
open Go.RowKit
section
variable {P:Program}
end
end Go.Proofs.YtfhoddcminbffaaGreatDoor
namespace Go.Proofs.YtfhoddcminbffaaGreatDoor
open Go.Proofs
inductive Cn where
 |mk (kind:Int) (name:List UInt8) (lo hi:Int) (parts:List Cn)
def Cn.kind:Cn->Int| .mk k _ _ _ _=>k
def Cn.name:Cn->List UInt8| .mk _ n _ _ _=>n
def Cn.lo:Cn->Int| .mk _ _ l _ _=>l
def Cn.hi:Cn->Int| .mk _ _ _ h _=>h
def Cn.parts:Cn->List Cn| .mk _ _ _ _ p=>p
mutual
def cnR:Cn->List D
 | .mk k n lo hi ps=>[.int .i64 k, .str n, .int .i64 lo, .int .i64 hi, .sl 5 (aL1 ps)]
def aL1:List Cn->List (List D)
 | []=>[]
 |c::r=>cnR c::aL1 r
end
theorem wA: ∀l,aL1 l=l.map cnR
 | []=>rfl
 |c::r=>by rw [aL1,wA r];rfl
theorem aJ (c:Cn):cnR c=[.int .i64 c.kind, .str c.name, .int .i64 c.lo, .int .i64 c.hi, .sl 5 (c.parts.map cnR)]:=by
 cases c;rw [cnR,wA];rfl
def cv (c:Cn):D:= .agg (cnR c)
def cnl (l:List Cn):D:= .sl 5 (l.map cnR)
mutual
theorem Cn.ind {p:Cn->Prop}(h: ∀c,(∀q∈c.parts,p q)->p c): ∀c,p c
 | .mk k n lo hi ps=>h _ (Cn.indL h ps)
theorem Cn.indL {p:Cn->Prop}(h: ∀c,(∀q∈c.parts,p q)->p c): ∀(l:List Cn),∀q∈l,p q
 | []=>by simp
 |c::r=>by
  intro q hq
  rcases List.mem_cons.1 hq with e|e
  ·rw [e];exact Cn.ind h c
  ·exact Cn.indL h r q e
end
def dR (s:List UInt8):List D:=[.str s]
def aLt (l:List (List UInt8)):D:= .sl 1 (l.map dR)
structure Ax where
 kind:Int
 isopen:Bool
 left:Cn
 right:Cn
 roles:List (List UInt8)
 role:List UInt8
 a:List UInt8
 b:List UInt8
def axR (x : Ax) : List D := [.int .i64 x.kind, .bool x.isopen, .int .i64 x.left.kind, .str x.left.name, .int .i64 x.left.lo, .int .i64 x.left.hi, cnl x.left.parts,
 .int .i64 x.right.kind, .str x.right.name, .int .i64 x.right.lo, .int .i64 x.right.hi,cnl x.right.parts,aLt x.roles, .str x.role, .str x.a, .str x.b]
theorem aIt {id:Nat}{pin:List Nat}{fr0 fr:Fr}{hp:Hp}(h1: ∀k,100<=k->k∉pin) (h2: ∀k,100<=k->k∉fN fr0) (h4: ∀k,100<=k->k∉iL hp) (hid:100<=id) (h3:(fN fr).all (λk=>decide (k < 100))=true):fB id (pin++fN fr0) fr hp:=by
 refine⟨?_, ?_,h4 id hid⟩
 ·simp [h1 id hid,h2 id hid]
 ·intro hm
  have:=List.all_eq_true.1 h3 id hm
  simp at this
  omega
theorem aIg {k0:Nat}{o:HObj}{hp:Hp}(h0:k0 < 100) (h1:o.ids=[]) (h2: ∀k,100<=k->k∉iL hp): ∀k,100<=k->k∉iL ((k0,o)::hp):=by
 intro k hk hm
 simp only [iL,List.flatMap_cons,List.mem_append,List.mem_cons,h1,List.not_mem_nil,or_false]at hm
 rcases hm with hm|hm
 ·omega
 ·exact h2 k hk hm
theorem aKb {pin:List Nat}{fr0:Fr}(h1: ∀k,100<=k->k∉pin) (h2: ∀k,100<=k->k∉fN fr0): ∀k,100<=k->k∉pin++fN fr0:=by
 intro k hk;simp [h1 k hk,h2 k hk]
theorem aKc {fr:Fr}(h3:(fN fr).all (λk=>decide (k < 100))=true): ∀k,100<=k->k∉fN fr:=by
 intro k hk hm
 have:=List.all_eq_true.1 h3 k hm
 simp at this
 omega
theorem aS {α:Type}{f:α->List D}{l:List α}{i:Nat}(h:i < l.length):(l.map f)[((i:Nat):Int).toNat]? =some (f l[i]):=by
 rw [Int.toNat_natCast,List.getElem?_map,List.getElem?_eq_getElem h];rfl
end Go.Proofs.YtfhoddcminbffaaGreatDoor
