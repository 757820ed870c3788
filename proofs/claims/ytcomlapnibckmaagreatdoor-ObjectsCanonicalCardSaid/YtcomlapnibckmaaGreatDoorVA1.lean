/-
  Rows known cell by cell: slices of them, copy, append of zero values; and back to rows. Arrays of numbers: are two equal? And a row of a package-level array. Rows known cell by cell: at a call's begin and end. Terms: concepts and axioms as data.
  Conditions: none.
-/
import Derived.Test.YtcomlapnibckmaaGreatDoorVSna
import Derived.Lib.AppendZerosOnto
import Derived.Test.YtcomlapnibckmaaGreatDoorVSw
set_option linter.unnecessarySimpa false
set_option linter.unusedSectionVars false
set_option linter.unusedSimpArgs false
set_option linter.unusedVariables false
namespace Go.Proofs.YtcomlapnibckmaaGreatDoor
open Go.RowKit
section
variable {P:Program}
def slT (ti:TypeId->Option TI) (t:TypeId):Option (TypeId×TI):=
 match ti t with
 |some { td:= .slice e, .. }=>(match ti e with|some T=>some (e,T)|none=>none)
 |_=>none
theorem aAr {ti:TypeId->Option TI}(hti:cW P ti) {t e:TypeId}{T:TI}(h:slT ti t=some (e,T)):P.underlying t=some (.slice e)/\ ∃d i z,TIok P e T d i z:=by
 unfold slT at h
 split at h
 ·rename_i e' _ _ _ hT
  obtain⟨d,i,z,hT⟩:=aM (hti _ _ hT)
  have hd:=bL hT.td
  subst hd
  split at h
  ·rename_i T' hT2
   simp only [Option.some.injEq,Prod.mk.injEq]at h
   obtain⟨rfl,rfl⟩:=h
   exact⟨hT.und,aM (hti _ _ hT2)⟩
  ·cases h
 ·cases h
theorem aAq {ti:TypeId->Option TI}(hti:cW P ti) {o:Oper}{t e:TypeId}{T:TI}{x:Operand}{lo hi:Option Operand}(ho:o.op= .slice t x lo hi none) (hT:slT ti t=some (e,T)) {a:Act}{A:Option Addr}{len cap a' b m':Nat}
  (e1:a.eval x= .slice A len cap) {w':World} (e2:(Instr.sliceBounds true len cap (lo.map a.eval) (hi.map a.eval) none).run P w'= .ok (a',b,m') w'):
  (execOp a.eval o).run P w'= .ok (.value (.slice (if m'=a' then A else A.map (·.add (a' * T.size))) (b - a') (m' - a'))) w':=by
 obtain⟨hu,d,i,z,hT2⟩:=aAr hti hT
 simp [execOp,ho,Instr.sliceAt,run_underlying hu,Instr.slice,e1,e2,hT2.run_size]
end
end Go.Proofs.YtcomlapnibckmaaGreatDoor
namespace Go.Proofs.YtcomlapnibckmaaGreatDoor
open Go.RowKit
section
variable {P:Program}
theorem cG {ti:TypeId->Option TI}(hti:cW P ti) {o:Oper}{t e:TypeId}{g m z:Nat}{y:Operand}(ho:o.op= .indexAddr t (.global g) y) {Ts T:TI}(hT:ti t=some Ts) (htd:Ts.td= .array m e) (hE:ti e=some T) {fr:Fr}{hp:Hp}{K:SV->Prop}{id:Nat}{rows:List (List D)}
  (hg:aO hp id=some (.glob g z rows)) (hz:T.size=z) {k:IntKind} {n:Int} (hy:evO fr y=some (.d (.int k n))) (h0:0<=n) (h1:n.toNat < m) (hk:K (.ea z rows n.toNat 0)):cM P o fr hp K:=by
 intro E ρ a w hm hf
 have ei:=(aU hf hy).int_inv
 obtain⟨d0,i0,z0,hT0⟩:=aM (hti _ _ hT)
 obtain⟨d1,i1,z1,hE1⟩:=aM (hti _ _ hE)
 have hd:d0= .array m e:=by
  have:=hT0.td
  rw [htd]at this
  exact fH this
 subst hd
 have hv:View w ρ.S z rows g 0:=hm.sat id _ hg
 have e1:a.eval (.global g)= .pointer (some ⟨g,0,none⟩):=rfl
 refine⟨.pointer (some (Addr.add ⟨g,0,none⟩ (n.toNat * T.size))),_,λw' _=> ?_, ?_,hk⟩
 ·have:=dV (P:=P) hT0.und hE1 w' ⟨g,0,none⟩ k n h0 h1
  simp [execOp,ho,e1,ei,this]
 ·rw [bS,hz]
  exact .ea z rows n.toNat 0 g 0 hv
end
end Go.Proofs.YtcomlapnibckmaaGreatDoor
namespace Go.Proofs.YtcomlapnibckmaaGreatDoor
open Go.RowKit
section
variable {P:Program}
end
end Go.Proofs.YtcomlapnibckmaaGreatDoor
namespace Go.Proofs.YtcomlapnibckmaaGreatDoor
open Go.Proofs
inductive Cn where
 |mk (kind:Int) (name:List UInt8) (lo hi:Int) (parts:List Cn)
def Cn.kind:Cn->Int| .mk k _ _ _ _=>k
def Cn.name:Cn->List UInt8| .mk _ n _ _ _=>n
def Cn.lo:Cn->Int| .mk _ _ l _ _=>l
def Cn.hi:Cn->Int| .mk _ _ _ h _=>h
def Cn.parts:Cn->List Cn| .mk _ _ _ _ p=>p
mutual
def cnR:Cn->List D
 | .mk k n lo hi ps=>[.int .i64 k, .str n, .int .i64 lo, .int .i64 hi, .sl 5 (aHs ps)]
def aHs:List Cn->List (List D)
 | []=>[]
 |c::r=>cnR c::aHs r
end
theorem xX: ∀l,aHs l=l.map cnR
 | []=>rfl
 |c::r=>by rw [aHs,xX r];rfl
theorem bO (c:Cn):cnR c=[.int .i64 c.kind, .str c.name, .int .i64 c.lo, .int .i64 c.hi, .sl 5 (c.parts.map cnR)]:=by
 cases c;rw [cnR,xX];rfl
def cv (c:Cn):D:= .agg (cnR c)
def cnl (l:List Cn):D:= .sl 5 (l.map cnR)
mutual
theorem Cn.ind {p:Cn->Prop}(h: ∀c,(∀q∈c.parts,p q)->p c): ∀c,p c
 | .mk k n lo hi ps=>h _ (Cn.indL h ps)
theorem Cn.indL {p:Cn->Prop}(h: ∀c,(∀q∈c.parts,p q)->p c): ∀(l:List Cn),∀q∈l,p q
 | []=>by simp
 |c::r=>by
  intro q hq
  rcases List.mem_cons.1 hq with e|e
  ·rw [e];exact Cn.ind h c
  ·exact Cn.indL h r q e
end
def cF (s:List UInt8):List D:=[.str s]
def aG3 (l:List (List UInt8)):D:= .sl 1 (l.map cF)
structure Ax where
 kind:Int
 isopen:Bool
 left:Cn
 right:Cn
 roles:List (List UInt8)
 role:List UInt8
 a:List UInt8
 b:List UInt8
def axR (x : Ax) : List D := [.int .i64 x.kind, .bool x.isopen, .int .i64 x.left.kind, .str x.left.name, .int .i64 x.left.lo, .int .i64 x.left.hi, cnl x.left.parts,
 .int .i64 x.right.kind, .str x.right.name, .int .i64 x.right.lo, .int .i64 x.right.hi,cnl x.right.parts,aG3 x.roles, .str x.role, .str x.a, .str x.b]
theorem aEa {id:Nat}{pin:Pin}{fr0 fr:Fr}{hp:Hp}(h1: ∀k,100<=k->k∉pin) (h2: ∀k,100<=k->k∉eG fr0) (h4: ∀k,100<=k->k∉mH hp) (hid:100<=id) (h3:(eG fr).all (λk=>decide (k < 100))=true):gN id (pin.under fr0 (eG fr0)) fr hp:=by
 refine⟨?_, ?_,h4 id hid⟩
 ·simp [h1 id hid,h2 id hid]
 ·intro hm
  have:=List.all_eq_true.1 h3 id hm
  simp at this
  omega
theorem aEh {k0:Nat}{o:HObj}{hp:Hp}(h0:k0 < 100) (h1:o.ids=[]) (h2: ∀k,100<=k->k∉mH hp): ∀k,100<=k->k∉mH ((k0,o)::hp):=by
 intro k hk hm
 simp only [mH,List.flatMap_cons,List.mem_append,List.mem_cons,h1,List.not_mem_nil,or_false]at hm
 rcases hm with hm|hm
 ·omega
 ·exact h2 k hk hm
theorem aG9 {pin:Pin}{fr0:Fr}(h1: ∀k,100<=k->k∉pin) (h2: ∀k,100<=k->k∉eG fr0): ∀k,100<=k->k∉pin.under fr0 (eG fr0):=by
 intro k hk;simp [h1 k hk,h2 k hk]
theorem aHb {fr:Fr}(h3:(eG fr).all (λk=>decide (k < 100))=true): ∀k,100<=k->k∉eG fr:=by
 intro k hk hm
 have:=List.all_eq_true.1 h3 k hm
 simp at this
 omega
theorem bH {α:Type}{f:α->List D}{l:List α}{i:Nat}(h:i < l.length):(l.map f)[((i:Nat):Int).toNat]? =some (f l[i]):=by
 rw [Int.toNat_natCast,List.getElem?_map,List.getElem?_eq_getElem h];rfl
end Go.Proofs.YtcomlapnibckmaaGreatDoor
