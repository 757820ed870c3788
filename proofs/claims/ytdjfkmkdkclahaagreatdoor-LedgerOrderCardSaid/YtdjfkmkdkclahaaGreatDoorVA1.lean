/-
  Rows known cell by cell: slices of them, copy, append of zero values; and back to rows. Arrays of numbers: are two equal? And a row of a package-level array. Rows known cell by cell: at a call's begin and end. Terms: concepts and axioms as data.
  Conditions: none.
-/
import Derived.Test.YtdjfkmkdkclahaaGreatDoorVSna
import Derived.Lib.AppendZerosOnto
set_option linter.unnecessarySimpa false
set_option linter.unusedSectionVars false
set_option linter.unusedSimpArgs false
set_option linter.unusedVariables false
namespace Go.Proofs.YtdjfkmkdkclahaaGreatDoor
open Go.RowKit
section
variable {P:Program}
def slT (ti:TypeId->Option TI) (t:TypeId):Option (TypeId×TI):=
 match ti t with
 |some { td:= .slice e, .. }=>(match ti e with|some T=>some (e,T)|none=>none)
 |_=>none
theorem aKt {ti:TypeId->Option TI}(hti:cQ P ti) {t e:TypeId}{T:TI}(h:slT ti t=some (e,T)):P.underlying t=some (.slice e)/\ ∃d i z,TIok P e T d i z:=by
 unfold slT at h
 split at h
 ·rename_i e' _ _ _ hT
  obtain⟨d,i,z,hT⟩:=aQ (hti _ _ hT)
  have hd:=bO hT.td
  subst hd
  split at h
  ·rename_i T' hT2
   simp only [Option.some.injEq,Prod.mk.injEq]at h
   obtain⟨rfl,rfl⟩:=h
   exact⟨hT.und,aQ (hti _ _ hT2)⟩
  ·cases h
 ·cases h
theorem aKs {ti:TypeId->Option TI}(hti:cQ P ti) {o:Oper}{t e:TypeId}{T:TI}{x:Operand}{lo hi:Option Operand}(ho:o.op= .slice t x lo hi none) (hT:slT ti t=some (e,T)) {a:Act}{A:Option Addr}{len cap a' b m':Nat}
  (e1:a.eval x= .slice A len cap) {w':World} (e2:(Instr.sliceBounds true len cap (lo.map a.eval) (hi.map a.eval) none).run P w'= .ok (a',b,m') w'):
  (execOp a.eval o).run P w'= .ok (.value (.slice (if m'=a' then A else A.map (·.add (a' * T.size))) (b - a') (m' - a'))) w':=by
 obtain⟨hu,d,i,z,hT2⟩:=aKt hti hT
 simp [execOp,ho,Instr.sliceAt,run_underlying hu,Instr.slice,e1,e2,hT2.run_size]
end
end Go.Proofs.YtdjfkmkdkclahaaGreatDoor
namespace Go.Proofs.YtdjfkmkdkclahaaGreatDoor
open Go.RowKit
section
variable {P:Program}
end
end Go.Proofs.YtdjfkmkdkclahaaGreatDoor
namespace Go.Proofs.YtdjfkmkdkclahaaGreatDoor
open Go.RowKit
section
variable {P:Program}
end
end Go.Proofs.YtdjfkmkdkclahaaGreatDoor
namespace Go.Proofs.YtdjfkmkdkclahaaGreatDoor
open Go.Proofs
inductive Cn where
 |mk (kind:Int) (name:List UInt8) (lo hi:Int) (parts:List Cn)
def Cn.kind:Cn->Int| .mk k _ _ _ _=>k
def Cn.name:Cn->List UInt8| .mk _ n _ _ _=>n
def Cn.lo:Cn->Int| .mk _ _ l _ _=>l
def Cn.hi:Cn->Int| .mk _ _ _ h _=>h
def Cn.parts:Cn->List Cn| .mk _ _ _ _ p=>p
mutual
def cnR:Cn->List D
 | .mk k n lo hi ps=>[.int .i64 k, .str n, .int .i64 lo, .int .i64 hi, .sl 5 (aXe ps)]
def aXe:List Cn->List (List D)
 | []=>[]
 |c::r=>cnR c::aXe r
end
def cv (c:Cn):D:= .agg (cnR c)
def aV (s:List UInt8):List D:=[.str s]
def aRn (l:List (List UInt8)):D:= .sl 1 (l.map aV)
structure Ax where
 kind:Int
 isopen:Bool
 left:Cn
 right:Cn
 roles:List (List UInt8)
 role:List UInt8
 a:List UInt8
 b:List UInt8
theorem aQs {id:Nat}{pin:Pin}{fr0 fr:Fr}{hp:Hp}(h1: ∀k,100<=k->k∉pin) (h2: ∀k,100<=k->k∉gC fr0) (h4: ∀k,100<=k->k∉lQ hp) (hid:100<=id) (h3:(gC fr).all (λk=>decide (k < 100))=true):fC id (pin.under fr0 (gC fr0)) fr hp:=by
 refine⟨?_, ?_,h4 id hid⟩
 ·simp [h1 id hid,h2 id hid]
 ·intro hm
  have:=List.all_eq_true.1 h3 id hm
  simp at this
  omega
theorem aWv {k0:Nat}{o:HObj}{hp:Hp}(h0:k0 < 100) (h1:o.ids=[]) (h2: ∀k,100<=k->k∉lQ hp): ∀k,100<=k->k∉lQ ((k0,o)::hp):=by
 intro k hk hm
 simp only [lQ,List.flatMap_cons,List.mem_append,List.mem_cons,h1,List.not_mem_nil,or_false]at hm
 rcases hm with hm|hm
 ·omega
 ·exact h2 k hk hm
theorem aVu {fr:Fr}(h3:(gC fr).all (λk=>decide (k < 100))=true): ∀k,100<=k->k∉gC fr:=by
 intro k hk hm
 have:=List.all_eq_true.1 h3 k hm
 simp at this
 omega
theorem aO {α:Type}{f:α->List D}{l:List α}{i:Nat}(h:i < l.length):(l.map f)[((i:Nat):Int).toNat]? =some (f l[i]):=by
 rw [Int.toNat_natCast,List.getElem?_map,List.getElem?_eq_getElem h];rfl
end Go.Proofs.YtdjfkmkdkclahaaGreatDoor
