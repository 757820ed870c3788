/-
  Arrays of numbers: are two equal? And a row of a package-level array. Rows known cell by cell: at a call's begin and end. Terms: concepts and axioms as data. Terms: the limits of a concept: fits. Terms: the fields of a concept: checkFields. Terms: the concepts within a concept, one after another: visit and walk. Terms: CheckConcept, Size, Depth. Terms: Size, Depth, isBare, isEmpty. Terms: isBare, isEmpty.
  Conditions: none.
-/
import Derived.Test.YtdjfkmkdkclahaaGreatDoorWSnb
import Derived.Test.YtdjfkmkdkclahaaGreatDoorWSw
set_option linter.unusedSectionVars false
set_option linter.unusedSimpArgs false
set_option linter.unusedVariables false
namespace Go.Proofs.YtdjfkmkdkclahaaGreatDoor
section
open Go.RowKit
section
variable {P:Program}
end
end
section
open Go.RowKit
section
variable {P:Program}
end
end
section
open Go.Proofs
inductive Cn where
 |mk (kind:Int) (name:List UInt8) (lo hi:Int) (parts:List Cn)
def Cn.kind:Cn->Int| .mk k _ _ _ _=>k
def Cn.name:Cn->List UInt8| .mk _ n _ _ _=>n
def Cn.lo:Cn->Int| .mk _ _ l _ _=>l
def Cn.hi:Cn->Int| .mk _ _ _ h _=>h
def Cn.parts:Cn->List Cn| .mk _ _ _ _ p=>p
mutual
def cnR:Cn->List D
 | .mk k n lo hi ps=>[.int .i64 k, .str n, .int .i64 lo, .int .i64 hi, .sl 5 (aPu ps)]
def aPu:List Cn->List (List D)
 | []=>[]
 |c::r=>cnR c::aPu r
end
def cv (c:Cn):D:= .agg (cnR c)
def aT (s:List UInt8):List D:=[.str s]
def aKw (l:List (List UInt8)):D:= .sl 1 (l.map aT)
structure Ax where
 kind:Int
 isopen:Bool
 left:Cn
 right:Cn
 roles:List (List UInt8)
 role:List UInt8
 a:List UInt8
 b:List UInt8
theorem aK3 {id:Nat}{pin:Pin}{fr0 fr:Fr}{hp:Hp}(h1: ∀k,100<=k->k∉pin) (h2: ∀k,100<=k->k∉fS fr0) (h4: ∀k,100<=k->k∉jP hp) (hid:100<=id) (h3:(fS fr).all (λk=>decide (k < 100))=true):fA id (pin.under fr0 (fS fr0)) fr hp:=by
 refine⟨?_, ?_,h4 id hid⟩
 ·simp [h1 id hid,h2 id hid]
 ·intro hm
  have:=List.all_eq_true.1 h3 id hm
  simp at this
  omega
theorem aPc {k0:Nat}{o:HObj}{hp:Hp}(h0:k0 < 100) (h1:o.ids=[]) (h2: ∀k,100<=k->k∉jP hp): ∀k,100<=k->k∉jP ((k0,o)::hp):=by
 intro k hk hm
 simp only [jP,List.flatMap_cons,List.mem_append,List.mem_cons,h1,List.not_mem_nil,or_false]at hm
 rcases hm with hm|hm
 ·omega
 ·exact h2 k hk hm
theorem aOh {fr:Fr}(h3:(fS fr).all (λk=>decide (k < 100))=true): ∀k,100<=k->k∉fS fr:=by
 intro k hk hm
 have:=List.all_eq_true.1 h3 k hm
 simp at this
 omega
theorem aK {α:Type}{f:α->List D}{l:List α}{i:Nat}(h:i < l.length):(l.map f)[((i:Nat):Int).toNat]? =some (f l[i]):=by
 rw [Int.toNat_natCast,List.getElem?_map,List.getElem?_eq_getElem h];rfl
end
section
open Go.Proofs
set_option maxRecDepth 10000
attribute [local irreducible] aH aF Tri aD YVC bO aP
end
section
open Go.Proofs
set_option maxRecDepth 10000
attribute [local irreducible] aH aF Tri aD YVC bO aP
structure Need where
 name:Int
 least:Int
 most:Int
 nums:Bool
def aOv:List Need:=[⟨0,0,0,false⟩,⟨0,0,0,false⟩,⟨0,0,0,false⟩,⟨1,0,0,false⟩,⟨2,0,0,false⟩,⟨0,2,8,false⟩,⟨1,1,1,false⟩,⟨1,0,0,true⟩]
structure Use where
 left:Bool
 right:Bool
 role:Bool
 a:Bool
 b:Bool
 least:Int
 most:Int
def aR5 : List Use := [⟨false, false, false, false, false, 0, 0⟩, ⟨true, true, false, false, false, 0, 0⟩, ⟨true, true, false, false, false, 0, 0⟩, ⟨true, true, false, false, false, 0, 0⟩, ⟨false, true, true, false, false, 0, 0⟩,
 ⟨false,false,true,false,false,1,1⟩,⟨false,false,true,false,false,2,4⟩,⟨false,false,true,false,false,0,0⟩,⟨false,true,false,true,false,0,0⟩,⟨false,false,true,true,true,0,0⟩]
def aNe (k:Int):Need:=aOv.getD k.toNat ⟨0,0,0,false⟩
def aNf (n:Need) (s:List UInt8):Int:=if n.name=0\/fP s=true\/(n.name=2/\wI s=true)then 0 else 20
def aLw (n:Need) (c:Cn):Int:=
 if (c.parts.length:Int) < n.least\/n.most < c.parts.length\/(n.name=0/\c.name≠[])then 21
 else if n.nums=true then (if c.lo < -1099511627776\/c.hi < c.lo\/1099511627776 < c.hi then 21 else aNf n c.name)
 else (if c.lo≠0\/c.hi≠0 then 21 else aNf n c.name)
def aLx (c:Cn):Int:=if c.kind < 1\/7 < c.kind then 21 else aLw (aNe c.kind) c
theorem fX {a b:Int}(h:a=b):SV.d (.int .i64 a)=SV.d (.int .i64 b):=by rw [h]
end
section
open Go.Proofs
set_option maxRecDepth 10000
attribute [local irreducible] aH aF Tri aD YVC bO aP
mutual
def aLh:Cn->List Cn
 | .mk k n lo hi ps=> .mk k n lo hi ps::aJv ps
def aJv:List Cn->List Cn
 | []=>[]
 |c::r=>aLh c++aJv r
end
end
section
open Go.Proofs
set_option maxRecDepth 10000
attribute [local irreducible] aH aF Tri aD YVC bO aP
end
section
open Go.Proofs
set_option maxRecDepth 10000
attribute [local irreducible] aH aF Tri aD YVC bO aP
mutual
def yX:Cn->Nat
 | .mk _ _ _ _ ps=>aK7 ps
def aK7:List Cn->Nat
 | []=>0
 |c::r=>max (yX c+1) (aK7 r)
end
mutual
def aGx:Cn->Bool
 | .mk k _ _ _ ps=>if k=4 then true else if k=5 then aNs ps else false
def aNs:List Cn->Bool
 | []=>false
 |c::r=>if aGx c=true then true else aNs r
end
end
section
open Go.Proofs
set_option maxRecDepth 10000
attribute [local irreducible] aH aF Tri aD YVC bO aP
end
end Go.Proofs.YtdjfkmkdkclahaaGreatDoor
