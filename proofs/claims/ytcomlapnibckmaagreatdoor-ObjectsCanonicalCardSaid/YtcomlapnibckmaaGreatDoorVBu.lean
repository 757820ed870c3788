/-
  Terms: Vocabulary. Terms: the vocabulary, plainly: whose names it holds. Terms: tidying keeps a concept valid and adds no names. Terms: what a valid concept and a valid axiom are; tidying keeps axioms valid. Terms: the reference's bare, Empty, fields, CheckAxiom. Terms: tidying keeps an axiom valid and adds no names; the names of valid axioms are names.
  Conditions: none.
-/
import Derived.Test.YtcomlapnibckmaaGreatDoorVAo
import Derived.Test.YtcomlapnibckmaaGreatDoorVAp
import Derived.Test.YtcomlapnibckmaaGreatDoorVSyi
import Derived.Test.YtcomlapnibckmaaGreatDoorVBp
set_option linter.unnecessarySimpa false
set_option linter.unusedSectionVars false
set_option linter.unusedSimpArgs false
set_option linter.unusedVariables false
namespace Go.Proofs.YtcomlapnibckmaaGreatDoor
open Go.Proofs
set_option maxRecDepth 10000
attribute [local irreducible] aN aH Tri aF YVC cM bB
def cT:List Ax->Int
 | []=>0
 |x::r=>if cP x≠0 then cP x else cT r
structure PairN (v:Nm) (e:Int) (s:SV):Prop where
 ex: ∃a,s= .tup [.d a, .d (.int .i64 e)]/\(a= .agg (nmR v)\/WkD a (.agg (nmR v)))
theorem Tri.pairN {P:Program}{f:FuncId}{qs:List SV}{hp:Hp}{v:Nm}{e:Int}(h:Tri P f qs hp (PairN v e)):Tri P f qs hp (λr=>r= .tup [.d (.agg (nmR v)), .d (.int .i64 e)]):=by
 refine Tri.resT h ?_
 rintro s ⟨a,rfl,rfl|hw⟩
 ·exact .inl rfl
 ·exact .inr ⟨_,[.d (.agg (nmR v)), .d (.int .i64 e)],rfl,⟨hw,by exact rfl,trivial⟩,rfl⟩
theorem qW: ∀{l:List Ax}{j:Nat}(h:j < l.length),(∀x∈l.take j,cP x=0)->¬ cP l[j]=0->cT l=cP l[j]
 |x::r,0,_,_,he=>by
  have he:cP x≠0:=he
  rw [cT,if_pos he];rfl
 |x::r,j+1,h,hz,he=>by
  have h0:cP x=0:=hz x (by simp)
  rw [cT,if_neg (by simpa using h0)]
  exact qW (by simpa using h) (λy hy=>hz y (by simp [hy])) he
end Go.Proofs.YtcomlapnibckmaaGreatDoor
namespace Go.Proofs.YtcomlapnibckmaaGreatDoor
open Go.Proofs
def aJ9 (k:Int) (c:Cn) (s:List UInt8):Prop:= ∃n∈eK c,n.kind=k/\n.name=s
end Go.Proofs.YtcomlapnibckmaaGreatDoor
namespace Go.Proofs.YtcomlapnibckmaaGreatDoor
open Go.Proofs
def Okn (c:Cn):Prop:= ∀x∈eK c,cV x=0
def aC9 (t c:Cn):Prop:= ∀k s,k≠1->k≠5->aJ9 k t s->aJ9 k c s
structure Keep (c t:Cn):Prop where
 ok:Okn t
 dep:uM t<=uM c
 nam:aC9 t c
 bare:mF t=true->mF c=true
structure Part (c m:Cn):Prop where
 ok:Okn m
 dep:uM m+1<=uM c
 nam:aC9 m c
 bare:mF m=true->mF c=true
theorem Part.keep {c m:Cn}(h:Part c m):Keep c m:=⟨h.ok,by have:=h.dep;omega,h.nam,h.bare⟩
end Go.Proofs.YtcomlapnibckmaaGreatDoor
namespace Go.Proofs.YtcomlapnibckmaaGreatDoor
open Go.Proofs
end Go.Proofs.YtcomlapnibckmaaGreatDoor
namespace Go.Proofs.YtcomlapnibckmaaGreatDoor
open Go.Proofs
set_option maxRecDepth 10000
attribute [local irreducible] aN aH Tri aF YVC cM bB
end Go.Proofs.YtcomlapnibckmaaGreatDoor
namespace Go.Proofs.YtcomlapnibckmaaGreatDoor
open Go.Proofs
end Go.Proofs.YtcomlapnibckmaaGreatDoor
