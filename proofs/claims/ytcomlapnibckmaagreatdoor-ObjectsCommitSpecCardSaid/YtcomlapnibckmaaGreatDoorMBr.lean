/-
  Terms: Vocabulary. Terms: the vocabulary, plainly: whose names it holds.
  Conditions: none.
-/
import Derived.Test.YtcomlapnibckmaaGreatDoorMAo
import Derived.Test.YtcomlapnibckmaaGreatDoorMAp
import Derived.Test.YtcomlapnibckmaaGreatDoorMAk
set_option linter.unnecessarySimpa false
set_option linter.unusedSectionVars false
set_option linter.unusedSimpArgs false
set_option linter.unusedVariables false
namespace Go.Proofs.YtcomlapnibckmaaGreatDoor
open Go.Proofs
set_option maxRecDepth 10000
attribute [local irreducible] aL aG Tri aD YVC cP bB
def cN:List Ax->Int
 | []=>0
 |x::r=>if cJ x≠0 then cJ x else cN r
structure PairN (v:Nm) (e:Int) (s:SV):Prop where
 ex: ∃a,s= .tup [.d a, .d (.int .i64 e)]/\(a= .agg (nmR v)\/WkD a (.agg (nmR v)))
theorem Tri.pairN {P:Program}{f:FuncId}{qs:List SV}{hp:Hp}{v:Nm}{e:Int}(h:Tri P f qs hp (PairN v e)):Tri P f qs hp (λr=>r= .tup [.d (.agg (nmR v)), .d (.int .i64 e)]):=by
 refine Tri.resT h ?_
 rintro s ⟨a,rfl,rfl|hw⟩
 ·exact .inl rfl
 ·exact .inr ⟨_,[.d (.agg (nmR v)), .d (.int .i64 e)],rfl,⟨hw,by exact rfl,trivial⟩,rfl⟩
theorem pM: ∀{l:List Ax}{j:Nat}(h:j < l.length),(∀x∈l.take j,cJ x=0)->¬ cJ l[j]=0->cN l=cJ l[j]
 |x::r,0,_,_,he=>by
  have he:cJ x≠0:=he
  rw [cN,if_pos he];rfl
 |x::r,j+1,h,hz,he=>by
  have h0:cJ x=0:=hz x (by simp)
  rw [cN,if_neg (by simpa using h0)]
  exact pM (by simpa using h) (λy hy=>hz y (by simp [hy])) he
end Go.Proofs.YtcomlapnibckmaaGreatDoor
namespace Go.Proofs.YtcomlapnibckmaaGreatDoor
open Go.Proofs
def aIb (k:Int) (c:Cn) (s:List UInt8):Prop:= ∃n∈dM c,n.kind=k/\n.name=s
end Go.Proofs.YtcomlapnibckmaaGreatDoor
