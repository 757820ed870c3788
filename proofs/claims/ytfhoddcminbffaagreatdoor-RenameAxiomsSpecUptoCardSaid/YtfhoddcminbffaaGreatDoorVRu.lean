/-
  Rename: other names in axioms, plainly; tidying and renaming of axioms and lists of axioms.
  Conditions: none.
-/
import Derived.Test.YtfhoddcminbffaaGreatDoorVRt
import Derived.Test.YtfhoddcminbffaaGreatDoorVBv
set_option linter.unnecessarySimpa false
set_option linter.unusedSectionVars false
set_option linter.unusedSimpArgs false
set_option linter.unusedVariables false
namespace Go.Proofs.YtfhoddcminbffaaGreatDoor
open Go.Proofs
def wO (g:Int->List UInt8->List UInt8):List Ax->List Ax×Int
 | []=>([],0)
 |x::r=>if (bO (gE g x)).2≠0 then ([],(bO (gE g x)).2)else if (wO g r).2≠0 then ([],(wO g r).2)else ((bO (gE g x)).1::(wO g r).1,0)
def lW (l:List Rn) (xs:List Ax):List Ax×Int:=
 if cD l≠0 then ([],cD l)else if gU xs≠0 then ([],gU xs)else wO (aO l) xs
theorem aE6 {g:Int->List UInt8->List UInt8}: ∀{xs:List Ax},(wO g xs).2=0->(∀x∈xs,(bO (gE g x)).2=0)/\(wO g xs).1=xs.map λx=>(bO (gE g x)).1
 | [],_=>⟨by simp,rfl⟩
 |x::r,h=>by
  rw [wO]at h |-
  split at h
  ·rename_i h1;exact absurd h h1
  ·rename_i h1
   split at h
   ·rename_i h2;exact absurd h h2
   ·rename_i h2
    rw [if_neg h1,if_neg h2]
    obtain⟨i1,i2⟩:=aE6 (g:=g) (xs:=r) (by simpa using h2)
    refine⟨λy hy=> ?_,by rw [i2];rfl⟩
    rcases List.mem_cons.1 hy with rfl|hy
    ·simpa using h1
    ·exact i1 y hy
theorem uW {g:Int->List UInt8->List UInt8}: ∀{xs:List Ax},(∀x∈xs,(bO (gE g x)).2=0)->wO g xs=(xs.map λx=>(bO (gE g x)).1,0)
 | [],_=>rfl
 |x::r,h=>by
  have ih:=uW (g:=g) (xs:=r) λy hy=>h y (List.mem_cons_of_mem _ hy)
  rw [wO,if_neg (by simp [h x (List.mem_cons_self ..)]),ih,if_neg (by simp)]
  rfl
theorem aGu {g:Int->List UInt8->List UInt8}: ∀{xs:List Ax},(wO g xs).2≠0->(wO g xs).1=[]
 | [],h=>absurd rfl h
 |x::r,h=>by
  rw [wO]at h |-
  split
  ·rfl
  ·rename_i h1
   rw [if_neg h1]at h
   split
   ·rfl
   ·rename_i h2
    rw [if_neg h2]at h
    exact absurd rfl h
theorem yV {g:Int->List UInt8->List UInt8}: ∀{xs:List Ax}{j:Nat}(h:j < xs.length),(∀x∈xs.take j,(bO (gE g x)).2=0)->¬ (bO (gE g xs[j])).2=0->wO g xs=([],(bO (gE g xs[j])).2)
 |x::r,0,_,_,he=>by
  have he:(bO (gE g x)).2≠0:=he
  rw [wO,if_pos he];rfl
 |x::r,j+1,h,hz,he=>by
  have h0:(bO (gE g x)).2=0:=hz x (by simp)
  have hj:j < r.length:=by simpa using h
  have ih:=yV (g:=g) (xs:=r) (j:=j) hj (λy hy=>hz y (by simp [hy])) he
  have hne:(bO (gE g (r[j]'hj))).2≠0:=he
  rw [wO,if_neg (by simpa using h0),ih,if_pos hne]
  rfl
theorem aJz {l:List Rn}{xs:List Ax}(h:(lW l xs).2=0):Good l/\(∀x∈xs,bK x=0)/\(∀x∈xs,(bO (gE (aO l) x)).2=0)/\(lW l xs).1=xs.map λx=>(bO (gE (aO l) x)).1:=by
 unfold lW at h |-
 split at h
 ·rename_i h1;exact absurd h h1
 ·rename_i h1
  split at h
  ·rename_i h2;exact absurd h h2
  ·rename_i h2
   rw [if_neg h1,if_neg h2]
   obtain⟨i1,i2⟩:=aE6 h
   exact⟨(nJ (by simpa using h1)).1,(iO xs).1 (by simpa using h2),i1,i2⟩
theorem aIi {l:List Rn}{xs:List Ax}(h:(lW l xs).2≠0):(lW l xs).1=[]:=by
 unfold lW at h |-
 split
 ·rfl
 ·rename_i h1
  rw [if_neg h1]at h
  split
  ·rfl
  ·rename_i h2
   rw [if_neg h2]at h
   exact aGu h
end Go.Proofs.YtfhoddcminbffaaGreatDoor
