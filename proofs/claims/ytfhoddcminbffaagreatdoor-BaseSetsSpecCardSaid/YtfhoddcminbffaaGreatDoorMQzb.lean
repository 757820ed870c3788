/-
  BasePartition, plainly.
  Conditions: none.
-/
import Derived.Test.YtfhoddcminbffaaGreatDoorMQza
set_option linter.unnecessarySimpa false
set_option linter.unusedSectionVars false
set_option linter.unusedSimpArgs false
set_option linter.unusedVariables false
namespace Go.Proofs.YtfhoddcminbffaaGreatDoor
open Go.Proofs
structure GoodA (l:List Ax):Prop where
 tidy: ∀x∈l,aS x=(x,0)
 opn: ∀x∈l,uJ x=true->x.isopen=true
 few:l.length<=1024
theorem GoodA.congr {l m:List Ax}(h:GoodA l) (hm: ∀x∈m,x∈l) (hn:m.length<=1024):GoodA m:=⟨λx hx=>h.tidy x (hm x hx),λx hx=>h.opn x (hm x hx),hn⟩
def mnL (a b:List Ax):List Ax:=a.filter λx=>(kO x b).isNone
def cmL (a b:List Ax):List Ax:=a.filterMap λx=>(kO x b).map λy=>{ x with isopen:=x.isopen && y.isopen }
theorem aV1 {a b:List Ax}(ha:xA a) (hb:xA b):mV kfM a b=mnL a b:=by
 rw [aBj kfM ha hb]
 unfold mnL
 clear ha hb
 induction a with
 |nil=>rfl
 |cons x r ih=>
  rw [List.flatMap_cons,ih,List.filter_cons]
  unfold pU kfM
  dsimp only
  split<;>rfl
theorem aVe {a b:List Ax}(ha:xA a) (hb:xA b):mV kfC a b=cmL a b:=by
 rw [aBj kfC ha hb]
 unfold cmL
 clear ha hb
 induction a with
 |nil=>rfl
 |cons x r ih=>
  rw [List.flatMap_cons,ih,List.filterMap_cons]
  cases kO x b<;>rfl
section
variable {a b:List Ax} (ha:BaseOk a) (hb:BaseOk b) (la:a.length<=14) (lb:b.length<=14)
end
end Go.Proofs.YtfhoddcminbffaaGreatDoor
