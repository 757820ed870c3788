/-
  Queries: what the variables of a part are, plainly.
  Conditions: none.
-/
import Derived.Test.YtleihcnongldbaaGreatDoorWQqc
set_option linter.unnecessarySimpa false
set_option linter.unusedSectionVars false
set_option linter.unusedSimpArgs false
set_option linter.unusedVariables false
namespace Go.Proofs.YtleihcnongldbaaGreatDoor
open Go.Proofs
theorem rG: ∀(n:Nat) (l:List (List UInt8)) (_:l.length<=n),l.eraseDups.Nodup
 | 0,l,h=>by
  have:l=[]:=List.length_eq_zero_iff.1 (by omega)
  subst this
  simp
 |n+1,[],_=>by simp
 |n+1,a::r,h=>by
  rw [List.eraseDups_cons,List.nodup_cons]
  refine⟨?_,rG n _ (Nat.le_trans (List.length_filter_le ..) (by simpa using h))⟩
  rw [List.mem_eraseDups,List.mem_filter]
  simp
theorem aSt (a b c:List UInt8) (h1:decide (a<=b)=true) (h2:decide (b<=c)=true):decide (a<=c)=true:=by
 rw [decide_eq_true_eq]at *
 exact List.le_trans h1 h2
theorem aSu (a b:List UInt8):(decide (a<=b) || decide (b<=a))=true:=by
 rw [Bool.or_eq_true,decide_eq_true_eq,decide_eq_true_eq]
 exact List.le_total a b
theorem aVu: ∀(p:List UInt8) (l:List (List UInt8)) (_:(p::l).Pairwise (λa b=>decide (a<=b)=true)),(p::aE3 eqS p l).Nodup/\ ∀x,x∈p::aE3 eqS p l↔x∈p::l
 |p,[],_=>⟨by simp [aE3],λx=>by simp [aE3]⟩
 |p,b::r,h=>by
  obtain⟨h1,h2⟩:=List.pairwise_cons.1 h
  obtain⟨i1,i2⟩:=aVu b r h2
  rw [aE3]
  by_cases e:b=p
  ·subst e
   rw [if_pos (by simp [eqS])]
   exact⟨i1,λx=>by rw [i2 x];simp⟩
  ·rw [if_neg (by simpa [eqS]using e)]
   refine⟨List.nodup_cons.2 ⟨λhm=> ?_,i1⟩,λx=> ?_⟩
   ·have hm':=(i2 p).1 hm
    have hbp:p<=b:=by simpa using h1 b List.mem_cons_self
    rcases List.mem_cons.1 hm' with rfl|hr
    ·exact e rfl
    ·have:=(List.pairwise_cons.1 h2).1 p hr
     rw [decide_eq_true_eq]at this
     exact e (List.le_antisymm this hbp)
   ·rw [List.mem_cons,i2 x];exact List.mem_cons.symm
theorem aUy (l:List (List UInt8)) (h:l.Pairwise (λa b=>decide (a<=b)=true)):(zH eqS l).Nodup/\ ∀x,x∈zH eqS l↔x∈l:=by
 cases l with
 |nil=>exact⟨by simp [zH],λx=>by simp [zH]⟩
 |cons a r=>exact aVu a r h
theorem wN (p:List At):(aAv p).Nodup/\ ∀x,x∈aAv p↔x∈dB p:=by
 obtain⟨h1,h2⟩:=aUy (aJe (dB p)) (List.pairwise_mergeSort aSt aSu _)
 exact⟨h1,λx=>by rw [show aAv p=zH eqS (aJe (dB p))from rfl,h2 x];exact(List.mergeSort_perm _ _).mem_iff⟩
theorem aIq (p:List At):(aAv p).length=(dB p).eraseDups.length:=by
 obtain⟨h1,h2⟩:=wN p
 refine List.Perm.length_eq ((List.perm_ext_iff_of_nodup h1 (rG _ _ (Nat.le_refl _))).2 λx=> ?_)
 rw [h2 x,List.mem_eraseDups]
def aIe (told:List (List UInt8)) (parts:List (List At)) (i:Nat):Bool:=(told.take i).contains (told.getD i []) || parts.any (λp=> !(dB p).contains (told.getD i []))
theorem aFl (told:List (List UInt8)) (parts:List (List At)):wS told parts=if told.any (λt=> !qK t)then 20 else if (List.range told.length).any (aIe told parts)then 210 else 0:=rfl
theorem rV {F:Nat->Bool}{n j:Nat}(h:j < n) (hf:F j=true):(List.range n).any F=true:=List.any_eq_true.2 ⟨j,List.mem_range.2 h,hf⟩
theorem qG {F:Nat->Bool}{j:Nat}(h:(List.range j).any F=false) (hf:F j=false):(List.range (j+1)).any F=false:=by
 rw [List.range_succ,List.any_append,h];simp [hf]
theorem mP {α:Type}{F:α->Bool}{l:List α}{j:Nat}(h:j < l.length) (hf:F l[j]=true):l.any F=true:=List.any_eq_true.2 ⟨l[j],List.getElem_mem h,hf⟩
theorem gY {α:Type}{F:α->Bool}{l:List α}{j:Nat}(h:j < l.length) (hk:(l.take j).any F=false) (hf:F l[j]=false):(l.take (j+1)).any F=false:=by
 rw [List.take_succ_eq_append_getElem h,List.any_append,hk];simp [hf]
def kE (q:Qy):Int:=if q.parts.length < 1\/4 < q.parts.length\/3 < q.told.length then 210 else if q.parts.any (λp=>decide (p.length < 1) || decide (12 < p.length))then 210 else 0
theorem aMz (q:Qy):qE q=if kE q≠0 then kE q else if dF q.parts.flatten≠0 then dF q.parts.flatten else if wS q.told q.parts≠0 then wS q.told q.parts else if q.parts.any (λp=>decide (8 < (dB p).eraseDups.length))then 210 else 0:=by
 unfold qE kE
 by_cases h1:q.parts.length < 1\/4 < q.parts.length\/3 < q.told.length
 ·rw [if_pos h1,if_pos h1,if_pos (by decide)]
 ·rw [if_neg h1,if_neg h1]
  by_cases h2:q.parts.any (λp=>decide (p.length < 1) || decide (12 < p.length))=true
  ·rw [if_pos h2,if_pos h2,if_pos (by decide)]
  ·rw [if_neg h2,if_neg h2,if_neg (show ¬ (0:Int)≠0 by decide)]
end Go.Proofs.YtleihcnongldbaaGreatDoor
