/-
  BaseSetsSpec, walked.
  Conditions: none.
-/
import Derived.Test.YtfhoddcminbffaaGreatDoorMJla
import Derived.Test.YtfhoddcminbffaaGreatDoorMJo
import Derived.Test.YtfhoddcminbffaaGreatDoorMQzb
set_option linter.unnecessarySimpa false
set_option linter.unusedSectionVars false
set_option linter.unusedSimpArgs false
set_option linter.unusedVariables false
set_option maxHeartbeats 32000000
namespace Go.Proofs.YtfhoddcminbffaaGreatDoor
open Go.Proofs
set_option maxRecDepth 10000
attribute [local irreducible] aM aJ Tri aH YVC dI bI
theorem vZ (x:Ax): ∀b:List Ax,kO x b=match xO x b with|some i=>b[i]? |none=>none
 | []=>rfl
 |y::r=>by
  have ih:=vZ x r
  have hc:=gV.anti y x
  unfold kO xO at ih |-
  rw [List.find?_cons,List.findIdx?_cons]
  by_cases h:aQ x y=0
  ·have h2:aQ y x=0:=by omega
   rw [decide_eq_true h,decide_eq_true h2];rfl
  ·have h2:¬ aQ y x=0:=by omega
   rw [decide_eq_false h,decide_eq_false h2]
   simp only [Bool.false_eq_true,if_false]
   rw [ih]
   cases List.findIdx? (λy=>decide (aQ x y=0)) r<;>rfl
theorem aS6 (a b:List Ax):nY a b=mnL a b:=by
 unfold nY mnL
 refine List.filter_congr λx _=> ?_
 rw [vZ]
 unfold oG
 cases h:xO x b with
 |none=>rfl
 |some i=>
  obtain⟨hi,_⟩:=aBc h
  simp only
  rw [List.getElem?_eq_getElem hi,decide_eq_false (by omega)];rfl
theorem aNu: ∀(a b:List Ax),lJ a b=cmL a b
 | [],b=>rfl
 |x::r,b=>by
  have ih:=aNu r b
  have e:lJ (x::r) b=(if oG x b < 0 then []else [aDt b x])++lJ r b:=rfl
  rw [e,ih]
  unfold cmL
  rw [List.filterMap_cons,vZ]
  unfold oG aDt
  cases h:xO x b with
  |none=>rfl
  |some i=>
   obtain⟨hi,_⟩:=aBc h
   simp only
   rw [if_neg (by omega),List.getElem?_eq_getElem hi]
   simp only [Option.map_some]
   unfold oG
   rw [h]
   simp only [Int.toNat_natCast]
   rw [List.getElem?_eq_getElem hi]
   rfl
theorem aP2 (a b:List Ax):aKp kfM a b=(if dF a b≠0 then []else nY a b,dF a b):=by
 unfold aKp
 by_cases h:dF a b=0
 ·obtain⟨h1,h2⟩:=wM h
  rw [if_neg (by simp [h]),if_neg (by simp [h]),h,aS6,aV1 ((cJ a).1 h1).str ((cJ b).1 h2).str]
 ·rw [if_pos h,if_pos h]
theorem aP3 (a b:List Ax):aKp kfC a b=(if dF a b≠0 then []else lJ a b,dF a b):=by
 unfold aKp
 by_cases h:dF a b=0
 ·obtain⟨h1,h2⟩:=wM h
  rw [if_neg (by simp [h]),if_neg (by simp [h]),h,aNu,aVe ((cJ a).1 h1).str ((cJ b).1 h2).str]
 ·rw [if_pos h,if_pos h]
theorem aN1 {a b:List Ax}(h: ∀x∈a,SmA x): ∀x∈nY a b,SmA x:= λx hx=>h x (List.mem_filter.1 hx).1
theorem aNt {a b:List Ax}(h: ∀x∈a,SmA x): ∀x∈lJ a b,SmA x:= λz hz=>by
 obtain⟨x,hx,hz⟩:=List.mem_flatMap.1 hz
 split at hz
 ·cases hz
 ·simp only [List.mem_singleton]at hz
  rw [hz]
  exact h x hx
theorem aPy {p:Prop} [Decidable p] {l:List Ax}(h: ∀x∈l,SmA x): ∀x∈(if p then []else l),SmA x:=by
 split
 ·simp
 ·exact h
theorem aT3 (a b:List Ax): ∀x∈(unE a b).1,SmA x:=by
 unfold unE
 split
 ·simp
 ·exact aMo _
theorem aSd {a b:List Ax}(h:aBv [a,b]=true):(a.length<=14/\ ∀x∈a,SmA x)/\(b.length<=14/\ ∀x∈b,SmA x):=by
 unfold aBv at h
 rw [List.all_cons,List.all_cons,List.all_nil,Bool.and_true,Bool.and_eq_true]at h
 exact⟨zK (by unfold aBv;rw [List.all_cons,List.all_nil,Bool.and_true];exact h.1),zK (by unfold aBv;rw [List.all_cons,List.all_nil,Bool.and_true];exact h.2)⟩
theorem aAo (a b:List Ax) (sa: ∀x∈a,SzAx x) (sb: ∀x∈b,SzAx x):Tri Tryz.prog 6 [.d (hZ a), .d (hZ b)] NG (λr=>r= .d (.bool true)):=by
 have cf := wP [a, b] (λm hm => by
  simp at hm
  rcases hm with rfl|rfl
  ·exact sa
  ·exact sb)
 have cf:= λ(id:Nat)=>Tri.osl (id:=id) cf
 have hfl:=aSd (a:=a) (b:=b)
 generalize aBv [a,b]=few at *
 refine aF false [2,3,5,7,9,11,13,15] hty Tryz.func6 rfl (kp [0,1,2,3,4,5,6,7,8,9,10,11,12,13,14,15,16,18,25]) [] _ _ _ (by simp [Tryz.f6]) (by decide) ?_
 ((conv=>whnf);repeat ((first|(intro hq;try simp only [lnS]at hq)|refine sI ?_|refine .intro _ (.intro rfl ?_));(conv=>whnf)))
 refine aD NG rR ⟨rfl,rfl,trivial⟩ (λr hs=> ?_)
 subst hs
 ((conv=>whnf);repeat ((first|(intro hq;try simp only [lnS]at hq)|refine sI ?_|refine .intro _ (.intro rfl ?_));(conv=>whnf)))
 refine aD [] (cf _) trivial (λr hs=> ?_)
 subst hs
 cases few
 ·((conv=>whnf);repeat' ((first|(intro hq;(try simp only [lnS]at hq);(try rewrite [List.length_map]))|refine sJ ?_|refine .intro _ (.intro rfl ?_)|refine exL (k:= ?_)|refine dwR ?_|((first|refine aB ?_ ?_|refine aC ?_ ?_)<;>intro hb<;>(first|exact ddX hb|try simp only [lnS]at hb))|(refine aA ?_ ?_<;>intro hb<;>try exact dsX hb))<;>(conv=>whnf)))
  rfl
 obtain⟨⟨la,ha⟩,lb,hb⟩:=hfl rfl
 clear cf hfl
 have c1:=aIl a b
 have c2:=aCc a b ha hb (by omega) (by omega)
 have c3:=yV a b
 have c4:=aCf a b ha hb (by omega) (by omega)
 have c5:=aDs a b
 have c6:=aAv a b ha hb (by omega) (by omega)
 rw [aP2]at c3
 rw [aP3]at c5
 have s1:=eJ (unE a b).1 (unE a b).1 (aT3 a b) (aT3 a b)
 have s2:=eJ (if dF a b≠0 then []else nY a b) (if dF a b≠0 then []else nY a b) (aPy (aN1 ha)) (aPy (aN1 ha))
 have s3:=eJ (if dF a b≠0 then []else lJ a b) (if dF a b≠0 then []else lJ a b) (aPy (aNt ha)) (aPy (aNt ha))
 rw [lH.2 rfl]at s1 s2 s3
 dsimp only at c3 c5
 generalize (if dF a b≠0 then []else nY a b)=m1 at *
 generalize (if dF a b≠0 then []else lJ a b)=m2 at *
 generalize dF a b=e0 at *
 generalize (unE a b).1=u at *
 generalize (unE a b).2=e1 at *
 ((conv=>whnf);repeat ((first|(refine aD NG c1 ⟨rfl,rfl,trivial⟩ (λr hs=> ?_);subst hs)|(refine aD [] c2 trivial (λr hs=> ?_);subst hs)|(refine aD NG c3 ⟨rfl,rfl,trivial⟩ (λr hs=> ?_);subst hs)|(refine aD [] c4 trivial (λr hs=> ?_);subst hs)|(refine aD NG c5 ⟨rfl,rfl,trivial⟩ (λr hs=> ?_);subst hs)|(refine aD [] c6 trivial (λr hs=> ?_);subst hs)|(intro hq;try simp only [lnS]at hq)|refine sI ?_|refine .intro _ (.intro rfl ?_));(conv=>whnf)))
 ((conv=>whnf);repeat' ((first|(intro hq;(try simp only [lnS]at hq);(try rewrite [List.length_map]))|refine sJ ?_|refine .intro _ (.intro rfl ?_)|refine exL (k:= ?_)|(refine aD [] s1 trivial (λr hs=> ?_);subst hs)|(refine aD [] s2 trivial (λr hs=> ?_);subst hs)|(refine aD [] s3 trivial (λr hs=> ?_);subst hs)|refine dwR ?_|((first|refine aB ?_ ?_|refine aC ?_ ?_)<;>intro hb<;>(first|exact ddX hb|try simp only [lnS]at hb))|(refine aA ?_ ?_<;>intro hb<;>try exact dsX hb))<;>(conv=>whnf)))
 all_goals first|rfl|exact absurd rfl (by assumption)|(refine aX ?_;simp)
end Go.Proofs.YtfhoddcminbffaaGreatDoor
