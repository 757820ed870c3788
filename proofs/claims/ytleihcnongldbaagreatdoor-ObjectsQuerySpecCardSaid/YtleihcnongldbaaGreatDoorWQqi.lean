/-
  Objects: Query as the program writes it.
  Conditions: none.
-/
import Derived.Test.YtleihcnongldbaaGreatDoorWQqh
set_option linter.unnecessarySimpa false
set_option linter.unusedSectionVars false
set_option linter.unusedSimpArgs false
set_option linter.unusedVariables false
set_option maxHeartbeats 16000000
namespace Go.Proofs.YtleihcnongldbaaGreatDoor
open Go.Proofs Go.RowKit
set_option maxRecDepth 10000
attribute [local irreducible] aN aJ Tri aI YVC cP bE
theorem aRb {a:At}(h:atE a=0):a.name.length<=24/\a.x.length<=24/\a.y.length<=24:=by
 unfold atE at h
 by_cases h1:a.kind < 1\/3 < a.kind
 ·rw [if_pos h1]at h;simp at h
 rw [if_neg h1]at h
 by_cases h2:(a.kind≠2/\a.y≠[])\/(a.kind≠3/\(a.lo≠0\/a.hi≠0))
 ·rw [if_pos h2]at h;simp at h
 rw [if_neg h2]at h
 by_cases h3:a.lo < -1099511627776\/a.hi < a.lo\/1099511627776 < a.hi
 ·rw [if_pos h3]at h;simp at h
 rw [if_neg h3]at h
 by_cases h4:aCe a.name=false
 ·rw [if_pos h4]at h;simp at h
 rw [if_neg h4]at h
 by_cases h5:hU a.x=false
 ·rw [if_pos h5]at h;simp at h
 rw [if_neg h5]at h
 by_cases h6:a.kind=2/\hU a.y=false
 ·rw [if_pos h6]at h;simp at h
 refine⟨vV (by simpa using h4),jY (by simpa using h5), ?_⟩
 by_cases h7:a.kind=2
 ·refine jY ?_
  cases h8:hU a.y
  ·exact absurd ⟨h7,h8⟩ h6
  ·rfl
 ·have:a.y=[]:=by
   refine Classical.byContradiction λh8=>h2 (.inl ⟨h7,h8⟩)
  rw [this];simp
theorem aIi {q:Qy}(h:qE q=0):(wQy q).length<=1000000:=by
 rw [aMz]at h
 by_cases h1:kE q≠0
 ·rw [if_pos h1]at h;exact absurd h h1
 rw [if_neg h1]at h
 by_cases h2:dF q.parts.flatten≠0
 ·rw [if_pos h2]at h;exact absurd h h2
 rw [if_neg h2]at h
 by_cases h3:wS q.told q.parts≠0
 ·rw [if_pos h3]at h;exact absurd h h3
 have h1:=Decidable.not_not.1 h1
 have h2:=(eY _).1 (Decidable.not_not.1 h2)
 have h3:=Decidable.not_not.1 h3
 unfold kE at h1
 split at h1
 ·simp at h1
 ·split at h1
  ·simp at h1
  ·rename_i a1 a2
   have hp: ∀p∈q.parts,p.length<=12:=by
    intro p hp
    have h3:(q.parts.any λp=>decide (p.length < 1) || decide (12 < p.length))=false:=by simpa using a2
    have h4:=List.any_eq_false.1 h3 p hp
    simp at h4
    omega
   have ht: ∀s∈q.told,qK s=true:=by
    unfold wS at h3
    split at h3
    ·simp at h3
    ·rename_i h5
     intro s hs
     cases hv:qK s with
     |true=>rfl
     |false=>exact absurd (List.any_eq_true.2 ⟨s,hs,by rw [hv];rfl⟩) h5
   have e1:((q.told.map bC).flatten).length<=q.told.length * 21:=eX λs hs=>by
    have:=vL (ht s hs)
    unfold bC
    simp only [List.length_append,aP]
    omega
   have e2:((q.parts.map (aX wAt)).flatten).length<=q.parts.length * 1300:=eX λp hp'=>by
    have e3:((p.map wAt).flatten).length<=p.length * 101:=eX λa ha=>by
     obtain⟨b1,b2,b3⟩:=aRb (h2 a (List.mem_flatten.2 ⟨p,hp',ha⟩))
     unfold wAt bC
     simp only [List.length_append,aP,cG,aO]
     omega
    have:=hp p hp'
    unfold aX
    simp only [List.length_append,aP]
    omega
   unfold wQy
   unfold aX at *
   simp only [List.length_append,aP]at *
   omega
theorem aLt {q:Qy}(h:qE q≠0):vA q=([],qE q):=by unfold vA;rw [if_neg h]
theorem aPe {q:Qy}(h:qE q=0):vA q=(wQy q,0):=by unfold vA;rw [if_pos h]
theorem xI (q:Qy):Tri Tryz.prog 9 [.d (.agg (qyR q))] NG (λr=>r= .tup [.d (.sl 1 ((vA q).1.map aM)), .d (.int .i64 (vA q).2)]):=by
 refine Tri.says ?_
 have hw:=aLu q
 have hc:=aEs q
 have h1:=aLt (q:=q)
 have h2:=aPe (q:=q)
 have h3:=aIi (q:=q)
 generalize wQy q=out at *
 generalize vA q=res at *
 generalize qE q=qe at *
 obtain⟨told,parts⟩:=q
 rw [show qyR ⟨told,parts⟩=[.sl 1 (told.map bL), .sl 1 (parts.map aU)]from rfl]at *
 refine aE false [] hty Tryz.func9 rfl (kp [0,1,2,3,4,8]) [] _ _ _ (by simp [Tryz.f9]) (by decide) ?_
 ((conv=>whnf);repeat ((first|(refine aD [] hc trivial (λr hs=> ?_);subst hs)|(intro hq;try simp only [lnS]at hq)|refine sI ?_|refine .intro _ (.intro rfl ?_));(conv=>whnf)))
 refine aC (λq1=> ?_) (λq1=> ?_)
 ·rw [h1 q1]
  ((conv=>whnf);repeat ((first|(intro hq;try simp only [lnS]at hq)|refine sI ?_|refine .intro _ (.intro rfl ?_));(conv=>whnf)))
  exact⟨_,pairN (.d .nil) _,rfl⟩
 have q1:qe=0:=by simpa using q1
 rw [h2 q1]
 have h3:=h3 q1
 clear h1 h2 hc
 ((conv=>whnf);repeat' ((first|(intro hq;(try simp only [lnS]at hq);(try rewrite [List.length_map]))|refine sJ ?_|refine .intro _ (.intro rfl ?_)|refine exL (k:= ?_)|refine dwR ?_|((first|refine aB ?_ ?_|refine aC ?_ ?_)<;>intro hb<;>(first|exact ddX hb|try simp only [lnS]at hb))|(refine aA ?_ ?_<;>intro hb<;>try exact dsX hb))<;>(conv=>whnf)))
 refine aJ.ownH 4 104 73 5 1 rfl (bW (by with_unfolding_all exact rfl)) (iJ (by with_unfolding_all exact rfl)) ?_
 refine WrT.call hw rfl [] (by rw [List.length_nil];omega) (by decide) rfl rfl ?_
 rw [List.nil_append]
 ((conv=>whnf);repeat ((first|(intro hq;try simp only [lnS]at hq)|refine sI ?_|refine .intro _ (.intro rfl ?_));(conv=>whnf)))
 exact⟨_, .refl _,rfl⟩
end Go.Proofs.YtleihcnongldbaaGreatDoor
