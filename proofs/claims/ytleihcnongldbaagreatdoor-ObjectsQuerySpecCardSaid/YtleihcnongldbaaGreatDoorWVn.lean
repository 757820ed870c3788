/-
  The reference's queries: Variables; the form of a query.
  Conditions: none.
-/
import Derived.Test.YtleihcnongldbaaGreatDoorWVm
set_option linter.unnecessarySimpa false
set_option linter.unusedSectionVars false
set_option linter.unusedSimpArgs false
set_option linter.unusedVariables false
set_option maxHeartbeats 8000000
namespace Go.Proofs.YtleihcnongldbaaGreatDoor
open Go.Proofs Go.RowKit
set_option maxRecDepth 10000
attribute [local irreducible] aN aJ Tri aI YVC cP bE
theorem wP (p:List At) (hl:p.length<=100000):Tri Tryz.prog 114 [.d (.agg (aU p))] [] (λr=>r= .d (.sl 1 ((fF [] p).map bL))):=by
 have hpl:(p.map atR).length=p.length:=List.length_map ..
 refine Tri.says ?_
 show Tri Tryz.prog 114 [.d (.agg [.sl 6 (p.map atR)])] [] _
 refine aE false [1] hty Tryz.func114 rfl (kp [0,1,2,3,4,10]) [] _ _ _ (by simp [Tryz.f114]) (by simp) ?_
 ((conv=>whnf);repeat ((first|(intro hq;try simp only [lnS]at hq)|refine sI ?_|refine .intro _ (.intro rfl ?_));(conv=>whnf)))
 refine aH hty (λj:Nat=>([(1, .ea 1 [[.sl 6 (p.map atR)]] 0 0),(3, .d (.sl 1 ((fF [] (p.take j)).map bL))),(4, .d (.int .i64 j))],[])) (λj=>j<=p.length) (λj=>p.length - j) 0 (by omega) ⟨by repeat' (first|exact trivial|exact rfl|refine And.intro ?_ ?_),by repeat' (first|exact trivial|exact rfl|refine And.intro ?_ ?_)⟩ ?_
 rintro j hj
 ((conv=>whnf);repeat ((first|(intro hq;try simp only [lnS]at hq)|refine sI ?_|refine .intro _ (.intro rfl ?_));(conv=>whnf)))
 rw [hpl]
 refine aB (λh1=> ?_) (λh1=> ?_)
 ·have hjl:j < p.length:=by omega
  have hrow:(p.map atR)[(j:Int).toNat]? =some (atR p[j]):=aS hjl
  have hnx:fF [] (p.take (j+1))=uR (uR (fF [] (p.take j)) p[j].x) p[j].y:=by rw [List.take_succ_eq_append_getElem hjl,wO]
  have hlen:=(tN (p.take j) []).2.2
  rw [List.length_take]at hlen
  simp only [List.length_nil]at hlen
  generalize fF [] (p.take j)=acc at *
  generalize p[j]=a at *
  obtain⟨kd,nm,xx,yy,lo,hi⟩:=a
  rw [show atR ⟨kd,nm,xx,yy,lo,hi⟩=[.int .i64 kd, .str nm, .str xx, .str yy, .int .i64 lo, .int .i64 hi]from rfl]at hrow
  dsimp only at hnx
  have h2:=aBz acc xx
  have c1:=uF acc xx (by omega)
  have c2:=uF (uR acc xx) yy (by omega)
  rw [<-hnx]at c2
  clear h2 hlen
  generalize uR acc xx=acc1 at *
  refine aN.mid [(1, .ea 1 [[.sl 6 (p.map atR)]] 0 0),(3, .d (.sl 1 ((fF [] (p.take (j+1))).map bL))),(4, .d (.int .i64 j))] [] ?_ ?_
  ·(refine bI (id:=5) hty (.first 0 (.first 1 (.first 2 (.first 3 (.first 4 (.first 5 (.first 6 (.first 8 (.first 9 (.first 10 (.first 11 (.first 12 (.first 13 (.alt 7 (.alt 14 (.first 15 .done) .stop) .stop)))))))))))))) (by kernel_rfl) (by kernel_rfl) ?_)
   ((conv=>whnf);repeat' ((first|(intro hq;(try simp only [lnS]at hq);(try rewrite [List.length_map]))|refine sJ ?_|refine .intro _ (.intro rfl ?_)|refine exL (k:= ?_)|(refine⟨_,hrow, ?_⟩)|(refine aD [] c1 trivial (λr hs=> ?_);subst hs)|(refine aD [] c2 trivial (λr hs=> ?_);subst hs)|exact trivial|(refine And.intro ?_ ?_)|refine dwR ?_|((first|refine aB ?_ ?_|refine aC ?_ ?_)<;>intro hb<;>(first|exact ddX hb|try simp only [lnS]at hb))|(refine aA ?_ ?_<;>intro hb<;>try exact dsX hb))<;>(conv=>whnf)))
   all_goals exact⟨by repeat' (first|exact trivial|exact rfl|refine And.intro ?_ ?_),by repeat' (first|exact trivial|exact rfl|refine And.intro ?_ ?_)⟩
  ((conv=>whnf);repeat ((first|(intro hq;try simp only [lnS]at hq)|refine sI ?_|refine .intro _ (.intro rfl ?_));(conv=>whnf)))
  exact⟨j+1,by dsimp only;omega,by dsimp only;omega,⟨by repeat' (first|exact trivial|exact rfl|refine And.intro ?_ ?_),by repeat' (first|exact trivial|exact rfl|refine And.intro ?_ ?_)⟩⟩
 ·have hjl:j=p.length:=by omega
  subst hjl
  rw [List.take_length]
  ((conv=>whnf);repeat ((first|(intro hq;try simp only [lnS]at hq)|refine sI ?_|refine .intro _ (.intro rfl ?_));(conv=>whnf)))
  exact⟨_, .refl _,rfl⟩
theorem aSp {p:List At}{s:List UInt8}(hp: ∀a∈p,atE a=0) (hs:qK s=true):(p.any λa=>decide (s∈aJ5 a))=decide (s∈dB p):=by
 have hlk:bX s=true:=by
  unfold qK at hs
  simp only [Bool.and_eq_true,decide_eq_true_eq]at hs
  unfold bX
  rw [decide_eq_true_eq]
  exact hs.2.2.1.1
 have hne:s≠[]:= λe=>by rw [e]at hlk;exact absurd hlk (by decide)
 rw [Bool.eq_iff_iff,List.any_eq_true,decide_eq_true_eq]
 unfold dB
 rw [List.mem_filter,List.mem_flatMap]
 constructor
 ·rintro⟨a,ha,h⟩
  rw [decide_eq_true_eq]at h
  refine⟨⟨a,ha, ?_⟩,hlk⟩
  unfold aJ5 at h
  split at h
  ·exact h
  ·simp only [List.mem_singleton]at h
   rw [h];simp
 ·rintro⟨⟨a,ha,h⟩,_⟩
  refine⟨a,ha, ?_⟩
  rw [decide_eq_true_eq]
  unfold aJ5
  split
  ·exact h
  ·rename_i hk
   have hy:a.y=[]:=by
    have h0:=hp a ha
    unfold atE at h0
    split at h0
    ·simp at h0
    ·split at h0
     ·simp at h0
     ·rename_i h2
      exact Decidable.byContradiction λe=>h2 (.inl ⟨hk,e⟩)
   rw [hy]at h
   simp only [List.mem_cons,List.not_mem_nil,or_false]at h
   rcases h with h|h
   ·rw [h];simp
   ·exact absurd h hne
end Go.Proofs.YtleihcnongldbaaGreatDoor
