/-
  Roles: which roles are simple where there are no axioms.
  Conditions: none.
-/
import Derived.Test.YtleihcnongldbaaGreatDoorWDb
import Derived.Test.YtleihcnongldbaaGreatDoorWSne
set_option linter.unnecessarySimpa false
set_option linter.unusedSectionVars false
set_option linter.unusedSimpArgs false
set_option linter.unusedVariables false
set_option maxHeartbeats 8000000
namespace Go.Proofs.YtleihcnongldbaaGreatDoor
open Go.Proofs Go.RowKit
set_option maxRecDepth 10000
attribute [local irreducible] aN aJ Tri aI YVC cP bE
theorem aEi:Tri Tryz.prog 183 [.d .nil] [] (λr=>r= .d (.int .i64 0)):=by
 refine aF hty Tryz.func183 rfl (kp [0,2,4,5,6,7,8,9,15]) [] _ _ _ (by simp [Tryz.f183]) (by simp) ?_
 ((conv=>whnf);repeat' ((first|(intro hq;(try simp only [lnS]at hq);(try rewrite [List.length_map]))|refine sJ ?_|refine .intro _ (.intro rfl ?_)|refine exL (k:= ?_)|(refine eO hty 2 ?_)|refine dwR ?_|((first|refine aB ?_ ?_|refine aC ?_ ?_)<;>intro hb<;>(first|exact ddX hb|try simp only [lnS]at hb))|(refine aA ?_ ?_<;>intro hb<;>try exact dsX hb))<;>(conv=>whnf)))
 rfl
theorem aLa (s:List UInt8):Tri Tryz.prog 150 [.d .nil, .d (.sl 1 [[.str s]])] [] (λr=>r= .d (.int .i64 (if dM s then 0 else 20))):=by
 refine aF hty Tryz.func150 rfl (kp [0,1,4,5,7,8,12,14,15,16,17,23]) [] _ _ _ (by simp [Tryz.f150]) (by simp) ?_
 ((conv=>whnf);repeat' ((first|(intro hq;(try simp only [lnS]at hq);(try rewrite [List.length_map]))|refine sJ ?_|refine .intro _ (.intro rfl ?_)|refine exL (k:= ?_)|(refine eO hty 2 ?_)|(refine aD [] aEi trivial (λr hs=> ?_);subst hs)|(refine aD [] (jU _) trivial (λs hs=> ?_);subst hs)|refine dwR ?_|((first|refine aB ?_ ?_|refine aC ?_ ?_)<;>intro hb<;>(first|exact ddX hb|try simp only [lnS]at hb))|(refine aA ?_ ?_<;>intro hb<;>try exact dsX hb))<;>(conv=>whnf)))
 all_goals (cases h:dM s)
 all_goals first|rfl|(simp_all;done)|(simp_all;rfl)
theorem aQ1 (s:List UInt8) (hn:dM s=true):Tri Tryz.prog 111 [.d .nil, .d (.str s)] [] (λr=>r= .tup [.d (.bool true), .d (.int .i64 0)]):=by
 have h:=aLa s
 rw [if_pos hn]at h
 refine aF hty Tryz.func111 rfl (kp [0,1,4,5,6,7,9,10,12,18,21,22,23,24,29,47,48,49,50,66]) [] _ _ _ (by simp [Tryz.f111]) (by simp) ?_
 ((conv=>whnf);repeat ((first|(intro hq;try simp only [lnS]at hq)|refine sI ?_|refine .intro _ (.intro rfl ?_));(conv=>whnf)))
 refine aD [] (Tri.args (xs:=_) h ⟨dA.refl _,dA.osl,trivial⟩) trivial (λr hs=> ?_)
 subst hs
 ((conv=>whnf);repeat ((first|(intro hq;try simp only [lnS]at hq)|refine sI ?_|refine .intro _ (.intro rfl ?_));(conv=>whnf)))
 refine aFz rfl rfl (λl=>D.str l) 34 (bW (by with_unfolding_all exact rfl)) ?_
 ((conv=>whnf);repeat ((first|(intro hq;try simp only [lnS]at hq)|refine sI ?_|refine .intro _ (.intro rfl ?_));(conv=>whnf)))
 refine eO hty 2 ?_
 ((conv=>whnf);repeat ((first|(intro hq;try simp only [lnS]at hq)|refine sI ?_|refine .intro _ (.intro rfl ?_));(conv=>whnf)))
 refine aG false [] hty Tryz.func151 rfl (kp [0,1,4,5,6,7,9,17,25,26,27,28,34]) 100 (by simp [Tryz.f151]) ?_
 ((conv=>whnf);repeat ((first|(intro hq;try simp only [lnS]at hq)|refine sI ?_|refine .intro _ (.intro rfl ?_));(conv=>whnf)))
 refine aFz rfl rfl (λl=>D.str l) 35 (bW (by with_unfolding_all exact rfl)) ?_
 ((conv=>whnf);repeat ((first|(intro hq;try simp only [lnS]at hq)|refine sI ?_|refine .intro _ (.intro rfl ?_));(conv=>whnf)))
 refine aH3 (.inr rfl) rfl (aG1 rfl) rfl rfl rfl rfl (λbs1 c1=> ?_)
 ((conv=>whnf);repeat ((first|(intro hq;try simp only [lnS]at hq)|refine sI ?_|refine .intro _ (.intro rfl ?_));(conv=>whnf)))
 refine eO hty 3 ?_
 ((conv=>whnf);repeat' ((first|(intro hq;(try simp only [lnS]at hq);(try rewrite [List.length_map]))|refine sJ ?_|refine .intro _ (.intro rfl ?_)|refine exL (k:= ?_)|(refine aHm (id:=34) rfl rfl (aG1 rfl) rfl rfl rfl rfl ?_)|(refine eO hty 2 ?_)|refine dwR ?_|((first|refine aB ?_ ?_|refine aC ?_ ?_)<;>intro hb<;>(first|exact ddX hb|try simp only [lnS]at hb))|(refine aA ?_ ?_<;>intro hb<;>try exact dsX hb))<;>(conv=>whnf)))
 rfl
end Go.Proofs.YtleihcnongldbaaGreatDoor
