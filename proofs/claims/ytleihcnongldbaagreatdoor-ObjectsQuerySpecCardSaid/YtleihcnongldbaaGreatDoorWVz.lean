/-
  ObjectsQuerySpec, walked.
  Conditions: none.
-/
import Derived.Test.YtleihcnongldbaaGreatDoorWVs
import Derived.Test.YtleihcnongldbaaGreatDoorWVh
import Derived.Test.YtleihcnongldbaaGreatDoorWUc
import Derived.Test.YtleihcnongldbaaGreatDoorWQqi
set_option linter.unnecessarySimpa false
set_option linter.unusedSectionVars false
set_option linter.unusedSimpArgs false
set_option linter.unusedVariables false
set_option maxHeartbeats 32000000
namespace Go.Proofs.YtleihcnongldbaaGreatDoor
open Go.Proofs Go.RowKit
set_option maxRecDepth 10000
attribute [local irreducible] aN aJ Tri aI YVC cP bE vH
theorem zE (q:Qy) (bs:List UInt8):Tri Tryz.prog 3 [.d (.agg (qyR q)), .d (.sl 1 (bs.map aM))] NG (λr=>r= .d (.bool true)):=by
 have c1:=aDi bs
 have c0:=aC0 q
 have c2:=xI q
 have c3:=xD q
 have ha:=fX (vA q).1
 have c4:= λh=>qF vA bs h (λx _ _=>xI x)
 have c5:= λh=>xC bs h
 have e2:eM aQ6 vA qy0 280 bs=eM rQy vA qy0 280 bs:=aR1 (λy d h=>by have:=aQ5 h [];rwa [List.append_nil]at this) (λy d h=>by have:=aSc h [];rwa [List.append_nil]at this) bs
 rw [e2]at c5
 clear e2
 have c6:=zB (eM rQy vA qy0 280 bs).1
 generalize vA q=res at *
 generalize eM rQy vA qy0 280 bs=out at *
 obtain⟨told,parts⟩:=q
 obtain⟨x,e⟩:=out
 obtain⟨told2,parts2⟩:=x
 refine aE false [2,9,11] hty Tryz.func3 rfl (kp [0,1,2,4,5,6,7,8,9,10,11,12,14,22]) [] _ _ _ (by simp [Tryz.f3]) (by decide) ?_
 ((conv=>whnf);repeat ((first|(intro hq;try simp only [lnS]at hq)|refine sI ?_|refine .intro _ (.intro rfl ?_));(conv=>whnf)))
 refine aD NG aA5 ⟨rfl,rfl,trivial⟩ (λr hs=> ?_)
 subst hs
 ((conv=>whnf);repeat ((first|(intro hq;try simp only [lnS]at hq)|refine sI ?_|refine .intro _ (.intro rfl ?_));(conv=>whnf)))
 refine aD [] c1 trivial (λr hs=> ?_)
 subst hs
 by_cases hf:bs.length<=6000
 ·rw [decide_eq_true hf]
  have hle:bs.length<=1000000:=by omega
  have c4:=(c4 hle).mono (post':= λr=>r= .tup [.d (.agg (qyR ⟨told2,parts2⟩)), .d (.int .i64 e)]) (λr h=>by obtain⟨x,rfl,hr⟩:=h;exact hr)
  have c5:=(c5 hle).mono (post':= λr=>r= .tup [.d (.agg (qyR ⟨told2,parts2⟩)), .d (.int .i64 e)]) (λr h=>by obtain⟨x,rfl,hr⟩:=h;exact hr)
  ((conv=>whnf);repeat ((first|(intro hq;try simp only [lnS]at hq)|refine sI ?_|refine .intro _ (.intro rfl ?_));(conv=>whnf)))
  refine aD [] c0 trivial (λr hs=> ?_)
  obtain⟨b0,rfl⟩:=hs
  cases b0
  ·((conv=>whnf);repeat' ((first|(intro hq;(try simp only [lnS]at hq);(try rewrite [List.length_map]))|refine sJ ?_|refine .intro _ (.intro rfl ?_)|refine exL (k:= ?_)|refine dwR ?_|((first|refine aB ?_ ?_|refine aC ?_ ?_)<;>intro hb<;>(first|exact ddX hb|try simp only [lnS]at hb))|(refine aA ?_ ?_<;>intro hb<;>try exact dsX hb))<;>(conv=>whnf)))
   all_goals rfl
  ((conv=>whnf);repeat' ((first|(intro hq;(try simp only [lnS]at hq);(try rewrite [List.length_map]))|refine sJ ?_|refine .intro _ (.intro rfl ?_)|refine exL (k:= ?_)|(refine aD NG c2 ⟨rfl,rfl,trivial⟩ (λr hs=> ?_);subst hs)|(refine aD [] c3 trivial (λr hs=> ?_);subst hs)|(refine aD NG c4 ⟨rfl,rfl,trivial⟩ (λr hs=> ?_);subst hs)|(refine aD [] c5 trivial (λr hs=> ?_);subst hs)|(refine aD [] c6 trivial (λr hs=> ?_);subst hs)|refine dwR ?_|((first|refine aB ?_ ?_|refine aC ?_ ?_)<;>intro hb<;>(first|exact ddX hb|try simp only [lnS]at hb))|(refine aA ?_ ?_<;>intro hb<;>try exact dsX hb))<;>(conv=>whnf)))
  all_goals first|rfl|(refine aQ ?_;simp)
 ·rw [decide_eq_false hf]
  ((conv=>whnf);repeat' ((first|(intro hq;(try simp only [lnS]at hq);(try rewrite [List.length_map]))|refine sJ ?_|refine .intro _ (.intro rfl ?_)|refine exL (k:= ?_)|refine dwR ?_|((first|refine aB ?_ ?_|refine aC ?_ ?_)<;>intro hb<;>(first|exact ddX hb|try simp only [lnS]at hb))|(refine aA ?_ ?_<;>intro hb<;>try exact dsX hb))<;>(conv=>whnf)))
  all_goals rfl
end Go.Proofs.YtleihcnongldbaaGreatDoor
