/-
  Terms: the reference's CheckAxiom.
  Conditions: none.
-/
import Derived.Test.YtfhoddcminbffaaGreatDoorMDd
import Derived.Test.YtfhoddcminbffaaGreatDoorMQb
set_option linter.unnecessarySimpa false
set_option linter.unusedSectionVars false
set_option linter.unusedSimpArgs false
set_option linter.unusedVariables false
set_option maxHeartbeats 16000000
namespace Go.Proofs.YtfhoddcminbffaaGreatDoor
open Go.Proofs
set_option maxRecDepth 10000
attribute [local irreducible] aM aJ Tri aH YVC dI bI
theorem aPv {x:Ax}(h:x.kind < 1\/9 < x.kind):bB x=22:=by
 unfold bB bJ
 rw [if_pos h,if_pos rfl]
theorem aO4 {x:Ax}(h:1<=x.kind/\x.kind<=9) {u:Use}(hu:bX x.kind=u):bB x=if bA u x=false then 22 else sT u x:=by
 have hs:bJ x=bA u x:=by unfold bJ;rw [if_neg (by omega),hu]
 unfold bB
 rw [hs,hu]
theorem uS (x:Ax) (hk:x.kind < 1\/9 < x.kind):Tri Tryz.prog 44 [.d (.agg (axR x))] [] (λr=>r= .d (.int .i64 (bB x))):=by
 have f:=sH x.kind
 rw [aL3 hk]at f
 rw [aPv hk]
 refine aF false [1] hty Tryz.func44 rfl (kp [0,1,2,3,4,5,6,7,8,9,10,11,12,92,99,104,113,129,130,135,137,142,164]) [] _ _ _ (by simp [Tryz.f44]) (by simp) ?_
 ((conv=>whnf);repeat' ((first|(intro hq;(try simp only [lnS]at hq);(try rewrite [List.length_map]))|refine sJ ?_|refine .intro _ (.intro rfl ?_)|refine exL (k:= ?_)|(refine aD [] f trivial (λr hs=> ?_);subst hs)|refine dwR ?_|((first|refine aB ?_ ?_|refine aC ?_ ?_)<;>intro hb<;>(first|exact ddX hb|try simp only [lnS]at hb))|(refine aA ?_ ?_<;>intro hb<;>try exact dsX hb))<;>(conv=>whnf)))
 all_goals first|rfl|(exfalso;omega)
theorem aL4 {k:Int}(h:1<=k/\k<=9):(bX k=⟨true,true,false,false,false,0,0⟩/\1<=k/\k<=3)\/(bX k=⟨false,true,true,false,false,0,0⟩/\k=4)\/(bX k=⟨false,false,true,false,false,1,1⟩/\k=5)\/(bX k=⟨false,false,true,false,false,2,4⟩/\k=6)\/
  (bX k=⟨false,false,true,false,false,0,0⟩/\k=7)\/(bX k=⟨false,true,false,true,false,0,0⟩/\k=8)\/(bX k=⟨false,false,true,true,true,0,0⟩/\k=9):=by
 have hk:k=1\/k=2\/k=3\/k=4\/k=5\/k=6\/k=7\/k=8\/k=9:=by omega
 rcases hk with rfl|rfl|rfl|rfl|rfl|rfl|rfl|rfl|rfl
 ·exact .inl ⟨rfl,by decide⟩
 ·exact .inl ⟨rfl,by decide⟩
 ·exact .inl ⟨rfl,by decide⟩
 ·exact .inr (.inl ⟨rfl,rfl⟩)
 ·exact .inr (.inr (.inl ⟨rfl,rfl⟩))
 ·exact .inr (.inr (.inr (.inl ⟨rfl,rfl⟩)))
 ·exact .inr (.inr (.inr (.inr (.inl ⟨rfl,rfl⟩))))
 ·exact .inr (.inr (.inr (.inr (.inr (.inl ⟨rfl,rfl⟩)))))
 ·exact .inr (.inr (.inr (.inr (.inr (.inr ⟨rfl,rfl⟩)))))
theorem xH (x:Ax) (hin:1<=x.kind/\x.kind<=9) (h1:aN x.left<=1000000) (h2:aN x.right<=1000000):Tri Tryz.prog 44 [.d (.agg (axR x))] [] (λr=>r= .d (.int .i64 (bB x))):=by
 have f:=sH x.kind
 have hT:=aL4 hin
 have hE:=aO4 hin rfl
 rw [hE]
 clear hE
 generalize bX x.kind=u at *
 have e1:=uR x.left
 have e2:=uR x.right
 have p0:=iU x.role
 have q1:=mE x.a
 have q2:=mE x.b
 have c1:=jK x.left h1
 have c2:=jK x.right h2
 have b1:= λh=>yL x.left ((dN _).1 h).2.2
 have b2:= λh=>yL x.right ((dN _).1 h).2.2
 rw [aL]at e1 e2 c1 c2
 simp only [aL]at b1 b2
 unfold bA sT pQ aE1
 generalize eZ x.left=z1 at *
 generalize eZ x.right=z2 at *
 generalize bH x.left=E1 at *
 generalize bH x.right=E2 at *
 generalize bU x.left=B1 at *
 generalize bU x.right=B2 at *
 generalize cF x.role=P0 at *
 generalize iB x.a=Q1 at *
 generalize iB x.b=Q2 at *
 rcases hT with⟨rfl,hk⟩|⟨rfl,hk⟩|⟨rfl,hk⟩|⟨rfl,hk⟩|⟨rfl,hk⟩|⟨rfl,hk⟩|⟨rfl,hk⟩
 all_goals (
  refine aF false [1] hty Tryz.func44 rfl (kp [0,1,2,3,4,5,6,7,8,9,10,11,12,92,99,104,113,129,130,135,137,142,164]) [] _ _ _ (by simp [Tryz.f44]) (by simp) ?_
  ((conv=>whnf);repeat' ((first|(intro hq;(try simp only [lnS]at hq);(try rewrite [List.length_map]))|refine sJ ?_|refine .intro _ (.intro rfl ?_)|refine exL (k:= ?_)|(refine aD [] f trivial (λr hs=> ?_);subst hs)|(refine aD [] e1 trivial (λr hs=> ?_);subst hs)|(refine aD [] e2 trivial (λr hs=> ?_);subst hs)|(refine aD [] p0 trivial (λr hs=> ?_);subst hs)|(refine aD [] q1 trivial (λr hs=> ?_);subst hs)|(refine aD [] q2 trivial (λr hs=> ?_);subst hs)|(refine aD [] c1 trivial (λr hs=> ?_);subst hs)|(refine aD [] c2 trivial (λr hs=> ?_);subst hs)|(refine aD [] (b1 (by omega)) trivial (λr hs=> ?_);subst hs)|(refine aD [] (b2 (by omega)) trivial (λr hs=> ?_);subst hs)|refine dwR ?_|((first|refine aB ?_ ?_|refine aC ?_ ?_)<;>intro hb<;>(first|exact ddX hb|try simp only [lnS]at hb))|(refine aA ?_ ?_<;>intro hb<;>try exact dsX hb))<;>(conv=>whnf)))
  all_goals try (refine cC (Eq.symm ?_);clear f e1 e2 p0 q1 q2 c1 c2 b1 b2;simp [*];done)
  all_goals try (refine cC (Eq.symm ?_);clear f e1 e2 p0 q1 q2 c1 c2 b1 b2;simp_all;done)
  all_goals try (refine cC (Eq.symm ?_);clear f e1 e2 p0 q1 q2 c1 c2 b1 b2;simp_all;omega)
  all_goals try (refine cC (Eq.symm ?_);clear f e1 e2 p0 q1 q2 c1 c2 b1 b2;generalize x.roles.length=m at *;simp_all;omega)
  clear f e1 e2 p0
  refine aG hty (λj:Nat=>([(1, .ea 16 [axR x] 0 0),(3, .d (.bool _)),(4, .d (.bool _)),(5, .d (.bool _)),(6, .d (.bool _)),(7, .d (.bool _)),(10, .d (.int .i64 j))],[])) (λj=>j<=x.roles.length/\x.roles.all cF=(x.roles.drop j).all cF) (λj=>x.roles.length - j) 0 ⟨by omega,rfl⟩ ⟨by repeat' (first|exact trivial|exact rfl|exact⟨rfl,rfl⟩|refine And.intro ?_ ?_),trivial⟩ ?_
  rintro j ⟨hj,hn⟩
  ((conv=>whnf);repeat ((first|(intro hq;try simp only [lnS]at hq)|refine sI ?_|refine .intro _ (.intro rfl ?_));(conv=>whnf)))
  refine aB (λh3=> ?_) (λh3=> ?_)
  ·have hjl:j < x.roles.length:=by simp only [List.length_map]at h3;omega
   have hrow:(x.roles.map bN)[(j:Int).toNat]? =some (bN x.roles[j]):=bC hjl
   have hc:=iU x.roles[j]
   rw [List.drop_eq_getElem_cons hjl,List.all_cons]at hn
   generalize x.roles[j]=s at hrow hc hn
   generalize cF s=b at hc hn
   ((conv=>whnf);repeat' ((first|(intro hq;(try simp only [lnS]at hq);(try rewrite [List.length_map]))|refine sJ ?_|refine .intro _ (.intro rfl ?_)|refine exL (k:= ?_)|(refine⟨_,hrow, ?_⟩)|(refine aD [] hc trivial (λr hs=> ?_);subst hs)|refine dwR ?_|((first|refine aB ?_ ?_|refine aC ?_ ?_)<;>intro hb<;>(first|exact ddX hb|try simp only [lnS]at hb))|(refine aA ?_ ?_<;>intro hb<;>try exact dsX hb))<;>(conv=>whnf)))
   ·refine cC (Eq.symm ?_)
    rw [hn]
    simp_all
   ·refine⟨j+1,⟨by omega, ?_⟩,by dsimp only;omega,by repeat' (first|exact trivial|exact rfl|refine And.intro ?_ ?_),trivial⟩
    rw [hn]
    simp_all
  ·have hjl:j=x.roles.length:=by simp only [List.length_map]at h3;omega
   subst hjl
   rw [List.drop_length,List.all_nil]at hn
   rw [hn]
   clear hn
   ((conv=>whnf);repeat' ((first|(intro hq;(try simp only [lnS]at hq);(try rewrite [List.length_map]))|refine sJ ?_|refine .intro _ (.intro rfl ?_)|refine exL (k:= ?_)|(refine aD [] q1 trivial (λr hs=> ?_);subst hs)|(refine aD [] q2 trivial (λr hs=> ?_);subst hs)|(refine aD [] c1 trivial (λr hs=> ?_);subst hs)|(refine aD [] c2 trivial (λr hs=> ?_);subst hs)|(refine aD [] (b1 (by omega)) trivial (λr hs=> ?_);subst hs)|(refine aD [] (b2 (by omega)) trivial (λr hs=> ?_);subst hs)|refine dwR ?_|((first|refine aB ?_ ?_|refine aC ?_ ?_)<;>intro hb<;>(first|exact ddX hb|try simp only [lnS]at hb))|(refine aA ?_ ?_<;>intro hb<;>try exact dsX hb))<;>(conv=>whnf)))
   all_goals clear q1 q2 c1 c2 b1 b2
   all_goals first
    |(refine cC (Eq.symm ?_);simp_all;done)
    |(exfalso;simp_all;done)
    |(refine cC (Eq.symm ?_);rcases(show x.kind=1\/x.kind=2\/x.kind=3 by omega)with h9|h9|h9<;>simp_all;done)
    |(exfalso;omega))
theorem lO (x:Ax) (h1:aN x.left<=1000000) (h2:aN x.right<=1000000):Tri Tryz.prog 44 [.d (.agg (axR x))] [] (λr=>r= .d (.int .i64 (bB x))):=by
 by_cases h:1<=x.kind/\x.kind<=9
 ·exact xH x h h1 h2
 ·exact uS x (by omega)
end Go.Proofs.YtfhoddcminbffaaGreatDoor
