/-
  Terms: the reference's CheckAxiom.
  Conditions: none.
-/
import Derived.Test.YtfhoddcminbffaaGreatDoorVDd
import Derived.Test.YtfhoddcminbffaaGreatDoorVBv
set_option linter.unnecessarySimpa false
set_option linter.unusedSectionVars false
set_option linter.unusedSimpArgs false
set_option linter.unusedVariables false
set_option maxHeartbeats 16000000
namespace Go.Proofs.YtfhoddcminbffaaGreatDoor
open Go.Proofs
set_option maxRecDepth 10000
attribute [local irreducible] aV aM Tri aI YVC dQ bN
theorem aHt {x:Ax}(h:x.kind < 1\/9 < x.kind):bK x=22:=by
 unfold bK bE
 rw [if_pos h,if_pos rfl]
theorem aG1 {x:Ax}(h:1<=x.kind/\x.kind<=9) {u:Use}(hu:cK x.kind=u):bK x=if bG u x=false then 22 else oW u x:=by
 have hs:bE x=bG u x:=by unfold bE;rw [if_neg (by omega),hu]
 unfold bK
 rw [hs,hu]
theorem qS (x:Ax) (hk:x.kind < 1\/9 < x.kind):Tri Tryz.prog 44 [.d (.agg (axR x))] [] (λr=>r= .d (.int .i64 (bK x))):=by
 have f:=oO x.kind
 rw [aDv hk]at f
 rw [aHt hk]
 refine aH false [1] hty Tryz.func44 rfl (kp [0,1,2,3,4,5,6,7,8,9,10,11,12,92,99,104,113,129,130,135,137,142,164]) [] _ _ _ (by simp [Tryz.f44]) (by simp) ?_
 ((conv=>whnf);repeat' ((first|(intro hq;(try simp only [lnS]at hq);(try rewrite [List.length_map]))|refine sJ ?_|refine .intro _ (.intro rfl ?_)|refine exL (k:= ?_)|(refine aG [] f trivial (λr hs=> ?_);subst hs)|refine dwR ?_|((first|refine aD ?_ ?_|refine aF ?_ ?_)<;>intro hb<;>(first|exact ddX hb|try simp only [lnS]at hb))|(refine aC ?_ ?_<;>intro hb<;>try exact dsX hb))<;>(conv=>whnf)))
 all_goals first|rfl|(exfalso;omega)
theorem aDw {k:Int}(h:1<=k/\k<=9):(cK k=⟨true,true,false,false,false,0,0⟩/\1<=k/\k<=3)\/(cK k=⟨false,true,true,false,false,0,0⟩/\k=4)\/(cK k=⟨false,false,true,false,false,1,1⟩/\k=5)\/(cK k=⟨false,false,true,false,false,2,4⟩/\k=6)\/
  (cK k=⟨false,false,true,false,false,0,0⟩/\k=7)\/(cK k=⟨false,true,false,true,false,0,0⟩/\k=8)\/(cK k=⟨false,false,true,true,true,0,0⟩/\k=9):=by
 have hk:k=1\/k=2\/k=3\/k=4\/k=5\/k=6\/k=7\/k=8\/k=9:=by omega
 rcases hk with rfl|rfl|rfl|rfl|rfl|rfl|rfl|rfl|rfl
 ·exact .inl ⟨rfl,by decide⟩
 ·exact .inl ⟨rfl,by decide⟩
 ·exact .inl ⟨rfl,by decide⟩
 ·exact .inr (.inl ⟨rfl,rfl⟩)
 ·exact .inr (.inr (.inl ⟨rfl,rfl⟩))
 ·exact .inr (.inr (.inr (.inl ⟨rfl,rfl⟩)))
 ·exact .inr (.inr (.inr (.inr (.inl ⟨rfl,rfl⟩))))
 ·exact .inr (.inr (.inr (.inr (.inr (.inl ⟨rfl,rfl⟩)))))
 ·exact .inr (.inr (.inr (.inr (.inr (.inr ⟨rfl,rfl⟩)))))
theorem sP (x:Ax) (hin:1<=x.kind/\x.kind<=9) (h1:aQ x.left<=1000000) (h2:aQ x.right<=1000000):Tri Tryz.prog 44 [.d (.agg (axR x))] [] (λr=>r= .d (.int .i64 (bK x))):=by
 have f:=oO x.kind
 have hT:=aDw hin
 have hE:=aG1 hin rfl
 rw [hE]
 clear hE
 generalize cK x.kind=u at *
 have e1:=qQ x.left
 have e2:=qQ x.right
 have p0:=gJ x.role
 have q1:=fP x.a
 have q2:=fP x.b
 have c1:=gR x.left h1
 have c2:=gR x.right h2
 have b1:= λh=>tO x.left ((fQ _).1 h).2.2
 have b2:= λh=>tO x.right ((fQ _).1 h).2.2
 rw [aJ]at e1 e2 c1 c2
 simp only [aJ]at b1 b2
 unfold bG oW mN yL
 generalize eF x.left=z1 at *
 generalize eF x.right=z2 at *
 generalize bI x.left=E1 at *
 generalize bI x.right=E2 at *
 generalize bU x.left=B1 at *
 generalize bU x.right=B2 at *
 generalize dF x.role=P0 at *
 generalize gZ x.a=Q1 at *
 generalize gZ x.b=Q2 at *
 rcases hT with⟨rfl,hk⟩|⟨rfl,hk⟩|⟨rfl,hk⟩|⟨rfl,hk⟩|⟨rfl,hk⟩|⟨rfl,hk⟩|⟨rfl,hk⟩
 all_goals (
  refine aH false [1] hty Tryz.func44 rfl (kp [0,1,2,3,4,5,6,7,8,9,10,11,12,92,99,104,113,129,130,135,137,142,164]) [] _ _ _ (by simp [Tryz.f44]) (by simp) ?_
  ((conv=>whnf);repeat' ((first|(intro hq;(try simp only [lnS]at hq);(try rewrite [List.length_map]))|refine sJ ?_|refine .intro _ (.intro rfl ?_)|refine exL (k:= ?_)|(refine aG [] f trivial (λr hs=> ?_);subst hs)|(refine aG [] e1 trivial (λr hs=> ?_);subst hs)|(refine aG [] e2 trivial (λr hs=> ?_);subst hs)|(refine aG [] p0 trivial (λr hs=> ?_);subst hs)|(refine aG [] q1 trivial (λr hs=> ?_);subst hs)|(refine aG [] q2 trivial (λr hs=> ?_);subst hs)|(refine aG [] c1 trivial (λr hs=> ?_);subst hs)|(refine aG [] c2 trivial (λr hs=> ?_);subst hs)|(refine aG [] (b1 (by omega)) trivial (λr hs=> ?_);subst hs)|(refine aG [] (b2 (by omega)) trivial (λr hs=> ?_);subst hs)|refine dwR ?_|((first|refine aD ?_ ?_|refine aF ?_ ?_)<;>intro hb<;>(first|exact ddX hb|try simp only [lnS]at hb))|(refine aC ?_ ?_<;>intro hb<;>try exact dsX hb))<;>(conv=>whnf)))
  all_goals try (refine bZ (Eq.symm ?_);clear f e1 e2 p0 q1 q2 c1 c2 b1 b2;simp [*];done)
  all_goals try (refine bZ (Eq.symm ?_);clear f e1 e2 p0 q1 q2 c1 c2 b1 b2;simp_all;done)
  all_goals try (refine bZ (Eq.symm ?_);clear f e1 e2 p0 q1 q2 c1 c2 b1 b2;simp_all;omega)
  all_goals try (refine bZ (Eq.symm ?_);clear f e1 e2 p0 q1 q2 c1 c2 b1 b2;generalize x.roles.length=m at *;simp_all;omega)
  clear f e1 e2 p0
  refine aK hty (λj:Nat=>([(1, .ea 16 [axR x] 0 0),(3, .d (.bool _)),(4, .d (.bool _)),(5, .d (.bool _)),(6, .d (.bool _)),(7, .d (.bool _)),(10, .d (.int .i64 j))],[])) (λj=>j<=x.roles.length/\x.roles.all dF=(x.roles.drop j).all dF) (λj=>x.roles.length - j) 0 ⟨by omega,rfl⟩ ⟨by repeat' (first|exact trivial|exact rfl|exact⟨rfl,rfl⟩|refine And.intro ?_ ?_),trivial⟩ ?_
  rintro j ⟨hj,hn⟩
  ((conv=>whnf);repeat ((first|(intro hq;try simp only [lnS]at hq)|refine sI ?_|refine .intro _ (.intro rfl ?_));(conv=>whnf)))
  refine aD (λh3=> ?_) (λh3=> ?_)
  ·have hjl:j < x.roles.length:=by simp only [List.length_map]at h3;omega
   have hrow:(x.roles.map dR)[(j:Int).toNat]? =some (dR x.roles[j]):=aS hjl
   have hc:=gJ x.roles[j]
   rw [List.drop_eq_getElem_cons hjl,List.all_cons]at hn
   generalize x.roles[j]=s at hrow hc hn
   generalize dF s=b at hc hn
   ((conv=>whnf);repeat' ((first|(intro hq;(try simp only [lnS]at hq);(try rewrite [List.length_map]))|refine sJ ?_|refine .intro _ (.intro rfl ?_)|refine exL (k:= ?_)|(refine⟨_,hrow, ?_⟩)|(refine aG [] hc trivial (λr hs=> ?_);subst hs)|refine dwR ?_|((first|refine aD ?_ ?_|refine aF ?_ ?_)<;>intro hb<;>(first|exact ddX hb|try simp only [lnS]at hb))|(refine aC ?_ ?_<;>intro hb<;>try exact dsX hb))<;>(conv=>whnf)))
   ·refine bZ (Eq.symm ?_)
    rw [hn]
    simp_all
   ·refine⟨j+1,⟨by omega, ?_⟩,by dsimp only;omega,by repeat' (first|exact trivial|exact rfl|refine And.intro ?_ ?_),trivial⟩
    rw [hn]
    simp_all
  ·have hjl:j=x.roles.length:=by simp only [List.length_map]at h3;omega
   subst hjl
   rw [List.drop_length,List.all_nil]at hn
   rw [hn]
   clear hn
   ((conv=>whnf);repeat' ((first|(intro hq;(try simp only [lnS]at hq);(try rewrite [List.length_map]))|refine sJ ?_|refine .intro _ (.intro rfl ?_)|refine exL (k:= ?_)|(refine aG [] q1 trivial (λr hs=> ?_);subst hs)|(refine aG [] q2 trivial (λr hs=> ?_);subst hs)|(refine aG [] c1 trivial (λr hs=> ?_);subst hs)|(refine aG [] c2 trivial (λr hs=> ?_);subst hs)|(refine aG [] (b1 (by omega)) trivial (λr hs=> ?_);subst hs)|(refine aG [] (b2 (by omega)) trivial (λr hs=> ?_);subst hs)|refine dwR ?_|((first|refine aD ?_ ?_|refine aF ?_ ?_)<;>intro hb<;>(first|exact ddX hb|try simp only [lnS]at hb))|(refine aC ?_ ?_<;>intro hb<;>try exact dsX hb))<;>(conv=>whnf)))
   all_goals clear q1 q2 c1 c2 b1 b2
   all_goals first
    |(refine bZ (Eq.symm ?_);simp_all;done)
    |(exfalso;simp_all;done)
    |(refine bZ (Eq.symm ?_);rcases(show x.kind=1\/x.kind=2\/x.kind=3 by omega)with h9|h9|h9<;>simp_all;done)
    |(exfalso;omega))
theorem jI (x:Ax) (h1:aQ x.left<=1000000) (h2:aQ x.right<=1000000):Tri Tryz.prog 44 [.d (.agg (axR x))] [] (λr=>r= .d (.int .i64 (bK x))):=by
 by_cases h:1<=x.kind/\x.kind<=9
 ·exact sP x h h1 h2
 ·exact qS x (by omega)
end Go.Proofs.YtfhoddcminbffaaGreatDoor
