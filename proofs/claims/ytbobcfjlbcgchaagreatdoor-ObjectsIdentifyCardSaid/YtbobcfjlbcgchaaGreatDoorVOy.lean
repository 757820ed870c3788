/-
  Objects: Axioms, Commit and Alignment, as the program writes them.
  Conditions: none.
-/
import Derived.Test.YtbobcfjlbcgchaaGreatDoorVBp
import Derived.Test.YtbobcfjlbcgchaaGreatDoorVOf
import Derived.Test.YtbobcfjlbcgchaaGreatDoorVSyx
set_option linter.unnecessarySimpa false
set_option linter.unusedSectionVars false
set_option linter.unusedSimpArgs false
set_option linter.unusedVariables false
set_option maxHeartbeats 32000000
namespace Go.Proofs.YtbobcfjlbcgchaaGreatDoor
open Go.Proofs Go.RowKit
set_option maxRecDepth 10000
attribute [local irreducible] aJ aF Tri aG YVC bS aQ
theorem lF (l:List Ax):Tri Tryz.prog 20 [.d (.sl 16 (l.map axR))] NG (λr=>r= .d (.int .i64 (dF l))):=by
 refine Tri.len 0 rfl λhlen=> ?_
 have hlr:(l.map axR).length=l.length:=List.length_map ..
 rw [hlr]at hlen
 refine aH false [4] hty Tryz.func20 rfl (kp [0,2,4,5,6,7,8,14]) [] _ _ _ (by simp [Tryz.f20]) (by decide) ?_
 ((conv=>whnf);repeat ((first|(intro hq;try simp only [lnS]at hq)|refine sI ?_|refine .intro _ (.intro rfl ?_));(conv=>whnf)))
 rw [hlr]
 refine aK hty (λj:Nat=>([(0, .d (.sl 16 (l.map axR))),(2, .d (.int .i64 0)),(5, .d (.sl 16 (l.map axR))),(6, .d (.int .i64 l.length)),(7, .d (.int .i64 j))],NG)) (λj=>j<=l.length/\ ∀x∈l.take j,bL x=0) (λj=>l.length - j) 0 ⟨by omega,by simp⟩ ⟨by repeat' (first|exact trivial|exact rfl|refine And.intro ?_ ?_),⟨rfl,rfl,trivial⟩⟩ ?_
 rintro j ⟨hj,hz⟩
 ((conv=>whnf);repeat ((first|(intro hq;try simp only [lnS]at hq)|refine sI ?_|refine .intro _ (.intro rfl ?_));(conv=>whnf)))
 refine aA (λh1=> ?_) (λh1=> ?_)
 ·have hjl:j < l.length:=by omega
  have hrow:(l.map axR)[((j:Nat):Int).toNat]? =some (axR l[j]):=bV hjl
  have hc:=iO l[j]
  have herr:=sR hjl hz
  have hnx:bL l[j]=0-> ∀x∈l.take (j+1),bL x=0:=by
   intro h0 x hx
   rw [List.take_succ_eq_append_getElem hjl]at hx
   rcases List.mem_append.1 hx with hx|hx
   ·exact hz x hx
   ·simp at hx;subst hx;exact h0
  generalize l[j]=x at *
  ((conv=>whnf);repeat ((first|(refine⟨_,hrow, ?_⟩)|(refine aD NG hc ⟨rfl,rfl,trivial⟩ (λr hs=> ?_);subst hs)|(intro hq;try simp only [lnS]at hq)|refine sI ?_|refine .intro _ (.intro rfl ?_));(conv=>whnf)))
  refine aC (λh2=> ?_) (λh2=> ?_)
  ·rw [herr h2]
   ((conv=>whnf);repeat ((first|(intro hq;try simp only [lnS]at hq)|refine sI ?_|refine .intro _ (.intro rfl ?_));(conv=>whnf)))
   rfl
  ·have h2:bL x=0:=by simpa using h2
   rw [h2]
   ((conv=>whnf);repeat ((first|(intro hq;try simp only [lnS]at hq)|refine sI ?_|refine .intro _ (.intro rfl ?_));(conv=>whnf)))
   exact⟨j+1,⟨by omega,hnx h2⟩,by dsimp only;omega,⟨by repeat' (first|exact trivial|exact rfl|refine And.intro ?_ ?_),⟨rfl,rfl,trivial⟩⟩⟩
 ·have hjl:j=l.length:=by omega
  subst hjl
  rw [List.take_length]at hz
  rw [(fO l).2 hz]
  ((conv=>whnf);repeat ((first|(intro hq;try simp only [lnS]at hq)|refine sI ?_|refine .intro _ (.intro rfl ?_));(conv=>whnf)))
  rfl
theorem pairN (b c:SV):gR (.tup [.d .nil,c]) (.tup [.d (.sl 1 ([].map bE)),c]):=gR.pair gR.nil
theorem gF (l:List Ax):Tri Tryz.prog 7 [.d (.sl 16 (l.map axR))] NG (λr=>r= .tup [.d (.sl 1 ((aEc l).1.map bE)), .d (.int .i64 (aEc l).2)]):=by
 refine Tri.says ?_
 have hlr:(l.map axR).length=l.length:=List.length_map ..
 have hc:=lF l
 refine aH false [] hty Tryz.func7 rfl (kp [0,2,3,4,8,12]) [] _ _ _ (by simp [Tryz.f7]) (by decide) ?_
 ((conv=>whnf);repeat ((first|(refine aD NG hc ⟨rfl,rfl,trivial⟩ (λr hs=> ?_);subst hs)|(intro hq;try simp only [lnS]at hq)|refine sI ?_|refine .intro _ (.intro rfl ?_));(conv=>whnf)))
 refine aC (λh2=> ?_) (λh2=> ?_)
 ·have hv:aEc l=([],dF l):=by
   have:aKr l=dF l:=by unfold aKr;rw [if_pos h2]
   unfold aEc;rw [this,if_neg h2]
  rw [hv]
  ((conv=>whnf);repeat ((first|(intro hq;try simp only [lnS]at hq)|refine sI ?_|refine .intro _ (.intro rfl ?_));(conv=>whnf)))
  exact⟨_,pairN (.d .nil) _,rfl⟩
 have h2:dF l=0:=by simpa using h2
 rw [h2]
 ((conv=>whnf);repeat ((first|(intro hq;try simp only [lnS]at hq)|refine sI ?_|refine .intro _ (.intro rfl ?_));(conv=>whnf)))
 rw [hlr]
 refine aA (λh3=> ?_) (λh3=> ?_)
 ·have hv:aEc l=([],2):=by
   have:aKr l=2:=by unfold aKr;rw [if_neg (by rw [h2];simp),if_pos (by omega)]
   unfold aEc;rw [this,if_neg (by decide)]
  rw [hv]
  ((conv=>whnf);repeat ((first|(intro hq;try simp only [lnS]at hq)|refine sI ?_|refine .intro _ (.intro rfl ?_));(conv=>whnf)))
  exact⟨_,pairN (.d .nil) _,rfl⟩
 have hv:aEc l=(wAs l,0):=by
  have:aKr l=0:=by unfold aKr;rw [if_neg (by rw [h2];simp),if_neg (by omega)]
  unfold aEc;rw [if_pos this]
 have hb:=vE ((fO l).1 h2)
 rw [hv]
 ((conv=>whnf);repeat ((first|(intro hq;try simp only [lnS]at hq)|refine sI ?_|refine .intro _ (.intro rfl ?_));(conv=>whnf)))
 refine aF.ownH 4 104 67 5 1 rfl (bY (by with_unfolding_all exact rfl)) (jR (by with_unfolding_all exact rfl)) ?_
 refine WrT.call (aC4 l) rfl [] (by have:l.length * 7000<=1024 * 7000:=Nat.mul_le_mul_right _ (by omega);simp only [List.length_nil];omega) (by decide) rfl rfl ?_
 rw [List.nil_append]
 ((conv=>whnf);repeat ((first|(intro hq;try simp only [lnS]at hq)|refine sI ?_|refine .intro _ (.intro rfl ?_));(conv=>whnf)))
 exact⟨_, .refl _,rfl⟩
theorem aVs {c:Cm}(h:c.no < 1\/1024 < c.no\/2 < c.parents.length):aKh c=([],1):=by
 have e:cmE c=1:=by unfold cmE;rw [if_pos h]
 unfold aKh;rw [e,if_neg (by decide)]
theorem aVq {c:Cm}(h:¬ (c.no < 1\/1024 < c.no\/2 < c.parents.length)) (hp:¬ aCo c.no c.parents=true):aKh c=([],1):=by
 have e:cmE c=1:=by unfold cmE;rw [if_neg h,if_neg hp]
 unfold aKh;rw [e,if_neg (by decide)]
theorem aVr {c:Cm}(h:¬ (c.no < 1\/1024 < c.no\/2 < c.parents.length)) (hp:aCo c.no c.parents=true) (hm:65536 < c.message.length):aKh c=([],2):=by
 have e:cmE c=2:=by unfold cmE;rw [if_neg h,if_pos hp,if_pos hm]
 unfold aKh;rw [e,if_neg (by decide)]
theorem aXp {c:Cm}(h:¬ (c.no < 1\/1024 < c.no\/2 < c.parents.length)) (hp:aCo c.no c.parents=true) (hm:¬ 65536 < c.message.length):aKh c=(wCm c,0):=by
 have e:cmE c=0:=by unfold cmE;rw [if_neg h,if_pos hp,if_neg hm]
 unfold aKh;rw [if_pos e]
theorem aX7 (l:List Int) (h:l.length<=2):l=[]\/(∃a,l=[a])\/ ∃a b,l=[a,b]:=by
 match l,h with
 | [],_=>exact .inl rfl
 | [a],_=>exact .inr (.inl ⟨a,rfl⟩)
 | [a,b],_=>exact .inr (.inr ⟨a,b,rfl⟩)
 |_::_::_::_,h=>simp at h
theorem aS4 (c:Cm) (h:c.parents.length<=2):(wCm c).length<=100+c.message.length:=by
 have h1:((c.parents.map lG).flatten).length<=c.parents.length * 8:=nM λz _=>by rw [eI];exact Nat.le_refl _
 have h2:(rT c.base).length=32:=c.base.2
 unfold wCm iA lC
 simp only [List.length_append,eI,bH,h2]
 omega
theorem aCs (c:Cm):Tri Tryz.prog 17 [.d (.agg (cmR c))] [] (λr=>r= .tup [.d (.sl 1 ((aKh c).1.map bE)), .d (.int .i64 (aKh c).2)]):=by
 refine Tri.says ?_
 have hwc:=aKu c
 have hwl:=aS4 c
 have hbad:=aVs (c:=c)
 have hpar:=aVq (c:=c)
 have hmsg:=aVr (c:=c)
 have hokk:=aXp (c:=c)
 obtain⟨no,l,dg,m⟩:=c
 dsimp only at hwl hbad hpar hmsg hokk
 generalize wCm ⟨no,l,dg,m⟩=out at *
 generalize aKh ⟨no,l,dg,m⟩=res at *
 obtain⟨xl,hx⟩:=dg
 obtain⟨y0,y1,y2,y3,y4,y5,y6,y7,y8,y9,y10,y11,y12,y13,y14,y15,y16,y17,y18,y19,y20,y21,y22,y23,y24,y25,y26,y27,y28,y29,y30,y31,rfl⟩:=aBg hx
 have hlr:(l.map aUd).length=l.length:=List.length_map ..
 by_cases h0:no < 1\/1024 < no\/2 < l.length
 ·rw [hbad h0]
  clear hbad hpar hmsg hokk hwl
  refine aP hty Tryz.func17 rfl (kp [0,1,2,3,4,5,6,20,22,23,24,25,48,53]) [] _ _ _ (by simp [Tryz.f17]) (by simp) ?_
  ((conv=>whnf);repeat' ((first|(intro hq;(try simp only [lnS]at hq);(try rewrite [List.length_map]))|refine sJ ?_|refine .intro _ (.intro rfl ?_)|refine exL (k:= ?_)|refine dwR ?_|((first|refine aA ?_ ?_|refine aC ?_ ?_)<;>intro hb<;>(first|exact ddX hb|try simp only [lnS]at hb))|(refine aB ?_ ?_<;>intro hb<;>try exact dsX hb))<;>(conv=>whnf)))
  all_goals exact⟨_,pairN (.d .nil) _,rfl⟩
 clear hbad
 replace hpar:=hpar h0
 replace hmsg:=hmsg h0
 replace hokk:=hokk h0
 have hl2:l.length<=2:=by omega
 replace hwl:=hwl hl2
 by_cases hp:aCo no l=true
 ·clear hpar
  replace hmsg:=hmsg hp
  replace hokk:=hokk hp
  by_cases hm:65536 < m.length
  ·rw [hmsg hm]
   clear hmsg hokk hwl
   rcases aX7 l hl2 with rfl|⟨a,rfl⟩|⟨a,b,rfl⟩
   all_goals simp only [aCo,List.all_cons,List.all_nil,Bool.and_eq_true,decide_eq_true_eq,Bool.and_true,Bool.not_eq_true',decide_eq_false_iff_not]at hp
   all_goals (refine aP hty Tryz.func17 rfl (kp [0,1,2,3,4,5,6,20,22,23,24,25,48,53]) [] _ _ _ (by simp [Tryz.f17]) (by simp) ?_)
   all_goals (((conv=>whnf);repeat' ((first|(intro hq;(try simp only [lnS]at hq);(try rewrite [List.length_map]))|refine sJ ?_|refine .intro _ (.intro rfl ?_)|refine exL (k:= ?_)|(refine aL9 hty 3 ?_)|refine dwR ?_|((first|refine aA ?_ ?_|refine aC ?_ ?_)<;>intro hb<;>(first|exact ddX hb|try simp only [lnS]at hb))|(refine aB ?_ ?_<;>intro hb<;>try exact dsX hb))<;>(conv=>whnf))))
   all_goals exact⟨_,pairN (.d .nil) _,rfl⟩
  ·rw [hokk hm]
   clear hmsg hokk
   have hfin:out.length<=100000000000000:=by omega
   rcases aX7 l hl2 with rfl|⟨a,rfl⟩|⟨a,b,rfl⟩
   all_goals simp only [aCo,List.all_cons,List.all_nil,Bool.and_eq_true,decide_eq_true_eq,Bool.and_true,Bool.not_eq_true',decide_eq_false_iff_not]at hp
   all_goals (refine aP hty Tryz.func17 rfl (kp [0,1,2,3,4,5,6,20,22,23,24,25,48,53]) [] _ _ _ (by simp [Tryz.f17]) (by simp) ?_)
   all_goals (((conv=>whnf);repeat' ((first|(intro hq;(try simp only [lnS]at hq);(try rewrite [List.length_map]))|refine sJ ?_|refine .intro _ (.intro rfl ?_)|refine exL (k:= ?_)|(refine aL9 hty 3 ?_)|refine dwR ?_|((first|refine aA ?_ ?_|refine aC ?_ ?_)<;>intro hb<;>(first|exact ddX hb|try simp only [lnS]at hb))|(refine aB ?_ ?_<;>intro hb<;>try exact dsX hb))<;>(conv=>whnf))))
   all_goals refine aF.ownH 6 104 67 5 1 rfl (bY (by with_unfolding_all exact rfl)) (jR (by with_unfolding_all exact rfl)) ?_
   all_goals refine WrT.call hwc rfl [] (by rw [List.length_nil];omega) (by decide) rfl rfl ?_
   all_goals rw [List.nil_append]
   all_goals ((conv=>whnf);repeat ((first|(intro hq;try simp only [lnS]at hq)|refine sI ?_|refine .intro _ (.intro rfl ?_));(conv=>whnf)))
   all_goals exact⟨_, .refl _,rfl⟩
 ·rw [hpar hp]
  clear hpar hmsg hokk hwl
  rcases aX7 l hl2 with rfl|⟨a,rfl⟩|⟨a,b,rfl⟩
  ·exact absurd rfl hp
  all_goals simp only [aCo,List.all_cons,List.all_nil,Bool.and_eq_true,decide_eq_true_eq,Bool.and_true,Bool.not_eq_true',decide_eq_false_iff_not]at hp
  all_goals (refine aP hty Tryz.func17 rfl (kp [0,1,2,3,4,5,6,20,22,23,24,25,48,53]) [] _ _ _ (by simp [Tryz.f17]) (by simp) ?_)
  all_goals (((conv=>whnf);repeat' ((first|(intro hq;(try simp only [lnS]at hq);(try rewrite [List.length_map]))|refine sJ ?_|refine .intro _ (.intro rfl ?_)|refine exL (k:= ?_)|(refine aL9 hty 3 ?_)|refine dwR ?_|((first|refine aA ?_ ?_|refine aC ?_ ?_)<;>intro hb<;>(first|exact ddX hb|try simp only [lnS]at hb))|(refine aB ?_ ?_<;>intro hb<;>try exact dsX hb))<;>(conv=>whnf))))
  all_goals exact⟨_,pairN (.d .nil) _,rfl⟩
end Go.Proofs.YtbobcfjlbcgchaaGreatDoor
