/-
  Objects: Axioms, Commit and Alignment, as the program writes them. The reference of objects: Axioms and Commit.
  Conditions: none.
-/
import Derived.Test.YtcomlapnibckmaaGreatDoorMOx
import Derived.Test.YtcomlapnibckmaaGreatDoorMOf
import Derived.Test.YtcomlapnibckmaaGreatDoorMSyq
import Derived.Test.YtcomlapnibckmaaGreatDoorMPi
import Derived.Test.YtcomlapnibckmaaGreatDoorMSw
set_option linter.unnecessarySimpa false
set_option linter.unusedSectionVars false
set_option linter.unusedSimpArgs false
set_option linter.unusedVariables false
set_option maxHeartbeats 64000000
namespace Go.Proofs.YtcomlapnibckmaaGreatDoor
open Go.Proofs Go.RowKit
set_option maxRecDepth 10000
attribute [local irreducible] aL aG Tri aD YVC cP bB
theorem fW (l:List Ax):Tri Tryz.prog 59 [.d (.sl 16 (l.map axR))] NG (λr=>r= .d (.int .i64 (cN l))):=by
 refine Tri.len 0 rfl λhlen=> ?_
 have hlr:(l.map axR).length=l.length:=List.length_map ..
 rw [hlr]at hlen
 refine aH false [4] hty Tryz.func59 rfl (kp [0,2,4,5,6,7,8,14]) [] _ _ _ (by simp [Tryz.f59]) (by decide) ?_
 ((conv=>whnf);repeat ((first|(intro hq;try simp only [lnS]at hq)|refine sI ?_|refine .intro _ (.intro rfl ?_));(conv=>whnf)))
 rw [hlr]
 refine aR hty (λj:Nat=>([(0, .d (.sl 16 (l.map axR))),(2, .d (.int .i64 0)),(5, .d (.sl 16 (l.map axR))),(6, .d (.int .i64 l.length)),(7, .d (.int .i64 j))],NG)) (λj=>j<=l.length/\ ∀x∈l.take j,cJ x=0) (λj=>l.length - j) 0 ⟨by omega,by simp⟩ ⟨by repeat' (first|exact trivial|exact rfl|refine And.intro ?_ ?_),⟨rfl,rfl,trivial⟩⟩ ?_
 rintro j ⟨hj,hz⟩
 ((conv=>whnf);repeat ((first|(intro hq;try simp only [lnS]at hq)|refine sI ?_|refine .intro _ (.intro rfl ?_));(conv=>whnf)))
 refine aB (λh1=> ?_) (λh1=> ?_)
 ·have hjl:j < l.length:=by omega
  have hrow:(l.map axR)[((j:Nat):Int).toNat]? =some (axR l[j]):=cC hjl
  have hc:=nZ l[j]
  have herr:=pM hjl hz
  have hnx:cJ l[j]=0-> ∀x∈l.take (j+1),cJ x=0:=by
   intro h0 x hx
   rw [List.take_succ_eq_append_getElem hjl]at hx
   rcases List.mem_append.1 hx with hx|hx
   ·exact hz x hx
   ·simp at hx;subst hx;exact h0
  generalize l[j]=x at *
  ((conv=>whnf);repeat ((first|(refine⟨_,hrow, ?_⟩)|(refine aE NG hc ⟨rfl,rfl,trivial⟩ (λr hs=> ?_);subst hs)|(intro hq;try simp only [lnS]at hq)|refine sI ?_|refine .intro _ (.intro rfl ?_));(conv=>whnf)))
  refine aC (λh2=> ?_) (λh2=> ?_)
  ·rw [herr h2]
   ((conv=>whnf);repeat ((first|(intro hq;try simp only [lnS]at hq)|refine sI ?_|refine .intro _ (.intro rfl ?_));(conv=>whnf)))
   rfl
  ·have h2:cJ x=0:=by simpa using h2
   rw [h2]
   ((conv=>whnf);repeat ((first|(intro hq;try simp only [lnS]at hq)|refine sI ?_|refine .intro _ (.intro rfl ?_));(conv=>whnf)))
   exact⟨j+1,⟨by omega,hnx h2⟩,by dsimp only;omega,⟨by repeat' (first|exact trivial|exact rfl|refine And.intro ?_ ?_),⟨rfl,rfl,trivial⟩⟩⟩
 ·have hjl:j=l.length:=by omega
  subst hjl
  rw [List.take_length]at hz
  rw [(jA l).2 hz]
  ((conv=>whnf);repeat ((first|(intro hq;try simp only [lnS]at hq)|refine sI ?_|refine .intro _ (.intro rfl ?_));(conv=>whnf)))
  rfl
theorem pairN (b c:SV):cL (.tup [.d .nil,c]) (.tup [.d (.sl 1 ([].map aO)),c]):=cL.pair cL.nil
theorem iI (l:List Ax):Tri Tryz.prog 29 [.d (.sl 16 (l.map axR))] NG (λr=>r= .tup [.d (.sl 1 ((vX l).1.map aO)), .d (.int .i64 (vX l).2)]):=by
 refine Tri.says ?_
 have hlr:(l.map axR).length=l.length:=List.length_map ..
 have hc:=fW l
 refine aH false [] hty Tryz.func29 rfl (kp [0,2,3,4,8,12]) [] _ _ _ (by simp [Tryz.f29]) (by decide) ?_
 ((conv=>whnf);repeat ((first|(refine aE NG hc ⟨rfl,rfl,trivial⟩ (λr hs=> ?_);subst hs)|(intro hq;try simp only [lnS]at hq)|refine sI ?_|refine .intro _ (.intro rfl ?_));(conv=>whnf)))
 refine aC (λh2=> ?_) (λh2=> ?_)
 ·have hv:vX l=([],cN l):=by
   have:aDg l=cN l:=by unfold aDg;rw [if_pos h2]
   unfold vX;rw [this,if_neg h2]
  rw [hv]
  ((conv=>whnf);repeat ((first|(intro hq;try simp only [lnS]at hq)|refine sI ?_|refine .intro _ (.intro rfl ?_));(conv=>whnf)))
  exact⟨_,pairN (.d .nil) _,rfl⟩
 have h2:cN l=0:=by simpa using h2
 rw [h2]
 ((conv=>whnf);repeat ((first|(intro hq;try simp only [lnS]at hq)|refine sI ?_|refine .intro _ (.intro rfl ?_));(conv=>whnf)))
 rw [hlr]
 refine aB (λh3=> ?_) (λh3=> ?_)
 ·have hv:vX l=([],2):=by
   have:aDg l=2:=by unfold aDg;rw [if_neg (by rw [h2];simp),if_pos (by omega)]
   unfold vX;rw [this,if_neg (by decide)]
  rw [hv]
  ((conv=>whnf);repeat ((first|(intro hq;try simp only [lnS]at hq)|refine sI ?_|refine .intro _ (.intro rfl ?_));(conv=>whnf)))
  exact⟨_,pairN (.d .nil) _,rfl⟩
 have hv:vX l=(wAs l,0):=by
  have:aDg l=0:=by unfold aDg;rw [if_neg (by rw [h2];simp),if_neg (by omega)]
  unfold vX;rw [if_pos this]
 have hb:=rQ ((jA l).1 h2)
 rw [hv]
 ((conv=>whnf);repeat ((first|(intro hq;try simp only [lnS]at hq)|refine sI ?_|refine .intro _ (.intro rfl ?_));(conv=>whnf)))
 refine aG.ownH 4 104 88 5 1 rfl (bY (by with_unfolding_all exact rfl)) (fD (by with_unfolding_all exact rfl)) ?_
 refine WrT.call (rO l) rfl [] (by have:l.length * 7000<=1024 * 7000:=Nat.mul_le_mul_right _ (by omega);simp only [List.length_nil];omega) (by decide) rfl rfl ?_
 rw [List.nil_append]
 ((conv=>whnf);repeat ((first|(intro hq;try simp only [lnS]at hq)|refine sI ?_|refine .intro _ (.intro rfl ?_));(conv=>whnf)))
 exact⟨_, .refl _,rfl⟩
theorem aDd {c:Cm}(h:c.no < 1\/1024 < c.no\/2 < c.parents.length):jQ c=([],1):=by
 have e:cmE c=1:=by unfold cmE;rw [if_pos h]
 unfold jQ;rw [e,if_neg (by decide)]
theorem aDb {c:Cm}(h:¬ (c.no < 1\/1024 < c.no\/2 < c.parents.length)) (hp:¬ jT c.no c.parents=true):jQ c=([],1):=by
 have e:cmE c=1:=by unfold cmE;rw [if_neg h,if_neg hp]
 unfold jQ;rw [e,if_neg (by decide)]
theorem aDc {c:Cm}(h:¬ (c.no < 1\/1024 < c.no\/2 < c.parents.length)) (hp:jT c.no c.parents=true) (hm:65536 < c.message.length):jQ c=([],2):=by
 have e:cmE c=2:=by unfold cmE;rw [if_neg h,if_pos hp,if_pos hm]
 unfold jQ;rw [e,if_neg (by decide)]
theorem aGc {c:Cm}(h:¬ (c.no < 1\/1024 < c.no\/2 < c.parents.length)) (hp:jT c.no c.parents=true) (hm:¬ 65536 < c.message.length):jQ c=(wCm c,0):=by
 have e:cmE c=0:=by unfold cmE;rw [if_neg h,if_pos hp,if_neg hm]
 unfold jQ;rw [if_pos e]
theorem aFw (l:List Int) (h:l.length<=2):l=[]\/(∃a,l=[a])\/ ∃a b,l=[a,b]:=by
 match l,h with
 | [],_=>exact .inl rfl
 | [a],_=>exact .inr (.inl ⟨a,rfl⟩)
 | [a,b],_=>exact .inr (.inr ⟨a,b,rfl⟩)
 |_::_::_::_,h=>simp at h
theorem aDr (c:Cm) (h:c.parents.length<=2):(wCm c).length<=100+c.message.length:=by
 have h1:((c.parents.map cQ).flatten).length<=c.parents.length * 8:=fS λz _=>by rw [bS];exact Nat.le_refl _
 have h2:(jY c.base).length=32:=c.base.2
 unfold wCm cV dJ
 simp only [List.length_append,bS,aQ,h2]
 omega
theorem iH (c:Cm):Tri Tryz.prog 18 [.d (.agg (cmR c))] [] (λr=>r= .tup [.d (.sl 1 ((jQ c).1.map aO)), .d (.int .i64 (jQ c).2)]):=by
 refine Tri.says ?_
 have hwc:=yE c
 have hwl:=aDr c
 have hbad:=aDd (c:=c)
 have hpar:=aDb (c:=c)
 have hmsg:=aDc (c:=c)
 have hokk:=aGc (c:=c)
 obtain⟨no,l,dg,m⟩:=c
 dsimp only at hwl hbad hpar hmsg hokk
 generalize wCm ⟨no,l,dg,m⟩=out at *
 generalize jQ ⟨no,l,dg,m⟩=res at *
 obtain⟨xl,hx⟩:=dg
 obtain⟨y0,y1,y2,y3,y4,y5,y6,y7,y8,y9,y10,y11,y12,y13,y14,y15,y16,y17,y18,y19,y20,y21,y22,y23,y24,y25,y26,y27,y28,y29,y30,y31,rfl⟩:=eQ hx
 have hlr:(l.map eE).length=l.length:=List.length_map ..
 by_cases h0:no < 1\/1024 < no\/2 < l.length
 ·rw [hbad h0]
  clear hbad hpar hmsg hokk hwl
  refine aM hty Tryz.func18 rfl (kp [0,1,2,3,4,5,6,20,22,23,24,25,48,53]) [] _ _ _ (by simp [Tryz.f18]) (by simp) ?_
  ((conv=>whnf);repeat' ((first|(intro hq;(try simp only [lnS]at hq);(try rewrite [List.length_map]))|refine sJ ?_|refine .intro _ (.intro rfl ?_)|refine exL (k:= ?_)|refine dwR ?_|((first|refine aB ?_ ?_|refine aC ?_ ?_)<;>intro hb<;>(first|exact ddX hb|try simp only [lnS]at hb))|(refine aA ?_ ?_<;>intro hb<;>try exact dsX hb))<;>(conv=>whnf)))
  all_goals exact⟨_,pairN (.d .nil) _,rfl⟩
 clear hbad
 replace hpar:=hpar h0
 replace hmsg:=hmsg h0
 replace hokk:=hokk h0
 have hl2:l.length<=2:=by omega
 replace hwl:=hwl hl2
 by_cases hp:jT no l=true
 ·clear hpar
  replace hmsg:=hmsg hp
  replace hokk:=hokk hp
  by_cases hm:65536 < m.length
  ·rw [hmsg hm]
   clear hmsg hokk hwl
   rcases aFw l hl2 with rfl|⟨a,rfl⟩|⟨a,b,rfl⟩
   all_goals simp only [jT,List.all_cons,List.all_nil,Bool.and_eq_true,decide_eq_true_eq,Bool.and_true,Bool.not_eq_true',decide_eq_false_iff_not]at hp
   all_goals (refine aM hty Tryz.func18 rfl (kp [0,1,2,3,4,5,6,20,22,23,24,25,48,53]) [] _ _ _ (by simp [Tryz.f18]) (by simp) ?_)
   all_goals (((conv=>whnf);repeat' ((first|(intro hq;(try simp only [lnS]at hq);(try rewrite [List.length_map]))|refine sJ ?_|refine .intro _ (.intro rfl ?_)|refine exL (k:= ?_)|(refine rR hty 3 ?_)|refine dwR ?_|((first|refine aB ?_ ?_|refine aC ?_ ?_)<;>intro hb<;>(first|exact ddX hb|try simp only [lnS]at hb))|(refine aA ?_ ?_<;>intro hb<;>try exact dsX hb))<;>(conv=>whnf))))
   all_goals exact⟨_,pairN (.d .nil) _,rfl⟩
  ·rw [hokk hm]
   clear hmsg hokk
   have hfin:out.length<=100000000000000:=by omega
   rcases aFw l hl2 with rfl|⟨a,rfl⟩|⟨a,b,rfl⟩
   all_goals simp only [jT,List.all_cons,List.all_nil,Bool.and_eq_true,decide_eq_true_eq,Bool.and_true,Bool.not_eq_true',decide_eq_false_iff_not]at hp
   all_goals (refine aM hty Tryz.func18 rfl (kp [0,1,2,3,4,5,6,20,22,23,24,25,48,53]) [] _ _ _ (by simp [Tryz.f18]) (by simp) ?_)
   all_goals (((conv=>whnf);repeat' ((first|(intro hq;(try simp only [lnS]at hq);(try rewrite [List.length_map]))|refine sJ ?_|refine .intro _ (.intro rfl ?_)|refine exL (k:= ?_)|(refine rR hty 3 ?_)|refine dwR ?_|((first|refine aB ?_ ?_|refine aC ?_ ?_)<;>intro hb<;>(first|exact ddX hb|try simp only [lnS]at hb))|(refine aA ?_ ?_<;>intro hb<;>try exact dsX hb))<;>(conv=>whnf))))
   all_goals refine aG.ownH 6 104 88 5 1 rfl (bY (by with_unfolding_all exact rfl)) (fD (by with_unfolding_all exact rfl)) ?_
   all_goals refine WrT.call hwc rfl [] (by rw [List.length_nil];omega) (by decide) rfl rfl ?_
   all_goals rw [List.nil_append]
   all_goals ((conv=>whnf);repeat ((first|(intro hq;try simp only [lnS]at hq)|refine sI ?_|refine .intro _ (.intro rfl ?_));(conv=>whnf)))
   all_goals exact⟨_, .refl _,rfl⟩
 ·rw [hpar hp]
  clear hpar hmsg hokk hwl
  rcases aFw l hl2 with rfl|⟨a,rfl⟩|⟨a,b,rfl⟩
  ·exact absurd rfl hp
  all_goals simp only [jT,List.all_cons,List.all_nil,Bool.and_eq_true,decide_eq_true_eq,Bool.and_true,Bool.not_eq_true',decide_eq_false_iff_not]at hp
  all_goals (refine aM hty Tryz.func18 rfl (kp [0,1,2,3,4,5,6,20,22,23,24,25,48,53]) [] _ _ _ (by simp [Tryz.f18]) (by simp) ?_)
  all_goals (((conv=>whnf);repeat' ((first|(intro hq;(try simp only [lnS]at hq);(try rewrite [List.length_map]))|refine sJ ?_|refine .intro _ (.intro rfl ?_)|refine exL (k:= ?_)|(refine rR hty 3 ?_)|refine dwR ?_|((first|refine aB ?_ ?_|refine aC ?_ ?_)<;>intro hb<;>(first|exact ddX hb|try simp only [lnS]at hb))|(refine aA ?_ ?_<;>intro hb<;>try exact dsX hb))<;>(conv=>whnf))))
  all_goals exact⟨_,pairN (.d .nil) _,rfl⟩
end Go.Proofs.YtcomlapnibckmaaGreatDoor
namespace Go.Proofs.YtcomlapnibckmaaGreatDoor
open Go.Proofs Go.RowKit
set_option maxRecDepth 10000
attribute [local irreducible] aL aG Tri aD YVC cP bB vU
theorem zW {no:Int}{l:List Int}(h:jT no l=true):(∀p∈l,1<=p/\p < no)/\(l.length=2-> ∃a b,l[0]? =some a/\l[1]? =some b/\¬ a=b):=by
 unfold jT at h
 rw [Bool.and_eq_true,List.all_eq_true]at h
 refine⟨λp hp=>by have:=h.1 p hp;rw [Bool.and_eq_true,decide_eq_true_eq,decide_eq_true_eq]at this;exact this,λh2=> ?_⟩
 match l,h2,h.2 with
 | [a,b],_,h3=>
  refine⟨a,b,rfl,rfl, ?_⟩
  simp only [Bool.not_eq_true',decide_eq_false_iff_not]at h3
  exact λe=>h3 e.symm
theorem wT (c:Cm) (h0:¬ (c.no < 1\/1024 < c.no\/2 < c.parents.length)) (hp:jT c.no c.parents=true) (hm:¬ 65536 < c.message.length):Tri Tryz.prog 19 [.d (.agg (cmR c))] [] (λr=>r= .tup [.d (.sl 1 ((wCm c).map aO)), .d (.int .i64 0)]):=by
 refine Tri.says ?_
 obtain⟨hall,hdis⟩:=zW hp
 clear hp
 unfold wCm
 obtain⟨no,l,dg,m⟩:=c
 obtain⟨xl,hx⟩:=dg
 dsimp only at h0 hall hdis hm |-
 have hld:(jY ⟨xl,hx⟩).length=32:=hx
 generalize hD:jY ⟨xl,hx⟩=D at *
 have hDx:D=xl:=hD.symm
 clear hD
 obtain⟨y0,y1,y2,y3,y4,y5,y6,y7,y8,y9,y10,y11,y12,y13,y14,y15,y16,y17,y18,y19,y20,y21,y22,y23,y24,y25,y26,y27,y28,y29,y30,y31,rfl⟩:=eQ hx
 have hlr:(l.map eE).length=l.length:=List.length_map ..
 have hno:=sA no
 have hB:=(aBp l.length (by omega)).tri
 have hT:=(aE6 m (by omega)).tri
 have hr0:l.length=2-> ∃a b:Int,(l.map eE)[(0:Int).toNat]? =some [.int .i64 a]/\(l.map eE)[(1:Int).toNat]? =some [.int .i64 b]/\¬ a=b:=by
  intro h2
  obtain⟨a,b,h3,h4,h5⟩:=hdis h2
  refine⟨a,b, ?_, ?_,h5⟩
  ·show (l.map eE)[0]? =_
   rw [List.getElem?_map,h3];rfl
  ·show (l.map eE)[1]? =_
   rw [List.getElem?_map,h4];rfl
 refine aH false [1] hty Tryz.func19 rfl (kp [0,1,2,3,4,5,6,37,42,60,64,78]) [] _ _ _ (by simp [Tryz.f19]) (by simp) ?_
 ((conv=>whnf);repeat ((first|(intro hq;try simp only [lnS]at hq)|refine sI ?_|refine .intro _ (.intro rfl ?_));(conv=>whnf)))
 refine aL.mid [(1, .ea 35 [[.int .i64 no, .sl 1 (l.map eE), .int .u8 y0.toNat, .int .u8 y1.toNat, .int .u8 y2.toNat, .int .u8 y3.toNat, .int .u8 y4.toNat, .int .u8 y5.toNat, .int .u8 y6.toNat, .int .u8 y7.toNat, .int .u8 y8.toNat, .int .u8 y9.toNat, .int .u8 y10.toNat, .int .u8 y11.toNat, .int .u8 y12.toNat, .int .u8 y13.toNat, .int .u8 y14.toNat, .int .u8 y15.toNat, .int .u8 y16.toNat, .int .u8 y17.toNat, .int .u8 y18.toNat, .int .u8 y19.toNat, .int .u8 y20.toNat, .int .u8 y21.toNat, .int .u8 y22.toNat, .int .u8 y23.toNat, .int .u8 y24.toNat, .int .u8 y25.toNat, .int .u8 y26.toNat, .int .u8 y27.toNat, .int .u8 y28.toNat, .int .u8 y29.toNat, .int .u8 y30.toNat, .int .u8 y31.toNat, .str m]] 0 0),(2, .d .nil),(3, .d (.int .i64 0)),(37, .d (.bool false))] [] ?_ ?_
 ·refine dwR ?_
  by_cases h2:l.length=2
  ·obtain⟨a,b,g0,g1,g2⟩:=hr0 h2
   have hab:decide (a=b)=false:=decide_eq_false g2
   ((conv=>whnf);repeat' ((first|(intro hq;(try simp only [lnS]at hq);(try rewrite [List.length_map]))|refine sJ ?_|refine .intro _ (.intro rfl ?_)|refine exL (k:= ?_)|(refine⟨_,g0, ?_⟩)|(refine⟨_,g1, ?_⟩)|refine dwR ?_|((first|refine aB ?_ ?_|refine aC ?_ ?_)<;>intro hb<;>(first|exact ddX hb|try simp only [lnS]at hb))|(refine aA ?_ ?_<;>intro hb<;>try exact dsX hb))<;>(conv=>whnf)))
   all_goals (try rw [hab])
   all_goals exact⟨by repeat' (first|exact trivial|exact rfl|refine And.intro ?_ ?_),by repeat' (first|exact trivial|exact rfl|refine And.intro ?_ ?_)⟩
  ·((conv=>whnf);repeat' ((first|(intro hq;(try simp only [lnS]at hq);(try rewrite [List.length_map]))|refine sJ ?_|refine .intro _ (.intro rfl ?_)|refine exL (k:= ?_)|refine dwR ?_|((first|refine aB ?_ ?_|refine aC ?_ ?_)<;>intro hb<;>(first|exact ddX hb|try simp only [lnS]at hb))|(refine aA ?_ ?_<;>intro hb<;>try exact dsX hb))<;>(conv=>whnf)))
   all_goals exact⟨by repeat' (first|exact trivial|exact rfl|refine And.intro ?_ ?_),by repeat' (first|exact trivial|exact rfl|refine And.intro ?_ ?_)⟩
 clear hr0 hdis
 ((conv=>whnf);repeat ((first|(intro hq;try simp only [lnS]at hq)|refine sI ?_|refine .intro _ (.intro rfl ?_));(conv=>whnf)))
 refine aR hty (λj:Nat=>([(1, .ea 35 [[.int .i64 no, .sl 1 (l.map eE), .int .u8 y0.toNat, .int .u8 y1.toNat, .int .u8 y2.toNat, .int .u8 y3.toNat, .int .u8 y4.toNat, .int .u8 y5.toNat, .int .u8 y6.toNat, .int .u8 y7.toNat, .int .u8 y8.toNat, .int .u8 y9.toNat, .int .u8 y10.toNat, .int .u8 y11.toNat, .int .u8 y12.toNat, .int .u8 y13.toNat, .int .u8 y14.toNat, .int .u8 y15.toNat, .int .u8 y16.toNat, .int .u8 y17.toNat, .int .u8 y18.toNat, .int .u8 y19.toNat, .int .u8 y20.toNat, .int .u8 y21.toNat, .int .u8 y22.toNat, .int .u8 y23.toNat, .int .u8 y24.toNat, .int .u8 y25.toNat, .int .u8 y26.toNat, .int .u8 y27.toNat, .int .u8 y28.toNat, .int .u8 y29.toNat, .int .u8 y30.toNat, .int .u8 y31.toNat, .str m]] 0 0),(2, .d .nil),(3, .d (.int .i64 0)),(4, .d (.int .i64 j))],[])) (λj=>j<=l.length) (λj=>l.length - j) 0 (by omega) ⟨by repeat' (first|exact trivial|exact rfl|refine And.intro ?_ ?_),by repeat' (first|exact trivial|exact rfl|refine And.intro ?_ ?_)⟩ ?_
 intro j hj
 ((conv=>whnf);repeat ((first|(intro hq;try simp only [lnS]at hq)|refine sI ?_|refine .intro _ (.intro rfl ?_));(conv=>whnf)))
 rw [hlr]
 refine aB (λh1=> ?_) (λh1=> ?_)
 ·have hjl:j < l.length:=by omega
  have hrow:(l.map eE)[((j:Nat):Int).toNat]? =some (eE l[j]):=cC hjl
  have hp:=hall l[j] (List.getElem_mem hjl)
  generalize l[j]=p at *
  ((conv=>whnf);repeat' ((first|(intro hq;(try simp only [lnS]at hq);(try rewrite [List.length_map]))|refine sJ ?_|refine .intro _ (.intro rfl ?_)|refine exL (k:= ?_)|(refine⟨_,hrow, ?_⟩)|refine dwR ?_|((first|refine aB ?_ ?_|refine aC ?_ ?_)<;>intro hb<;>(first|exact ddX hb|try simp only [lnS]at hb))|(refine aA ?_ ?_<;>intro hb<;>try exact dsX hb))<;>(conv=>whnf)))
  all_goals exact⟨j+1,by omega,by dsimp only;omega,⟨by repeat' (first|exact trivial|exact rfl|refine And.intro ?_ ?_),by repeat' (first|exact trivial|exact rfl|refine And.intro ?_ ?_)⟩⟩
 have hjl:j=l.length:=by omega
 subst hjl
 ((conv=>whnf);repeat ((first|(intro hq;try simp only [lnS]at hq)|refine sI ?_|refine .intro _ (.intro rfl ?_));(conv=>whnf)))
 refine aB (λh2=>absurd h2 (by omega)) (λ_=> ?_)
 ((conv=>whnf);repeat ((first|(intro hq;try simp only [lnS]at hq)|refine sI ?_|refine .intro _ (.intro rfl ?_));(conv=>whnf)))
 refine aL.mid [(1, .ea 35 [[.int .i64 no, .sl 1 (l.map eE), .int .u8 y0.toNat, .int .u8 y1.toNat, .int .u8 y2.toNat, .int .u8 y3.toNat, .int .u8 y4.toNat, .int .u8 y5.toNat, .int .u8 y6.toNat, .int .u8 y7.toNat, .int .u8 y8.toNat, .int .u8 y9.toNat, .int .u8 y10.toNat, .int .u8 y11.toNat, .int .u8 y12.toNat, .int .u8 y13.toNat, .int .u8 y14.toNat, .int .u8 y15.toNat, .int .u8 y16.toNat, .int .u8 y17.toNat, .int .u8 y18.toNat, .int .u8 y19.toNat, .int .u8 y20.toNat, .int .u8 y21.toNat, .int .u8 y22.toNat, .int .u8 y23.toNat, .int .u8 y24.toNat, .int .u8 y25.toNat, .int .u8 y26.toNat, .int .u8 y27.toNat, .int .u8 y28.toNat, .int .u8 y29.toNat, .int .u8 y30.toNat, .int .u8 y31.toNat, .str m]] 0 0),(2, .d .nil),(3, .d (.int .i64 0)),(5, .osl 200 1 ((cQ no).map aO++(beN 4 l.length).map aO))] [(200, .own 5 1 (((cQ no).map aO).length+((beN 4 l.length).map aO).length))] ?_ ?_
 ·(refine wL (id:=10) hty (.first 0 (.first 1 (.first 3 (.first 4 (.alt 2 (.alt 5 (.first 6 (.alt 7 (.alt 8 (.first 9 .done) .stop) .stop)) .stop) (.alt 5 (.first 6 (.alt 2 (.alt 7 (.alt 8 (.first 9 .done) .stop) .stop) .stop)) .stop)))))) (by kernel_rfl) (by kernel_rfl) ?_)
  ((conv=>whnf);repeat' ((first|(intro hq;(try simp only [lnS]at hq);(try rewrite [List.length_map]))|refine sJ ?_|refine .intro _ (.intro rfl ?_)|refine exL (k:= ?_)|(refine aE [] hB trivial (λr hs=> ?_);subst hs)|(refine oA hno 200 (bY (by with_unfolding_all exact rfl)) ?_)|exact trivial|(refine And.intro ?_ ?_)|refine dwR ?_|((first|refine aB ?_ ?_|refine aC ?_ ?_)<;>intro hb<;>(first|exact ddX hb|try simp only [lnS]at hb))|(refine aA ?_ ?_<;>intro hb<;>try exact dsX hb))<;>(conv=>whnf)))
  all_goals exact⟨by repeat' (first|exact trivial|exact rfl|refine And.intro ?_ ?_),by repeat' (first|exact trivial|exact rfl|refine And.intro ?_ ?_)⟩
 rw [<-iJ,<-aA7]
 have hqq:(cQ no++beN 4 l.length).length=12:=by rw [List.length_append,bS,aQ]
 have hfin:cQ no++(cV cQ l++(D++dJ m))=cQ no++beN 4 l.length++(l.map cQ).flatten++D++dJ m:=by unfold cV;simp only [fK]
 rw [hfin]
 clear hfin hno hB h1 hj
 generalize cQ no++beN 4 l.length=q at *
 have hfl:((l.map cQ).flatten).length<=l.length * 8:=fS λz _=>by rw [bS];exact Nat.le_refl _
 ((conv=>whnf);repeat ((first|(intro hq;try simp only [lnS]at hq)|refine sI ?_|refine .intro _ (.intro rfl ?_));(conv=>whnf)))
 refine aR hty (λj:Nat=>([(1, .ea 35 [[.int .i64 no, .sl 1 (l.map eE), .int .u8 y0.toNat, .int .u8 y1.toNat, .int .u8 y2.toNat, .int .u8 y3.toNat, .int .u8 y4.toNat, .int .u8 y5.toNat, .int .u8 y6.toNat, .int .u8 y7.toNat, .int .u8 y8.toNat, .int .u8 y9.toNat, .int .u8 y10.toNat, .int .u8 y11.toNat, .int .u8 y12.toNat, .int .u8 y13.toNat, .int .u8 y14.toNat, .int .u8 y15.toNat, .int .u8 y16.toNat, .int .u8 y17.toNat, .int .u8 y18.toNat, .int .u8 y19.toNat, .int .u8 y20.toNat, .int .u8 y21.toNat, .int .u8 y22.toNat, .int .u8 y23.toNat, .int .u8 y24.toNat, .int .u8 y25.toNat, .int .u8 y26.toNat, .int .u8 y27.toNat, .int .u8 y28.toNat, .int .u8 y29.toNat, .int .u8 y30.toNat, .int .u8 y31.toNat, .str m]] 0 0),(5, .osl 200 1 ((q++((l.take j).map cQ).flatten).map aO)),(6, .d (.int .i64 j))],[(200, .own 5 1 ((q++((l.take j).map cQ).flatten).map aO).length)])) (λj=>j<=l.length) (λj=>l.length - j) 0 (by omega) ⟨by dsimp only;rw [List.take_zero,List.map_nil,List.flatten_nil,List.append_nil];exact by repeat' (first|exact trivial|exact rfl|refine And.intro ?_ ?_),by dsimp only;rw [List.take_zero,List.map_nil,List.flatten_nil,List.append_nil];exact⟨rfl,trivial⟩⟩ ?_
 intro j hj
 ((conv=>whnf);repeat ((first|(intro hq;try simp only [lnS]at hq)|refine sI ?_|refine .intro _ (.intro rfl ?_));(conv=>whnf)))
 rw [hlr]
 refine aB (λh1=> ?_) (λh1=> ?_)
 ·have hjl:j < l.length:=by omega
  have hrow:(l.map eE)[((j:Nat):Int).toNat]? =some (eE l[j]):=cC hjl
  have hnx:q++((l.take (j+1)).map cQ).flatten=q++((l.take j).map cQ).flatten++cQ l[j]:=by rw [dV (w:=cQ) hjl,List.append_assoc]
  have hle:=lI (w:=cQ) l (j+1)
  rw [dV (w:=cQ) hjl,List.length_append]at hle
  have hx:=(sA l[j]).tri
  have hvv:(q++((l.take j).map cQ).flatten).length=12+(((l.take j).map cQ).flatten).length:=by rw [List.length_append,hqq]
  have hb63:=aHv hvv (bS l[j]) (by omega)
  have hb48:=aHw hvv (bS l[j]) (by omega)
  rw [show eE l[j]=[.int .i64 l[j]]from rfl]at hrow
  generalize q++((l.take j).map cQ).flatten=u at *
  ((conv=>whnf);repeat ((first|(refine⟨_,hrow, ?_⟩)|(refine And.intro hb63 ?_)|(refine And.intro hb48 ?_)|(refine aE [] hx trivial (λr hs=> ?_);subst hs)|(intro hq;try simp only [lnS]at hq)|refine sI ?_|refine .intro _ (.intro rfl ?_));(conv=>whnf)))
  refine⟨j+1,by dsimp only;omega,by dsimp only;omega, ?_⟩
  dsimp only
  rw [hnx,iJ,List.length_append]
  exact⟨by repeat' (first|exact trivial|exact rfl|refine And.intro ?_ ?_),by repeat' (first|exact trivial|exact rfl|refine And.intro ?_ ?_)⟩
 have hjl:j=l.length:=by omega
 subst hjl
 rw [List.take_length]
 have hvv:(q++(l.map cQ).flatten).length=12+((l.map cQ).flatten).length:=by rw [List.length_append,hqq]
 generalize q++(l.map cQ).flatten=v at *
 have g63:(v.map aO).length+32<=9223372036854775807:=by rw [cH];omega
 have g48:((v.map aO).length+32)* 1<=140737488355328:=by rw [cH];omega
 have hml:(dJ m).length=4+m.length:=by unfold dJ;rw [List.length_append,aQ]
 have k63:((v++D).map aO).length+((dJ m).map aO).length<=9223372036854775807:=by rw [cH,cH,List.length_append,hld,hml];omega
 have k48:(((v++D).map aO).length+((dJ m).map aO).length)* 1<=140737488355328:=by rw [cH,cH,List.length_append,hld,hml];omega
 rw [iJ,hDx]at k63 k48
 have hown:(v.map aO).length+32=(v.map aO++([y0,y1,y2,y3,y4,y5,y6,y7,y8,y9,y10,y11,y12,y13,y14,y15,y16,y17,y18,y19,y20,y21,y22,y23,y24,y25,y26,y27,y28,y29,y30,y31]:List UInt8).map aO).length:=by rw [List.length_append];rfl
 ((conv=>whnf);repeat ((first|(refine And.intro g63 ?_)|(refine And.intro g48 ?_)|(intro hq;try simp only [lnS]at hq)|refine sI ?_|refine .intro _ (.intro rfl ?_));(conv=>whnf)))
 refine aG.sub (hp':=[(200, .own 5 1 (v.map aO++([y0,y1,y2,y3,y4,y5,y6,y7,y8,y9,y10,y11,y12,y13,y14,y15,y16,y17,y18,y19,y20,y21,y22,y23,y24,y25,y26,y27,y28,y29,y30,y31]:List UInt8).map aO).length)]) ⟨by rw [<-hown];rfl,trivial⟩ ?_
 refine aE [] hT trivial (λr hs=> ?_)
 subst hs
 ((conv=>whnf);repeat ((first|(refine And.intro k63 ?_)|(refine And.intro k48 ?_)|(intro hq;try simp only [lnS]at hq)|refine sI ?_|refine .intro _ (.intro rfl ?_));(conv=>whnf)))
 rw [iJ,iJ,hDx]
 exact⟨_, .refl _,rfl⟩
theorem lO (c:Cm):Tri Tryz.prog 19 [.d (.agg (cmR c))] [] (λr=>r= .tup [.d (.sl 1 ((jQ c).1.map aO)), .d (.int .i64 (jQ c).2)]):=by
 by_cases h0:c.no < 1\/1024 < c.no\/2 < c.parents.length
 ·rw [aDd h0]
  refine Tri.says ?_
  obtain⟨no,l,dg,m⟩:=c
  obtain⟨xl,hx⟩:=dg
  obtain⟨y0,y1,y2,y3,y4,y5,y6,y7,y8,y9,y10,y11,y12,y13,y14,y15,y16,y17,y18,y19,y20,y21,y22,y23,y24,y25,y26,y27,y28,y29,y30,y31,rfl⟩:=eQ hx
  dsimp only at h0
  have hlr:(l.map eE).length=l.length:=List.length_map ..
  refine aH false [1] hty Tryz.func19 rfl (kp [0,1,2,3,4,5,6,37,42,60,64,78]) [] _ _ _ (by simp [Tryz.f19]) (by simp) ?_
  ((conv=>whnf);repeat' ((first|(intro hq;(try simp only [lnS]at hq);(try rewrite [List.length_map]))|refine sJ ?_|refine .intro _ (.intro rfl ?_)|refine exL (k:= ?_)|refine dwR ?_|((first|refine aB ?_ ?_|refine aC ?_ ?_)<;>intro hb<;>(first|exact ddX hb|try simp only [lnS]at hb))|(refine aA ?_ ?_<;>intro hb<;>try exact dsX hb))<;>(conv=>whnf)))
  all_goals exact⟨_,pairN (.d .nil) _,rfl⟩
 by_cases hp:jT c.no c.parents=true
 ·by_cases hm:65536 < c.message.length
  ·rw [aDc h0 hp hm]
   refine Tri.says ?_
   obtain⟨no,l,dg,m⟩:=c
   obtain⟨xl,hx⟩:=dg
   obtain⟨y0,y1,y2,y3,y4,y5,y6,y7,y8,y9,y10,y11,y12,y13,y14,y15,y16,y17,y18,y19,y20,y21,y22,y23,y24,y25,y26,y27,y28,y29,y30,y31,rfl⟩:=eQ hx
   dsimp only at h0 hp hm
   have hl2:l.length<=2:=by omega
   rcases aFw l hl2 with rfl|⟨a,rfl⟩|⟨a,b,rfl⟩
   all_goals simp only [jT,List.all_cons,List.all_nil,Bool.and_eq_true,decide_eq_true_eq,Bool.and_true,Bool.not_eq_true',decide_eq_false_iff_not]at hp
   all_goals (refine aH false [1] hty Tryz.func19 rfl (kp [0,1,2,3,4,5,6,37,42,60,64,78]) [] _ _ _ (by simp [Tryz.f19]) (by simp) ?_)
   all_goals (((conv=>whnf);repeat' ((first|(intro hq;(try simp only [lnS]at hq);(try rewrite [List.length_map]))|refine sJ ?_|refine .intro _ (.intro rfl ?_)|refine exL (k:= ?_)|(refine rR hty 3 ?_)|refine dwR ?_|((first|refine aB ?_ ?_|refine aC ?_ ?_)<;>intro hb<;>(first|exact ddX hb|try simp only [lnS]at hb))|(refine aA ?_ ?_<;>intro hb<;>try exact dsX hb))<;>(conv=>whnf))))
   all_goals exact⟨_,pairN (.d .nil) _,rfl⟩
  ·rw [aGc h0 hp hm]
   exact wT c h0 hp hm
 ·rw [aDb h0 hp]
  refine Tri.says ?_
  obtain⟨no,l,dg,m⟩:=c
  obtain⟨xl,hx⟩:=dg
  obtain⟨y0,y1,y2,y3,y4,y5,y6,y7,y8,y9,y10,y11,y12,y13,y14,y15,y16,y17,y18,y19,y20,y21,y22,y23,y24,y25,y26,y27,y28,y29,y30,y31,rfl⟩:=eQ hx
  dsimp only at h0 hp
  have hl2:l.length<=2:=by omega
  rcases aFw l hl2 with rfl|⟨a,rfl⟩|⟨a,b,rfl⟩
  ·exact absurd rfl hp
  all_goals simp only [jT,List.all_cons,List.all_nil,Bool.and_eq_true,decide_eq_true_eq,Bool.and_true,Bool.not_eq_true',decide_eq_false_iff_not]at hp
  all_goals (refine aH false [1] hty Tryz.func19 rfl (kp [0,1,2,3,4,5,6,37,42,60,64,78]) [] _ _ _ (by simp [Tryz.f19]) (by simp) ?_)
  all_goals (((conv=>whnf);repeat' ((first|(intro hq;(try simp only [lnS]at hq);(try rewrite [List.length_map]))|refine sJ ?_|refine .intro _ (.intro rfl ?_)|refine exL (k:= ?_)|(refine rR hty 3 ?_)|refine dwR ?_|((first|refine aB ?_ ?_|refine aC ?_ ?_)<;>intro hb<;>(first|exact ddX hb|try simp only [lnS]at hb))|(refine aA ?_ ?_<;>intro hb<;>try exact dsX hb))<;>(conv=>whnf))))
  all_goals exact⟨_,pairN (.d .nil) _,rfl⟩
end Go.Proofs.YtcomlapnibckmaaGreatDoor
