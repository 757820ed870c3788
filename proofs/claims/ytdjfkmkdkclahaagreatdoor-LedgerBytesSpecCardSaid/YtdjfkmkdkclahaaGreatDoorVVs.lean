/-
  The reference of objects: ReadQuery.
  Conditions: none.
-/
import Derived.Test.YtdjfkmkdkclahaaGreatDoorVZh
import Derived.Test.YtdjfkmkdkclahaaGreatDoorVVf
set_option linter.unnecessarySimpa false
set_option linter.unusedSectionVars false
set_option linter.unusedSimpArgs false
set_option linter.unusedVariables false
set_option maxHeartbeats 32000000
namespace Go.Proofs.YtdjfkmkdkclahaaGreatDoor
open Go.Proofs Go.RowKit
set_option maxRecDepth 10000
attribute [local irreducible] aL aH Tri aI YVC bP aS aA3
abbrev tPt:Tr (List At):=jN 29 tAt
theorem aSh:aDl tPt:=aBl aLu 29
abbrev qyZ:HObj:= .cells 56 ([D.nil,D.nil].map .d)
theorem aTu (s:RS):tAt s=(⟨((gI 1 s).1:Int),(jT (gI 1 s).2).1,(jT (jT (gI 1 s).2).2).1,(jT (jT (jT (gI 1 s).2).2).2).1,(aIz (jT (jT (jT (gI 1 s).2).2).2).2).1,(aIz (aIz (jT (jT (jT (gI 1 s).2).2).2).2).2).1⟩,(aIz (aIz (jT (jT (jT (gI 1 s).2).2).2).2).2).2):=rfl
theorem xF (bs:List UInt8) (hb:bs.length<=1000000):
  Tri Tryz.prog 59 [.d (.sl 1 (bs.map aP))] [] (λr=> ∃x,x=(eF aRy lA qy0 280 bs).1/\r= .tup [.d (.agg (qyR x)), .d (.int .i64 (eF aRy lA qy0 280 bs).2)]):=by
 have hdec:=aXi aTw lA qy0 280 bs
 have hT:tQy (bs,false)=mX (jN 4 jT) (λt=>aIy (jN 4 tPt) λp=>(⟨t,p⟩:Qy)) (bs,false):=rfl
 rw [hT]at hdec
 clear hT
 generalize eF aRy lA qy0 280 bs=res at *
 refine Tri.says ?_
 refine aF hty Tryz.func59 rfl (kp [0,2,3,4,5,6,7,8,9,10,11,12,30,45,91]) [] _ _ _ (by simp [Tryz.f59]) (by simp) ?_
 ((conv=>whnf);repeat ((first|(intro hq;try simp only [lnS]at hq)|refine sI ?_|refine .intro _ (.intro rfl ?_));(conv=>whnf)))
 refine RfT.call aUv rfl (λ_=>rfl) (bs,false) hb rfl ?_
 have q1:=aBl gO 4 (bs,false)
 rcases h1:jN 4 jT (bs,false)with⟨told,s1⟩
 rw [h1]at q1
 rw [aO9 h1]at hdec
 clear h1
 dsimp only at q1 hdec |-
 ((conv=>whnf);repeat ((first|(intro hq;try simp only [lnS]at hq)|refine sI ?_|refine .intro _ (.intro rfl ?_));(conv=>whnf)))
 refine RfT.call (aSt 4 (by decide) (by decide)) rfl (λ_=>rfl) s1 (by omega) rfl ?_
 have l2:=qL 4 s1
 have hle:=aCa (least:=4) s1 (by decide)
 have hT:aIy (jN 4 tPt) (λp=>(⟨told,p⟩:Qy)) s1=aIy (vX tPt (fI 4 s1).1) (λp=>⟨told,p⟩) (fI 4 s1).2:=rfl
 rw [hT]at hdec
 clear hT
 generalize (fI 4 s1).1=n at *
 generalize (fI 4 s1).2=s2 at *
 have hs2:s2.1.length<=1000000:=by omega
 have hn:n<=1000000:=by omega
 clear l2 hle q1
 ((conv=>whnf);repeat ((first|(intro hq;try simp only [lnS]at hq)|refine sI ?_|refine .intro _ (.intro rfl ?_));(conv=>whnf)))
 refine aL.ownC 5 200 56 35 1 1 rfl rfl (bQ (by with_unfolding_all exact rfl)) ?_
 refine aJ hty (λy:List (List At)×RS=>([(0, .d (.sl 1 (bs.map aP))),(2, .ptr 2 0),(3, .d (.int .i64 0)),(4, .ptr 15 0),(5, .ptr 5 0),(6, .d (.int .i64 n)),(7, .d (.int .i64 y.1.length))],[(200, .own 35 1 (y.1.map aK).length),(5, .cells 56 [.d (.sl 1 (told.map aV)), .osl 200 1 (y.1.map aK)]),(15,rfO y.2),(2,qyZ)])) (λy=>vX tPt y.1.length s2=y/\y.1.length<=n/\y.2.1.length<=1000000) (λy=>n - y.1.length) ([],s2) ⟨rfl,Nat.zero_le _,hs2⟩ ?_ ?_
 ·exact⟨by repeat' (first|exact trivial|exact rfl|refine And.intro ?_ ?_),by repeat' (first|exact trivial|exact rfl|refine And.intro ?_ ?_)⟩
 rintro⟨l,s⟩ ⟨h1,h2,h3⟩
 dsimp only at h1 h2 h3
 obtain⟨b,d⟩:=s
 have hml:(l.map aK).length=l.length:=List.length_map ..
 have hb63:(l.map aK).length+1<=9223372036854775807:=by rw [hml];omega
 have hb48:((l.map aK).length+1)* 24<=140737488355328:=by rw [hml];omega
 by_cases hc:l.length < n/\d=false
 ·obtain⟨hc,rfl⟩:=hc
  have hnx:=pQ tPt l.length s2 l (b,false) h1 rfl rfl
  have hless:=aSh (b,false)
  ((conv=>whnf);repeat ((first|(intro hq;try simp only [lnS]at hq)|refine sI ?_|refine .intro _ (.intro rfl ?_));(conv=>whnf)))
  refine aC (λh5=> ?_) (λh5=>absurd hc (by dsimp only at h5;omega))
  clear h5
  ((conv=>whnf);repeat ((first|(intro hq;try simp only [lnS]at hq)|refine sI ?_|refine .intro _ (.intro rfl ?_));(conv=>whnf)))
  refine RfT.call (aSt 29 (by decide) (by decide)) rfl (λ_=>rfl) (b,false) h3 rfl ?_
  have l2:=qL 29 (b,false)
  have hle:=aCa (least:=29) (b,false) (by decide)
  have hT:tPt (b,false)=vX tAt (fI 29 (b,false)).1 (fI 29 (b,false)).2:=rfl
  rw [hT]at hnx hless
  clear hT
  generalize (fI 29 (b,false)).1=m at *
  generalize (fI 29 (b,false)).2=s3 at *
  have hs3:s3.1.length<=1000000:=by dsimp only at *;omega
  have hm:m<=1000000:=by dsimp only at *;omega
  clear l2 hle
  ((conv=>whnf);repeat ((first|(intro hq;try simp only [lnS]at hq)|refine sI ?_|refine .intro _ (.intro rfl ?_));(conv=>whnf)))
  refine aL.ownC 8 201 35 60 6 0 rfl rfl (bQ (by with_unfolding_all exact rfl)) ?_
  refine aJ hty (λy:List At×RS=>([(0, .d (.sl 1 (bs.map aP))),(2, .ptr 2 0),(3, .d (.int .i64 0)),(4, .ptr 15 0),(5, .ptr 5 0),(6, .d (.int .i64 n)),(7, .d (.int .i64 l.length)),(8, .ptr 8 0),(9, .d (.int .i64 m)),(10, .d (.int .i64 y.1.length))],[(201, .own 60 6 (y.1.map atR).length),(8, .cells 35 [.osl 201 6 (y.1.map atR)]),(200, .own 35 1 (l.map aK).length),(5, .cells 56 [.d (.sl 1 (told.map aV)), .osl 200 1 (l.map aK)]),(15,rfO y.2),(2,qyZ)])) (λy=>vX tAt y.1.length s3=y/\y.1.length<=m/\y.2.1.length<=1000000) (λy=>m - y.1.length) ([],s3) ⟨rfl,Nat.zero_le _,hs3⟩ ⟨by repeat' (first|exact trivial|exact rfl|refine And.intro ?_ ?_),by repeat' (first|exact trivial|exact rfl|refine And.intro ?_ ?_)⟩ ?_
  rintro⟨p,s⟩ ⟨k1,k2,k3⟩
  dsimp only at k1 k2 k3
  obtain⟨b1,f⟩:=s
  have hpl:(p.map atR).length=p.length:=List.length_map ..
  have hc63:(p.map atR).length+1<=9223372036854775807:=by rw [hpl];omega
  have hc48:((p.map atR).length+1)* 72<=140737488355328:=by rw [hpl];omega
  by_cases hk:p.length < m/\f=false
  ·obtain⟨hk,rfl⟩:=hk
   have hny:=pQ tAt p.length s3 p (b1,false) k1 rfl rfl
   have hlessa:=aLu (b1,false)
   rw [aTu]at hny hlessa
   ((conv=>whnf);repeat ((first|(intro hq;try simp only [lnS]at hq)|refine sI ?_|refine .intro _ (.intro rfl ?_));(conv=>whnf)))
   refine aC (λh5=> ?_) (λh5=>absurd hk (by dsimp only at h5;omega))
   clear h5
   ((conv=>whnf);repeat ((first|(intro hq;try simp only [lnS]at hq)|refine sI ?_|refine .intro _ (.intro rfl ?_));(conv=>whnf)))
   have w1:=lO 1 (b1,false)
   have ho:=aUg (b1,false)
   rcases e1:gI 1 (b1,false)with⟨kd,u1⟩
   rw [e1]at w1 ho hny hlessa
   have w2:=gO u1
   rcases e2:jT u1 with⟨nm,u2⟩
   rw [e2]at w2
   have w3:=gO u2
   rcases e3:jT u2 with⟨xx,u3⟩
   rw [e3]at w3
   have w4:=gO u3
   rcases e4:jT u3 with⟨yy,u4⟩
   rw [e4]at w4
   have w5:=wE u4
   rcases e5:aIz u4 with⟨lo,u5⟩
   rw [e5]at w5
   have w6:=wE u5
   rcases e6:aIz u5 with⟨hi,u6⟩
   rw [e6]at w6
   dsimp only at w1 w2 w3 w4 w5 w6 ho k3
   simp only [e2,e3,e4,e5,e6]at hny
   clear hlessa
   have v1:u1.1.length<=1000000:=by omega
   have v2:u2.1.length<=1000000:=by omega
   have v3:u3.1.length<=1000000:=by omega
   have v4:u4.1.length<=1000000:=by omega
   have v5:u5.1.length<=1000000:=by omega
   have v6:u6.1.length<=1000000:=by omega
   refine aL.mid [(0, .d (.sl 1 (bs.map aP))),(2, .ptr 2 0),(3, .d (.int .i64 0)),(4, .ptr 15 0),(5, .ptr 5 0),(6, .d (.int .i64 n)),(7, .d (.int .i64 l.length)),(8, .ptr 8 0),(9, .d (.int .i64 m)),(10, .d (.int .i64 p.length))] [(201, .own 60 6 ((p.map atR).length+1)),(8, .cells 35 [.osl 201 6 (p.map atR++[[.int .i64 (IntKind.i64.wrap (kd:Int)), .str nm, .str xx, .str yy, .int .i64 lo, .int .i64 hi]])]),(200, .own 35 1 (l.map aK).length),(5, .cells 56 [.d (.sl 1 (told.map aV)), .osl 200 1 (l.map aK)]),(15,rfO u6),(2,qyZ)] ?_ ?_
   ·(refine aX (id:=12) hty (.first 0 (.first 2 (.first 5 (.first 7 (.first 9 (.first 11 (.first 13 (.alt 1 (.alt 3 (.first 4 (.alt 6 (.alt 8 (.alt 10 (.alt 12 (.alt 14 (.first 15 (.alt 16 (.alt 17 (.first 18 (.alt 19 .done .stop)) .stop) .stop)) .stop) .stop) .stop) .stop) .stop)) .stop) (.alt 3 (.first 4 (.alt 1 (.alt 6 (.alt 8 (.alt 10 (.alt 12 (.alt 14 (.first 15 (.alt 16 (.alt 17 (.first 18 (.alt 19 .done .stop)) .stop) .stop)) .stop) .stop) .stop) .stop) .stop) (.alt 6 (.alt 1 (.alt 8 (.alt 10 (.alt 12 (.alt 14 (.first 15 (.alt 16 (.alt 17 (.first 18 (.alt 19 .done .stop)) .stop) .stop)) .stop) .stop) .stop) .stop) (.alt 8 (.alt 1 (.alt 10 (.alt 12 (.alt 14 (.first 15 (.alt 16 (.alt 17 (.first 18 (.alt 19 .done .stop)) .stop) .stop)) .stop) .stop) .stop) (.alt 10 (.alt 1 (.alt 12 (.alt 14 (.first 15 (.alt 16 (.alt 17 (.first 18 (.alt 19 .done .stop)) .stop) .stop)) .stop) .stop) (.alt 12 (.alt 1 (.alt 14 (.first 15 (.alt 16 (.alt 17 (.first 18 (.alt 19 .done .stop)) .stop) .stop)) .stop) (.alt 14 (.first 15 (.alt 1 (.alt 16 (.alt 17 (.first 18 (.alt 19 .done .stop)) .stop) .stop) (.alt 16 (.alt 1 (.alt 17 (.first 18 (.alt 19 .done .stop)) .stop) .stop) .stop))) .stop)) .stop)) .stop)) .stop)) .stop))) .stop))))))))) (by kernel_rfl) (by kernel_rfl) ?_)
    ((conv=>whnf);repeat' ((first|(intro hq;(try simp only [lnS]at hq);(try rewrite [List.length_map]))|refine sJ ?_|refine .intro _ (.intro rfl ?_)|refine exL (k:= ?_)|(refine And.intro hc63 ?_)|(refine And.intro hc48 ?_)|(refine RfT.call aXr rfl (λ_=>rfl) (b1,false) k3 rfl ?_;rw [e1])|(refine RfT.call aPg rfl (λ_=>rfl) u1 v1 rfl ?_;rw [e2])|(refine RfT.call aPg rfl (λ_=>rfl) u2 v2 rfl ?_;rw [e3])|(refine RfT.call aPg rfl (λ_=>rfl) u3 v3 rfl ?_;rw [e4])|(refine RfT.call aMf rfl (λ_=>rfl) u4 v4 rfl ?_;rw [e5])|(refine RfT.call aMf rfl (λ_=>rfl) u5 v5 rfl ?_;rw [e6])|exact trivial|(refine And.intro ?_ ?_)|refine dwR ?_|((first|refine aC ?_ ?_|refine aD ?_ ?_)<;>intro hb<;>(first|exact ddX hb|try simp only [lnS]at hb))|(refine aB ?_ ?_<;>intro hb<;>try exact dsX hb))<;>(conv=>whnf)))
    all_goals exact⟨by repeat' (first|exact trivial|exact rfl|refine And.intro ?_ ?_),by repeat' (first|exact trivial|exact rfl|refine And.intro ?_ ?_)⟩
   rw [aSc ho]
   ((conv=>whnf);repeat ((first|(intro hq;try simp only [lnS]at hq)|refine sI ?_|refine .intro _ (.intro rfl ?_));(conv=>whnf)))
   refine⟨(p++[_],u6),⟨by dsimp only;rw [List.length_append];exact hny,by dsimp only;rw [List.length_append,List.length_singleton];omega,v6⟩,by dsimp only;rw [List.length_append,List.length_singleton];omega, ?_⟩
   dsimp only
   rw [List.map_append,List.length_append,List.length_append]
   exact⟨by repeat' (first|exact trivial|exact rfl|refine And.intro ?_ ?_),by repeat' (first|exact trivial|exact rfl|refine And.intro ?_ ?_)⟩
  have hfull:vX tAt m s3=(p,(b1,f)):=by
   by_cases e:p.length=m
   ·rw [<-e];exact k1
   ·have hd:f=true:=by
     cases f with
     |true=>rfl
     |false=>exact absurd ⟨by omega,rfl⟩ hk
    exact pP tAt p.length m s3 p (b1,f) k1 hd k2
  rw [hfull]at hnx hless
  have hstop:p.length < m->f=true:= λh=>by
   cases f with
   |true=>rfl
   |false=>exact absurd ⟨h,rfl⟩ hk
  ((conv=>whnf);repeat ((first|(intro hq;try simp only [lnS]at hq)|refine sI ?_|refine .intro _ (.intro rfl ?_));(conv=>whnf)))
  refine aC (λh5=> ?_) (λh5=> ?_)
  ·have hnd:(!f)=false:=by rw [hstop (by dsimp only at h5;omega)];rfl
   ((conv=>whnf);repeat ((first|(intro hq;try simp only [lnS]at hq)|refine sI ?_|refine .intro _ (.intro rfl ?_));(conv=>whnf)))
   rw [hnd]
   ((conv=>whnf);repeat ((first|(refine And.intro hb63 ?_)|(refine And.intro hb48 ?_)|(intro hq;try simp only [lnS]at hq)|refine sI ?_|refine .intro _ (.intro rfl ?_));(conv=>whnf)))
   refine⟨(l++[p],(b1,f)),⟨by dsimp only;rw [List.length_append];exact hnx,by dsimp only;rw [List.length_append,List.length_singleton];omega,k3⟩,by dsimp only;rw [List.length_append,List.length_singleton];omega, ?_⟩
   dsimp only
   rw [List.map_append,List.length_append,List.length_append]
   exact⟨by repeat' (first|exact trivial|exact rfl|refine And.intro ?_ ?_),by repeat' (first|exact trivial|exact rfl|refine And.intro ?_ ?_)⟩
  ·((conv=>whnf);repeat ((first|(refine And.intro hb63 ?_)|(refine And.intro hb48 ?_)|(intro hq;try simp only [lnS]at hq)|refine sI ?_|refine .intro _ (.intro rfl ?_));(conv=>whnf)))
   refine⟨(l++[p],(b1,f)),⟨by dsimp only;rw [List.length_append];exact hnx,by dsimp only;rw [List.length_append,List.length_singleton];omega,k3⟩,by dsimp only;rw [List.length_append,List.length_singleton];omega, ?_⟩
   dsimp only
   rw [List.map_append,List.length_append,List.length_append]
   exact⟨by repeat' (first|exact trivial|exact rfl|refine And.intro ?_ ?_),by repeat' (first|exact trivial|exact rfl|refine And.intro ?_ ?_)⟩
 have hfull:vX tPt n s2=(l,(b,d)):=by
  by_cases e:l.length=n
  ·rw [<-e];exact h1
  ·have hd:d=true:=by
    cases d with
    |true=>rfl
    |false=>exact absurd ⟨by omega,rfl⟩ hc
   exact pP tPt l.length n s2 l (b,d) h1 hd h2
 have hM:aIy (vX tPt n) (λp=>(⟨told,p⟩:Qy)) s2=(⟨told,l⟩,(b,d)):=by unfold aIy;rw [hfull]
 rw [hM]at hdec
 clear hM hfull h1 hs2
 have hstop:l.length < n->d=true:= λh=>by
  cases d with
  |true=>rfl
  |false=>exact absurd ⟨h,rfl⟩ hc
 clear hc
 have hw:=xG ⟨told,l⟩
 generalize lA ⟨told,l⟩=ae at *
 obtain⟨a,e⟩:=ae
 have hE:=Tri.at (aXs (b,d)) rfl rfl (λs hs=>by rw [hs];rfl)
 have ha:=dT a
 have hbu:=dT bs
 dsimp only at hdec hw
 have hw2: ∀id,Tri Tryz.prog 50 [.agg [.d (.sl 1 (told.map aV)), .osl id 1 (l.map aK)]] [] _:= λid=>Tri.args hw ⟨bW.cells (by repeat' (first|exact trivial|exact bW.refl _|exact bW.osl|refine And.intro ?_ ?_)),trivial⟩
 replace hw2:=hw2 200
 ((conv=>whnf);repeat ((first|(intro hq;try simp only [lnS]at hq)|refine sI ?_|refine .intro _ (.intro rfl ?_));(conv=>whnf)))
 refine aC (λh5=> ?_) (λh5=> ?_)
 ·have hnd:(!d)=false:=by rw [hstop (by dsimp only at h5;omega)];rfl
  ((conv=>whnf);repeat ((first|(intro hq;try simp only [lnS]at hq)|refine sI ?_|refine .intro _ (.intro rfl ?_));(conv=>whnf)))
  rw [hnd]
  ((conv=>whnf);repeat ((first|(intro hq;try simp only [lnS]at hq)|refine sI ?_|refine .intro _ (.intro rfl ?_));(conv=>whnf)))
  refine aA [] hw2 trivial (λr hs=> ?_)
  subst hs
  ((conv=>whnf);repeat ((first|(intro hq;try simp only [lnS]at hq)|refine sI ?_|refine .intro _ (.intro rfl ?_));(conv=>whnf)))
  refine aA [(15,rfO (b,d))] (hE 15) ⟨rfl,trivial⟩ (λr hs=> ?_)
  subst hs
  cases hend:(!d && decide (b=[]))
  ·have hr:res=(qy0,280):=by
    rw [hdec,if_pos]
    rw [Bool.and_eq_false_iff]at hend
    rcases hend with h|h
    ·exact .inl (by simpa using h)
    ·exact .inr (.inl (of_decide_eq_false h))
   rw [hr]
   ((conv=>whnf);repeat ((first|(intro hq;try simp only [lnS]at hq)|refine sI ?_|refine .intro _ (.intro rfl ?_));(conv=>whnf)))
   exact⟨_,bW.pair (bW.wkd (by repeat' (first|exact trivial|exact rfl|refine And.intro ?_ ?_))),_,rfl,rfl⟩
  rw [Bool.and_eq_true]at hend
  have hbad:d=false:=by simpa using hend.1
  have hnil:b=[]:=of_decide_eq_true hend.2
  ((conv=>whnf);repeat ((first|(intro hq;try simp only [lnS]at hq)|refine sI ?_|refine .intro _ (.intro rfl ?_));(conv=>whnf)))
  refine aD (λh6=> ?_) (λh6=> ?_)
  ·have hr:res=(qy0,280):=by
    rw [hdec,if_pos]
    refine .inr (.inr λh=>h6 ?_)
    injection h
   rw [hr]
   ((conv=>whnf);repeat ((first|(intro hq;try simp only [lnS]at hq)|refine sI ?_|refine .intro _ (.intro rfl ?_));(conv=>whnf)))
   exact⟨_,bW.pair (bW.wkd (by repeat' (first|exact trivial|exact rfl|refine And.intro ?_ ?_))),_,rfl,rfl⟩
  have h6:e=0:=by simpa using h6
  subst h6
  ((conv=>whnf);repeat ((first|(intro hq;try simp only [lnS]at hq)|refine sI ?_|refine .intro _ (.intro rfl ?_));(conv=>whnf)))
  rw [ha,hbu]
  by_cases h7:a=bs
  ·have hr:res=(⟨told,l⟩,0):=by
    rw [hdec,if_neg]
    rintro(h|h|h)
    ·rw [hbad]at h;cases h
    ·exact h hnil
    ·exact h (by rw [h7])
   rw [hr]
   ((conv=>whnf);repeat' ((first|(intro hq;(try simp only [lnS]at hq);(try rewrite [List.length_map]))|refine sJ ?_|refine .intro _ (.intro rfl ?_)|refine exL (k:= ?_)|refine dwR ?_|((first|refine aC ?_ ?_|refine aD ?_ ?_)<;>intro hb<;>(first|exact ddX hb|try simp only [lnS]at hb))|(refine aB ?_ ?_<;>intro hb<;>try exact dsX hb))<;>(conv=>whnf)))
   all_goals first|exact absurd h7 (by assumption)|exact⟨_, .refl _,_,rfl,rfl⟩
  ·have hr:res=(qy0,280):=by
    rw [hdec,if_pos]
    refine .inr (.inr λh=>h7 ?_)
    injection h
   rw [hr]
   ((conv=>whnf);repeat' ((first|(intro hq;(try simp only [lnS]at hq);(try rewrite [List.length_map]))|refine sJ ?_|refine .intro _ (.intro rfl ?_)|refine exL (k:= ?_)|refine dwR ?_|((first|refine aC ?_ ?_|refine aD ?_ ?_)<;>intro hb<;>(first|exact ddX hb|try simp only [lnS]at hb))|(refine aB ?_ ?_<;>intro hb<;>try exact dsX hb))<;>(conv=>whnf)))
   all_goals first|exact absurd (by assumption) h7|exact⟨_,bW.pair (bW.wkd (by repeat' (first|exact trivial|exact rfl|refine And.intro ?_ ?_))),_,rfl,rfl⟩
 ·((conv=>whnf);repeat ((first|(intro hq;try simp only [lnS]at hq)|refine sI ?_|refine .intro _ (.intro rfl ?_));(conv=>whnf)))
  refine aA [] hw2 trivial (λr hs=> ?_)
  subst hs
  ((conv=>whnf);repeat ((first|(intro hq;try simp only [lnS]at hq)|refine sI ?_|refine .intro _ (.intro rfl ?_));(conv=>whnf)))
  refine aA [(15,rfO (b,d))] (hE 15) ⟨rfl,trivial⟩ (λr hs=> ?_)
  subst hs
  cases hend:(!d && decide (b=[]))
  ·have hr:res=(qy0,280):=by
    rw [hdec,if_pos]
    rw [Bool.and_eq_false_iff]at hend
    rcases hend with h|h
    ·exact .inl (by simpa using h)
    ·exact .inr (.inl (of_decide_eq_false h))
   rw [hr]
   ((conv=>whnf);repeat ((first|(intro hq;try simp only [lnS]at hq)|refine sI ?_|refine .intro _ (.intro rfl ?_));(conv=>whnf)))
   exact⟨_,bW.pair (bW.wkd (by repeat' (first|exact trivial|exact rfl|refine And.intro ?_ ?_))),_,rfl,rfl⟩
  rw [Bool.and_eq_true]at hend
  have hbad:d=false:=by simpa using hend.1
  have hnil:b=[]:=of_decide_eq_true hend.2
  ((conv=>whnf);repeat ((first|(intro hq;try simp only [lnS]at hq)|refine sI ?_|refine .intro _ (.intro rfl ?_));(conv=>whnf)))
  refine aD (λh6=> ?_) (λh6=> ?_)
  ·have hr:res=(qy0,280):=by
    rw [hdec,if_pos]
    refine .inr (.inr λh=>h6 ?_)
    injection h
   rw [hr]
   ((conv=>whnf);repeat ((first|(intro hq;try simp only [lnS]at hq)|refine sI ?_|refine .intro _ (.intro rfl ?_));(conv=>whnf)))
   exact⟨_,bW.pair (bW.wkd (by repeat' (first|exact trivial|exact rfl|refine And.intro ?_ ?_))),_,rfl,rfl⟩
  have h6:e=0:=by simpa using h6
  subst h6
  ((conv=>whnf);repeat ((first|(intro hq;try simp only [lnS]at hq)|refine sI ?_|refine .intro _ (.intro rfl ?_));(conv=>whnf)))
  rw [ha,hbu]
  by_cases h7:a=bs
  ·have hr:res=(⟨told,l⟩,0):=by
    rw [hdec,if_neg]
    rintro(h|h|h)
    ·rw [hbad]at h;cases h
    ·exact h hnil
    ·exact h (by rw [h7])
   rw [hr]
   ((conv=>whnf);repeat' ((first|(intro hq;(try simp only [lnS]at hq);(try rewrite [List.length_map]))|refine sJ ?_|refine .intro _ (.intro rfl ?_)|refine exL (k:= ?_)|refine dwR ?_|((first|refine aC ?_ ?_|refine aD ?_ ?_)<;>intro hb<;>(first|exact ddX hb|try simp only [lnS]at hb))|(refine aB ?_ ?_<;>intro hb<;>try exact dsX hb))<;>(conv=>whnf)))
   all_goals first|exact absurd h7 (by assumption)|exact⟨_, .refl _,_,rfl,rfl⟩
  ·have hr:res=(qy0,280):=by
    rw [hdec,if_pos]
    refine .inr (.inr λh=>h7 ?_)
    injection h
   rw [hr]
   ((conv=>whnf);repeat' ((first|(intro hq;(try simp only [lnS]at hq);(try rewrite [List.length_map]))|refine sJ ?_|refine .intro _ (.intro rfl ?_)|refine exL (k:= ?_)|refine dwR ?_|((first|refine aC ?_ ?_|refine aD ?_ ?_)<;>intro hb<;>(first|exact ddX hb|try simp only [lnS]at hb))|(refine aB ?_ ?_<;>intro hb<;>try exact dsX hb))<;>(conv=>whnf)))
   all_goals first|exact absurd (by assumption) h7|exact⟨_,bW.pair (bW.wkd (by repeat' (first|exact trivial|exact rfl|refine And.intro ?_ ?_))),_,rfl,rfl⟩
end Go.Proofs.YtdjfkmkdkclahaaGreatDoor
