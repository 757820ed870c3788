/-
  The reference of objects: ReadQuery.
  Conditions: none.
-/
import Derived.Test.YtleihcnongldbaaGreatDoorWVr
import Derived.Test.YtleihcnongldbaaGreatDoorWDb
set_option linter.unnecessarySimpa false
set_option linter.unusedSectionVars false
set_option linter.unusedSimpArgs false
set_option linter.unusedVariables false
set_option maxHeartbeats 32000000
namespace Go.Proofs.YtleihcnongldbaaGreatDoor
open Go.Proofs Go.RowKit
set_option maxRecDepth 10000
attribute [local irreducible] aN aJ Tri aI YVC cP bE vH
abbrev tPt:Tr (List At):=cN 29 tAt
theorem aQs:vI tPt:=gA aKf 29
abbrev qyZ:HObj:= .cells 25 ([D.nil,D.nil].map .d)
theorem aS5 (s:RS):tAt s=(⟨((fS 1 s).1:Int),(dO (fS 1 s).2).1,(dO (dO (fS 1 s).2).2).1,(dO (dO (dO (fS 1 s).2).2).2).1,(fP (dO (dO (dO (fS 1 s).2).2).2).2).1,(fP (fP (dO (dO (dO (fS 1 s).2).2).2).2).2).1⟩,(fP (fP (dO (dO (dO (fS 1 s).2).2).2).2).2).2):=rfl
theorem xC (bs:List UInt8) (hb:bs.length<=1000000):
  Tri Tryz.prog 12 [.d (.sl 1 (bs.map aM))] [] (λr=> ∃x,x=(eM aQ6 vA qy0 280 bs).1/\r= .tup [.d (.agg (qyR x)), .d (.int .i64 (eM aQ6 vA qy0 280 bs).2)]):=by
 have hdec:=aVk aS7 vA qy0 280 bs
 have hT:tQy (bs,false)=bP (cN 4 dO) (λt=>mR (cN 4 tPt) λp=>(⟨t,p⟩:Qy)) (bs,false):=rfl
 rw [hT]at hdec
 clear hT
 generalize eM aQ6 vA qy0 280 bs=res at *
 refine Tri.says ?_
 refine aF hty Tryz.func12 rfl (kp [0,2,3,4,5,6,7,8,9,10,11,12,30,45,91]) [] _ _ _ (by simp [Tryz.f12]) (by simp) ?_
 ((conv=>whnf);repeat ((first|(intro hq;try simp only [lnS]at hq)|refine sI ?_|refine .intro _ (.intro rfl ?_));(conv=>whnf)))
 refine RfT.call aKu rfl (λ_=>rfl) (bs,false) hb rfl ?_
 have q1:=gA cF 4 (bs,false)
 rcases h1:cN 4 dO (bs,false)with⟨told,s1⟩
 rw [h1]at q1
 rw [cR h1]at hdec
 clear h1
 dsimp only at q1 hdec |-
 ((conv=>whnf);repeat ((first|(intro hq;try simp only [lnS]at hq)|refine sI ?_|refine .intro _ (.intro rfl ?_));(conv=>whnf)))
 refine RfT.call (aF4 4 (by decide) (by decide)) rfl (λ_=>rfl) s1 (by omega) rfl ?_
 have l2:=eP 4 s1
 have hle:=lU (least:=4) s1 (by decide)
 have hT:mR (cN 4 tPt) (λp=>(⟨told,p⟩:Qy)) s1=mR (jI tPt (cK 4 s1).1) (λp=>⟨told,p⟩) (cK 4 s1).2:=rfl
 rw [hT]at hdec
 clear hT
 generalize (cK 4 s1).1=n at *
 generalize (cK 4 s1).2=s2 at *
 have hs2:s2.1.length<=1000000:=by omega
 have hn:n<=1000000:=by omega
 clear l2 hle q1
 ((conv=>whnf);repeat ((first|(intro hq;try simp only [lnS]at hq)|refine sI ?_|refine .intro _ (.intro rfl ?_));(conv=>whnf)))
 refine aN.ownC 5 200 25 68 1 1 rfl rfl (bW (by with_unfolding_all exact rfl)) ?_
 refine aH hty (λy:List (List At)×RS=>([(0, .d (.sl 1 (bs.map aM))),(2, .ptr 2 0),(3, .d (.int .i64 0)),(4, .ptr 15 0),(5, .ptr 5 0),(6, .d (.int .i64 n)),(7, .d (.int .i64 y.1.length))],[(200, .own 68 1 (y.1.map aU).length),(5, .cells 25 [.d (.sl 1 (told.map bL)), .osl 200 1 (y.1.map aU)]),(15,rfO y.2),(2,qyZ)])) (λy=>jI tPt y.1.length s2=y/\y.1.length<=n/\y.2.1.length<=1000000) (λy=>n - y.1.length) ([],s2) ⟨rfl,Nat.zero_le _,hs2⟩ ?_ ?_
 ·exact⟨by repeat' (first|exact trivial|exact rfl|refine And.intro ?_ ?_),by repeat' (first|exact trivial|exact rfl|refine And.intro ?_ ?_)⟩
 rintro⟨l,s⟩ ⟨h1,h2,h3⟩
 dsimp only at h1 h2 h3
 obtain⟨b,d⟩:=s
 have hml:(l.map aU).length=l.length:=List.length_map ..
 have hb63:(l.map aU).length+1<=9223372036854775807:=by rw [hml];omega
 have hb48:((l.map aU).length+1)* 24<=140737488355328:=by rw [hml];omega
 by_cases hc:l.length < n/\d=false
 ·obtain⟨hc,rfl⟩:=hc
  have hnx:=iA tPt l.length s2 l (b,false) h1 rfl rfl
  have hless:=aQs (b,false)
  ((conv=>whnf);repeat ((first|(intro hq;try simp only [lnS]at hq)|refine sI ?_|refine .intro _ (.intro rfl ?_));(conv=>whnf)))
  refine aB (λh5=> ?_) (λh5=>absurd hc (by dsimp only at h5;omega))
  clear h5
  ((conv=>whnf);repeat ((first|(intro hq;try simp only [lnS]at hq)|refine sI ?_|refine .intro _ (.intro rfl ?_));(conv=>whnf)))
  refine RfT.call (aF4 29 (by decide) (by decide)) rfl (λ_=>rfl) (b,false) h3 rfl ?_
  have l2:=eP 29 (b,false)
  have hle:=lU (least:=29) (b,false) (by decide)
  have hT:tPt (b,false)=jI tAt (cK 29 (b,false)).1 (cK 29 (b,false)).2:=rfl
  rw [hT]at hnx hless
  clear hT
  generalize (cK 29 (b,false)).1=m at *
  generalize (cK 29 (b,false)).2=s3 at *
  have hs3:s3.1.length<=1000000:=by dsimp only at *;omega
  have hm:m<=1000000:=by dsimp only at *;omega
  clear l2 hle
  ((conv=>whnf);repeat ((first|(intro hq;try simp only [lnS]at hq)|refine sI ?_|refine .intro _ (.intro rfl ?_));(conv=>whnf)))
  refine aN.ownC 8 201 68 70 6 0 rfl rfl (bW (by with_unfolding_all exact rfl)) ?_
  refine aH hty (λy:List At×RS=>([(0, .d (.sl 1 (bs.map aM))),(2, .ptr 2 0),(3, .d (.int .i64 0)),(4, .ptr 15 0),(5, .ptr 5 0),(6, .d (.int .i64 n)),(7, .d (.int .i64 l.length)),(8, .ptr 8 0),(9, .d (.int .i64 m)),(10, .d (.int .i64 y.1.length))],[(201, .own 70 6 (y.1.map atR).length),(8, .cells 68 [.osl 201 6 (y.1.map atR)]),(200, .own 68 1 (l.map aU).length),(5, .cells 25 [.d (.sl 1 (told.map bL)), .osl 200 1 (l.map aU)]),(15,rfO y.2),(2,qyZ)])) (λy=>jI tAt y.1.length s3=y/\y.1.length<=m/\y.2.1.length<=1000000) (λy=>m - y.1.length) ([],s3) ⟨rfl,Nat.zero_le _,hs3⟩ ⟨by repeat' (first|exact trivial|exact rfl|refine And.intro ?_ ?_),by repeat' (first|exact trivial|exact rfl|refine And.intro ?_ ?_)⟩ ?_
  rintro⟨p,s⟩ ⟨k1,k2,k3⟩
  dsimp only at k1 k2 k3
  obtain⟨b1,f⟩:=s
  have hpl:(p.map atR).length=p.length:=List.length_map ..
  have hc63:(p.map atR).length+1<=9223372036854775807:=by rw [hpl];omega
  have hc48:((p.map atR).length+1)* 72<=140737488355328:=by rw [hpl];omega
  by_cases hk:p.length < m/\f=false
  ·obtain⟨hk,rfl⟩:=hk
   have hny:=iA tAt p.length s3 p (b1,false) k1 rfl rfl
   have hlessa:=aKf (b1,false)
   rw [aS5]at hny hlessa
   ((conv=>whnf);repeat ((first|(intro hq;try simp only [lnS]at hq)|refine sI ?_|refine .intro _ (.intro rfl ?_));(conv=>whnf)))
   refine aB (λh5=> ?_) (λh5=>absurd hk (by dsimp only at h5;omega))
   clear h5
   ((conv=>whnf);repeat ((first|(intro hq;try simp only [lnS]at hq)|refine sI ?_|refine .intro _ (.intro rfl ?_));(conv=>whnf)))
   have w1:=gF 1 (b1,false)
   have ho:=aFv (b1,false)
   rcases e1:fS 1 (b1,false)with⟨kd,u1⟩
   rw [e1]at w1 ho hny hlessa
   have w2:=cF u1
   rcases e2:dO u1 with⟨nm,u2⟩
   rw [e2]at w2
   have w3:=cF u2
   rcases e3:dO u2 with⟨xx,u3⟩
   rw [e3]at w3
   have w4:=cF u3
   rcases e4:dO u3 with⟨yy,u4⟩
   rw [e4]at w4
   have w5:=fM u4
   rcases e5:fP u4 with⟨lo,u5⟩
   rw [e5]at w5
   have w6:=fM u5
   rcases e6:fP u5 with⟨hi,u6⟩
   rw [e6]at w6
   dsimp only at w1 w2 w3 w4 w5 w6 ho k3
   simp only [e2,e3,e4,e5,e6]at hny
   clear hlessa
   have v1:u1.1.length<=1000000:=by omega
   have v2:u2.1.length<=1000000:=by omega
   have v3:u3.1.length<=1000000:=by omega
   have v4:u4.1.length<=1000000:=by omega
   have v5:u5.1.length<=1000000:=by omega
   have v6:u6.1.length<=1000000:=by omega
   refine aN.mid [(0, .d (.sl 1 (bs.map aM))),(2, .ptr 2 0),(3, .d (.int .i64 0)),(4, .ptr 15 0),(5, .ptr 5 0),(6, .d (.int .i64 n)),(7, .d (.int .i64 l.length)),(8, .ptr 8 0),(9, .d (.int .i64 m)),(10, .d (.int .i64 p.length))] [(201, .own 70 6 ((p.map atR).length+1)),(8, .cells 68 [.osl 201 6 (p.map atR++[[.int .i64 (IntKind.i64.wrap (kd:Int)), .str nm, .str xx, .str yy, .int .i64 lo, .int .i64 hi]])]),(200, .own 68 1 (l.map aU).length),(5, .cells 25 [.d (.sl 1 (told.map bL)), .osl 200 1 (l.map aU)]),(15,rfO u6),(2,qyZ)] ?_ ?_
   ·(refine bI (id:=12) hty (.first 0 (.first 2 (.first 5 (.first 7 (.first 9 (.first 11 (.first 13 (.alt 1 (.alt 3 (.first 4 (.alt 6 (.alt 8 (.alt 10 (.alt 12 (.alt 14 (.first 15 (.alt 16 (.alt 17 (.first 18 (.alt 19 .done .stop)) .stop) .stop)) .stop) .stop) .stop) .stop) .stop)) .stop) (.alt 3 (.first 4 (.alt 1 (.alt 6 (.alt 8 (.alt 10 (.alt 12 (.alt 14 (.first 15 (.alt 16 (.alt 17 (.first 18 (.alt 19 .done .stop)) .stop) .stop)) .stop) .stop) .stop) .stop) .stop) (.alt 6 (.alt 1 (.alt 8 (.alt 10 (.alt 12 (.alt 14 (.first 15 (.alt 16 (.alt 17 (.first 18 (.alt 19 .done .stop)) .stop) .stop)) .stop) .stop) .stop) .stop) (.alt 8 (.alt 1 (.alt 10 (.alt 12 (.alt 14 (.first 15 (.alt 16 (.alt 17 (.first 18 (.alt 19 .done .stop)) .stop) .stop)) .stop) .stop) .stop) (.alt 10 (.alt 1 (.alt 12 (.alt 14 (.first 15 (.alt 16 (.alt 17 (.first 18 (.alt 19 .done .stop)) .stop) .stop)) .stop) .stop) (.alt 12 (.alt 1 (.alt 14 (.first 15 (.alt 16 (.alt 17 (.first 18 (.alt 19 .done .stop)) .stop) .stop)) .stop) (.alt 14 (.first 15 (.alt 1 (.alt 16 (.alt 17 (.first 18 (.alt 19 .done .stop)) .stop) .stop) (.alt 16 (.alt 1 (.alt 17 (.first 18 (.alt 19 .done .stop)) .stop) .stop) .stop))) .stop)) .stop)) .stop)) .stop)) .stop))) .stop))))))))) (by kernel_rfl) (by kernel_rfl) ?_)
    ((conv=>whnf);repeat' ((first|(intro hq;(try simp only [lnS]at hq);(try rewrite [List.length_map]))|refine sJ ?_|refine .intro _ (.intro rfl ?_)|refine exL (k:= ?_)|(refine And.intro hc63 ?_)|(refine And.intro hc48 ?_)|(refine RfT.call aT2 rfl (λ_=>rfl) (b1,false) k3 rfl ?_;rw [e1])|(refine RfT.call tX rfl (λ_=>rfl) u1 v1 rfl ?_;rw [e2])|(refine RfT.call tX rfl (λ_=>rfl) u2 v2 rfl ?_;rw [e3])|(refine RfT.call tX rfl (λ_=>rfl) u3 v3 rfl ?_;rw [e4])|(refine RfT.call rF rfl (λ_=>rfl) u4 v4 rfl ?_;rw [e5])|(refine RfT.call rF rfl (λ_=>rfl) u5 v5 rfl ?_;rw [e6])|exact trivial|(refine And.intro ?_ ?_)|refine dwR ?_|((first|refine aB ?_ ?_|refine aC ?_ ?_)<;>intro hb<;>(first|exact ddX hb|try simp only [lnS]at hb))|(refine aA ?_ ?_<;>intro hb<;>try exact dsX hb))<;>(conv=>whnf)))
    all_goals exact⟨by repeat' (first|exact trivial|exact rfl|refine And.intro ?_ ?_),by repeat' (first|exact trivial|exact rfl|refine And.intro ?_ ?_)⟩
   rw [aBs ho]
   ((conv=>whnf);repeat ((first|(intro hq;try simp only [lnS]at hq)|refine sI ?_|refine .intro _ (.intro rfl ?_));(conv=>whnf)))
   refine⟨(p++[_],u6),⟨by dsimp only;rw [List.length_append];exact hny,by dsimp only;rw [List.length_append,List.length_singleton];omega,v6⟩,by dsimp only;rw [List.length_append,List.length_singleton];omega, ?_⟩
   dsimp only
   rw [List.map_append,List.length_append,List.length_append]
   exact⟨by repeat' (first|exact trivial|exact rfl|refine And.intro ?_ ?_),by repeat' (first|exact trivial|exact rfl|refine And.intro ?_ ?_)⟩
  have hfull:jI tAt m s3=(p,(b1,f)):=by
   by_cases e:p.length=m
   ·rw [<-e];exact k1
   ·have hd:f=true:=by
     cases f with
     |true=>rfl
     |false=>exact absurd ⟨by omega,rfl⟩ hk
    exact hZ tAt p.length m s3 p (b1,f) k1 hd k2
  rw [hfull]at hnx hless
  have hstop:p.length < m->f=true:= λh=>by
   cases f with
   |true=>rfl
   |false=>exact absurd ⟨h,rfl⟩ hk
  ((conv=>whnf);repeat ((first|(intro hq;try simp only [lnS]at hq)|refine sI ?_|refine .intro _ (.intro rfl ?_));(conv=>whnf)))
  refine aB (λh5=> ?_) (λh5=> ?_)
  ·have hnd:(!f)=false:=by rw [hstop (by dsimp only at h5;omega)];rfl
   ((conv=>whnf);repeat ((first|(intro hq;try simp only [lnS]at hq)|refine sI ?_|refine .intro _ (.intro rfl ?_));(conv=>whnf)))
   rw [hnd]
   ((conv=>whnf);repeat ((first|(refine And.intro hb63 ?_)|(refine And.intro hb48 ?_)|(intro hq;try simp only [lnS]at hq)|refine sI ?_|refine .intro _ (.intro rfl ?_));(conv=>whnf)))
   refine⟨(l++[p],(b1,f)),⟨by dsimp only;rw [List.length_append];exact hnx,by dsimp only;rw [List.length_append,List.length_singleton];omega,k3⟩,by dsimp only;rw [List.length_append,List.length_singleton];omega, ?_⟩
   dsimp only
   rw [List.map_append,List.length_append,List.length_append]
   exact⟨by repeat' (first|exact trivial|exact rfl|refine And.intro ?_ ?_),by repeat' (first|exact trivial|exact rfl|refine And.intro ?_ ?_)⟩
  ·((conv=>whnf);repeat ((first|(refine And.intro hb63 ?_)|(refine And.intro hb48 ?_)|(intro hq;try simp only [lnS]at hq)|refine sI ?_|refine .intro _ (.intro rfl ?_));(conv=>whnf)))
   refine⟨(l++[p],(b1,f)),⟨by dsimp only;rw [List.length_append];exact hnx,by dsimp only;rw [List.length_append,List.length_singleton];omega,k3⟩,by dsimp only;rw [List.length_append,List.length_singleton];omega, ?_⟩
   dsimp only
   rw [List.map_append,List.length_append,List.length_append]
   exact⟨by repeat' (first|exact trivial|exact rfl|refine And.intro ?_ ?_),by repeat' (first|exact trivial|exact rfl|refine And.intro ?_ ?_)⟩
 have hfull:jI tPt n s2=(l,(b,d)):=by
  by_cases e:l.length=n
  ·rw [<-e];exact h1
  ·have hd:d=true:=by
    cases d with
    |true=>rfl
    |false=>exact absurd ⟨by omega,rfl⟩ hc
   exact hZ tPt l.length n s2 l (b,d) h1 hd h2
 have hM:mR (jI tPt n) (λp=>(⟨told,p⟩:Qy)) s2=(⟨told,l⟩,(b,d)):=by unfold mR;rw [hfull]
 rw [hM]at hdec
 clear hM hfull h1 hs2
 have hstop:l.length < n->d=true:= λh=>by
  cases d with
  |true=>rfl
  |false=>exact absurd ⟨h,rfl⟩ hc
 clear hc
 have hw:=xD ⟨told,l⟩
 generalize vA ⟨told,l⟩=ae at *
 obtain⟨a,e⟩:=ae
 have hE:=Tri.at (aVt (b,d)) rfl rfl (λs hs=>by rw [hs];rfl)
 have ha:=fX a
 have hbu:=fX bs
 dsimp only at hdec hw
 have hw2: ∀id,Tri Tryz.prog 10 [.agg [.d (.sl 1 (told.map bL)), .osl id 1 (l.map aU)]] [] _:= λid=>Tri.args hw ⟨dA.cells (by repeat' (first|exact trivial|exact dA.refl _|exact dA.osl|refine And.intro ?_ ?_)),trivial⟩
 replace hw2:=hw2 200
 ((conv=>whnf);repeat ((first|(intro hq;try simp only [lnS]at hq)|refine sI ?_|refine .intro _ (.intro rfl ?_));(conv=>whnf)))
 refine aB (λh5=> ?_) (λh5=> ?_)
 ·have hnd:(!d)=false:=by rw [hstop (by dsimp only at h5;omega)];rfl
  ((conv=>whnf);repeat ((first|(intro hq;try simp only [lnS]at hq)|refine sI ?_|refine .intro _ (.intro rfl ?_));(conv=>whnf)))
  rw [hnd]
  ((conv=>whnf);repeat ((first|(intro hq;try simp only [lnS]at hq)|refine sI ?_|refine .intro _ (.intro rfl ?_));(conv=>whnf)))
  refine aD [] hw2 trivial (λr hs=> ?_)
  subst hs
  ((conv=>whnf);repeat ((first|(intro hq;try simp only [lnS]at hq)|refine sI ?_|refine .intro _ (.intro rfl ?_));(conv=>whnf)))
  refine aD [(15,rfO (b,d))] (hE 15) ⟨rfl,trivial⟩ (λr hs=> ?_)
  subst hs
  cases hend:(!d && decide (b=[]))
  ·have hr:res=(qy0,280):=by
    rw [hdec,if_pos]
    rw [Bool.and_eq_false_iff]at hend
    rcases hend with h|h
    ·exact .inl (by simpa using h)
    ·exact .inr (.inl (of_decide_eq_false h))
   rw [hr]
   ((conv=>whnf);repeat ((first|(intro hq;try simp only [lnS]at hq)|refine sI ?_|refine .intro _ (.intro rfl ?_));(conv=>whnf)))
   exact⟨_,dA.pair (dA.wkd (by repeat' (first|exact trivial|exact rfl|refine And.intro ?_ ?_))),_,rfl,rfl⟩
  rw [Bool.and_eq_true]at hend
  have hbad:d=false:=by simpa using hend.1
  have hnil:b=[]:=of_decide_eq_true hend.2
  ((conv=>whnf);repeat ((first|(intro hq;try simp only [lnS]at hq)|refine sI ?_|refine .intro _ (.intro rfl ?_));(conv=>whnf)))
  refine aC (λh6=> ?_) (λh6=> ?_)
  ·have hr:res=(qy0,280):=by
    rw [hdec,if_pos]
    refine .inr (.inr λh=>h6 ?_)
    injection h
   rw [hr]
   ((conv=>whnf);repeat ((first|(intro hq;try simp only [lnS]at hq)|refine sI ?_|refine .intro _ (.intro rfl ?_));(conv=>whnf)))
   exact⟨_,dA.pair (dA.wkd (by repeat' (first|exact trivial|exact rfl|refine And.intro ?_ ?_))),_,rfl,rfl⟩
  have h6:e=0:=by simpa using h6
  subst h6
  ((conv=>whnf);repeat ((first|(intro hq;try simp only [lnS]at hq)|refine sI ?_|refine .intro _ (.intro rfl ?_));(conv=>whnf)))
  rw [ha,hbu]
  by_cases h7:a=bs
  ·have hr:res=(⟨told,l⟩,0):=by
    rw [hdec,if_neg]
    rintro(h|h|h)
    ·rw [hbad]at h;cases h
    ·exact h hnil
    ·exact h (by rw [h7])
   rw [hr]
   ((conv=>whnf);repeat' ((first|(intro hq;(try simp only [lnS]at hq);(try rewrite [List.length_map]))|refine sJ ?_|refine .intro _ (.intro rfl ?_)|refine exL (k:= ?_)|refine dwR ?_|((first|refine aB ?_ ?_|refine aC ?_ ?_)<;>intro hb<;>(first|exact ddX hb|try simp only [lnS]at hb))|(refine aA ?_ ?_<;>intro hb<;>try exact dsX hb))<;>(conv=>whnf)))
   all_goals first|exact absurd h7 (by assumption)|exact⟨_, .refl _,_,rfl,rfl⟩
  ·have hr:res=(qy0,280):=by
    rw [hdec,if_pos]
    refine .inr (.inr λh=>h7 ?_)
    injection h
   rw [hr]
   ((conv=>whnf);repeat' ((first|(intro hq;(try simp only [lnS]at hq);(try rewrite [List.length_map]))|refine sJ ?_|refine .intro _ (.intro rfl ?_)|refine exL (k:= ?_)|refine dwR ?_|((first|refine aB ?_ ?_|refine aC ?_ ?_)<;>intro hb<;>(first|exact ddX hb|try simp only [lnS]at hb))|(refine aA ?_ ?_<;>intro hb<;>try exact dsX hb))<;>(conv=>whnf)))
   all_goals first|exact absurd (by assumption) h7|exact⟨_,dA.pair (dA.wkd (by repeat' (first|exact trivial|exact rfl|refine And.intro ?_ ?_))),_,rfl,rfl⟩
 ·((conv=>whnf);repeat ((first|(intro hq;try simp only [lnS]at hq)|refine sI ?_|refine .intro _ (.intro rfl ?_));(conv=>whnf)))
  refine aD [] hw2 trivial (λr hs=> ?_)
  subst hs
  ((conv=>whnf);repeat ((first|(intro hq;try simp only [lnS]at hq)|refine sI ?_|refine .intro _ (.intro rfl ?_));(conv=>whnf)))
  refine aD [(15,rfO (b,d))] (hE 15) ⟨rfl,trivial⟩ (λr hs=> ?_)
  subst hs
  cases hend:(!d && decide (b=[]))
  ·have hr:res=(qy0,280):=by
    rw [hdec,if_pos]
    rw [Bool.and_eq_false_iff]at hend
    rcases hend with h|h
    ·exact .inl (by simpa using h)
    ·exact .inr (.inl (of_decide_eq_false h))
   rw [hr]
   ((conv=>whnf);repeat ((first|(intro hq;try simp only [lnS]at hq)|refine sI ?_|refine .intro _ (.intro rfl ?_));(conv=>whnf)))
   exact⟨_,dA.pair (dA.wkd (by repeat' (first|exact trivial|exact rfl|refine And.intro ?_ ?_))),_,rfl,rfl⟩
  rw [Bool.and_eq_true]at hend
  have hbad:d=false:=by simpa using hend.1
  have hnil:b=[]:=of_decide_eq_true hend.2
  ((conv=>whnf);repeat ((first|(intro hq;try simp only [lnS]at hq)|refine sI ?_|refine .intro _ (.intro rfl ?_));(conv=>whnf)))
  refine aC (λh6=> ?_) (λh6=> ?_)
  ·have hr:res=(qy0,280):=by
    rw [hdec,if_pos]
    refine .inr (.inr λh=>h6 ?_)
    injection h
   rw [hr]
   ((conv=>whnf);repeat ((first|(intro hq;try simp only [lnS]at hq)|refine sI ?_|refine .intro _ (.intro rfl ?_));(conv=>whnf)))
   exact⟨_,dA.pair (dA.wkd (by repeat' (first|exact trivial|exact rfl|refine And.intro ?_ ?_))),_,rfl,rfl⟩
  have h6:e=0:=by simpa using h6
  subst h6
  ((conv=>whnf);repeat ((first|(intro hq;try simp only [lnS]at hq)|refine sI ?_|refine .intro _ (.intro rfl ?_));(conv=>whnf)))
  rw [ha,hbu]
  by_cases h7:a=bs
  ·have hr:res=(⟨told,l⟩,0):=by
    rw [hdec,if_neg]
    rintro(h|h|h)
    ·rw [hbad]at h;cases h
    ·exact h hnil
    ·exact h (by rw [h7])
   rw [hr]
   ((conv=>whnf);repeat' ((first|(intro hq;(try simp only [lnS]at hq);(try rewrite [List.length_map]))|refine sJ ?_|refine .intro _ (.intro rfl ?_)|refine exL (k:= ?_)|refine dwR ?_|((first|refine aB ?_ ?_|refine aC ?_ ?_)<;>intro hb<;>(first|exact ddX hb|try simp only [lnS]at hb))|(refine aA ?_ ?_<;>intro hb<;>try exact dsX hb))<;>(conv=>whnf)))
   all_goals first|exact absurd h7 (by assumption)|exact⟨_, .refl _,_,rfl,rfl⟩
  ·have hr:res=(qy0,280):=by
    rw [hdec,if_pos]
    refine .inr (.inr λh=>h7 ?_)
    injection h
   rw [hr]
   ((conv=>whnf);repeat' ((first|(intro hq;(try simp only [lnS]at hq);(try rewrite [List.length_map]))|refine sJ ?_|refine .intro _ (.intro rfl ?_)|refine exL (k:= ?_)|refine dwR ?_|((first|refine aB ?_ ?_|refine aC ?_ ?_)<;>intro hb<;>(first|exact ddX hb|try simp only [lnS]at hb))|(refine aA ?_ ?_<;>intro hb<;>try exact dsX hb))<;>(conv=>whnf)))
   all_goals first|exact absurd (by assumption) h7|exact⟨_,dA.pair (dA.wkd (by repeat' (first|exact trivial|exact rfl|refine And.intro ?_ ?_))),_,rfl,rfl⟩
end Go.Proofs.YtleihcnongldbaaGreatDoor
