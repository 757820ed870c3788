/-
  Rename: Compose and Inverse. Rename: the reference's Same at one list. Terms: the reference's Weight and CompareAxiom.
  Conditions: none.
-/
import Derived.Test.YtfhoddcminbffaaGreatDoorVRf
import Derived.Test.YtfhoddcminbffaaGreatDoorVRg
import Derived.Test.YtfhoddcminbffaaGreatDoorVTcr
import Derived.Test.YtfhoddcminbffaaGreatDoorVSyd
import Derived.Test.YtfhoddcminbffaaGreatDoorVRea
import Derived.Test.YtfhoddcminbffaaGreatDoorVGr
import Derived.Test.YtfhoddcminbffaaGreatDoorVTca
set_option linter.unnecessarySimpa false
set_option linter.unusedSectionVars false
set_option linter.unusedSimpArgs false
set_option linter.unusedVariables false
set_option maxHeartbeats 64000000
namespace Go.Proofs.YtfhoddcminbffaaGreatDoor
open Go.Proofs
set_option maxRecDepth 10000
attribute [local irreducible] aV aM Tri aI YVC dQ bN
theorem jY (e:List (Ky×SV)) (bs:List Nat) (c:Nat):(vU jK e bs c).ids=aK9 e:=rfl
theorem kC:aK9 ([]:List (Ky×SV))=[]:=rfl
theorem frS {id:Nat}{pin:List Nat}{fr:Fr}{hp:Hp}{B:Prop}(b:B) (h:fB id pin fr hp:=by refine⟨?_, ?_, ?_⟩<;>simp [bM,aZ,bL,aY,HObj.ids,SV.ids,SV.idsL,bR,roH,lV,jY,kC,cC,cL,aU,cF,mP,aG6]):fB id pin fr hp/\B:=⟨h,b⟩
theorem nmS {t:Nat}{r:Hp}{B:Prop}(b:B) (h:t∉iL r:=by simp [bM,aZ,bL,aY,HObj.ids,SV.ids,SV.idsL,bR,roH,lV,jY,kC,cC,cL,aU,cF,mP,aG6]):t∉iL r/\B:=⟨h,b⟩
theorem aHz {l m s:List Rn}{j:Nat}(hj:j < s.length):aA5 l m (s.take (j+1))=aA5 l m (s.take j)++if (sG l m s[j]).new=(sG l m s[j]).old then []else [sG l m s[j]]:=by
 unfold aA5
 rw [List.take_succ_eq_append_getElem hj,List.map_append,List.filter_append]
 congr 1
 by_cases h:(sG l m s[j]).new=(sG l m s[j]).old<;>simp [h]
theorem aJu (l m s:List Rn):(aA5 l m s).length<=s.length:=by
 have:=List.length_filter_le (λr:Rn=> !decide (r.new=r.old)) (s.map (sG l m))
 rw [List.length_map]at this
 exact this
theorem lG (l m:List Rn):Tri Tryz.prog 37 [.d (rnL l), .d (rnL m)] [] (λr=>r= .tup [.d (rnL (sW l m).1), .d (.int .i64 (sW l m).2)]):=by
 refine Tri.pairS (z:=3) ?_
 have ck:=cV l
 have ck2:=cV m
 refine aH false [] hty Tryz.func37 rfl (kp [0,1,4,5,6,7,9,13,18,28,29,30,31,49,58]) [] _ _ _ (by simp [Tryz.f37]) (by simp) ?_
 ((conv=>whnf);repeat ((first|(intro hq;try simp only [lnS]at hq)|refine sI ?_|refine .intro _ (.intro rfl ?_));(conv=>whnf)))
 refine aG [] ck trivial (λr hs=> ?_)
 subst hs
 ((conv=>whnf);repeat ((first|(intro hq;try simp only [lnS]at hq)|refine sI ?_|refine .intro _ (.intro rfl ?_));(conv=>whnf)))
 refine aF (λh1=> ?_) (λh1=> ?_)
 ·have hv:sW l m=([],cD l):=by unfold sW;rw [if_pos h1]
  rw [hv]
  ((conv=>whnf);repeat' ((first|(intro hq;(try simp only [lnS]at hq);(try rewrite [List.length_map]))|refine sJ ?_|refine .intro _ (.intro rfl ?_)|refine exL (k:= ?_)|refine dwR ?_|((first|refine aD ?_ ?_|refine aF ?_ ?_)<;>intro hb<;>(first|exact ddX hb|try simp only [lnS]at hb))|(refine aC ?_ ?_<;>intro hb<;>try exact dsX hb))<;>(conv=>whnf)))
  exact aHo _ _
 have h0:cD l=0:=by simpa using h1
 obtain⟨hg,hlen⟩:=nJ h0
 ((conv=>whnf);repeat ((first|(intro hq;try simp only [lnS]at hq)|refine sI ?_|refine .intro _ (.intro rfl ?_));(conv=>whnf)))
 refine aG [] ck2 trivial (λr hs=> ?_)
 subst hs
 ((conv=>whnf);repeat ((first|(intro hq;try simp only [lnS]at hq)|refine sI ?_|refine .intro _ (.intro rfl ?_));(conv=>whnf)))
 refine aF (λh2=> ?_) (λh2=> ?_)
 ·have hv:sW l m=([],cD m):=by unfold sW;rw [if_neg (by omega),if_pos h2]
  rw [hv]
  ((conv=>whnf);repeat' ((first|(intro hq;(try simp only [lnS]at hq);(try rewrite [List.length_map]))|refine sJ ?_|refine .intro _ (.intro rfl ?_)|refine exL (k:= ?_)|refine dwR ?_|((first|refine aD ?_ ?_|refine aF ?_ ?_)<;>intro hb<;>(first|exact ddX hb|try simp only [lnS]at hb))|(refine aC ?_ ?_<;>intro hb<;>try exact dsX hb))<;>(conv=>whnf)))
  exact aHo _ _
 have h0':cD m=0:=by simpa using h2
 obtain⟨hg2,hlen2⟩:=nJ h0'
 have hv:sW l m=if cD (sX l m)≠0 then ([],cD (sX l m))else (sX l m,0):=by
  unfold sW
  rw [if_neg (by omega),if_neg (by omega)]
 rw [hv]
 clear h1 h2 ck ck2 hv
 ((conv=>whnf);repeat ((first|(intro hq;try simp only [lnS]at hq)|refine sI ?_|refine .intro _ (.intro rfl ?_));(conv=>whnf)))
 refine bX false [5] hty Tryz.func41 rfl (kp [0,2,3,5,7,8,9,10]) 20 (by simp [Tryz.f41]) ?_
 ((conv=>whnf);repeat ((first|refine frS ?_|refine nmS ?_|(intro hq;try simp only [lnS]at hq)|refine sI ?_|refine .intro _ (.intro rfl ?_));(conv=>whnf)))
 refine pQ rfl rfl jK 33 (by refine⟨?_, ?_, ?_⟩<;>simp [bM,aZ,bL,aY,HObj.ids,SV.ids,SV.idsL,bR,roH,lV,jY,kC,cC,cL,aU,cF,mP,aG6]) ?_
 ((conv=>whnf);repeat ((first|refine frS ?_|refine nmS ?_|(intro hq;try simp only [lnS]at hq)|refine sI ?_|refine .intro _ (.intro rfl ?_));(conv=>whnf)))
 refine aK hty (λy:Nat×List Nat×Nat=>([(0, .d (rnL l)),(3, .ptr 23 0),(7, .d (rnL l)),(8, .d (.int .i64 l.length)),(9, .d (.int .i64 y.1))],(23, .cells 102 [.xv 33 mQ])::(33,lV (l.take y.1) y.2)::[])) (λy=>y.1<=l.length) (λy=>l.length - y.1) (0,[],0) (by dsimp only;omega) ⟨by repeat' (first|exact trivial|exact rfl|(rw [List.length_map];exact rfl)|refine And.intro ?_ ?_),⟨rfl,rfl,trivial⟩⟩ ?_
 rintro⟨j,g0⟩ hj
 dsimp only at hj
 ((conv=>whnf);repeat ((first|refine frS ?_|refine nmS ?_|(intro hq;try simp only [lnS]at hq)|refine sI ?_|refine .intro _ (.intro rfl ?_));(conv=>whnf)))
 refine aD (λh1=> ?_) (λh1=> ?_)
 ·have hjl:j < l.length:=by dsimp only at h1;omega
  have hrow:(l.map rnR)[(j:Int).toNat]? =some (rnR l[j]):=aS hjl
  have hms:=mO l[j] (l.take j) (qH hg.str hjl)
  rw [<-List.take_succ_eq_append_getElem hjl]at hms
  generalize l[j]=x at hrow hms
  ((conv=>whnf);repeat ((first|refine frS ?_|refine nmS ?_|(refine⟨_,hrow, ?_⟩)|(intro hq;try simp only [lnS]at hq)|refine sI ?_|refine .intro _ (.intro rfl ?_));(conv=>whnf)))
  refine iD (k:=gN x) (.inl rfl) rfl (eT aEr) rfl rfl rfl rfl (λbs1 ck1=> ?_)
  ((conv=>whnf);repeat ((first|refine frS ?_|refine nmS ?_|(intro hq;try simp only [lnS]at hq)|refine sI ?_|refine .intro _ (.intro rfl ?_));(conv=>whnf)))
  refine⟨(j+1,bs1,ck1),by dsimp only;omega,by dsimp only;omega,⟨by repeat' (first|exact trivial|exact rfl|refine And.intro ?_ ?_), ?_⟩⟩
  dsimp only
  unfold lV
  rw [<-hms]
  exact⟨rfl,rfl,trivial⟩
 have hjl:j=l.length:=by dsimp only at h1;omega
 subst hjl
 rw [List.take_length]
 ((conv=>whnf);repeat ((first|refine frS ?_|refine nmS ?_|(intro hq;try simp only [lnS]at hq)|refine sI ?_|refine .intro _ (.intro rfl ?_));(conv=>whnf)))
 refine bX false [5] hty Tryz.func41 rfl (kp [0,2,3,5,7,8,9,10]) 25 (by simp [Tryz.f41]) ?_
 ((conv=>whnf);repeat ((first|refine frS ?_|refine nmS ?_|(intro hq;try simp only [lnS]at hq)|refine sI ?_|refine .intro _ (.intro rfl ?_));(conv=>whnf)))
 refine pQ rfl rfl jK 38 (by refine⟨?_, ?_, ?_⟩<;>simp [bM,aZ,bL,aY,HObj.ids,SV.ids,SV.idsL,bR,roH,lV,jY,kC,cC,cL,aU,cF,mP,aG6]) ?_
 ((conv=>whnf);repeat ((first|refine frS ?_|refine nmS ?_|(intro hq;try simp only [lnS]at hq)|refine sI ?_|refine .intro _ (.intro rfl ?_));(conv=>whnf)))
 refine aK hty (λy:Nat×List Nat×Nat=>([(0, .d (rnL m)),(3, .ptr 28 0),(7, .d (rnL m)),(8, .d (.int .i64 m.length)),(9, .d (.int .i64 y.1))],(28, .cells 102 [.xv 38 mQ])::(38,lV (m.take y.1) y.2)::(23, .cells 102 [.xv 33 mQ])::(33,lV l g0)::[])) (λy=>y.1<=m.length) (λy=>m.length - y.1) (0,[],0) (by dsimp only;omega) ⟨by repeat' (first|exact trivial|exact rfl|(rw [List.length_map];exact rfl)|refine And.intro ?_ ?_),⟨rfl,rfl,rfl,rfl,trivial⟩⟩ ?_
 rintro⟨j,g⟩ hj
 dsimp only at hj
 ((conv=>whnf);repeat ((first|refine frS ?_|refine nmS ?_|(intro hq;try simp only [lnS]at hq)|refine sI ?_|refine .intro _ (.intro rfl ?_));(conv=>whnf)))
 refine aD (λh1=> ?_) (λh1=> ?_)
 ·have hjl:j < m.length:=by dsimp only at h1;omega
  have hrow:(m.map rnR)[(j:Int).toNat]? =some (rnR m[j]):=aS hjl
  have hms:=mO m[j] (m.take j) (qH hg2.str hjl)
  rw [<-List.take_succ_eq_append_getElem hjl]at hms
  generalize m[j]=x at hrow hms
  ((conv=>whnf);repeat ((first|refine frS ?_|refine nmS ?_|(refine⟨_,hrow, ?_⟩)|(intro hq;try simp only [lnS]at hq)|refine sI ?_|refine .intro _ (.intro rfl ?_));(conv=>whnf)))
  refine iD (k:=gN x) (.inl rfl) rfl (eT aEr) rfl rfl rfl rfl (λbs1 ck1=> ?_)
  ((conv=>whnf);repeat ((first|refine frS ?_|refine nmS ?_|(intro hq;try simp only [lnS]at hq)|refine sI ?_|refine .intro _ (.intro rfl ?_));(conv=>whnf)))
  refine⟨(j+1,bs1,ck1),by dsimp only;omega,by dsimp only;omega,⟨by repeat' (first|exact trivial|exact rfl|refine And.intro ?_ ?_), ?_⟩⟩
  dsimp only
  unfold lV
  rw [<-hms]
  exact⟨rfl,rfl,rfl,rfl,trivial⟩
 have hjl:j=m.length:=by dsimp only at h1;omega
 subst hjl
 rw [List.take_length]
 ((conv=>whnf);repeat ((first|refine frS ?_|refine nmS ?_|(intro hq;try simp only [lnS]at hq)|refine sI ?_|refine .intro _ (.intro rfl ?_));(conv=>whnf)))
 have hc:=vJ [l,m] (by simp;omega) (by simp)
 rw [show [l,m].flatten=l++m by simp]at hc
 have hc:=Tri.osl (id:=26) hc
 refine aG [] hc trivial (λr hs=> ?_)
 subst hs
 clear hc
 ((conv=>whnf);repeat ((first|refine frS ?_|refine nmS ?_|(intro hq;try simp only [lnS]at hq)|refine sI ?_|refine .intro _ (.intro rfl ?_));(conv=>whnf)))
 refine aG [] (vI (l++m) (by rw [List.length_append];omega)) trivial (λr hs=> ?_)
 obtain⟨s,hsd,rfl⟩:=hs
 have hcomp:aA5 l m s=sX l m:=aI6 hg.str hg2.str hsd.str hsd.sub hsd.key
 have hsl:=hsd.len
 rw [List.length_append]at hsl
 clear hsd
 ((conv=>whnf);repeat ((first|refine frS ?_|refine nmS ?_|(intro hq;try simp only [lnS]at hq)|refine sI ?_|refine .intro _ (.intro rfl ?_));(conv=>whnf)))
 refine aV.own 4 120 68 3 rfl (by refine⟨?_, ?_, ?_⟩<;>simp [bM,aZ,bL,aY,HObj.ids,SV.ids,SV.idsL,bR,roH,lV,jY,kC,cC,cL,aU,cF,mP,aG6]) ?_
 refine aK hty (λj:Nat=>([(4, .osl 120 3 ((aA5 l m (s.take j)).map rnR)),(6, .fn 81 [] [.ptr 23 0]),(7, .fn 81 [] [.ptr 28 0]),(28, .d (rnL s)),(29, .d (.int .i64 s.length)),(30, .d (.int .i64 j))],(120, .own 68 3 ((aA5 l m (s.take j)).map rnR).length)::(28, .cells 102 [.xv 38 mQ])::(38,lV m g)::(23, .cells 102 [.xv 33 mQ])::(33,lV l g0)::[])) (λj=>j<=s.length) (λj=>s.length - j) 0 (by omega) ⟨by repeat' (first|exact trivial|exact rfl|(rw [List.length_map];exact rfl)|refine And.intro ?_ ?_),⟨rfl,rfl,rfl,rfl,rfl,trivial⟩⟩ ?_
 rintro j hj
 ((conv=>whnf);repeat ((first|refine frS ?_|refine nmS ?_|(intro hq;try simp only [lnS]at hq)|refine sI ?_|refine .intro _ (.intro rfl ?_));(conv=>whnf)))
 refine aD (λh1=> ?_) (λh1=> ?_)
 ·have hjl:j < s.length:=by omega
  have hrow:(s.map rnR)[(j:Int).toNat]? =some (rnR s[j]):=aS hjl
  have hft:=aHz (l:=l) (m:=m) hjl
  have hlen9:=aJu l m (s.take j)
  rw [List.length_take]at hlen9
  generalize s[j]=x at hrow hft
  have n1:=(fY l g0 x.kind x.old).rel [(23, .cells 102 [.xv 33 mQ]),(33,lV l g0)] ⟨rfl,⟨rfl,rfl⟩,rfl,rfl,trivial⟩
  have n2:=(aGs m g x.kind (aO l x.kind x.old)).rel [(28, .cells 102 [.xv 38 mQ]),(38,lV m g)] ⟨rfl,⟨rfl,rfl⟩,rfl,rfl,trivial⟩
  have hnew:sG l m x=⟨x.kind,x.old,aO m x.kind (aO l x.kind x.old)⟩:=rfl
  rw [hnew]at hft
  generalize aO m x.kind (aO l x.kind x.old)=nm at n2 hft
  generalize aO l x.kind x.old=nl at n1 n2
  dsimp only at hft
  ((conv=>whnf);repeat ((first|refine frS ?_|refine nmS ?_|(refine⟨_,hrow, ?_⟩)|(intro hq;try simp only [lnS]at hq)|refine sI ?_|refine .intro _ (.intro rfl ?_));(conv=>whnf)))
  refine aV.mid [(4, .osl 120 3 ((aA5 l m (s.take j)).map rnR)),(6, .fn 81 [] [.ptr 23 0]),(7, .fn 81 [] [.ptr 28 0]),(9, .ptr 9 0),(28, .d (rnL s)),(29, .d (.int .i64 s.length)),(30, .d (.int .i64 j))] ((9, .cells 68 [.d (.int .i64 x.kind), .d (.str x.old), .d (.str nm)])::(120, .own 68 3 ((aA5 l m (s.take j)).map rnR).length)::(28, .cells 102 [.xv 38 mQ])::(38,lV m g)::(23, .cells 102 [.xv 33 mQ])::(33,lV l g0)::[]) ?_ ?_
  ·(refine fD (id:=11) hty (.first 0 (.first 1 (.first 3 (.first 4 (.first 6 (.alt 2 (.alt 5 (.alt 7 (.alt 8 (.alt 9 (.first 10 (.alt 11 .done .stop)) .stop) .stop) .stop) (.alt 7 (.alt 5 (.alt 8 (.alt 9 (.first 10 (.alt 11 .done .stop)) .stop) .stop) .stop) .stop)) (.alt 5 (.alt 2 (.alt 7 (.alt 8 (.alt 9 (.first 10 (.alt 11 .done .stop)) .stop) .stop) .stop) (.alt 7 (.alt 2 (.alt 8 (.alt 9 (.first 10 (.alt 11 .done .stop)) .stop) .stop) (.alt 8 (.alt 2 (.alt 9 (.first 10 (.alt 11 .done .stop)) .stop) .stop) .stop)) .stop)) (.alt 7 (.alt 2 (.alt 5 (.alt 8 (.alt 9 (.first 10 (.alt 11 .done .stop)) .stop) .stop) .stop) (.alt 5 (.alt 2 (.alt 8 (.alt 9 (.first 10 (.alt 11 .done .stop)) .stop) .stop) (.alt 8 (.alt 2 (.alt 9 (.first 10 (.alt 11 .done .stop)) .stop) .stop) .stop)) .stop)) .stop)))))))) (by kernel_rfl) (by kernel_rfl) ?_)
   ((conv=>whnf);repeat' ((first|exact trivial|refine sC ?_ ?_|refine eqN rfl ?_|refine leN rfl ?_|refine ltN rfl ?_|(refine aG [(23,_),(33,_)] n1 (by exact⟨rfl,rfl,trivial⟩) (λr hs=> ?_);subst hs)|(refine aG [(28,_),(38,_)] n2 (by exact⟨rfl,rfl,trivial⟩) (λr hs=> ?_);subst hs)|refine sJ ?_|(refine Exists.intro _ (And.intro rfl ?_)))<;>(conv=>whnf)))
   all_goals exact⟨by repeat' (first|exact trivial|exact rfl|refine And.intro ?_ ?_),by repeat' (first|exact trivial|exact rfl|refine And.intro ?_ ?_)⟩
  ((conv=>whnf);repeat' ((first|(intro hq;(try simp only [lnS]at hq);(try rewrite [List.length_map]))|refine sJ ?_|refine .intro _ (.intro rfl ?_)|refine exL (k:= ?_)|refine frS ?_|refine nmS ?_|refine dwR ?_|((first|refine aD ?_ ?_|refine aF ?_ ?_)<;>intro hb<;>(first|exact ddX hb|try simp only [lnS]at hb))|(refine aC ?_ ?_<;>intro hb<;>try exact dsX hb))<;>(conv=>whnf)))
  ·have hr:(aA5 l m (s.take (j+1))).map rnR=(aA5 l m (s.take j)).map rnR++[rnR ⟨x.kind,x.old,nm⟩]:=by rw [hft,if_neg hb,List.map_append];rfl
   refine⟨j+1,by dsimp only;omega,by dsimp only;omega, ?_⟩
   dsimp only
   rw [hr,List.length_append]
   exact⟨by repeat' (first|exact trivial|exact rfl|refine And.intro ?_ ?_),by repeat' (first|exact trivial|exact rfl|refine And.intro ?_ ?_)⟩
  ·have hr:(aA5 l m (s.take (j+1))).map rnR=(aA5 l m (s.take j)).map rnR:=by rw [hft,if_pos hb,List.append_nil]
   refine⟨j+1,by dsimp only;omega,by dsimp only;omega, ?_⟩
   dsimp only
   rw [hr]
   exact⟨by repeat' (first|exact trivial|exact rfl|refine And.intro ?_ ?_),by repeat' (first|exact trivial|exact rfl|refine And.intro ?_ ?_)⟩
 have hjl:j=s.length:=by omega
 subst hjl
 rw [List.take_length,hcomp]
 have ck3:=Tri.osl (id:=120) (cV (sX l m))
 ((conv=>whnf);repeat ((first|refine frS ?_|refine nmS ?_|(intro hq;try simp only [lnS]at hq)|refine sI ?_|refine .intro _ (.intro rfl ?_));(conv=>whnf)))
 refine aG [] ck3 trivial (λr hs=> ?_)
 subst hs
 ((conv=>whnf);repeat ((first|refine frS ?_|refine nmS ?_|(intro hq;try simp only [lnS]at hq)|refine sI ?_|refine .intro _ (.intro rfl ?_));(conv=>whnf)))
 refine aF (λh2=> ?_) (λh2=> ?_)
 ·rw [if_pos h2]
  ((conv=>whnf);repeat' ((first|(intro hq;(try simp only [lnS]at hq);(try rewrite [List.length_map]))|refine sJ ?_|refine .intro _ (.intro rfl ?_)|refine exL (k:= ?_)|refine dwR ?_|((first|refine aD ?_ ?_|refine aF ?_ ?_)<;>intro hb<;>(first|exact ddX hb|try simp only [lnS]at hb))|(refine aC ?_ ?_<;>intro hb<;>try exact dsX hb))<;>(conv=>whnf)))
  exact aHo _ _
 ·rw [if_neg (by omega)]
  ((conv=>whnf);repeat' ((first|(intro hq;(try simp only [lnS]at hq);(try rewrite [List.length_map]))|refine sJ ?_|refine .intro _ (.intro rfl ?_)|refine exL (k:= ?_)|refine dwR ?_|((first|refine aD ?_ ?_|refine aF ?_ ?_)<;>intro hb<;>(first|exact ddX hb|try simp only [lnS]at hb))|(refine aC ?_ ?_<;>intro hb<;>try exact dsX hb))<;>(conv=>whnf)))
  exact aJd _ _ _
end Go.Proofs.YtfhoddcminbffaaGreatDoor
namespace Go.Proofs.YtfhoddcminbffaaGreatDoor
open Go.Proofs
set_option maxRecDepth 10000
attribute [local irreducible] aV aM Tri aI YVC dQ bN
theorem zI (l:List Rn):Tri Tryz.prog 39 [.d (rnL l), .d (rnL l)] [] (λr=>r= .d (.bool true)):=by
 refine aH false [] hty Tryz.func39 rfl (kp [0,1,4,5,10,14,25]) [] _ _ _ (by simp [Tryz.f39]) (by simp) ?_
 ((conv=>whnf);repeat ((first|(intro hq;try simp only [lnS]at hq)|refine sI ?_|refine .intro _ (.intro rfl ?_));(conv=>whnf)))
 refine aF (λh1=> ?_) (λh1=> ?_)
 ·exact absurd rfl h1
 ((conv=>whnf);repeat ((first|(intro hq;try simp only [lnS]at hq)|refine sI ?_|refine .intro _ (.intro rfl ?_));(conv=>whnf)))
 refine aK hty (λj:Nat=>([(0, .d (rnL l)),(1, .d (rnL l)),(5, .d (.int .i64 j))],[])) (λj=>j<=l.length) (λj=>l.length - j) 0 (by omega) ⟨by repeat' (first|exact trivial|exact rfl|refine And.intro ?_ ?_),trivial⟩ ?_
 rintro j hj
 ((conv=>whnf);repeat ((first|(intro hq;try simp only [lnS]at hq)|refine sI ?_|refine .intro _ (.intro rfl ?_));(conv=>whnf)))
 refine aD (λh2=> ?_) (λh2=> ?_)
 ·have hjl:j < l.length:=by have h2:(j:Int) < ((l.map rnR).length:Nat):=h2;rw [List.length_map]at h2;omega
  have hrow:(l.map rnR)[(j:Int).toNat]? =some (rnR l[j]):=aS hjl
  generalize l[j]=x at hrow
  ((conv=>whnf);repeat' ((first|(intro hq;(try simp only [lnS]at hq);(try rewrite [List.length_map]))|refine sJ ?_|refine .intro _ (.intro rfl ?_)|refine exL (k:= ?_)|(refine⟨_,hrow, ?_⟩)|refine dwR ?_|((first|refine aD ?_ ?_|refine aF ?_ ?_)<;>intro hb<;>(first|exact ddX hb|try simp only [lnS]at hb))|(refine aC ?_ ?_<;>intro hb<;>try exact dsX hb))<;>(conv=>whnf)))
  ·simp at hb
  ·exact⟨j+1,by dsimp only;omega,by dsimp only;omega,⟨by repeat' (first|exact trivial|exact rfl|refine And.intro ?_ ?_),by repeat' (first|exact trivial|exact rfl|refine And.intro ?_ ?_)⟩⟩
 ·((conv=>whnf);repeat' ((first|(intro hq;(try simp only [lnS]at hq);(try rewrite [List.length_map]))|refine sJ ?_|refine .intro _ (.intro rfl ?_)|refine exL (k:= ?_)|refine dwR ?_|((first|refine aD ?_ ?_|refine aF ?_ ?_)<;>intro hb<;>(first|exact ddX hb|try simp only [lnS]at hb))|(refine aC ?_ ?_<;>intro hb<;>try exact dsX hb))<;>(conv=>whnf)))
  rfl
end Go.Proofs.YtfhoddcminbffaaGreatDoor
namespace Go.Proofs.YtfhoddcminbffaaGreatDoor
open Go.Proofs
set_option maxRecDepth 10000
attribute [local irreducible] aV aM Tri aI YVC dQ bN
theorem oM (x:Ax) (h1:aQ x.left<=1000000) (h2:aQ x.right<=1000000) (h3:x.roles.length<=1000000):Tri Tryz.prog 108 [.d (.agg (axR x))] [] (λr=>r= .d (.int .i64 (fT x))):=by
 have s1:=iI x.left h1
 have s2:=iI x.right h2
 rw [aJ]at s1 s2
 have hw:fT x=(x.roles.length:Int)+aF9 x.left+aF9 x.right+aJb x.role+aJb x.a+aJb x.b:=by
  unfold fT;simp only [aLs,aLr];omega
 rw [hw,aF9,aF9,aJb,aJb,aJb]
 clear hw
 generalize aQ x.left=m1 at *
 generalize aQ x.right=m2 at *
 refine aH false [1] hty Tryz.func108 rfl (kp [0,1,2,3,10,19,27,32,37]) [] _ _ _ (by simp [Tryz.f108]) (by simp) ?_
 ((conv=>whnf);repeat' ((first|(intro hq;(try simp only [lnS]at hq);(try rewrite [List.length_map]))|refine sJ ?_|refine .intro _ (.intro rfl ?_)|refine exL (k:= ?_)|(refine aG [] s1 trivial (λr hs=> ?_);subst hs)|(refine aG [] s2 trivial (λr hs=> ?_);subst hs)|refine dwR ?_|((first|refine aD ?_ ?_|refine aF ?_ ?_)<;>intro hb<;>(first|exact ddX hb|try simp only [lnS]at hb))|(refine aC ?_ ?_<;>intro hb<;>try exact dsX hb))<;>(conv=>whnf)))
 all_goals (refine bZ ?_;simp_all<;>omega)
theorem aIc (x y:Ax):aDb x y=orF [iV (fT x) (fT y),iV x.kind y.kind,fX x.left y.left,fX x.right y.right,cR x.roles y.roles,fR x.role y.role,fR x.a y.a,fR x.b y.b]:=by
 unfold aDb oX rY
 simp only [orF]
 repeat' split
 all_goals first|rfl|omega
theorem aJk (a s:Int) (r:List Int):orF (a::s::r)=orF ((if a≠0 then a else s)::r):=by
 by_cases h:a=0<;>simp [orF,h]
theorem aFt {l m:List (List UInt8)}{j:Nat}(h1:j<=l.length) (h2:j<=m.length) (h:¬ (j < l.length/\j < m.length)):cR (l.drop j) (m.drop j)=iV l.length m.length:=by
 unfold iV
 by_cases hl:j < l.length
 ·have hm:m.drop j=[]:=List.drop_eq_nil_of_le (by omega)
  rw [List.drop_eq_getElem_cons hl,hm,cR,if_neg (by omega),if_pos (by omega)]
 ·have hm:l.drop j=[]:=List.drop_eq_nil_of_le (by omega)
  rw [hm]
  by_cases hm:j < m.length
  ·rw [List.drop_eq_getElem_cons hm,cR,if_pos (by omega)]
  ·rw [show m.drop j=[]from List.drop_eq_nil_of_le (by omega),cR,if_neg (by omega),if_neg (by omega)]
theorem mJ (x y:Ax) (h1:aQ x.left<=1000000) (h2:aQ x.right<=1000000) (h3:x.roles.length<=1000000) (h4:aQ y.left<=1000000) (h5:aQ y.right<=1000000) (h6:y.roles.length<=1000000):
  Tri Tryz.prog 61 [.d (.agg (axR x)), .d (.agg (axR y))] [] (λr=>r= .d (.int .i64 (aDb x y))):=by
 have w1:=oM x h1 h2 h3
 have w2:=oM y h4 h5 h6
 have o0:=dI (fT x) (fT y)
 have o1:=dI x.kind y.kind
 have o2:=gD x.left y.left h1 h4
 have o3:=gD x.right y.right h2 h5
 have o5:=dI x.roles.length y.roles.length
 have o6:=eK x.role y.role
 have o7:=eK x.a y.a
 have o8:=eK x.b y.b
 rw [aJ,aJ]at o2 o3
 rw [aIc]
 generalize iV (fT x) (fT y)=n0 at o0 |-
 generalize iV x.kind y.kind=n1 at o1 |-
 generalize fX x.left y.left=n2 at o2 |-
 generalize fX x.right y.right=n3 at o3 |-
 generalize fR x.role y.role=n6 at o6 |-
 generalize fR x.a y.a=n7 at o7 |-
 generalize fR x.b y.b=n8 at o8 |-
 refine aH false [2,3] hty Tryz.func61 rfl (kp [0,1,2,3,4,5,6,13,20,27,48,63,72,79,86]) [] _ _ _ (by simp [Tryz.f61]) (by simp) ?_
 ((conv=>whnf);repeat' ((first|(intro hq;(try simp only [lnS]at hq);(try rewrite [List.length_map]))|refine sJ ?_|refine .intro _ (.intro rfl ?_)|refine exL (k:= ?_)|(refine⟨.d (.int .i64 _),_,[],rfl,trivial,w1, ?_⟩)|(refine⟨.d (.int .i64 _),_,[],rfl,trivial,w2, ?_⟩)|(refine⟨.d (.int .i64 _),_,[],rfl,trivial,o0, ?_⟩)|(refine aG [] o1 trivial (λr hs=> ?_);subst hs)|(refine aG [] o2 trivial (λr hs=> ?_);subst hs)|(refine aG [] o3 trivial (λr hs=> ?_);subst hs)|refine dwR ?_|((first|refine aD ?_ ?_|refine aF ?_ ?_)<;>intro hb<;>(first|exact ddX hb|try simp only [lnS]at hb))|(refine aC ?_ ?_<;>intro hb<;>try exact dsX hb))<;>(conv=>whnf)))
 ·refine aK hty (λq:Nat×Int=>([(2, .ea 16 [axR x] 0 0),(3, .ea 16 [axR y] 0 0),(5, .d (.int .i64 q.2)),(6, .d (.int .i64 q.1))],[])) (λq=>q.1<=x.roles.length/\q.1<=y.roles.length/\(if q.2≠0 then q.2 else cR (x.roles.drop q.1) (y.roles.drop q.1))=(if n3≠0 then n3 else cR x.roles y.roles)) (λq=>x.roles.length - q.1) (0,n3) ⟨by dsimp only;omega,by dsimp only;omega,rfl⟩ ⟨by repeat' (first|exact trivial|exact rfl|exact⟨rfl,rfl⟩|refine And.intro ?_ ?_),trivial⟩ ?_
  rintro⟨j,n⟩ ⟨hj,hjd,hn⟩
  dsimp only at hj hjd hn
  have hgoal:orF [n0,n1,n2,n3,cR x.roles y.roles,n6,n7,n8]=orF [if n3≠0 then n3 else cR x.roles y.roles,n6,n7,n8]:=by
   have e0:n0=0:=by assumption
   have e1:n1=0:=by assumption
   have e2:n2=0:=by assumption
   rw [e0,e1,e2]
   exact aJk n3 _ _
  rw [hgoal]
  clear hgoal o0 o1 o2 o3 w1 w2
  by_cases hlt:n=0/\j < x.roles.length/\j < y.roles.length
  ·obtain⟨rfl,h1,h2⟩:=hlt
   have hrow:(x.roles.map dR)[(j:Int).toNat]? =some (dR x.roles[j]):=aS h1
   have hrow2:(y.roles.map dR)[(j:Int).toNat]? =some (dR y.roles[j]):=aS h2
   have hcall:=eK x.roles[j] y.roles[j]
   rw [if_neg (by simp),List.drop_eq_getElem_cons h1,List.drop_eq_getElem_cons h2,cR]at hn
   generalize x.roles[j]=u at hrow hn hcall
   generalize y.roles[j]=z at hrow2 hn hcall
   ((conv=>whnf);repeat' ((first|(intro hq;(try simp only [lnS]at hq);(try rewrite [List.length_map]))|refine sJ ?_|refine .intro _ (.intro rfl ?_)|refine exL (k:= ?_)|(refine⟨_,hrow, ?_⟩)|(refine⟨_,hrow2, ?_⟩)|(refine⟨.d (.int .i64 _),_,[],rfl,trivial,hcall, ?_⟩)|refine dwR ?_|((first|refine aD ?_ ?_|refine aF ?_ ?_)<;>intro hb<;>(first|exact ddX hb|try simp only [lnS]at hb))|(refine aC ?_ ?_<;>intro hb<;>try exact dsX hb))<;>(conv=>whnf)))
   exact⟨(j+1,fR u z),⟨by dsimp only;omega,by dsimp only;omega,hn⟩,by dsimp only;omega,by repeat' (first|exact trivial|exact rfl|refine And.intro ?_ ?_),trivial⟩
  ·by_cases hn0:n=0
   ·subst hn0
    have hlt2:¬ (j < x.roles.length/\j < y.roles.length):= λh=>hlt ⟨rfl,h⟩
    rw [if_neg (by simp),aFt hj hjd hlt2]at hn
    rw [<-hn]
    generalize iV x.roles.length y.roles.length=n5 at o5
    ((conv=>whnf);repeat' ((first|(intro hq;(try simp only [lnS]at hq);(try rewrite [List.length_map]))|refine sJ ?_|refine .intro _ (.intro rfl ?_)|refine exL (k:= ?_)|(refine aG [] o5 trivial (λr hs=> ?_);subst hs)|(refine aG [] o6 trivial (λr hs=> ?_);subst hs)|(refine aG [] o7 trivial (λr hs=> ?_);subst hs)|(refine aG [] o8 trivial (λr hs=> ?_);subst hs)|refine dwR ?_|((first|refine aD ?_ ?_|refine aF ?_ ?_)<;>intro hb<;>(first|exact ddX hb|try simp only [lnS]at hb))|(refine aC ?_ ?_<;>intro hb<;>try exact dsX hb))<;>(conv=>whnf)))
    all_goals (refine bZ ?_;simp [orF, *])
   ·rw [if_pos hn0]at hn
    rw [<-hn]
    ((conv=>whnf);repeat' ((first|(intro hq;(try simp only [lnS]at hq);(try rewrite [List.length_map]))|refine sJ ?_|refine .intro _ (.intro rfl ?_)|refine exL (k:= ?_)|refine dwR ?_|((first|refine aD ?_ ?_|refine aF ?_ ?_)<;>intro hb<;>(first|exact ddX hb|try simp only [lnS]at hb))|(refine aC ?_ ?_<;>intro hb<;>try exact dsX hb))<;>(conv=>whnf)))
    refine bZ ?_
    clear hn
    simp [orF, *]
 all_goals
  refine aK hty (λ_:Unit=>([(2, .ea 16 [axR x] 0 0),(3, .ea 16 [axR y] 0 0),(5, .d (.int .i64 _)),(6, .d (.int .i64 0))],[])) (λ_=>True) (λ_=>0) () trivial ⟨by repeat' (first|exact trivial|exact rfl|exact⟨rfl,rfl⟩|refine And.intro ?_ ?_),trivial⟩ ?_
  rintro⟨⟩ _
  ((conv=>whnf);repeat' ((first|(intro hq;(try simp only [lnS]at hq);(try rewrite [List.length_map]))|refine sJ ?_|refine .intro _ (.intro rfl ?_)|refine exL (k:= ?_)|refine dwR ?_|((first|refine aD ?_ ?_|refine aF ?_ ?_)<;>intro hb<;>(first|exact ddX hb|try simp only [lnS]at hb))|(refine aC ?_ ?_<;>intro hb<;>try exact dsX hb))<;>(conv=>whnf)))
  refine bZ (Eq.symm ?_)
  simp [orF, *]
end Go.Proofs.YtfhoddcminbffaaGreatDoor
