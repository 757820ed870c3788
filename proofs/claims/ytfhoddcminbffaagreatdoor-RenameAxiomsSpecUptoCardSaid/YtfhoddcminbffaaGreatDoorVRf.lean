/-
  Rename: names, validity, comparison, Name, Check. Rename: Axioms.
  Conditions: none.
-/
import Derived.Test.YtfhoddcminbffaaGreatDoorVTcr
import Derived.Test.YtfhoddcminbffaaGreatDoorVSyd
import Derived.Test.YtfhoddcminbffaaGreatDoorVBt
import Derived.Test.YtfhoddcminbffaaGreatDoorVRea
import Derived.Test.YtfhoddcminbffaaGreatDoorVRu
set_option linter.unnecessarySimpa false
set_option linter.unusedSectionVars false
set_option linter.unusedSimpArgs false
set_option linter.unusedVariables false
set_option maxHeartbeats 32000000
namespace Go.Proofs.YtfhoddcminbffaaGreatDoor
open Go.Proofs
set_option maxRecDepth 10000
attribute [local irreducible] aV aM Tri aI YVC dQ bN
theorem aLv (s:List UInt8):([95]:List UInt8).isPrefixOf s=decide (s.head?=some 95):=by
 cases s with
 |nil=>rfl
 |cons a r=>
  simp only [List.isPrefixOf,List.head?_cons,Option.some.injEq,Bool.and_true]
  by_cases h:(95:UInt8)=a
  ·subst h;rfl
  ·have h2:¬ a=95:= λe=>h e.symm
   rw [decide_eq_false h2]
   simpa using h
theorem rB (s:List UInt8):Tri Tryz.prog 94 [.d (.str s)] [] (λr=>r= .d (.bool (rnN s))):=by
 have c:=lH s
 have p:=sU s [95]
 rw [aLv]at p
 unfold rnN
 generalize decide (s.head?=some 95)=b at *
 by_cases hn:gZ s=true
 ·rw [if_pos hn]at c
  rw [hn]
  refine aN hty Tryz.func94 rfl (kp [0,2]) [] _ _ _ (by simp [Tryz.f94]) (by simp) ?_
  ((conv=>whnf);repeat' ((first|(intro hq;(try simp only [lnS]at hq);(try rewrite [List.length_map]))|refine sJ ?_|refine .intro _ (.intro rfl ?_)|refine exL (k:= ?_)|(refine aG [] c trivial (λr hs=> ?_);subst hs)|(refine aG [] p trivial (λr hs=> ?_);subst hs)|refine dwR ?_|((first|refine aD ?_ ?_|refine aF ?_ ?_)<;>intro hb<;>(first|exact ddX hb|try simp only [lnS]at hb))|(refine aC ?_ ?_<;>intro hb<;>try exact dsX hb))<;>(conv=>whnf)))
  all_goals first
   |rfl
   |(exfalso;simp_all;done)
   |(refine bA ?_;simp_all;done)
 ·rw [if_neg hn]at c
  rw [show gZ s=false by simpa using hn]
  refine aN hty Tryz.func94 rfl (kp [0,2]) [] _ _ _ (by simp [Tryz.f94]) (by simp) ?_
  ((conv=>whnf);repeat' ((first|(intro hq;(try simp only [lnS]at hq);(try rewrite [List.length_map]))|refine sJ ?_|refine .intro _ (.intro rfl ?_)|refine exL (k:= ?_)|(refine aG [] c trivial (λr hs=> ?_);subst hs)|(refine aG [] p trivial (λr hs=> ?_);subst hs)|refine dwR ?_|((first|refine aD ?_ ?_|refine aF ?_ ?_)<;>intro hb<;>(first|exact ddX hb|try simp only [lnS]at hb))|(refine aC ?_ ?_<;>intro hb<;>try exact dsX hb))<;>(conv=>whnf)))
  all_goals first
   |rfl
   |(exfalso;simp_all;done)
   |(refine bA ?_;simp_all;done)
theorem xQ (x:Rn):Tri Tryz.prog 47 [.d (.agg (rnR x))] [] (λr=>r= .d (.bool (rnV x))):=by
 have c:=rB x.old
 have d:=rB x.new
 unfold rnV
 generalize rnN x.old=a at *
 generalize rnN x.new=b at *
 refine aH false [1] hty Tryz.func47 rfl (kp [0,1,2]) [] _ _ _ (by simp [Tryz.f47]) (by simp) ?_
 ((conv=>whnf);repeat' ((first|(intro hq;(try simp only [lnS]at hq);(try rewrite [List.length_map]))|refine sJ ?_|refine .intro _ (.intro rfl ?_)|refine exL (k:= ?_)|(refine aG [] c trivial (λr hs=> ?_);subst hs)|(refine aG [] d trivial (λr hs=> ?_);subst hs)|refine dwR ?_|((first|refine aD ?_ ?_|refine aF ?_ ?_)<;>intro hb<;>(first|exact ddX hb|try simp only [lnS]at hb))|(refine aC ?_ ?_<;>intro hb<;>try exact dsX hb))<;>(conv=>whnf)))
 all_goals first
  |rfl
  |(exfalso;omega)
  |(refine bA (Eq.symm ?_);simp_all<;>omega)
theorem gX (x y:Rn):Tri Tryz.prog 48 [.d (.agg (rnR x)), .d (.agg (rnR y))] [] (λr=>r= .d (.int .i64 (dT x y))):=by
 refine aH false [2,3] hty Tryz.func48 rfl (kp [0,1,2,3,4]) [] _ _ _ (by simp [Tryz.f48]) (by simp) ?_
 ((conv=>whnf);repeat ((first|(intro hq;try simp only [lnS]at hq)|refine sI ?_|refine .intro _ (.intro rfl ?_));(conv=>whnf)))
 refine aAr hty 10 (by kernel_rfl) (by kernel_rfl) ?_
 ((conv=>whnf);repeat ((first|(intro hq;try simp only [lnS]at hq)|refine sI ?_|refine .intro _ (.intro rfl ?_));(conv=>whnf)))
 refine⟨.d (.int .i64 _),_,[],rfl,trivial,fA _ _, ?_⟩
 ((conv=>whnf);repeat ((first|(intro hq;try simp only [lnS]at hq)|refine sI ?_|refine .intro _ (.intro rfl ?_));(conv=>whnf)))
 refine⟨.d (.int .i64 _),_,[],rfl,trivial,jN _ _, ?_⟩
 ((conv=>whnf);repeat ((first|(intro hq;try simp only [lnS]at hq)|refine sI ?_|refine .intro _ (.intro rfl ?_));(conv=>whnf)))
 refine⟨[],(λr=>r= .d (.int .i64 (dT x y))),trivial,Tri.osl (aEt [_,_]),λr hs=> ?_⟩
 subst hs
 ((conv=>whnf);repeat ((first|(intro hq;try simp only [lnS]at hq)|refine sI ?_|refine .intro _ (.intro rfl ?_));(conv=>whnf)))
 rfl
theorem zL (l:List Rn) (k:Int) (s:List UInt8):Tri Tryz.prog 15 [.d (rnL l), .d (.int .i64 k), .d (.str s)] [] (λr=>r= .d (.str (aO l k s))):=by
 refine aH false [8] hty Tryz.func15 rfl (kp [0,1,2,6,8,9,10,11,12,24]) [] _ _ _ (by simp [Tryz.f15]) (by simp) ?_
 ((conv=>whnf);repeat ((first|(intro hq;try simp only [lnS]at hq)|refine sI ?_|refine .intro _ (.intro rfl ?_));(conv=>whnf)))
 refine aK hty (λj:Nat=>([(1, .d (.int .i64 k)),(2, .d (.str s)),(6, .d (.str [])),(9, .d (rnL l)),(10, .d (.int .i64 l.length)),(11, .d (.int .i64 j))],[])) (λj=>j<=l.length/\aO l k s=aO (l.drop j) k s) (λj=>l.length - j) 0 ⟨by omega,rfl⟩ ⟨by repeat' (first|exact trivial|exact rfl|(rw [List.length_map];exact rfl)|refine And.intro ?_ ?_),trivial⟩ ?_
 rintro j ⟨hj,hn⟩
 ((conv=>whnf);repeat ((first|(intro hq;try simp only [lnS]at hq)|refine sI ?_|refine .intro _ (.intro rfl ?_));(conv=>whnf)))
 refine aD (λh1=> ?_) (λh1=> ?_)
 ·have hjl:j < l.length:=by omega
  have hrow:(l.map rnR)[(j:Int).toNat]? =some (rnR l[j]):=aS hjl
  rw [List.drop_eq_getElem_cons hjl]at hn
  generalize l[j]=x at hrow hn
  ((conv=>whnf);repeat' ((first|(intro hq;(try simp only [lnS]at hq);(try rewrite [List.length_map]))|refine sJ ?_|refine .intro _ (.intro rfl ?_)|refine exL (k:= ?_)|(refine⟨_,hrow, ?_⟩)|refine dwR ?_|((first|refine aD ?_ ?_|refine aF ?_ ?_)<;>intro hb<;>(first|exact ddX hb|try simp only [lnS]at hb))|(refine aC ?_ ?_<;>intro hb<;>try exact dsX hb))<;>(conv=>whnf)))
  ·rw [hn,aO,List.find?_cons_of_pos (by simp_all)]
   rfl
  all_goals (
   refine⟨j+1,⟨by(try dsimp only);omega, ?_⟩,by(try dsimp only);omega,⟨by repeat' (first|exact trivial|exact rfl|refine And.intro ?_ ?_),by repeat' (first|exact trivial|exact rfl|refine And.intro ?_ ?_)⟩⟩
   rw [hn,aO,List.find?_cons_of_neg (by simp_all)]
   rfl)
 ·have hjl:j=l.length:=by omega
  subst hjl
  rw [List.drop_length]at hn
  ((conv=>whnf);repeat' ((first|(intro hq;(try simp only [lnS]at hq);(try rewrite [List.length_map]))|refine sJ ?_|refine .intro _ (.intro rfl ?_)|refine exL (k:= ?_)|refine dwR ?_|((first|refine aD ?_ ?_|refine aF ?_ ?_)<;>intro hb<;>(first|exact ddX hb|try simp only [lnS]at hb))|(refine aC ?_ ?_<;>intro hb<;>try exact dsX hb))<;>(conv=>whnf)))
  rw [hn]
  rfl
theorem aHd:PairT Tryz.prog 72 3 9:=aAs hty rfl (by kernel_rfl) rfl rfl
def aI1 (ks:List Ky):List (Ky×SV):=ks.map λk=>(k,SV.d (.bool true))
def aGo (ks:List Ky) (g:List Nat×Nat):HObj:= .ext (vU jK (aI1 ks) g.1 g.2)
theorem lX (ks:List Ky) (g:List Nat×Nat):(aGo ks g).ids=[]:=by
 show aK9 (aI1 ks)=[]
 induction ks with
 |nil=>rfl
 |cons k r ih=>exact ih
theorem xL (k:Ky): ∀ks,aDk (aI1 ks) k=if k∈ks then some (SV.d (.bool true))else none
 | []=>rfl
 |x::r=>by
  have ih:=xL k r
  unfold aI1 at *
  rw [List.map_cons,aDk]
  by_cases h:k=x
  ·subst h;simp
  ·simp [h,ih,eq_comm]
theorem xJ (k:Ky): ∀ks,k∉ks->aDj (aI1 ks) k (SV.d (.bool true))=aI1 (ks++[k])
 | [],_=>rfl
 |x::r,h=>by
  have ih:=xJ k r (λe=>h (by simp [e]))
  unfold aI1 at *
  rw [List.map_cons,aDj]
  have hx:¬ k=x:= λe=>h (by simp [e])
  simp [hx,ih,eq_comm]
theorem cV (l:List Rn):Tri Tryz.prog 12 [.d (rnL l)] [] (λr=>r= .d (.int .i64 (cD l))):=by
 unfold cD
 refine aH false [5] hty Tryz.func12 rfl (kp [0,2,3,4,5,8,10,11,12,13,42]) [] _ _ _ (by simp [Tryz.f12]) (by simp) ?_
 ((conv=>whnf);repeat ((first|(intro hq;try simp only [lnS]at hq)|refine sI ?_|refine .intro _ (.intro rfl ?_));(conv=>whnf)))
 refine aD (λh1=> ?_) (λh1=> ?_)
 ·have h1:1024 < (l.map rnR).length:=by omega
  rw [List.length_map]at h1
  rw [if_pos h1]
  ((conv=>whnf);repeat' ((first|(intro hq;(try simp only [lnS]at hq);(try rewrite [List.length_map]))|refine sJ ?_|refine .intro _ (.intro rfl ?_)|refine exL (k:= ?_)|refine dwR ?_|((first|refine aD ?_ ?_|refine aF ?_ ?_)<;>intro hb<;>(first|exact ddX hb|try simp only [lnS]at hb))|(refine aC ?_ ?_<;>intro hb<;>try exact dsX hb))<;>(conv=>whnf)))
  rfl
 ·have hl:l.length<=1024:=by have h1:¬ 1024 < ((l.map rnR).length:Int):=h1;rw [List.length_map]at h1;omega
  rw [if_neg (by omega)]
  ((conv=>whnf);repeat ((first|(intro hq;try simp only [lnS]at hq)|refine sI ?_|refine .intro _ (.intro rfl ?_));(conv=>whnf)))
  refine pQ rfl rfl jK 34 (dV (by with_unfolding_all exact rfl)) ?_
  ((conv=>whnf);repeat ((first|(intro hq;try simp only [lnS]at hq)|refine sI ?_|refine .intro _ (.intro rfl ?_));(conv=>whnf)))
  refine aK hty (λy:Nat×List Nat×Nat=>([(0, .d (rnL l)),(2, .d (.int .i64 0)),(3, .xv 34 mQ),(10, .d (rnL l)),(11, .d (.int .i64 l.length)),(12, .d (.int .i64 y.1))],[(34,aGo ((l.take y.1).map jZ) y.2)])) (λy=>y.1<=l.length/\goB [] none l=goB ((l.take y.1).map jZ) (if y.1=0 then none else l[y.1 - 1]?) (l.drop y.1)) (λy=>l.length - y.1) (0,[],0) ⟨by(try dsimp only);omega,rfl⟩ ⟨by repeat' (first|exact trivial|exact rfl|(rw [List.length_map];exact rfl)|refine And.intro ?_ ?_),⟨rfl,trivial⟩⟩ ?_
  rintro⟨j,bs,ck⟩ ⟨hj,hn⟩
  dsimp only at hj hn |-
  ((conv=>whnf);repeat ((first|(intro hq;try simp only [lnS]at hq)|refine sI ?_|refine .intro _ (.intro rfl ?_));(conv=>whnf)))
  refine aD (λh2=> ?_) (λh2=> ?_)
  ·have hjl:j < l.length:=by omega
   have hrow:(l.map rnR)[(j:Int).toNat]? =some (rnR l[j]):=aS hjl
   have hdr:=List.drop_eq_getElem_cons hjl
   have htk:=List.take_succ_eq_append_getElem hjl
   have hv:=xQ l[j]
   rw [hdr,aB8]at hn
   obtain⟨x,hx⟩: ∃x,x=l[j]:=⟨_,rfl⟩
   rw [<-hx]at hrow hdr htk hv hn
   obtain⟨ks,hks⟩: ∃ks,ks=(l.take j).map jZ:=⟨_,rfl⟩
   have hkn:(l.take (j+1)).map jZ=ks++[jZ x]:=by rw [htk,List.map_append,hks];rfl
   rw [<-hks]at hn |-
   have hky:(x.kind,x.new)=jZ x:=rfl
   have hlk:lO false (aDk (aI1 ks) (x.kind,x.new)) (ofV (.bool false))= .d (.bool (decide (jZ x∈ks))):=by
    rw [hky,xL]
    by_cases hin:jZ x∈ks
    ·rw [if_pos hin,decide_eq_true hin];rfl
    ·rw [if_neg hin,decide_eq_false hin];rfl
   have hnext: ∀bs1 ck1,jZ x∉ks->HObj.ext (vU jK (aDj (aI1 ks) (x.kind,x.new) (.d (.bool true))) bs1 ck1)=aGo ((l.take (j+1)).map jZ) (bs1,ck1):= λbs1 ck1 h=>by
    rw [hkn,aGo,hky,xJ _ _ h]
   have hfin: ∀b:Bool,goB [] none l=b->SV.d (.int .i64 (if goB [] none l=true then 0 else 330))=SV.d (.int .i64 (if b=true then 0 else 330)):= λb h=>by rw [h]
   generalize rnV x=a at hv hn
   by_cases j0:j=0
   ·rw [if_pos j0]at hn
    simp only [okP,Bool.true_and]at hn
    ((conv=>whnf);repeat' ((first|(intro hq;(try simp only [lnS]at hq);(try rewrite [List.length_map]))|refine sJ ?_|refine .intro _ (.intro rfl ?_)|refine exL (k:= ?_)|(refine frH (by refine⟨?_, ?_, ?_⟩<;>simp [mT,kB,pU,mS,SV.ids,SV.idsL,lX]) ?_)|(refine nmH (by simp [mT,kB,pU,mS,SV.ids,SV.idsL,lX]) ?_)|(refine⟨_,hrow, ?_⟩)|(refine⟨.d (.bool _),_,[],rfl,trivial,hv, ?_⟩)|(refine tZ (k:=(x.kind,x.new)) (z:= .bool false) rfl rfl (eT aHd) rfl rfl rfl rfl ?_;rewrite [hlk])|(refine iD (k:=(x.kind,x.new)) (.inl rfl) rfl (eT aHd) rfl rfl rfl rfl (λbs1 ck1=> ?_))|refine dwR ?_|((first|refine aD ?_ ?_|refine aF ?_ ?_)<;>intro hb<;>(first|exact ddX hb|try simp only [lnS]at hb))|(refine aC ?_ ?_<;>intro hb<;>try exact dsX hb))<;>(conv=>whnf)))
    all_goals first
     |(refine bZ (Eq.symm ?_);rw [hn];clear hlk hnext hky hkn hks hx htk hdr hfin hrow hv hn;(try clear hrow2 hcp);simp_all;done)
     | (have hin : jZ x ∉ ks := by clear hlk hnext hky hkn hks hx htk hdr hfin hrow hv hn; (try clear hrow2 hcp); simp_all
        refine⟨(j+1,bs1,ck1),⟨by(try dsimp only);omega, ?_⟩,by(try dsimp only);omega,⟨by repeat' (first|exact trivial|exact rfl|refine And.intro ?_ ?_),⟨?_,trivial⟩⟩⟩
        · dsimp only
          rw [hn,if_neg (by omega),Nat.add_sub_cancel,List.getElem?_eq_getElem hjl,<-hx,hkn]
          clear hlk hnext hky hkn hks hx htk hdr hfin hrow hv hn
          (try clear hrow2 hcp)
          simp_all
        · exact congrArg some (hnext bs1 ck1 hin))
   ·have hjp:j - 1 < l.length:=by omega
    rw [if_neg j0,List.getElem?_eq_getElem hjp]at hn
    have hrow2:(l.map rnR)[((j:Int) - 1).toNat]? =some (rnR l[j - 1]):=by
     rw [show ((j:Int) - 1).toNat=j - 1 by omega,List.getElem?_map,List.getElem?_eq_getElem hjp];rfl
    have hcp:=gX l[j - 1] x
    generalize l[j - 1]=q at hn hrow2 hcp
    rw [okP]at hn
    generalize dT q x=c at hn hcp
    rw [show decide (c < 0) = !decide (0 <= c) by
     by_cases h:0<=c
     ·rw [decide_eq_true h,decide_eq_false (by omega)];rfl
     ·rw [decide_eq_false h,decide_eq_true (by omega)];rfl]at hn
    ((conv=>whnf);repeat' ((first|(intro hq;(try simp only [lnS]at hq);(try rewrite [List.length_map]))|refine sJ ?_|refine .intro _ (.intro rfl ?_)|refine exL (k:= ?_)|(refine frH (by refine⟨?_, ?_, ?_⟩<;>simp [mT,kB,pU,mS,SV.ids,SV.idsL,lX]) ?_)|(refine nmH (by simp [mT,kB,pU,mS,SV.ids,SV.idsL,lX]) ?_)|(refine⟨_,hrow, ?_⟩)|(refine⟨.d (.bool _),_,[],rfl,trivial,hv, ?_⟩)|(refine tZ (k:=(x.kind,x.new)) (z:= .bool false) rfl rfl (eT aHd) rfl rfl rfl rfl ?_;rewrite [hlk])|(refine iD (k:=(x.kind,x.new)) (.inl rfl) rfl (eT aHd) rfl rfl rfl rfl (λbs1 ck1=> ?_))|(refine⟨_,hrow2, ?_⟩)|(refine⟨.d (.int .i64 _),_,[],rfl,trivial,hcp, ?_⟩)|refine dwR ?_|((first|refine aD ?_ ?_|refine aF ?_ ?_)<;>intro hb<;>(first|exact ddX hb|try simp only [lnS]at hb))|(refine aC ?_ ?_<;>intro hb<;>try exact dsX hb))<;>(conv=>whnf)))
    all_goals first
     |(refine bZ (Eq.symm ?_);rw [hn];clear hlk hnext hky hkn hks hx htk hdr hfin hrow hv hn;(try clear hrow2 hcp);simp_all;done)
     | (have hin : jZ x ∉ ks := by clear hlk hnext hky hkn hks hx htk hdr hfin hrow hv hn; (try clear hrow2 hcp); simp_all
        refine⟨(j+1,bs1,ck1),⟨by(try dsimp only);omega, ?_⟩,by(try dsimp only);omega,⟨by repeat' (first|exact trivial|exact rfl|refine And.intro ?_ ?_),⟨?_,trivial⟩⟩⟩
        · dsimp only
          rw [hn,if_neg (by omega),Nat.add_sub_cancel,List.getElem?_eq_getElem hjl,<-hx,hkn]
          clear hlk hnext hky hkn hks hx htk hdr hfin hrow hv hn
          (try clear hrow2 hcp)
          simp_all
        · exact congrArg some (hnext bs1 ck1 hin))
  ·have hjl:j=l.length:=by omega
   subst hjl
   rw [List.drop_length]at hn
   rw [hn]
   ((conv=>whnf);repeat' ((first|(intro hq;(try simp only [lnS]at hq);(try rewrite [List.length_map]))|refine sJ ?_|refine .intro _ (.intro rfl ?_)|refine exL (k:= ?_)|refine dwR ?_|((first|refine aD ?_ ?_|refine aF ?_ ?_)<;>intro hb<;>(first|exact ddX hb|try simp only [lnS]at hb))|(refine aC ?_ ?_<;>intro hb<;>try exact dsX hb))<;>(conv=>whnf)))
   rfl
end Go.Proofs.YtfhoddcminbffaaGreatDoor
namespace Go.Proofs.YtfhoddcminbffaaGreatDoor
open Go.Proofs
set_option maxRecDepth 10000
attribute [local irreducible] aV aM Tri aI YVC dQ bN
theorem eQ (l:List Rn) (bs:List Nat) (c:Nat):(vU jK (wH l) bs c).ids=aK9 (wH l):=rfl
structure PairS (z:Nat) (rows:List (List D)) (e:Int) (s:SV):Prop where
 ex: ∃a,s= .tup [.d a, .d (.int .i64 e)]/\(a= .sl z rows\/WkD a (.sl z rows))
theorem Tri.pairS {P:Program}{f:FuncId}{qs:List SV}{hp:Hp}{z:Nat}{rows:List (List D)}{e:Int}(h:Tri P f qs hp (PairS z rows e)):Tri P f qs hp (λr=>r= .tup [.d (.sl z rows), .d (.int .i64 e)]):=by
 refine Tri.resT h ?_
 rintro s ⟨a,rfl,rfl|hw⟩
 ·exact .inl rfl
 ·exact .inr ⟨_,[.d (.sl z rows), .d (.int .i64 e)],rfl,⟨hw,by exact rfl,trivial⟩,rfl⟩
theorem aHo (z:Nat) (e:Int):PairS z [] e (.tup [.d .nil, .d (.int .i64 e)]):=⟨_,rfl, .inr rfl⟩
theorem aJd (z:Nat) (rows:List (List D)) (e:Int):PairS z rows e (.tup [.d (.sl z rows), .d (.int .i64 e)]):=⟨_,rfl, .inl rfl⟩
theorem qH {l:List Rn}(h:l.Pairwise λa b=>dT a b < 0) {j:Nat}(hj:j < l.length): ∀r∈l.take j,gN r≠gN l[j]:=by
 intro r hr e
 obtain⟨i,hi,rfl⟩:=List.mem_iff_getElem.1 hr
 rw [List.length_take]at hi
 have:=List.pairwise_iff_getElem.1 h i j (by omega) hj (by omega)
 rw [List.getElem_take]at e
 rw [iP.2 e]at this
 omega
theorem mG (l:List Rn) (xs:List Ax) (hx:xs.length<=1000000):Tri Tryz.prog 9 [.d (rnL l), .d (.sl 16 (xs.map axR))] NG (λr=>r= .tup [.d (.sl 16 ((lW l xs).1.map axR)), .d (.int .i64 (lW l xs).2)]):=by
 refine Tri.pairS ?_
 have ck:=cV l
 refine aH false [7,10,11] hty Tryz.func9 rfl (kp [0,1,4,5,7,8,10,11,12,16,18,19,20,21,27,32,33,34,35,46]) [] _ _ _ (by simp [Tryz.f9]) (by decide) ?_
 ((conv=>whnf);repeat ((first|(intro hq;try simp only [lnS]at hq)|refine sI ?_|refine .intro _ (.intro rfl ?_));(conv=>whnf)))
 refine aG [] ck trivial (λr hs=> ?_)
 subst hs
 ((conv=>whnf);repeat ((first|(intro hq;try simp only [lnS]at hq)|refine sI ?_|refine .intro _ (.intro rfl ?_));(conv=>whnf)))
 refine aF (λh1=> ?_) (λh1=> ?_)
 ·have hv:lW l xs=([],cD l):=by unfold lW;rw [if_pos h1]
  rw [hv]
  ((conv=>whnf);repeat' ((first|(intro hq;(try simp only [lnS]at hq);(try rewrite [List.length_map]))|refine sJ ?_|refine .intro _ (.intro rfl ?_)|refine exL (k:= ?_)|refine dwR ?_|((first|refine aD ?_ ?_|refine aF ?_ ?_)<;>intro hb<;>(first|exact ddX hb|try simp only [lnS]at hb))|(refine aC ?_ ?_<;>intro hb<;>try exact dsX hb))<;>(conv=>whnf)))
  exact aHo _ _
 have h0:cD l=0:=by simpa using h1
 obtain⟨hg,hlen⟩:=nJ h0
 clear h1 ck
 rw [h0]
 ((conv=>whnf);repeat ((first|(intro hq;try simp only [lnS]at hq)|refine sI ?_|refine .intro _ (.intro rfl ?_));(conv=>whnf)))
 refine aK hty (λj:Nat=>([(0, .d (rnL l)),(1, .d (.sl 16 (xs.map axR))),(4, .d .nil),(18, .d (.sl 16 (xs.map axR))),(19, .d (.int .i64 xs.length)),(20, .d (.int .i64 j))],NG)) (λj=>j<=xs.length/\ ∀x∈xs.take j,bK x=0) (λj=>xs.length - j) 0 ⟨by omega,by simp⟩ ⟨by repeat' (first|exact trivial|exact rfl|(rw [List.length_map];exact rfl)|refine And.intro ?_ ?_),⟨rfl,rfl,trivial⟩⟩ ?_
 rintro j ⟨hj,hz⟩
 ((conv=>whnf);repeat ((first|(intro hq;try simp only [lnS]at hq)|refine sI ?_|refine .intro _ (.intro rfl ?_));(conv=>whnf)))
 refine aD (λh1=> ?_) (λh1=> ?_)
 ·have hjl:j < xs.length:=by omega
  have hrow:=pY hjl
  have hc:=kI xs[j]
  ((conv=>whnf);repeat ((first|(refine⟨_,hrow, ?_⟩)|(refine aG NG hc ⟨rfl,rfl,trivial⟩ (λr hs=> ?_);subst hs)|(intro hq;try simp only [lnS]at hq)|refine sI ?_|refine .intro _ (.intro rfl ?_));(conv=>whnf)))
  refine aF (λh2=> ?_) (λh2=> ?_)
  ·have hv:lW l xs=([],bK xs[j]):=by
    unfold lW
    rw [if_neg (by omega),nY hjl hz h2,if_pos h2]
   rw [hv]
   ((conv=>whnf);repeat' ((first|(intro hq;(try simp only [lnS]at hq);(try rewrite [List.length_map]))|refine sJ ?_|refine .intro _ (.intro rfl ?_)|refine exL (k:= ?_)|refine dwR ?_|((first|refine aD ?_ ?_|refine aF ?_ ?_)<;>intro hb<;>(first|exact ddX hb|try simp only [lnS]at hb))|(refine aC ?_ ?_<;>intro hb<;>try exact dsX hb))<;>(conv=>whnf)))
   exact aHo _ _
  ·((conv=>whnf);repeat' ((first|(intro hq;(try simp only [lnS]at hq);(try rewrite [List.length_map]))|refine sJ ?_|refine .intro _ (.intro rfl ?_)|refine exL (k:= ?_)|refine dwR ?_|((first|refine aD ?_ ?_|refine aF ?_ ?_)<;>intro hb<;>(first|exact ddX hb|try simp only [lnS]at hb))|(refine aC ?_ ?_<;>intro hb<;>try exact dsX hb))<;>(conv=>whnf)))
   refine⟨j+1,⟨by omega, ?_⟩,by dsimp only;omega,⟨by repeat' (first|exact trivial|exact rfl|refine And.intro ?_ ?_),⟨rfl,rfl,trivial⟩⟩⟩
   intro x hx
   rw [List.take_succ_eq_append_getElem hjl]at hx
   rcases List.mem_append.1 hx with hx|hx
   ·exact hz x hx
   ·simp at hx;subst hx;simpa using h2
 have hjl:j=xs.length:=by omega
 subst hjl
 rw [List.take_length]at hz
 have hv:lW l xs=wO (aO l) xs:=by
  unfold lW
  rw [if_neg (by omega),rO hz,if_neg (by simp)]
 rw [hv]
 clear hv
 ((conv=>whnf);repeat ((first|(intro hq;try simp only [lnS]at hq)|refine sI ?_|refine .intro _ (.intro rfl ?_));(conv=>whnf)))
 refine bX false [5] hty Tryz.func41 rfl (kp [0,2,3,5,7,8,9,10]) 20 (by simp [Tryz.f41]) ?_
 ((conv=>whnf);repeat ((first|(intro hq;try simp only [lnS]at hq)|refine sI ?_|refine .intro _ (.intro rfl ?_));(conv=>whnf)))
 refine pQ rfl rfl jK 33 (dV (by with_unfolding_all exact rfl)) ?_
 ((conv=>whnf);repeat ((first|(intro hq;try simp only [lnS]at hq)|refine sI ?_|refine .intro _ (.intro rfl ?_));(conv=>whnf)))
 refine aK hty (λy:Nat×List Nat×Nat=>([(0, .d (rnL l)),(3, .ptr 23 0),(7, .d (rnL l)),(8, .d (.int .i64 l.length)),(9, .d (.int .i64 y.1))],(23, .cells 102 [.xv 33 mQ])::(33,lV (l.take y.1) y.2)::NG)) (λy=>y.1<=l.length) (λy=>l.length - y.1) (0,[],0) (by dsimp only;omega) ⟨by repeat' (first|exact trivial|exact rfl|(rw [List.length_map];exact rfl)|refine And.intro ?_ ?_),⟨rfl,rfl,rfl,rfl,trivial⟩⟩ ?_
 rintro⟨j,g⟩ hj
 dsimp only at hj
 have hX:=aGx (l.take j) g
 ((conv=>whnf);repeat ((first|(intro hq;try simp only [lnS]at hq)|refine sI ?_|refine .intro _ (.intro rfl ?_));(conv=>whnf)))
 refine aD (λh1=> ?_) (λh1=> ?_)
 ·have hjl:j < l.length:=by dsimp only at h1;omega
  have hrow:(l.map rnR)[(j:Int).toNat]? =some (rnR l[j]):=aS hjl
  have hms:=mO l[j] (l.take j) (qH hg.str hjl)
  rw [<-List.take_succ_eq_append_getElem hjl]at hms
  generalize l[j]=x at hrow hms
  ((conv=>whnf);repeat ((first|(refine frX (by refine⟨?_, ?_, ?_⟩<;>simp [bM,aZ,bL,aY,HObj.ids,SV.ids,SV.idsL,bR,lV,eQ,cC,cL,aU,cF,NG]) ?_)|(refine nmX (by simp [bM,aZ,bL,aY,HObj.ids,SV.ids,SV.idsL,bR,lV,eQ,cC,cL,aU,cF,NG]) ?_)|(refine⟨_,hrow, ?_⟩)|(intro hq;try simp only [lnS]at hq)|refine sI ?_|refine .intro _ (.intro rfl ?_));(conv=>whnf)))
  refine iD (k:=gN x) (.inl rfl) rfl (eT aEr) rfl rfl rfl rfl (λbs1 ck1=> ?_)
  ((conv=>whnf);repeat ((first|(intro hq;try simp only [lnS]at hq)|refine sI ?_|refine .intro _ (.intro rfl ?_));(conv=>whnf)))
  refine⟨(j+1,bs1,ck1),by dsimp only;omega,by dsimp only;omega,⟨by repeat' (first|exact trivial|exact rfl|refine And.intro ?_ ?_), ?_⟩⟩
  dsimp only
  unfold lV
  rw [<-hms]
  exact⟨rfl,rfl,rfl,rfl,trivial⟩
 have hjl:j=l.length:=by dsimp only at h1;omega
 subst hjl
 rw [List.take_length]at hX |-
 ((conv=>whnf);repeat ((first|(refine frX (by refine⟨?_, ?_, ?_⟩<;>simp [bM,aZ,bL,aY,HObj.ids,SV.ids,SV.idsL,bR,lV,eQ,cC,cL,aU,cF,NG]) ?_)|(refine nmX (by simp [bM,aZ,bL,aY,HObj.ids,SV.ids,SV.idsL,bR,lV,eQ,cC,cL,aU,cF,NG]) ?_)|(intro hq;try simp only [lnS]at hq)|refine sI ?_|refine .intro _ (.intro rfl ?_));(conv=>whnf)))
 refine aV.mown 4 120 48 16 rfl (by refine⟨?_, ?_, ?_⟩<;>simp [bM,aZ,bL,aY,HObj.ids,SV.ids,SV.idsL,bR,lV,eQ,cC,cL,aU,cF,NG]) ?_
 refine aK hty (λy:Nat×Nat=>([(4, .mw 120 16 y.1),(8, .fn 81 [] [.ptr 23 0]),(32, .d (.sl 16 (xs.map axR))),(33, .d (.int .i64 xs.length)),(34, .d (.int .i64 y.1))],(120, .mrow 48 16 y.2 ((xs.take y.1).map λx=>axR (bO (gE (aO l) x)).1))::(23, .cells 102 [.xv 33 mQ])::(33,lV l g)::NG)) (λy=>y.1<=xs.length/\ ∀x∈xs.take y.1,(bO (gE (aO l) x)).2=0) (λy=>xs.length - y.1) (0,0) ⟨by dsimp only;omega,by simp⟩ ⟨by repeat' (first|exact trivial|exact rfl|(rw [List.length_map];exact rfl)|refine And.intro ?_ ?_),⟨rfl,rfl,rfl,rfl,rfl,trivial⟩⟩ ?_
 rintro⟨j,cap⟩ ⟨hj,ht⟩
 dsimp only at hj ht
 ((conv=>whnf);repeat ((first|(intro hq;try simp only [lnS]at hq)|refine sI ?_|refine .intro _ (.intro rfl ?_));(conv=>whnf)))
 refine aD (λh1=> ?_) (λh1=> ?_)
 ·have hjl:j < xs.length:=by dsimp only at h1;omega
  have hrow:=pY hjl
  obtain⟨b1,b2,b3⟩:=kY (hz xs[j] (List.getElem_mem hjl))
  have hr:=(wY l g xs[j] (by omega) (by omega) (by omega)).rel [(23, .cells 102 [.xv 33 mQ]),(33,lV l g)] ⟨rfl,⟨rfl,rfl⟩,rfl,rfl,trivial⟩
  have htd:=sY (gE (aO l) xs[j])
  have herr:=yV (g:=aO l) hjl ht
  have hlt:((xs.take j).map λx=>axR (bO (gE (aO l) x)).1).length=j:=by rw [List.length_map,List.length_take];omega
  have hrows:((xs.take (j+1)).map λx=>axR (bO (gE (aO l) x)).1)=((xs.take j).map λx=>axR (bO (gE (aO l) x)).1)++[axR (bO (gE (aO l) xs[j])).1]:=by
   rw [List.take_succ_eq_append_getElem hjl,List.map_append,List.map_cons,List.map_nil]
  have htk:(bO (gE (aO l) xs[j])).2=0-> ∀x∈xs.take (j+1),(bO (gE (aO l) x)).2=0:=by
   intro h2 x hx
   rw [List.take_succ_eq_append_getElem hjl]at hx
   rcases List.mem_append.1 hx with hx|hx
   ·exact ht x hx
   ·simp at hx;subst hx;exact h2
  generalize xs[j]=x at *
  generalize gE (aO l) x=X at *
  generalize (bO X).1=T at *
  generalize (bO X).2=e at *
  ((conv=>whnf);repeat ((first|(refine frX (by refine⟨?_, ?_, ?_⟩<;>simp [bM,aZ,bL,aY,HObj.ids,SV.ids,SV.idsL,bR,lV,eQ,cC,cL,aU,cF,NG]) ?_)|(refine nmX (by simp [bM,aZ,bL,aY,HObj.ids,SV.ids,SV.idsL,bR,lV,eQ,cC,cL,aU,cF,NG]) ?_)|(refine⟨_,hrow, ?_⟩)|(refine aG [(23,_),(33,_)] hr ⟨rfl,rfl,trivial⟩ (λr hs=> ?_);subst hs)|(refine aG NG htd ⟨rfl,rfl,trivial⟩ (λr hs=> ?_);subst hs)|(intro hq;try simp only [lnS]at hq)|refine sI ?_|refine .intro _ (.intro rfl ?_));(conv=>whnf)))
  refine aF (λh2=> ?_) (λh2=> ?_)
  ·rw [herr h2]
   ((conv=>whnf);repeat' ((first|(intro hq;(try simp only [lnS]at hq);(try rewrite [List.length_map]))|refine sJ ?_|refine .intro _ (.intro rfl ?_)|refine exL (k:= ?_)|refine dwR ?_|((first|refine aD ?_ ?_|refine aF ?_ ?_)<;>intro hb<;>(first|exact ddX hb|try simp only [lnS]at hb))|(refine aC ?_ ?_<;>intro hb<;>try exact dsX hb))<;>(conv=>whnf)))
   exact aHo _ _
  ·have h2:e=0:=by simpa using h2
   ((conv=>whnf);repeat' ((first|(intro hq;(try simp only [lnS]at hq);(try rewrite [List.length_map]))|refine sJ ?_|refine .intro _ (.intro rfl ?_)|refine exL (k:= ?_)|(refine frX (by refine⟨?_, ?_, ?_⟩<;>simp [bM,aZ,bL,aY,HObj.ids,SV.ids,SV.idsL,bR,lV,eQ,cC,cL,aU,cF,NG]) ?_)|(refine nmX (by simp [bM,aZ,bL,aY,HObj.ids,SV.ids,SV.idsL,bR,lV,eQ,cC,cL,aU,cF,NG]) ?_)|refine dwR ?_|((first|refine aD ?_ ?_|refine aF ?_ ?_)<;>intro hb<;>(first|exact ddX hb|try simp only [lnS]at hb))|(refine aC ?_ ?_<;>intro hb<;>try exact dsX hb))<;>(conv=>whnf)))
   have hlj:(xs.take j).length=j:=by rw [List.length_take];omega
   rename_i cap'
   refine⟨(j+1,cap'),⟨by dsimp only;omega,htk h2⟩,by dsimp only;omega, ?_, ?_⟩
   ·repeat' (first|exact trivial|exact rfl|exact wkMw (by(try dsimp only);simp only [List.length_set,List.length_map,List.length_take,List.length_replicate,List.length_cons,List.length_nil];omega)|refine And.intro ?_ ?_)
   ·dsimp only
    rw [hrows]
    repeat' (first|exact trivial|exact rfl|refine And.intro ?_ ?_)
 ·have hjl:j=xs.length:=by dsimp only at h1;omega
  subst hjl
  rw [List.take_length]at ht |-
  rw [uW ht]
  ((conv=>whnf);repeat' ((first|(intro hq;(try simp only [lnS]at hq);(try rewrite [List.length_map]))|refine sJ ?_|refine .intro _ (.intro rfl ?_)|refine exL (k:= ?_)|refine dwR ?_|((first|refine aD ?_ ?_|refine aF ?_ ?_)<;>intro hb<;>(first|exact ddX hb|try simp only [lnS]at hb))|(refine aC ?_ ?_<;>intro hb<;>try exact dsX hb))<;>(conv=>whnf)))
  refine⟨(List.length_map ..).symm, ?_⟩
  ((conv=>whnf);repeat ((first|(intro hq;try simp only [lnS]at hq)|refine sI ?_|refine .intro _ (.intro rfl ?_));(conv=>whnf)))
  dsimp only
  rw [List.map_map]
  exact aJd _ _ _
end Go.Proofs.YtfhoddcminbffaaGreatDoor
