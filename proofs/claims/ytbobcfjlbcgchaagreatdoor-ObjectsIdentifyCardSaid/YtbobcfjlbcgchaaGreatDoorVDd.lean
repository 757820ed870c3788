/-
  Layer 6: Check; layer 7: Check. Terms: the reference's Weight and CompareAxiom. A contract by a walk through the body whose own objects are numbered from a number. Terms: the reference's insert and conjunction. Terms: the reference's form. Terms: the reference's bare, Empty, fields, CheckAxiom.
  Conditions: none.
-/
import Derived.Test.YtbobcfjlbcgchaaGreatDoorVQi
import Derived.Test.YtbobcfjlbcgchaaGreatDoorVQh
import Derived.Test.YtbobcfjlbcgchaaGreatDoorVDc
import Derived.Test.YtbobcfjlbcgchaaGreatDoorVAk
import Derived.Test.YtbobcfjlbcgchaaGreatDoorVQf
import Derived.Test.YtbobcfjlbcgchaaGreatDoorVOe
import Derived.Test.YtbobcfjlbcgchaaGreatDoorVOf
set_option linter.unnecessarySimpa false
set_option linter.unusedSectionVars false
set_option linter.unusedSimpArgs false
set_option linter.unusedVariables false
set_option maxHeartbeats 16000000
namespace Go.Proofs.YtbobcfjlbcgchaaGreatDoor
open Go.Proofs
set_option maxRecDepth 10000
attribute [local irreducible] aJ aF Tri aG YVC bS aQ
structure RolP (e:Int) (r:SV):Prop where
 ex: ∃s,r= .tup [s, .d (.int .i64 e)]
theorem aS1:FarH NG:=⟨by unfold NG;simp [bO,fD,HObj.ids],⟨rfl,rfl,trivial⟩⟩
def aVb:Option (List Nat)->D
 |none=> .nil
 |some L=> .sl 1 (L.map gZ)
def aFy (G:Adj) (n j most:Nat):Option (List Nat)->Prop
 |none=>most=n+1/\ ∀st,st < j-> ∀L w t,CW (EG G) L w t->w 0=st->¬ L < n+1
 |some L=>L≠[]/\(∀i∈L,i < n)/\L.length<=1000000000/\most=L.length/\nR (EG G)
theorem aFy.most {G:Adj}{n j m k:Nat}{o:Option (List Nat)}(h:aFy G n j m o) (hk:n=k):m<=1000000000\/m=n+1:=by
 cases o with
 |none=>exact .inr h.1
 |some L=>obtain⟨_,_,h3,h4,_⟩:=h;exact .inl (by omega)
theorem aIt (l:List Ax) (hn:l.length<=100000):Tri Tryz.prog 60 [.d (.sl 16 (l.map axR))] NG (RolP (lW l)):=by
 have hc:=aCf l
 refine aH false [] hty Tryz.func60 rfl (kp [0,2,3,4,5,6,7,8,9,11,15,26,27,28,35,41,42,43,44,45]) [] _ _ _ (by simp [Tryz.f60]) (by decide) ?_
 ((conv=>whnf);repeat ((first|(refine aD NG hc ⟨rfl,rfl,trivial⟩ (λr hs=> ?_);subst hs)|(intro hq;try simp only [lnS]at hq)|refine sI ?_|refine .intro _ (.intro rfl ?_));(conv=>whnf)))
 refine aC (λh1=> ?_) (λh1=> ?_)
 ·have hv:lW l=dF l:=by unfold lW;rw [if_pos h1]
  rw [hv]
  ((conv=>whnf);repeat' ((first|(intro hq;(try simp only [lnS]at hq);(try rewrite [List.length_map]))|refine sJ ?_|refine .intro _ (.intro rfl ?_)|refine exL (k:= ?_)|refine dwR ?_|((first|refine aA ?_ ?_|refine aC ?_ ?_)<;>intro hb<;>(first|exact ddX hb|try simp only [lnS]at hb))|(refine aB ?_ ?_<;>intro hb<;>try exact dsX hb))<;>(conv=>whnf)))
  exact⟨_,rfl⟩
 ·have hv:=(fO l).1 h1
  ((conv=>whnf);repeat ((first|(intro hq;try simp only [lnS]at hq)|refine sI ?_|refine .intro _ (.intro rfl ?_));(conv=>whnf)))
  refine aIk l hv (by omega) NG aS1 (λk hk=>by simp) (λk hk=>by simp [aZ,aU,SV.ids,SV.idsL,cT,bX]) (λM g hM=> ?_)
  have hMl:=zB l λx hx=>(sW (hv x hx)).2.2
  have hMl1:=hM.le
  have hrv1:nR (ET (gB l))->lW l=60:= λh=>by unfold lW;rw [if_neg (by simp [h1]),if_pos h]
  have hrv0:¬ nR (ET (gB l))->lW l=0:= λh=>by unfold lW;rw [if_neg (by simp [h1]),if_neg h]
  ((conv=>whnf);repeat ((first|(intro hq;try simp only [lnS]at hq)|refine sI ?_|refine .intro _ (.intro rfl ?_));(conv=>whnf)))
  refine aBa M g hM.nd (by omega) (λp hp=>by have:=hM.lei p hp;omega) NG aS1 (λk hk=>by simp) (λk hk=>by simp [cU,aZ,aU,SV.ids,SV.idsL,cT,bX];omega) (λR G hG hRl=> ?_)
  have hcq:nR (ET (gB l))↔nR (EG G):=hM.circ.trans hG.circ
  ((conv=>whnf);repeat ((first|(intro hq;try simp only [lnS]at hq)|refine sI ?_|refine .intro _ (.intro rfl ?_));(conv=>whnf)))
  rw [show (R.map eO).length=R.length from List.length_map ..]
  refine aJ.soft 5 (xs:=[aEk R, .sl 1 (G.map aBw)]) rfl rfl ?_
  refine aK hty (λy:Nat×Nat×Option (List Nat)=>([(2, .d .nil),(5, .ptr 5 0),(6, .d (.int .i64 y.2.1)),(7, .d (aVb y.2.2)),(26, .d (.int .i64 R.length)),(27, .d (.int .i64 y.1))],(5, .cells 158 [.d (aEk R), .d (.sl 1 (G.map aBw))])::NG)) (λy=>y.1<=R.length/\aFy G R.length y.1 y.2.1 y.2.2) (λy=>R.length - y.1) (0,R.length+1,none) ⟨Nat.zero_le _,rfl,λst h=>by omega⟩ ⟨by repeat' (first|exact trivial|exact rfl|refine And.intro ?_ ?_),⟨rfl,rfl,rfl,trivial⟩⟩ ?_
  rintro⟨j,most,o⟩ ⟨hj,hO⟩
  dsimp only at hj hO
  have hmost:=hO.most hRl
  ((conv=>whnf);repeat ((first|(intro hq;try simp only [lnS]at hq)|refine sI ?_|refine .intro _ (.intro rfl ?_));(conv=>whnf)))
  refine aA (λh2=> ?_) (λh2=> ?_)
  ·have hjl:j < R.length:=by dsimp only at h2;omega
   have hcs:=aFr R G j most hjl hG.len (λi p hp=>(hG.sound i p.1 p.2 hp).1) (by omega) (by omega)
   ((conv=>whnf);repeat ((first|(intro hq;try simp only [lnS]at hq)|refine sI ?_|refine .intro _ (.intro rfl ?_));(conv=>whnf)))
   refine aD [] hcs trivial (λr hs=> ?_)
   rcases hs.ex with⟨rfl,hno⟩|⟨L,hL0,rfl,hLn,hLl,hcirc⟩
   ·((conv=>whnf);repeat' ((first|(intro hq;(try simp only [lnS]at hq);(try rewrite [List.length_map]))|refine sJ ?_|refine .intro _ (.intro rfl ?_)|refine exL (k:= ?_)|refine dwR ?_|((first|refine aA ?_ ?_|refine aC ?_ ?_)<;>intro hb<;>(first|exact ddX hb|try simp only [lnS]at hb))|(refine aB ?_ ?_<;>intro hb<;>try exact dsX hb))<;>(conv=>whnf)))
    refine⟨(j+1,most,o),⟨by dsimp only;omega, ?_⟩,by dsimp only;omega,⟨by repeat' (first|exact trivial|exact rfl|exact aU6 _|refine And.intro ?_ ?_),⟨rfl,rfl,rfl,trivial⟩⟩⟩
    dsimp only
    cases o with
    |none=>
     obtain⟨e1,e2⟩:=hO
     refine⟨e1,λst hst=> ?_⟩
     by_cases hsj:st=j
     ·subst hsj;rw [<-e1];exact hno
     ·exact e2 st (by omega)
    |some L=>exact hO
   ·((conv=>whnf);repeat ((first|(intro hq;try simp only [lnS]at hq)|refine sI ?_|refine .intro _ (.intro rfl ?_));(conv=>whnf)))
    rename_i bb
    cases bb
    ·((conv=>whnf);repeat' ((first|(intro hq;(try simp only [lnS]at hq);(try rewrite [List.length_map]))|refine sJ ?_|refine .intro _ (.intro rfl ?_)|refine exL (k:= ?_)|refine dwR ?_|((first|refine aA ?_ ?_|refine aC ?_ ?_)<;>intro hb<;>(first|exact ddX hb|try simp only [lnS]at hb))|(refine aB ?_ ?_<;>intro hb<;>try exact dsX hb))<;>(conv=>whnf)))
     exact⟨(j+1,L.length,some L),⟨by dsimp only;omega,hL0,hLn,hLl,rfl,hcirc⟩,by dsimp only;omega,⟨by repeat' (first|exact trivial|exact rfl|refine And.intro ?_ ?_),⟨rfl,rfl,rfl,trivial⟩⟩⟩
    ·exact absurd (List.map_eq_nil_iff.1 (hq rfl)) hL0
  ·have hjl:j=R.length:=by dsimp only at h2;omega
   subst hjl
   cases o with
   |none=>
    obtain⟨e1,e2⟩:=hO
    have hnc:¬ nR (ET (gB l)):= λhc=>by
     obtain⟨L,w,t,c1,c2,c3⟩:=aO6 (hcq.1 hc)
     rw [hG.len]at c2 c3
     exact e2 _ c2 L w t c1 rfl c3
    rw [hrv0 hnc]
    ((conv=>whnf);repeat' ((first|(intro hq;(try simp only [lnS]at hq);(try rewrite [List.length_map]))|refine sJ ?_|refine .intro _ (.intro rfl ?_)|refine exL (k:= ?_)|refine dwR ?_|((first|refine aA ?_ ?_|refine aC ?_ ?_)<;>intro hb<;>(first|exact ddX hb|try simp only [lnS]at hb))|(refine aB ?_ ?_<;>intro hb<;>try exact dsX hb))<;>(conv=>whnf)))
    exact⟨_,rfl⟩
   |some L=>
    obtain⟨hL0,hLn,hLl,_,hcirc⟩:=hO
    rw [hrv1 (hcq.2 hcirc)]
    ((conv=>whnf);repeat ((first|(intro hq;try simp only [lnS]at hq)|refine sI ?_|refine .intro _ (.intro rfl ?_));(conv=>whnf)))
    rename_i bb
    cases bb
    ·((conv=>whnf);repeat ((first|(intro hq;try simp only [lnS]at hq)|refine sI ?_|refine .intro _ (.intro rfl ?_));(conv=>whnf)))
     rw [show (L.map gZ).length=L.length from List.length_map ..]
     refine aJ.own 2 66 9 1 rfl (bY (by with_unfolding_all exact rfl)) ?_
     refine aK hty (λy:Nat×List Str=>([(2, .osl 66 1 (y.2.map eO)),(5, .ptr 5 0),(42, .d (.sl 1 (L.map gZ))),(43, .d (.int .i64 L.length)),(44, .d (.int .i64 y.1))],(66, .own 9 1 (y.2.map eO).length)::(5, .cells 158 [.d (aEk R), .d (.sl 1 (G.map aBw))])::NG)) (λy=>y.1<=L.length/\y.2.length<=y.1) (λy=>L.length - y.1) (0,[]) ⟨Nat.zero_le _,Nat.le_refl _⟩ ⟨by repeat' (first|exact trivial|exact rfl|refine And.intro ?_ ?_),⟨rfl,rfl,rfl,rfl,trivial⟩⟩ ?_
     rintro⟨k,C⟩ ⟨hk,hC⟩
     dsimp only at hk hC
     ((conv=>whnf);repeat ((first|(intro hq;try simp only [lnS]at hq)|refine sI ?_|refine .intro _ (.intro rfl ?_));(conv=>whnf)))
     refine aA (λh3=> ?_) (λh3=> ?_)
     ·have hkl:k < L.length:=by dsimp only at h3;omega
      have hrow:(L.map gZ)[((k:Nat):Int).toNat]? =some (gZ L[k]):=by
       rw [Int.toNat_natCast,List.getElem?_map,List.getElem?_eq_getElem hkl];rfl
      have hLk:=hLn _ (List.getElem_mem hkl)
      have hrow2:=kO hLk
      have hcl:(C.map eO).length=C.length:=List.length_map ..
      have hb63:(C.map eO).length+1<=9223372036854775807:=by rw [hcl];omega
      have hb48:((C.map eO).length+1)* 16<=140737488355328:=by rw [hcl];omega
      have hmp:(C++[R[L[k]]]).map eO=C.map eO++[eO R[L[k]]]:=by rw [List.map_append];rfl
      generalize R[L[k]]=s at *
      generalize L[k]=i at *
      ((conv=>whnf);repeat ((first|(refine⟨_,hrow, ?_⟩)|(refine⟨_,hrow2, ?_⟩)|(refine And.intro hb63 ?_)|(refine And.intro hb48 ?_)|(intro hq;try simp only [lnS]at hq)|refine sI ?_|refine .intro _ (.intro rfl ?_));(conv=>whnf)))
      refine⟨(k+1,C++[s]),⟨by dsimp only;omega,by dsimp only;rw [List.length_append,List.length_singleton];omega⟩,by dsimp only;omega, ?_⟩
      dsimp only
      rw [hmp,List.length_append]
      exact⟨by repeat' (first|exact trivial|exact rfl|refine And.intro ?_ ?_),⟨rfl,rfl,rfl,rfl,trivial⟩⟩
     ·((conv=>whnf);repeat' ((first|(intro hq;(try simp only [lnS]at hq);(try rewrite [List.length_map]))|refine sJ ?_|refine .intro _ (.intro rfl ?_)|refine exL (k:= ?_)|refine dwR ?_|((first|refine aA ?_ ?_|refine aC ?_ ?_)<;>intro hb<;>(first|exact ddX hb|try simp only [lnS]at hb))|(refine aB ?_ ?_<;>intro hb<;>try exact dsX hb))<;>(conv=>whnf)))
      exact⟨_,rfl⟩
    ·exact absurd (List.map_eq_nil_iff.1 (hq rfl)) hL0
theorem aBl {α:Type}{l:List α}{j:Nat}(h:j < l.length):l.drop j=l[j]::l.drop (j+1):=List.drop_eq_getElem_cons h
theorem xU (l:List Ax):Tri Tryz.prog 28 [.d (aR2 l)] NG (λr=>r= .d (.int .i64 (dT l))):=by
 refine aH false [1,4,5,9] hty Tryz.func28 rfl (kp [0,1,2,4,5,6,7,9,11,12,13,14,23,29,35,50,54,56,57,58,59,68]) [] _ _ _ (by simp [Tryz.f28]) (by decide) ?_
 ((conv=>whnf);repeat ((first|(intro hq;try simp only [lnS]at hq)|refine sI ?_|refine .intro _ (.intro rfl ?_));(conv=>whnf)))
 refine aK hty (λj:Nat=>([(1, .ea 1 [[.sl 16 (l.map axR)]] 0 0),(2, .d (.int .i64 0)),(11, .d (.sl 16 (l.map axR))),(12, .d (.int .i64 l.length)),(13, .d (.int .i64 j))],NG)) (λj=>(j<=l.length/\ ∀x∈l.take j,cJ x=(x,0))/\lE l=lE (l.drop j)) (λj=>l.length - j) 0 ⟨⟨by omega,by simp⟩,rfl⟩ ⟨by repeat' (first|exact trivial|exact rfl|(rw [List.length_map];exact rfl)|refine And.intro ?_ ?_),⟨rfl,rfl,trivial⟩⟩ ?_
 rintro j ⟨⟨hj,hz⟩,hf⟩
 ((conv=>whnf);repeat ((first|(intro hq;try simp only [lnS]at hq)|refine sI ?_|refine .intro _ (.intro rfl ?_));(conv=>whnf)))
 refine aA (λh1=> ?_) (λh1=> ?_)
 ·have hjl:j < l.length:=by omega
  have hrow:=jD hjl
  have ht:=oG l[j]
  have he:= λh:(cJ l[j]).2=0=>aK2 l[j] (cJ l[j]).1 (aLq (fK h)) (aGc h)
  rw [aBl hjl,lE]at hf
  have hz2:cJ l[j]=(l[j],0)-> ∀x∈l.take (j+1),cJ x=(x,0):= λh2 y hy=>by
   rw [List.take_succ_eq_append_getElem hjl]at hy
   rcases List.mem_append.1 hy with hy|hy
   ·exact hz y hy
   ·simp at hy;subst hy;exact h2
  have hz3:(cJ l[j]).2=0->eqA l[j] (cJ l[j]).1=true->cJ l[j]=(l[j],0):= λh1 h2=>Prod.ext (aFo.1 h2).symm h1
  have hcv:lE l≠0->dT l=lE l:= λh=>by unfold dT;rw [if_pos h]
  generalize cJ l[j]=T at *
  obtain⟨X,e⟩:=T
  dsimp only at ht he hf hz3
  generalize eqA l[j] X=b at *
  generalize l[j]=x at *
  ((conv=>whnf);repeat ((first|(refine⟨_,hrow, ?_⟩)|(refine aD NG ht ⟨rfl,rfl,trivial⟩ (λr hs=> ?_);subst hs)|(intro hq;try simp only [lnS]at hq)|refine sI ?_|refine .intro _ (.intro rfl ?_));(conv=>whnf)))
  refine aC (λh2=> ?_) (λh2=> ?_)
  ·rw [if_pos h2]at hf
   rw [hcv (by rw [hf];exact h2),hf]
   ((conv=>whnf);repeat' ((first|(intro hq;(try simp only [lnS]at hq);(try rewrite [List.length_map]))|refine sJ ?_|refine .intro _ (.intro rfl ?_)|refine exL (k:= ?_)|refine dwR ?_|((first|refine aA ?_ ?_|refine aC ?_ ?_)<;>intro hb<;>(first|exact ddX hb|try simp only [lnS]at hb))|(refine aB ?_ ?_<;>intro hb<;>try exact dsX hb))<;>(conv=>whnf)))
   rfl
  ·rw [if_neg (by simp [h2])]at hf
   have he:=he h2
   ((conv=>whnf);repeat ((first|(refine aD [] he trivial (λr hs=> ?_);subst hs)|(intro hq;try simp only [lnS]at hq)|refine sI ?_|refine .intro _ (.intro rfl ?_));(conv=>whnf)))
   cases b
   ·rw [if_pos rfl]at hf
    rw [hcv (by rw [hf];decide),hf]
    ((conv=>whnf);repeat' ((first|(intro hq;(try simp only [lnS]at hq);(try rewrite [List.length_map]))|refine sJ ?_|refine .intro _ (.intro rfl ?_)|refine exL (k:= ?_)|refine dwR ?_|((first|refine aA ?_ ?_|refine aC ?_ ?_)<;>intro hb<;>(first|exact ddX hb|try simp only [lnS]at hb))|(refine aB ?_ ?_<;>intro hb<;>try exact dsX hb))<;>(conv=>whnf)))
    rfl
   ·rw [if_neg (by decide)]at hf
    ((conv=>whnf);repeat' ((first|(intro hq;(try simp only [lnS]at hq);(try rewrite [List.length_map]))|refine sJ ?_|refine .intro _ (.intro rfl ?_)|refine exL (k:= ?_)|refine dwR ?_|((first|refine aA ?_ ?_|refine aC ?_ ?_)<;>intro hb<;>(first|exact ddX hb|try simp only [lnS]at hb))|(refine aB ?_ ?_<;>intro hb<;>try exact dsX hb))<;>(conv=>whnf)))
    exact⟨j+1,⟨⟨by omega,hz2 (hz3 h2 rfl)⟩,hf⟩,by dsimp only;omega,⟨by repeat' (first|exact trivial|exact rfl|refine And.intro ?_ ?_),⟨rfl,rfl,trivial⟩⟩⟩
 have hjl:j=l.length:=by omega
 subst hjl
 rw [List.take_length]at hz
 have hf0:lE l=0:=(nN l).2 hz
 have hsm: ∀x∈l,SmA x:= λx hx=>aLq (fK (by rw [hz x hx]))
 clear hf hj h1
 ((conv=>whnf);repeat ((first|(intro hq;try simp only [lnS]at hq)|refine sI ?_|refine .intro _ (.intro rfl ?_));(conv=>whnf)))
 refine aK hty (λi:Nat=>([(1, .ea 1 [[.sl 16 (l.map axR)]] 0 0),(2, .d (.int .i64 0)),(7, .d (.int .i64 i))],NG)) (λi=>(1<=i/\(i<=l.length\/i=1))/\iF l=iF (l.drop (i - 1))) (λi=>l.length - i) 1 ⟨by omega,rfl⟩ ⟨by repeat' (first|exact trivial|exact rfl|refine And.intro ?_ ?_),⟨rfl,rfl,trivial⟩⟩ ?_
 rintro i ⟨⟨hi1,hi2⟩,hso⟩
 ((conv=>whnf);repeat ((first|(intro hq;try simp only [lnS]at hq)|refine sI ?_|refine .intro _ (.intro rfl ?_));(conv=>whnf)))
 refine aA (λh1=> ?_) (λh1=> ?_)
 ·have hil:i < l.length:=by have h1:(i:Int) < ((l.map axR).length:Nat):=h1;rw [List.length_map]at h1;omega
  have hip:i - 1 < l.length:=by omega
  have hrow:=jD hil
  have hrow2:(l.map axR)[((i:Int) - 1).toNat]? =some (axR l[i - 1]):=by
   rw [show ((i:Int) - 1).toNat=i - 1 by omega,List.getElem?_map,List.getElem?_eq_getElem hip];rfl
  have s1:=hsm _ (List.getElem_mem hil)
  have s2:=hsm _ (List.getElem_mem hip)
  have c:=fQ l[i - 1] l[i] s2.1 s2.2.1 s2.2.2 s1.1 s1.2.1 s1.2.2
  rw [aBl hip,show i - 1+1=i by omega,aBl hil,iF,<-aBl hil]at hso
  have hcv:iF l=false->dT l=70:= λh=>by unfold dT;rw [if_neg (by simp [hf0]),if_pos h]
  generalize cS l[i - 1] l[i]=v at *
  generalize l[i - 1]=y at *
  generalize l[i]=x at *
  ((conv=>whnf);repeat ((first|(intro hq;try simp only [lnS]at hq)|refine sI ?_|refine .intro _ (.intro rfl ?_));(conv=>whnf)))
  refine dwR ?_
  ((conv=>whnf);repeat ((first|(refine⟨_,hrow, ?_⟩)|(refine⟨_,hrow2, ?_⟩)|(refine⟨by kernel_rfl, .d (.int .i64 _),_,[],rfl,trivial,c, ?_⟩)|(intro hq;try simp only [lnS]at hq)|refine sI ?_|refine .intro _ (.intro rfl ?_));(conv=>whnf)))
  refine aC (λh2=> ?_) (λh2=> ?_)
  ·rw [hcv (by rw [hso];simp [h2])]
   ((conv=>whnf);repeat' ((first|(intro hq;(try simp only [lnS]at hq);(try rewrite [List.length_map]))|refine sJ ?_|refine .intro _ (.intro rfl ?_)|refine exL (k:= ?_)|refine dwR ?_|((first|refine aA ?_ ?_|refine aC ?_ ?_)<;>intro hb<;>(first|exact ddX hb|try simp only [lnS]at hb))|(refine aB ?_ ?_<;>intro hb<;>try exact dsX hb))<;>(conv=>whnf)))
   rfl
  ·((conv=>whnf);repeat' ((first|(intro hq;(try simp only [lnS]at hq);(try rewrite [List.length_map]))|refine sJ ?_|refine .intro _ (.intro rfl ?_)|refine exL (k:= ?_)|refine dwR ?_|((first|refine aA ?_ ?_|refine aC ?_ ?_)<;>intro hb<;>(first|exact ddX hb|try simp only [lnS]at hb))|(refine aB ?_ ?_<;>intro hb<;>try exact dsX hb))<;>(conv=>whnf)))
   refine⟨i+1,⟨by omega, ?_⟩,by dsimp only;omega,⟨by repeat' (first|exact trivial|exact rfl|refine And.intro ?_ ?_),⟨rfl,rfl,trivial⟩⟩⟩
   rw [hso,show i+1 - 1=i by omega]
   simp [h2]
 have hst:iF l=true:=by
  have h1:¬ (i:Int) < ((l.map axR).length:Nat):=h1
  rw [List.length_map]at h1
  rw [hso]
  have hd:(l.drop (i - 1)).length<=1:=by rw [List.length_drop];omega
  match l.drop (i - 1),hd with
  | [],_=>rfl
  | [x],_=>rfl
  |x::y::r,h=>simp at h
 clear hso h1 hi1 hi2
 have hcv1:1024 < l.length->dT l=2:= λh=>by unfold dT;rw [if_neg (by simp [hf0]),if_neg (by simp [hst]),if_pos h]
 have hcv2:¬ 1024 < l.length->l.any iG=true->dT l=71:= λh h2=>by unfold dT;rw [if_neg (by simp [hf0]),if_neg (by simp [hst]),if_neg h,if_pos h2]
 have hcv3:¬ 1024 < l.length->l.any iG=false->dT l=lW l:= λh h2=>by unfold dT;rw [if_neg (by simp [hf0]),if_neg (by simp [hst]),if_neg h,if_neg (by simp [h2])]
 ((conv=>whnf);repeat ((first|(intro hq;try simp only [lnS]at hq)|refine sI ?_|refine .intro _ (.intro rfl ?_));(conv=>whnf)))
 refine aA (λh3=> ?_) (λh3=> ?_)
 ·have h3:(1024:Int) < ((l.map axR).length:Nat):=h3
  rw [List.length_map]at h3
  rw [hcv1 (by omega)]
  ((conv=>whnf);repeat' ((first|(intro hq;(try simp only [lnS]at hq);(try rewrite [List.length_map]))|refine sJ ?_|refine .intro _ (.intro rfl ?_)|refine exL (k:= ?_)|refine dwR ?_|((first|refine aA ?_ ?_|refine aC ?_ ?_)<;>intro hb<;>(first|exact ddX hb|try simp only [lnS]at hb))|(refine aB ?_ ?_<;>intro hb<;>try exact dsX hb))<;>(conv=>whnf)))
  rfl
 have hlen:¬ 1024 < l.length:=by
  have h3:¬ (1024:Int) < ((l.map axR).length:Nat):=h3
  rw [List.length_map]at h3
  omega
 have hro:=aIt l (by omega)
 ((conv=>whnf);repeat ((first|(intro hq;try simp only [lnS]at hq)|refine sI ?_|refine .intro _ (.intro rfl ?_));(conv=>whnf)))
 rw [List.length_map]
 refine aK hty (λj:Nat=>([(1, .ea 1 [[.sl 16 (l.map axR)]] 0 0),(2, .d (.int .i64 0)),(56, .d (.sl 16 (l.map axR))),(57, .d (.int .i64 l.length)),(58, .d (.int .i64 j))],NG)) (λj=>j<=l.length/\(l.take j).any iG=false) (λj=>l.length - j) 0 ⟨by omega,rfl⟩ ⟨by repeat' (first|exact trivial|exact rfl|refine And.intro ?_ ?_),⟨rfl,rfl,trivial⟩⟩ ?_
 rintro j ⟨hj,ha⟩
 ((conv=>whnf);repeat ((first|(intro hq;try simp only [lnS]at hq)|refine sI ?_|refine .intro _ (.intro rfl ?_));(conv=>whnf)))
 refine aA (λh4=> ?_) (λh4=> ?_)
 ·have hjl:j < l.length:=by omega
  have hrow:=jD hjl
  have c:=aFe l[j]
  have hbad:iG l[j]=true->l.any iG=true:= λh=>List.any_eq_true.2 ⟨_,List.getElem_mem hjl,h⟩
  have hok:iG l[j]=false->(l.take (j+1)).any iG=false:= λh=>by
   rw [List.take_succ_eq_append_getElem hjl,List.any_append,ha];simpa using h
  have hsv:iG l[j]=(aIu l[j] && !l[j].isopen):=rfl
  rw [hsv]at hbad hok
  clear hsv
  generalize aIu l[j]=b at *
  obtain⟨x,hx⟩: ∃x,x=l[j]:=⟨_,rfl⟩
  rw [<-hx]at hrow c hbad hok
  clear hx
  obtain⟨k,o,a1,a2,a3,a4,a5,a6⟩:=x
  dsimp only at hbad hok
  cases b<;>cases o
  all_goals ((conv=>whnf);repeat' ((first|(intro hq;(try simp only [lnS]at hq);(try rewrite [List.length_map]))|refine sJ ?_|refine .intro _ (.intro rfl ?_)|refine exL (k:= ?_)|(refine⟨_,hrow, ?_⟩)|(refine aD [] c trivial (λr hs=> ?_);subst hs)|refine dwR ?_|((first|refine aA ?_ ?_|refine aC ?_ ?_)<;>intro hb<;>(first|exact ddX hb|try simp only [lnS]at hb))|(refine aB ?_ ?_<;>intro hb<;>try exact dsX hb))<;>(conv=>whnf)))
  ·exact⟨j+1,⟨by omega,hok rfl⟩,by dsimp only;omega,⟨by repeat' (first|exact trivial|exact rfl|refine And.intro ?_ ?_),⟨rfl,rfl,trivial⟩⟩⟩
  ·exact⟨j+1,⟨by omega,hok rfl⟩,by dsimp only;omega,⟨by repeat' (first|exact trivial|exact rfl|refine And.intro ?_ ?_),⟨rfl,rfl,trivial⟩⟩⟩
  ·rw [hcv2 hlen (hbad rfl)];rfl
  ·exact⟨j+1,⟨by omega,hok rfl⟩,by dsimp only;omega,⟨by repeat' (first|exact trivial|exact rfl|refine And.intro ?_ ?_),⟨rfl,rfl,trivial⟩⟩⟩
 ·have hjl:j=l.length:=by omega
  subst hjl
  rw [List.take_length]at ha
  rw [hcv3 hlen ha]
  ((conv=>whnf);repeat ((first|(intro hq;try simp only [lnS]at hq)|refine sI ?_|refine .intro _ (.intro rfl ?_));(conv=>whnf)))
  refine aD NG hro ⟨rfl,rfl,trivial⟩ (λr hs=> ?_)
  obtain⟨s,rfl⟩:=hs.ex
  ((conv=>whnf);repeat' ((first|(intro hq;(try simp only [lnS]at hq);(try rewrite [List.length_map]))|refine sJ ?_|refine .intro _ (.intro rfl ?_)|refine exL (k:= ?_)|refine dwR ?_|((first|refine aA ?_ ?_|refine aC ?_ ?_)<;>intro hb<;>(first|exact ddX hb|try simp only [lnS]at hb))|(refine aB ?_ ?_<;>intro hb<;>try exact dsX hb))<;>(conv=>whnf)))
  rfl
end Go.Proofs.YtbobcfjlbcgchaaGreatDoor
namespace Go.Proofs.YtbobcfjlbcgchaaGreatDoor
open Go.Proofs
set_option maxRecDepth 10000
attribute [local irreducible] aJ aF Tri aG YVC bS aQ
end Go.Proofs.YtbobcfjlbcgchaaGreatDoor
namespace Go.Proofs.YtbobcfjlbcgchaaGreatDoor
open Go.RowKit
section
variable {P:Program}
end
end Go.Proofs.YtbobcfjlbcgchaaGreatDoor
namespace Go.Proofs.YtbobcfjlbcgchaaGreatDoor
open Go.Proofs
set_option maxRecDepth 10000
attribute [local irreducible] aJ aF Tri aG YVC bS aQ
end Go.Proofs.YtbobcfjlbcgchaaGreatDoor
namespace Go.Proofs.YtbobcfjlbcgchaaGreatDoor
open Go.Proofs
set_option maxRecDepth 10000
attribute [local irreducible] aJ aF Tri aG YVC bS aQ
end Go.Proofs.YtbobcfjlbcgchaaGreatDoor
namespace Go.Proofs.YtbobcfjlbcgchaaGreatDoor
open Go.Proofs
set_option maxRecDepth 10000
attribute [local irreducible] aJ aF Tri aG YVC bS aQ
end Go.Proofs.YtbobcfjlbcgchaaGreatDoor
