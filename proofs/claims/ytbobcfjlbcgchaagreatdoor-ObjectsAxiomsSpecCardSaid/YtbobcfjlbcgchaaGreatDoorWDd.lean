/-
  Terms: the reference's bare, Empty, fields, CheckAxiom.
  Conditions: none.
-/
import Derived.Test.YtbobcfjlbcgchaaGreatDoorWGr
import Derived.Test.YtbobcfjlbcgchaaGreatDoorWQh
import Derived.Test.YtbobcfjlbcgchaaGreatDoorWAr
import Derived.Test.YtbobcfjlbcgchaaGreatDoorWQc
import Derived.Test.YtbobcfjlbcgchaaGreatDoorWRp
import Derived.Test.YtbobcfjlbcgchaaGreatDoorWOe
import Derived.Test.YtbobcfjlbcgchaaGreatDoorWOf
set_option linter.unnecessarySimpa false
set_option linter.unusedSectionVars false
set_option linter.unusedSimpArgs false
set_option linter.unusedVariables false
set_option maxHeartbeats 16000000
namespace Go.Proofs.YtbobcfjlbcgchaaGreatDoor
section
attribute [local irreducible] aK aF Tri aH YVC cG aT
set_option maxRecDepth 10000
structure RolP (e:Int) (r:SV):Prop where
 ex: ∃s,r= .tup [s, .d (.int .i64 e)]
theorem aZ0:FarH NG:=⟨by unfold NG;simp [bU,gT,HObj.ids],⟨rfl,rfl,trivial⟩⟩
def bCa:Option (List Nat)->D
 |none=> .nil
 |some L=> .sl 1 (L.map jQ)
def aLf (G:Adj) (n j most:Nat):Option (List Nat)->Prop
 |none=>most=n+1/\ ∀st,st < j-> ∀L w t,CW (EG G) L w t->w 0=st->¬ L < n+1
 |some L=>L≠[]/\(∀i∈L,i < n)/\L.length<=1000000000/\most=L.length/\mV (EG G)
theorem aLf.most {G:Adj}{n j m k:Nat}{o:Option (List Nat)}(h:aLf G n j m o) (hk:n=k):m<=1000000000\/m=n+1:=by
 cases o with
 |none=>exact .inr h.1
 |some L=>obtain⟨_,_,h3,h4,_⟩:=h;exact .inl (by omega)
theorem aOi (l:List Ax) (hn:l.length<=100000):Tri Tryz.prog 60 [.d (.sl 16 (l.map axR))] NG (RolP (eZ l)):=by
 have J:=aH2 l
 refine qG [] hty Tryz.func60 [0,2,3,4,5,6,7,8,9,11,15,26,27,28,35,41,42,43,44,45] ?_
 ((conv=>whnf);repeat ((first|(refine aL NG J ⟨rfl,rfl,trivial⟩ (λr V=> ?_);subst V) |(intro a;try simp only [lnS]at a)|refine sI ?_|refine qE_ ?_);conv=>whnf))
 refine aC (λq=> ?_) (λq=> ?_)
 ·have H:eZ l=cR l:=by unfold eZ;rw [if_pos q]
  rw [H]
  ((conv=>whnf);repeat' ((first|(intro a;(try simp only [lnS]at a);(try rewrite [List.length_map]))|refine sJ ?_|refine qE_ ?_|refine exL (k:=?_)|refine dwR ?_|((first|refine aA ?_ ?_|refine aC ?_ ?_)<;>intro hb<;>(first|exact ddX hb|try simp only [lnS]at hb))|(refine aB ?_ ?_<;>intro hb<;>try exact dsX hb))<;>(conv=>whnf)))
  exact⟨_,rfl⟩
 ·have H:=(fM l).1 q
  ((conv=>whnf);repeat ((first |(intro a;try simp only [lnS]at a)|refine sI ?_|refine qE_ ?_);conv=>whnf))
  refine aO8 l H (by omega) NG aZ0 (λk u=>by simp) (λk u=>by simp [bL,bB,SV.ids,SV.idsL,dG,cD]) (λM g E=> ?_)
  have hMl:=rL l λx hx=>(fP (H x hx)).2.2
  have hMl1:=E.le
  have A:mV (ET (dW l))->eZ l=60:= λh=>by unfold eZ;rw [if_neg (by simp [q]),if_pos h]
  have D:¬ mV (ET (dW l))->eZ l=0:= λh=>by unfold eZ;rw [if_neg (by simp [q]),if_neg h]
  ((conv=>whnf);repeat ((first |(intro a;try simp only [lnS]at a)|refine sI ?_|refine qE_ ?_);conv=>whnf))
  refine aFr M g E.nd (by omega) (λp hp=>by have:=E.lei p hp;omega) NG aZ0 (λk u=>by simp) (λk u=>by simp [eQ,bL,bB,SV.ids,SV.idsL,dG,cD];omega) (λR G F Q=> ?_)
  have n:mV (ET (dW l))↔mV (EG G):=E.circ.trans F.circ
  ((conv=>whnf);repeat ((first |(intro a;try simp only [lnS]at a)|refine sI ?_|refine qE_ ?_);conv=>whnf))
  rw [show (R.map bJ).length=R.length from List.length_map ..]
  refine aK.soft 5 (xs:=[aJq R, .sl 1 (G.map aGf)]) rfl rfl ?_
  refine aD hty (λy:Nat×Nat×Option (List Nat)=>([(2, .d .nil),(5, .ptr 5 0),(6, .d (.int .i64 y.2.1)),(7, .d (bCa y.2.2)),(26, .d (.int .i64 R.length)),(27, .d (.int .i64 y.1))],(5, .cells 158 [.d (aJq R), .d (.sl 1 (G.map aGf))])::NG)) (λy=>y.1<=R.length/\aLf G R.length y.1 y.2.1 y.2.2) (λy=>R.length - y.1) (0,R.length+1,none) ⟨Nat.zero_le _,rfl,λU h=>by omega⟩ ⟨qB,⟨rfl,rfl,rfl,trivial⟩⟩ ?_
  rintro⟨j,most,o⟩ ⟨hj,m⟩
  dsimp only at hj m
  have hmost:=m.most Q
  ((conv=>whnf);repeat ((first |(intro a;try simp only [lnS]at a)|refine sI ?_|refine qE_ ?_);conv=>whnf))
  refine aA (λT=> ?_) (λT=> ?_)
  ·have e:j < R.length:=by dsimp only at T;omega
   have K:=aL3 R G j most e F.len (λi p hp=>(F.sound i p.1 p.2 hp).1) (by omega) (by omega)
   ((conv=>whnf);repeat ((first |(intro a;try simp only [lnS]at a)|refine sI ?_|refine qE_ ?_);conv=>whnf))
   refine aL [] K trivial (λr V=> ?_)
   rcases V.ex with⟨rfl,W⟩|⟨L,c,rfl,f,v,b⟩
   ·((conv=>whnf);repeat' ((first|(intro a;(try simp only [lnS]at a);(try rewrite [List.length_map]))|refine sJ ?_|refine qE_ ?_|refine exL (k:=?_)|refine dwR ?_|((first|refine aA ?_ ?_|refine aC ?_ ?_)<;>intro hb<;>(first|exact ddX hb|try simp only [lnS]at hb))|(refine aB ?_ ?_<;>intro hb<;>try exact dsX hb))<;>(conv=>whnf)))
    refine⟨(j+1,most,o),⟨qO, ?_⟩,qO,⟨by repeat' (first|exact trivial|exact rfl|exact aBs _|refine And.intro ?_ ?_),⟨rfl,rfl,rfl,trivial⟩⟩⟩
    dsimp only
    cases o with
    |none=>
     obtain⟨e1,e2⟩:=m
     refine⟨e1,λU hst=> ?_⟩
     by_cases I:U=j
     ·subst I;rw [<-e1];exact W
     ·exact e2 U (by omega)
    |some L=>exact m
   ·((conv=>whnf);repeat ((first |(intro a;try simp only [lnS]at a)|refine sI ?_|refine qE_ ?_);conv=>whnf))
    rename_i N
    cases N
    ·((conv=>whnf);repeat' ((first|(intro a;(try simp only [lnS]at a);(try rewrite [List.length_map]))|refine sJ ?_|refine qE_ ?_|refine exL (k:=?_)|refine dwR ?_|((first|refine aA ?_ ?_|refine aC ?_ ?_)<;>intro hb<;>(first|exact ddX hb|try simp only [lnS]at hb))|(refine aB ?_ ?_<;>intro hb<;>try exact dsX hb))<;>(conv=>whnf)))
     exact⟨(j+1,L.length,some L),⟨qO,c,f,v,rfl,b⟩,qO,⟨qB,⟨rfl,rfl,rfl,trivial⟩⟩⟩
    ·exact absurd (List.map_eq_nil_iff.1 (a rfl)) c
  ·have e:j=R.length:=by dsimp only at T;omega
   subst e
   cases o with
   |none=>
    obtain⟨e1,e2⟩:=m
    have S:¬ mV (ET (dW l)):= λJ=>by
     obtain⟨L,w,t,c1,Z,c3⟩:=aUe (n.1 J)
     rw [F.len]at Z c3
     exact e2 _ Z L w t c1 rfl c3
    rw [D S]
    (repeat' first|(refine qW ?_;intros)|((conv=>whnf);first|refine dwR ?_|((first|refine aA ?_ ?_|refine aC ?_ ?_)<;>intro hb<;>(first|exact ddX hb|try simp only [lnS]at hb))|(refine aB ?_ ?_<;>intro hb<;>try exact dsX hb)))
    exact⟨_,rfl⟩
   |some L=>
    obtain⟨c,f,v,_,b⟩:=m
    rw [A (n.2 b)]
    ((conv=>whnf);repeat ((first |(intro a;try simp only [lnS]at a)|refine sI ?_|refine qE_ ?_);conv=>whnf))
    rename_i N
    cases N
    ·refine qX ?_;intros
     rw [show (L.map jQ).length=L.length from List.length_map ..]
     refine aK.own 2 66 9 1 rfl (bQ (by with_unfolding_all exact rfl)) ?_
     refine aD hty (λy:Nat×List Str=>([(2, .osl 66 1 (y.2.map bJ)),(5, .ptr 5 0),(42, .d (.sl 1 (L.map jQ))),(43, .d (.int .i64 L.length)),(44, .d (.int .i64 y.1))],(66, .own 9 1 (y.2.map bJ).length)::(5, .cells 158 [.d (aJq R), .d (.sl 1 (G.map aGf))])::NG)) (λy=>y.1<=L.length/\y.2.length<=y.1) (λy=>L.length - y.1) (0,[]) ⟨Nat.zero_le _,Nat.le_refl _⟩ ⟨qB,⟨rfl,rfl,rfl,rfl,trivial⟩⟩ ?_
     rintro⟨k,C⟩ ⟨u,hC⟩
     dsimp only at u hC
     refine qX ?_;intros
     refine aA (λY=> ?_) (λY=> ?_)
     ·have B:k < L.length:=by dsimp only at Y;omega
      have hrow:(L.map jQ)[((k:Nat):Int).toNat]? =some (jQ L[k]):=by
       rw [Int.toNat_natCast,List.getElem?_map,List.getElem?_eq_getElem B];rfl
      have O:=f _ (List.getElem_mem B)
      have hrow2:=eI O
      have z:(C.map bJ).length=C.length:=List.length_map ..
      have hb63:(C.map bJ).length+1<=9223372036854775807:=by rw [z];omega
      have hb48:((C.map bJ).length+1)* 16<=140737488355328:=by rw [z];omega
      have P:(C++[R[L[k]]]).map bJ=C.map bJ++[bJ R[L[k]]]:=by rw [List.map_append];rfl
      generalize R[L[k]]=s at *
      generalize L[k]=i at *
      refine qZ ?_;intros
      refine⟨(k+1,C++[s]),⟨qO,by dsimp only;rw [List.length_append,List.length_singleton];omega⟩,qO, ?_⟩
      dsimp only
      rw [P,List.length_append]
      exact⟨qB,⟨rfl,rfl,rfl,rfl,trivial⟩⟩
     ·(repeat' first|(refine qW ?_;intros)|((conv=>whnf);first|refine dwR ?_|((first|refine aA ?_ ?_|refine aC ?_ ?_)<;>intro hb<;>(first|exact ddX hb|try simp only [lnS]at hb))|(refine aB ?_ ?_<;>intro hb<;>try exact dsX hb)))
      exact⟨_,rfl⟩
    ·exact absurd (List.map_eq_nil_iff.1 (a rfl)) c
theorem aG5 {α:Type}{l:List α}{j:Nat}(h:j < l.length):l.drop j=l[j]::l.drop (j+1):=List.drop_eq_getElem_cons h
theorem aL6 (l:List Ax):Tri Tryz.prog 28 [.d (bDs l)] NG (λr=>r= .d (.int .i64 (dL l))):=by
 refine qG [1,4,5,9] hty Tryz.func28 [0,1,2,4,5,6,7,9,11,12,13,14,23,29,35,50,54,56,57,58,59,68] ?_
 refine qX ?_;intros
 refine aD hty (λj:Nat=>([(1, .ea 1 [[.sl 16 (l.map axR)]] 0 0),(2, .d (.int .i64 0)),(11, .d (.sl 16 (l.map axR))),(12, .d (.int .i64 l.length)),(13, .d (.int .i64 j))],NG)) (λj=>(j<=l.length/\ ∀x∈l.take j,cB x=(x,0))/\gZ l=gZ (l.drop j)) (λj=>l.length - j) 0 ⟨⟨by omega,by simp⟩,rfl⟩ ⟨by repeat' (first|exact trivial|exact rfl|(rw [List.length_map];exact rfl)|refine And.intro ?_ ?_),⟨rfl,rfl,trivial⟩⟩ ?_
 rintro j ⟨⟨W,hz⟩,q⟩
 refine qX ?_;intros
 refine aA (λn=> ?_) (λn=> ?_)
 ·have a:j < l.length:=by omega
  have g:=gW a
  have Y:=aCg l[j]
  have V:= λh:(cB l[j]).2=0=>aPx l[j] (cB l[j]).1 (aRl (gE h)) (aLv h)
  rw [aG5 a,gZ]at q
  have U:cB l[j]=(l[j],0)-> ∀x∈l.take (j+1),cB x=(x,0):= λf y B=>by
   rw [List.take_succ_eq_append_getElem a]at B
   rcases List.mem_append.1 B with B|B
   ·exact hz y B
   ·simp at B;subst B;exact f
  have I:(cB l[j]).2=0->eqA l[j] (cB l[j]).1=true->cB l[j]=(l[j],0):= λn f=>Prod.ext (tM.1 f).symm n
  have z:gZ l≠0->dL l=gZ l:= λh=>by unfold dL;rw [if_pos h]
  generalize cB l[j]=T at *
  obtain⟨X,e⟩:=T
  dsimp only at Y V q I
  generalize eqA l[j] X=b at *
  generalize l[j]=x at *
  ((conv=>whnf);repeat ((first|(refine⟨_,g, ?_⟩)|(refine aL NG Y ⟨rfl,rfl,trivial⟩ (λr R=> ?_);subst R) |(intro M;try simp only [lnS]at M)|refine sI ?_|refine qE_ ?_);conv=>whnf))
  refine aC (λf=> ?_) (λf=> ?_)
  ·rw [if_pos f]at q
   rw [z (by rw [q];exact f),q]
   (repeat' first|(refine qW ?_;intros)|((conv=>whnf);first|refine dwR ?_|((first|refine aA ?_ ?_|refine aC ?_ ?_)<;>intro hb<;>(first|exact ddX hb|try simp only [lnS]at hb))|(refine aB ?_ ?_<;>intro hb<;>try exact dsX hb)))
   rfl
  ·rw [if_neg (by simp [f])]at q
   have V:=V f
   refine qZ ?_;intros
   cases b
   ·rw [if_pos rfl]at q
    rw [z (by rw [q];decide),q]
    (repeat' first|(refine qW ?_;intros)|((conv=>whnf);first|refine dwR ?_|((first|refine aA ?_ ?_|refine aC ?_ ?_)<;>intro hb<;>(first|exact ddX hb|try simp only [lnS]at hb))|(refine aB ?_ ?_<;>intro hb<;>try exact dsX hb)))
    rfl
   ·rw [if_neg (by decide)]at q
    (repeat' first|(refine qW ?_;intros)|((conv=>whnf);first|refine dwR ?_|((first|refine aA ?_ ?_|refine aC ?_ ?_)<;>intro hb<;>(first|exact ddX hb|try simp only [lnS]at hb))|(refine aB ?_ ?_<;>intro hb<;>try exact dsX hb)))
    exact⟨j+1,⟨⟨by omega,U (I f rfl)⟩,q⟩,qO,⟨qB,⟨rfl,rfl,trivial⟩⟩⟩
 have a:j=l.length:=by omega
 subst a
 rw [List.take_length]at hz
 have w:gZ l=0:=(mK l).2 hz
 have G: ∀x∈l,SmA x:= λx hx=>aRl (gE (by rw [hz x hx]))
 clear q W n
 refine qX ?_;intros
 refine aD hty (λi:Nat=>([(1, .ea 1 [[.sl 16 (l.map axR)]] 0 0),(2, .d (.int .i64 0)),(7, .d (.int .i64 i))],NG)) (λi=>(1<=i/\(i<=l.length\/i=1))/\gN l=gN (l.drop (i - 1))) (λi=>l.length - i) 1 ⟨by omega,rfl⟩ ⟨qB,⟨rfl,rfl,trivial⟩⟩ ?_
 rintro i ⟨⟨N,L⟩,t⟩
 refine qX ?_;intros
 refine aA (λn=> ?_) (λn=> ?_)
 ·have u:i < l.length:=by have n:(i:Int) < ((l.map axR).length:Nat):=n;rw [List.length_map]at n;omega
  have D:i - 1 < l.length:=by omega
  have g:=gW u
  have hrow2:(l.map axR)[((i:Int) - 1).toNat]? =some (axR l[i - 1]):=by
   rw [show ((i:Int) - 1).toNat=i - 1 by omega,List.getElem?_map,List.getElem?_eq_getElem D];rfl
  have S:=G _ (List.getElem_mem u)
  have P:=G _ (List.getElem_mem D)
  have c:=mT l[i - 1] l[i] P.1 P.2.1 P.2.2 S.1 S.2.1 S.2.2
  rw [aG5 D,show i - 1+1=i by omega,aG5 u,gN,<-aG5 u]at t
  have z:gN l=false->dL l=70:= λh=>by unfold dL;rw [if_neg (by simp [w]),if_pos h]
  generalize fW l[i - 1] l[i]=v at *
  generalize l[i - 1]=y at *
  generalize l[i]=x at *
  refine qX ?_;intros
  refine dwR ?_
  refine qZ ?_;intros
  refine aC (λf=> ?_) (λf=> ?_)
  ·rw [z (by rw [t];simp [f])]
   (repeat' first|(refine qW ?_;intros)|((conv=>whnf);first|refine dwR ?_|((first|refine aA ?_ ?_|refine aC ?_ ?_)<;>intro hb<;>(first|exact ddX hb|try simp only [lnS]at hb))|(refine aB ?_ ?_<;>intro hb<;>try exact dsX hb)))
   rfl
  ·(repeat' first|(refine qW ?_;intros)|((conv=>whnf);first|refine dwR ?_|((first|refine aA ?_ ?_|refine aC ?_ ?_)<;>intro hb<;>(first|exact ddX hb|try simp only [lnS]at hb))|(refine aB ?_ ?_<;>intro hb<;>try exact dsX hb)))
   refine⟨i+1,⟨by omega, ?_⟩,qO,⟨qB,⟨rfl,rfl,trivial⟩⟩⟩
   rw [t,show i+1 - 1=i by omega]
   simp [f]
 have E:gN l=true:=by
  have n:¬ (i:Int) < ((l.map axR).length:Nat):=n
  rw [List.length_map]at n
  rw [t]
  have hd:(l.drop (i - 1)).length<=1:=by rw [List.length_drop];omega
  match l.drop (i - 1),hd with
  | [],_=>rfl
  | [x],_=>rfl
  |x::y::r,h=>simp at h
 clear t n N L
 have J:1024 < l.length->dL l=2:= λh=>by unfold dL;rw [if_neg (by simp [w]),if_neg (by simp [E]),if_pos h]
 have K:¬ 1024 < l.length->l.any eK=true->dL l=71:= λh f=>by unfold dL;rw [if_neg (by simp [w]),if_neg (by simp [E]),if_neg h,if_pos f]
 have F:¬ 1024 < l.length->l.any eK=false->dL l=eZ l:= λh f=>by unfold dL;rw [if_neg (by simp [w]),if_neg (by simp [E]),if_neg h,if_neg (by simp [f])]
 refine qX ?_;intros
 refine aA (λC=> ?_) (λC=> ?_)
 ·have C:(1024:Int) < ((l.map axR).length:Nat):=C
  rw [List.length_map]at C
  rw [J (by omega)]
  (repeat' first|(refine qW ?_;intros)|((conv=>whnf);first|refine dwR ?_|((first|refine aA ?_ ?_|refine aC ?_ ?_)<;>intro hb<;>(first|exact ddX hb|try simp only [lnS]at hb))|(refine aB ?_ ?_<;>intro hb<;>try exact dsX hb)))
  rfl
 have A:¬ 1024 < l.length:=by
  have C:¬ (1024:Int) < ((l.map axR).length:Nat):=C
  rw [List.length_map]at C
  omega
 have O:=aOi l (by omega)
 refine qX ?_;intros
 rw [List.length_map]
 refine aD hty (λj:Nat=>([(1, .ea 1 [[.sl 16 (l.map axR)]] 0 0),(2, .d (.int .i64 0)),(56, .d (.sl 16 (l.map axR))),(57, .d (.int .i64 l.length)),(58, .d (.int .i64 j))],NG)) (λj=>j<=l.length/\(l.take j).any eK=false) (λj=>l.length - j) 0 ⟨by omega,rfl⟩ ⟨qB,⟨rfl,rfl,trivial⟩⟩ ?_
 rintro j ⟨W,Q⟩
 refine qX ?_;intros
 refine aA (λZ=> ?_) (λZ=> ?_)
 ·have a:j < l.length:=by omega
  have g:=gW a
  have c:=aKp l[j]
  have m:eK l[j]=true->l.any eK=true:= λh=>List.any_eq_true.2 ⟨_,List.getElem_mem a,h⟩
  have p:eK l[j]=false->(l.take (j+1)).any eK=false:= λh=>by
   rw [List.take_succ_eq_append_getElem a,List.any_append,Q];simpa using h
  have H:eK l[j]=(aC1 l[j] && !l[j].isopen):=rfl
  rw [H]at m p
  clear H
  generalize aC1 l[j]=b at *
  obtain⟨x,hx⟩: ∃x,x=l[j]:=⟨_,rfl⟩
  rw [<-hx]at g c m p
  clear hx
  obtain⟨k,o,a1,a2,a3,a4,a5,a6⟩:=x
  dsimp only at m p
  cases b<;>cases o
  all_goals ((conv=>whnf);repeat' ((first|(intro M;(try simp only [lnS]at M);(try rewrite [List.length_map]))|refine sJ ?_|refine qE_ ?_|refine exL (k:=?_)| (refine⟨_,g, ?_⟩)|refine qT c ?_|refine dwR ?_|((first|refine aA ?_ ?_|refine aC ?_ ?_)<;>intro hb<;>(first|exact ddX hb|try simp only [lnS]at hb))|(refine aB ?_ ?_<;>intro hb<;>try exact dsX hb))<;>(conv=>whnf)))
  ·exact⟨j+1,⟨by omega,p rfl⟩,qO,⟨qB,⟨rfl,rfl,trivial⟩⟩⟩
  ·exact⟨j+1,⟨by omega,p rfl⟩,qO,⟨qB,⟨rfl,rfl,trivial⟩⟩⟩
  ·rw [K A (m rfl)];rfl
  ·exact⟨j+1,⟨by omega,p rfl⟩,qO,⟨qB,⟨rfl,rfl,trivial⟩⟩⟩
 ·have a:j=l.length:=by omega
  subst a
  rw [List.take_length]at Q
  rw [F A Q]
  refine qX ?_;intros
  refine aL NG O ⟨rfl,rfl,trivial⟩ (λr R=> ?_)
  obtain⟨s,rfl⟩:=R.ex
  (repeat' first|(refine qW ?_;intros)|((conv=>whnf);first|refine dwR ?_|((first|refine aA ?_ ?_|refine aC ?_ ?_)<;>intro hb<;>(first|exact ddX hb|try simp only [lnS]at hb))|(refine aB ?_ ?_<;>intro hb<;>try exact dsX hb)))
  rfl
theorem xM (x:Ax) (h1:aM x.left<=1000000) (h2:aM x.right<=1000000) (h3:x.roles.length<=1000000):Tri Tryz.prog 114 [.d (.agg (axR x))] [] (λr=>r= .d (.int .i64 (gL x))):=by
 have f:=mC x.left h1
 have e:=mC x.right h2
 rw [aJ]at f e
 have c:gL x=(x.roles.length:Int)+aFw x.left+aFw x.right+aRk x.role+aRk x.a+aRk x.b:=by
  unfold gL;simp only [aJe,aJd];omega
 rw [c,aFw,aFw,aRk,aRk,aRk]
 clear c
 generalize aM x.left=m1 at *
 generalize aM x.right=m2 at *
 refine qG [1] hty Tryz.func114 [0,1,2,3,10,19,27,32,37] ?_
 (repeat' first|(refine qW ?_;intros)|((conv=>whnf);first|refine dwR ?_|((first|refine aA ?_ ?_|refine aC ?_ ?_)<;>intro hb<;>(first|exact ddX hb|try simp only [lnS]at hb))|(refine aB ?_ ?_<;>intro hb<;>try exact dsX hb)))
 all_goals (refine cM ?_;simp_all<;>omega)
theorem aXq (x y:Ax):fW x y=orF [nP (gL x) (gL y),nP x.kind y.kind,iG x.left y.left,iG x.right y.right,dA x.roles y.roles,hJ x.role y.role,hJ x.a y.a,hJ x.b y.b]:=by
 unfold fW vW xW
 simp only [orF]
 repeat' split
 all_goals first|rfl|omega
theorem aZz (a s:Int) (r:List Int):orF (a::s::r)=orF ((if a≠0 then a else s)::r):=by
 by_cases h:a=0<;>simp [orF,h]
theorem aUa {l m:List (List UInt8)}{j:Nat}(h1:j<=l.length) (h2:j<=m.length) (h:¬ (j < l.length/\j < m.length)):dA (l.drop j) (m.drop j)=nP l.length m.length:=by
 unfold nP
 by_cases hl:j < l.length
 ·have a:m.drop j=[]:=List.drop_eq_nil_of_le (by omega)
  rw [List.drop_eq_getElem_cons hl,a,dA,if_neg (by omega),if_pos (by omega)]
 ·have a:l.drop j=[]:=List.drop_eq_nil_of_le (by omega)
  rw [a]
  by_cases a:j < m.length
  ·rw [List.drop_eq_getElem_cons a,dA,if_pos (by omega)]
  ·rw [show m.drop j=[]from List.drop_eq_nil_of_le (by omega),dA,if_neg (by omega),if_neg (by omega)]
theorem gR (x y:Ax) (o:aM x.left<=1000000) (m:aM x.right<=1000000) (h3:x.roles.length<=1000000) (h4:aM y.left<=1000000) (h5:aM y.right<=1000000) (h6:y.roles.length<=1000000):
  Tri Tryz.prog 62 [.d (.agg (axR x)), .d (.agg (axR y))] [] (λr=>r= .d (.int .i64 (fW x y))):=by
 have K:=xM x o m h3
 have I:=xM y h4 h5 h6
 have C:=fD (gL x) (gL y)
 have D:=fD x.kind y.kind
 have v:=jJ x.left y.left o h4
 have w:=jJ x.right y.right m h5
 have A:=fD x.roles.length y.roles.length
 have E:=gQ x.role y.role
 have G:=gQ x.a y.a
 have B:=gQ x.b y.b
 rw [aJ,aJ]at v w
 rw [aXq]
 generalize nP (gL x) (gL y)=n0 at C |-
 generalize nP x.kind y.kind=n1 at D |-
 generalize iG x.left y.left=n2 at v |-
 generalize iG x.right y.right=n3 at w |-
 generalize hJ x.role y.role=n6 at E |-
 generalize hJ x.a y.a=n7 at G |-
 generalize hJ x.b y.b=n8 at B |-
 refine qG [2,3] hty Tryz.func62 [0,1,2,3,4,5,6,13,20,27,48,63,72,79,86] ?_
 (repeat' first|(refine qW ?_;intros)|((conv=>whnf);first|refine dwR ?_|((first|refine aA ?_ ?_|refine aC ?_ ?_)<;>intro hb<;>(first|exact ddX hb|try simp only [lnS]at hb))|(refine aB ?_ ?_<;>intro hb<;>try exact dsX hb)))
 ·refine aD hty (λq:Nat×Int=>([(2, .ea 16 [axR x] 0 0),(3, .ea 16 [axR y] 0 0),(5, .d (.int .i64 q.2)),(6, .d (.int .i64 q.1))],[])) (λq=>q.1<=x.roles.length/\q.1<=y.roles.length/\(if q.2≠0 then q.2 else dA (x.roles.drop q.1) (y.roles.drop q.1))=(if n3≠0 then n3 else dA x.roles y.roles)) (λq=>x.roles.length - q.1) (0,n3) ⟨qO,qO,rfl⟩ ⟨by repeat' (first|exact trivial|exact rfl|exact⟨rfl,rfl⟩|refine And.intro ?_ ?_),trivial⟩ ?_
  rintro⟨j,n⟩ ⟨F,p,f⟩
  dsimp only at F p f
  have c:orF [n0,n1,n2,n3,dA x.roles y.roles,n6,n7,n8]=orF [if n3≠0 then n3 else dA x.roles y.roles,n6,n7,n8]:=by
   have H:n0=0:=by assumption
   have e1:n1=0:=by assumption
   have e2:n2=0:=by assumption
   rw [H,e1,e2]
   exact aZz n3 _ _
  rw [c]
  clear c C D v w K I
  by_cases s:n=0/\j < x.roles.length/\j < y.roles.length
  ·obtain⟨rfl,o,m⟩:=s
   have i:(x.roles.map bJ)[(j:Int).toNat]? =some (bJ x.roles[j]):=bA o
   have g:(y.roles.map bJ)[(j:Int).toNat]? =some (bJ y.roles[j]):=bA m
   have e:=gQ x.roles[j] y.roles[j]
   rw [if_neg (by simp),List.drop_eq_getElem_cons o,List.drop_eq_getElem_cons m,dA]at f
   generalize x.roles[j]=u at i f e
   generalize y.roles[j]=z at g f e
   (repeat' first|(refine qW ?_;intros)|((conv=>whnf);first|refine dwR ?_|((first|refine aA ?_ ?_|refine aC ?_ ?_)<;>intro hb<;>(first|exact ddX hb|try simp only [lnS]at hb))|(refine aB ?_ ?_<;>intro hb<;>try exact dsX hb)))
   exact⟨(j+1,hJ u z),⟨qO,qO,f⟩,qO,qB,trivial⟩
  ·by_cases l:n=0
   ·subst l
    have t:¬ (j < x.roles.length/\j < y.roles.length):= λh=>s ⟨rfl,h⟩
    rw [if_neg (by simp),aUa F p t]at f
    rw [<-f]
    generalize nP x.roles.length y.roles.length=n5 at A
    ((conv=>whnf);repeat' ((first|(intro J;(try simp only [lnS]at J);(try rewrite [List.length_map]))|refine sJ ?_|refine qE_ ?_|refine exL (k:=?_)| refine qT A ?_|refine qT E ?_|refine qT G ?_|refine qT B ?_|refine dwR ?_|((first|refine aA ?_ ?_|refine aC ?_ ?_)<;>intro hb<;>(first|exact ddX hb|try simp only [lnS]at hb))|(refine aB ?_ ?_<;>intro hb<;>try exact dsX hb))<;>(conv=>whnf)))
    all_goals (refine cM ?_;simp [orF, *])
   ·rw [if_pos l]at f
    rw [<-f]
    (repeat' first|(refine qW ?_;intros)|((conv=>whnf);first|refine dwR ?_|((first|refine aA ?_ ?_|refine aC ?_ ?_)<;>intro hb<;>(first|exact ddX hb|try simp only [lnS]at hb))|(refine aB ?_ ?_<;>intro hb<;>try exact dsX hb)))
    refine cM ?_
    clear f
    simp [orF, *]
 all_goals
  refine aD hty (λ_:Unit=>([(2, .ea 16 [axR x] 0 0),(3, .ea 16 [axR y] 0 0),(5, .d (.int .i64 _)),(6, .d (.int .i64 0))],[])) (λ_=>True) (λ_=>0) () trivial ⟨by repeat' (first|exact trivial|exact rfl|exact⟨rfl,rfl⟩|refine And.intro ?_ ?_),trivial⟩ ?_
  rintro⟨⟩ _
  (repeat' first|(refine qW ?_;intros)|((conv=>whnf);first|refine dwR ?_|((first|refine aA ?_ ?_|refine aC ?_ ?_)<;>intro hb<;>(first|exact ddX hb|try simp only [lnS]at hb))|(refine aB ?_ ?_<;>intro hb<;>try exact dsX hb)))
  refine cM (Eq.symm ?_)
  simp [orF, *]
end
section
open Go.RowKit
section
variable {P:Program}
end
end
section
attribute [local irreducible] aK aF Tri aH YVC cG aT
set_option maxRecDepth 10000
def aMt (done:Bool) (c:Cn) (l:List Cn):List Cn:=if done then l else yY c l
theorem xN (l:List Cn) (c:Cn) (hc:aM c<=1000000) (hl: ∀d∈l,aM d<=1000000) (hn:l.length<=1000000):Tri Tryz.prog 209 [.d (.sl 5 (l.map cnR)), .d (.agg (cnR c))] [] (λr=>r= .d (.sl 5 ((yY c l).map cnR))):=by
 have t:=aJ c
 rw [aJ c]
 refine qG [3] hty Tryz.func209 [0,1,3,4,5,6,7,8,13,23,29,42] ?_
 refine qX ?_;intros
 refine aD hty (λy:Nat×Bool×List Cn=>([(0, .d (.sl 5 (l.map cnR))),(3, .ea 5 [[.int .i64 c.kind, .str c.name, .int .i64 c.lo, .int .i64 c.hi, .sl 5 (c.parts.map cnR)]] 0 0),(5, .osl 9 5 (y.2.2.map cnR)),(6, .d (.bool y.2.1)),(7, .d (.int .i64 y.1))],[(9, .own 45 5 (y.2.2.map cnR).length)])) (λy=>(y.1<=l.length/\y.2.2.length<=y.1+(if y.2.1 then 1 else 0))/\y.2.2++aMt y.2.1 c (l.drop y.1)=yY c l) (λy=>l.length - y.1) (0,false,[]) ⟨⟨qO,by simp⟩,rfl⟩ ⟨qB,qB⟩ ?_
 rintro⟨j,m,out⟩ ⟨⟨w,g⟩,a⟩
 dsimp only at w g a
 refine qX ?_;intros
 refine aA (λs=> ?_) (λs=> ?_)
 ·have h:j < l.length:=by have s:(j:Int) < ((l.map cnR).length:Nat):=s;rw [List.length_map]at s;omega
  have p:(l.map cnR)[(j:Int).toNat]? =some (cnR l[j]):=bA h
  have k:=jJ c l[j] hc (hl _ (List.getElem_mem h))
  rw [List.drop_eq_getElem_cons h]at a
  generalize l[j]=d at p k a
  have o:=aJ d
  rw [aJ,aJ]at k
  rw [aJ]at p
  have f:yY c (d::l.drop (j+1))=if iG c d < 0 then c::d::l.drop (j+1)else if iG c d=0 then d::l.drop (j+1)else d::yY c (l.drop (j+1)):=rfl
  generalize iG c d=n at k f
  have v:out.length<=j+1:=by split at g<;>omega
  (repeat' first|(refine qW ?_;intros)|((conv=>whnf);first|refine dwR ?_|((first|refine aA ?_ ?_|refine aC ?_ ?_)<;>intro hb<;>(first|exact ddX hb|try simp only [lnS]at hb))|(refine aB ?_ ?_<;>intro hb<;>try exact dsX hb)))
  ·rename_i i
   have b:aMt m c (d::l.drop (j+1))=d::aMt true c (l.drop (j+1)):=by
    cases m
    ·rw [aMt,if_neg (by decide),f,if_neg hb,if_pos i];rfl
    ·rfl
   rw [b]at a
   refine⟨(j+1,true,out++[d]),⟨⟨qO,by dsimp only;rw [List.length_append,List.length_singleton];first|omega|(simp at g |-;omega)|(simp at g |-;split at g<;>omega)⟩,by dsimp only;rw [List.append_assoc];exact a⟩,qO, ?_⟩
   dsimp only
   rw [List.map_append,List.map_singleton,o,List.length_append]
   exact⟨qB,qB⟩
  ·rename_i i u
   have e:m=false:=by simpa using hb
   subst e
   have b:aMt false c (d::l.drop (j+1))=c::d::aMt true c (l.drop (j+1)):=by rw [aMt,if_neg (by decide),f,if_pos u];rfl
   rw [b]at a
   refine⟨(j+1,true,out++[c]++[d]),⟨⟨qO,by dsimp only;simp only [List.length_append,List.length_singleton]at *;simp at g |-;omega⟩,by dsimp only;rw [List.append_assoc,List.append_assoc];exact a⟩,qO, ?_⟩
   dsimp only
   rw [List.map_append,List.map_append,List.map_singleton,List.map_singleton,o,t]
   simp only [List.length_append]
   exact⟨qB,qB⟩
  ·rename_i i u
   have e:m=true:=by simpa using hb
   subst e
   rw [show aMt true c (d::l.drop (j+1))=d::aMt true c (l.drop (j+1))from rfl]at a
   refine⟨(j+1,true,out++[d]),⟨⟨qO,by dsimp only;rw [List.length_append,List.length_singleton];first|omega|(simp at g |-;omega)|(simp at g |-;split at g<;>omega)⟩,by dsimp only;rw [List.append_assoc];exact a⟩,qO, ?_⟩
   dsimp only
   rw [List.map_append,List.map_singleton,o,List.length_append]
   exact⟨qB,qB⟩
  ·rename_i i
   have b:aMt m c (d::l.drop (j+1))=d::aMt m c (l.drop (j+1)):=by
    cases m
    ·rw [aMt,if_neg (by decide),f,if_neg hb,if_neg i];rfl
    ·rfl
   rw [b]at a
   refine⟨(j+1,m,out++[d]),⟨⟨qO,by dsimp only;rw [List.length_append,List.length_singleton];first|omega|(simp at g |-;omega)|(simp at g |-;split at g<;>omega)⟩,by dsimp only;rw [List.append_assoc];exact a⟩,qO, ?_⟩
   dsimp only
   rw [List.map_append,List.map_singleton,o,List.length_append]
   exact⟨qB,qB⟩
 ·have h:j=l.length:=by have s:¬ (j:Int) < ((l.map cnR).length:Nat):=s;rw [List.length_map]at s;omega
  have v:out.length<=j+1:=by split at g<;>omega
  subst h
  rw [List.drop_length]at a
  (repeat' first|(refine qW ?_;intros)|((conv=>whnf);first|refine dwR ?_|((first|refine aA ?_ ?_|refine aC ?_ ?_)<;>intro hb<;>(first|exact ddX hb|try simp only [lnS]at hb))|(refine aB ?_ ?_<;>intro hb<;>try exact dsX hb)))
  ·have e:m=false:=by simpa using hb
   subst e
   rw [<-a]
   refine congrArg (λq=>SV.d (.sl 5 q)) ?_
   simp [aMt,yY,t]
  ·have e:m=true:=by simpa using hb
   subst e
   rw [<-a,show aMt true c []=[]from rfl,List.append_nil]
   rfl
def pF (c:Cn):List Cn:=if c.kind=5 then c.parts else [c]
def fC (s l:List Cn):List Cn:=l.foldl (λr t=>if t.kind=1 then r else yY t r) s
theorem aA2 (s l m:List Cn):fC s (l++m)=fC (fC s l) m:=List.foldl_append
theorem aD6 {s l:List Cn}{j:Nat}(h:j < l.length):fC s (l.take (j+1))=if l[j].kind=1 then fC s (l.take j)else yY l[j] (fC s (l.take j)):=by
 rw [List.take_succ_eq_append_getElem h,aA2];rfl
theorem aA1: ∀(l s:List Cn),aLd s->aLd (fC s l)
 | [],s,h=>h
 |c::r,s,h=>by
  show aLd (fC (if c.kind=1 then s else yY c s) r)
  split
  ·exact aA1 r s h
  ·exact aA1 r _ (aEs h)
theorem aH3 {x:Cn}: ∀(l s:List Cn),x∈fC s l↔x∈s\/x∈l/\x.kind≠1
 | [],s=>by simp [fC]
 |c::r,s=>by
  have d:=aH3 (x:=x) r (if c.kind=1 then s else yY c s)
  show x∈fC (if c.kind=1 then s else yY c s) r↔_
  rw [d]
  split
  ·rename_i b
   constructor
   ·rintro(h|⟨h,a⟩)
    ·exact .inl h
    ·exact .inr ⟨by simp [h],a⟩
   ·rintro(h|⟨h,a⟩)
    ·exact .inl h
    ·rcases List.mem_cons.1 h with rfl|h
     ·exact absurd b a
     ·exact .inr ⟨h,a⟩
  ·rename_i b
   rw [yU]
   constructor
   ·rintro((rfl|h)|⟨h,a⟩)
    ·exact .inr ⟨by simp,b⟩
    ·exact .inl h
    ·exact .inr ⟨by simp [h],a⟩
   ·rintro(h|⟨h,a⟩)
    ·exact .inl (.inr h)
    ·rcases List.mem_cons.1 h with rfl|h
     ·exact .inl (.inl rfl)
     ·exact .inr ⟨h,a⟩
theorem oM: ∀(l s:List Cn),iA (fC s l)<=iA s+iA l
 | [],s=>by simp [fC]
 |c::r,s=>by
  have b:=oM r (if c.kind=1 then s else yY c s)
  show iA (fC (if c.kind=1 then s else yY c s) r)<=_
  rw [bP]
  split at b
  ·rename_i a;rw [if_pos a];omega
  ·rename_i a;rw [if_neg a]
   have:=aEq c s
   omega
theorem bC2 (c:Cn):iA (pF c)<=aM c:=by
 unfold pF
 split
 ·have:=cP c;omega
 ·rw [bP,kZ];omega
theorem aKg: ∀l:List Cn,iA (l.flatMap pF)<=iA l
 | []=>by simp
 |c::r=>by
  have h1:=aKg r
  have h2:=bC2 c
  rw [List.flatMap_cons,nA,bP];omega
theorem aOr (l:List Cn) (hl:iA l<=1000000):Tri Tryz.prog 168 [.d (.sl 5 (l.map cnR))] [] (PairW (eV (fC [] (l.flatMap pF))).1 (eV (fC [] (l.flatMap pF))).2):=by
 have hln:=jL l
 refine qG [] hty Tryz.func168 [0,2,3,4,5,6,7,8,13,26,35,43,53,61,68,72,78] ?_
 refine qX ?_;intros
 refine aD hty (λj:Nat=>([(0, .d (.sl 5 (l.map cnR))),(2, .ptr 2 0),(4, .d (.sl 5 ((fC [] ((l.take j).flatMap pF)).map cnR))),(5, .d (.int .i64 j))],[(2, .cells 45 [.d (.int .i64 0), .d (.str []), .d (.int .i64 0), .d (.int .i64 0), .d .nil])])) (λj=>j<=l.length) (λj=>l.length - j) 0 (by omega) ⟨qB,qB⟩ ?_
 rintro j hj
 refine qX ?_;intros
 refine aA (λq=> ?_) (λq=> ?_)
 ·have n:j < l.length:=by have q:(j:Int) < ((l.map cnR).length:Nat):=q;rw [List.length_map]at q;omega
  have h:(l.map cnR)[(j:Int).toNat]? =some (cnR l[j]):=bA n
  have v:(l.take (j+1)).flatMap pF=(l.take j).flatMap pF++pF l[j]:=by rw [List.take_succ_eq_append_getElem n,List.flatMap_append];simp
  have w:=aKg (l.take (j+1))
  have hst:iA (l.take (j+1))<=iA l:=eU l (j+1)
  rw [v,nA]at w
  have u:=oM ((l.take j).flatMap pF) []
  rw [kZ]at u
  generalize l[j]=x at *
  have A:=aJ x
  rw [aJ]at h
  generalize (l.take j).flatMap pF=done at *
  refine qZ ?_;intros
  refine aA (λB=> ?_) (λB=> ?_)
  ·have p:pF x=x.parts:=if_pos B
   refine qZ ?_;intros
   refine aD hty (λk:Nat=>([(0, .d (.sl 5 (l.map cnR))),(2, .ptr 2 0),(4, .d (.sl 5 ((fC (fC [] done) ((pF x).take k)).map cnR))),(5, .d (.int .i64 j)),(6, .d (.sl 5 ((pF x).map cnR))),(7, .d (.int .i64 k))],[(2, .cells 45 [.d (.int .i64 0), .d (.str []), .d (.int .i64 0), .d (.int .i64 0), .d .nil])])) (λk=>k<=(pF x).length) (λk=>(pF x).length - k) 0 (by omega) ?_ ?_
   ·rw [p]
    try rw [List.map_singleton,A]
    exact⟨qB,qB⟩
   rintro k O
   generalize pF x=ps at *
   have C:=oM (ps.take k) (fC [] done)
   have M:iA (ps.take k)<=iA ps:=eU ps k
   have G:=jL (fC (fC [] done) (ps.take k))
   refine qX ?_;intros
   refine aA (λb=> ?_) (λb=> ?_)
   ·have c:k < ps.length:=by have b:(k:Int) < ((ps.map cnR).length:Nat):=b;rw [List.length_map]at b;omega
    have e:(ps.map cnR)[(k:Int).toNat]? =some (cnR ps[k]):=bA c
    have f:=aD6 (s:=fC [] done) c
    have D:=mZ (List.getElem_mem c)
    have g:=xN (fC (fC [] done) (ps.take k)) ps[k] (by omega) (λd L=>by have:=mZ L;omega) (by omega)
    generalize ps[k]=y at *
    have H:=aJ y
    rw [aJ]at e g
    refine qZ ?_;intros
    refine aC (λm=> ?_) (λm=> ?_)
    ·((conv=>whnf);repeat ((first|(refine⟨_,e, ?_⟩) |(intro F;try simp only [lnS]at F)|refine sI ?_|refine qE_ ?_);conv=>whnf))
     refine aL [] g trivial (λr I=> ?_)
     subst I
     (repeat' first|(refine qW ?_;intros)|((conv=>whnf);first|refine dwR ?_|((first|refine aA ?_ ?_|refine aC ?_ ?_)<;>intro hb<;>(first|exact ddX hb|try simp only [lnS]at hb))|(refine aB ?_ ?_<;>intro hb<;>try exact dsX hb)))
     rw [if_neg m]at f
     rw [<-f]
     exact⟨k+1,by omega,qO,⟨qB,qB⟩⟩
    ·(repeat' first|(refine qW ?_;intros)|((conv=>whnf);first|refine dwR ?_|((first|refine aA ?_ ?_|refine aC ?_ ?_)<;>intro hb<;>(first|exact ddX hb|try simp only [lnS]at hb))|(refine aB ?_ ?_<;>intro hb<;>try exact dsX hb)))
     rw [if_pos (by simpa using m)]at f
     rw [<-f]
     exact⟨k+1,by omega,qO,⟨qB,qB⟩⟩
   ·have c:k=ps.length:=by have b:¬ (k:Int) < ((ps.map cnR).length:Nat):=b;rw [List.length_map]at b;omega
    subst c
    rw [List.take_length,<-aA2,<-v]
    (repeat' first|(refine qW ?_;intros)|((conv=>whnf);first|refine dwR ?_|((first|refine aA ?_ ?_|refine aC ?_ ?_)<;>intro hb<;>(first|exact ddX hb|try simp only [lnS]at hb))|(refine aB ?_ ?_<;>intro hb<;>try exact dsX hb)))
    exact⟨j+1,by omega,qO,⟨qB,qB⟩⟩
  ·have p:pF x=[x]:=if_neg B
   refine qZ ?_;intros
   refine aD hty (λk:Nat=>([(0, .d (.sl 5 (l.map cnR))),(2, .ptr 2 0),(4, .d (.sl 5 ((fC (fC [] done) ((pF x).take k)).map cnR))),(5, .d (.int .i64 j)),(6, .d (.sl 5 ((pF x).map cnR))),(7, .d (.int .i64 k))],[(2, .cells 45 [.d (.int .i64 0), .d (.str []), .d (.int .i64 0), .d (.int .i64 0), .d .nil])])) (λk=>k<=(pF x).length) (λk=>(pF x).length - k) 0 (by omega) ?_ ?_
   ·rw [p]
    try rw [List.map_singleton,A]
    exact⟨qB,qB⟩
   rintro k O
   generalize pF x=ps at *
   have C:=oM (ps.take k) (fC [] done)
   have M:iA (ps.take k)<=iA ps:=eU ps k
   have G:=jL (fC (fC [] done) (ps.take k))
   refine qX ?_;intros
   refine aA (λb=> ?_) (λb=> ?_)
   ·have c:k < ps.length:=by have b:(k:Int) < ((ps.map cnR).length:Nat):=b;rw [List.length_map]at b;omega
    have e:(ps.map cnR)[(k:Int).toNat]? =some (cnR ps[k]):=bA c
    have f:=aD6 (s:=fC [] done) c
    have D:=mZ (List.getElem_mem c)
    have g:=xN (fC (fC [] done) (ps.take k)) ps[k] (by omega) (λd L=>by have:=mZ L;omega) (by omega)
    generalize ps[k]=y at *
    have H:=aJ y
    rw [aJ]at e g
    refine qZ ?_;intros
    refine aC (λm=> ?_) (λm=> ?_)
    ·((conv=>whnf);repeat ((first|(refine⟨_,e, ?_⟩) |(intro F;try simp only [lnS]at F)|refine sI ?_|refine qE_ ?_);conv=>whnf))
     refine aL [] g trivial (λr I=> ?_)
     subst I
     (repeat' first|(refine qW ?_;intros)|((conv=>whnf);first|refine dwR ?_|((first|refine aA ?_ ?_|refine aC ?_ ?_)<;>intro hb<;>(first|exact ddX hb|try simp only [lnS]at hb))|(refine aB ?_ ?_<;>intro hb<;>try exact dsX hb)))
     rw [if_neg m]at f
     rw [<-f]
     exact⟨k+1,by omega,qO,⟨qB,qB⟩⟩
    ·(repeat' first|(refine qW ?_;intros)|((conv=>whnf);first|refine dwR ?_|((first|refine aA ?_ ?_|refine aC ?_ ?_)<;>intro hb<;>(first|exact ddX hb|try simp only [lnS]at hb))|(refine aB ?_ ?_<;>intro hb<;>try exact dsX hb)))
     rw [if_pos (by simpa using m)]at f
     rw [<-f]
     exact⟨k+1,by omega,qO,⟨qB,qB⟩⟩
   ·have c:k=ps.length:=by have b:¬ (k:Int) < ((ps.map cnR).length:Nat):=b;rw [List.length_map]at b;omega
    subst c
    rw [List.take_length,<-aA2,<-v]
    (repeat' first|(refine qW ?_;intros)|((conv=>whnf);first|refine dwR ?_|((first|refine aA ?_ ?_|refine aC ?_ ?_)<;>intro hb<;>(first|exact ddX hb|try simp only [lnS]at hb))|(refine aB ?_ ?_<;>intro hb<;>try exact dsX hb)))
    exact⟨j+1,by omega,qO,⟨qB,qB⟩⟩
 have n:j=l.length:=by have q:¬ (j:Int) < ((l.map cnR).length:Nat):=q;rw [List.length_map]at q;omega
 subst n
 rw [List.take_length]
 have u:=oM (l.flatMap pF) []
 have hps:=aKg l
 rw [kZ]at u
 have hsl:=jL (fC [] (l.flatMap pF))
 generalize fC [] (l.flatMap pF)=s at *
 refine qX ?_;intros
 refine aD hty (λi:Nat=>([(2, .ptr 2 0),(4, .d (.sl 5 (s.map cnR))),(8, .d (.int .i64 i))],[(2, .cells 45 [.d (.int .i64 0), .d (.str []), .d (.int .i64 0), .d (.int .i64 0), .d .nil])])) (λi=>i<=s.length/\(s.take i).find? (λt=>decide (t.kind=2))=none) (λi=>s.length - i) 0 ⟨by omega,rfl⟩ ⟨qB,qB⟩ ?_
 rintro i ⟨hi,g⟩
 refine qX ?_;intros
 refine aA (λb=> ?_) (λb=> ?_)
 ·have o:i < s.length:=by have b:(i:Int) < ((s.map cnR).length:Nat):=b;rw [List.length_map]at b;omega
  have h:(s.map cnR)[(i:Int).toNat]? =some (cnR s[i]):=bA o
  rw [aJ]at h
  obtain⟨K,J⟩:=aIe o g
  refine qZ ?_;intros
  refine aA (λm=> ?_) (λm=> ?_)
  ·(repeat' first|(refine qW ?_;intros)|((conv=>whnf);first|refine dwR ?_|((first|refine aA ?_ ?_|refine aC ?_ ?_)<;>intro hb<;>(first|exact ddX hb|try simp only [lnS]at hb))|(refine aB ?_ ?_<;>intro hb<;>try exact dsX hb)))
   rw [aE2 (K m)]
   exact uJ _ _
  ·(repeat' first|(refine qW ?_;intros)|((conv=>whnf);first|refine dwR ?_|((first|refine aA ?_ ?_|refine aC ?_ ?_)<;>intro hb<;>(first|exact ddX hb|try simp only [lnS]at hb))|(refine aB ?_ ?_<;>intro hb<;>try exact dsX hb)))
   exact⟨i+1,⟨by omega,J m⟩,qO,⟨qB,qB⟩⟩
 ·have o:i=s.length:=by have b:¬ (i:Int) < ((s.map cnR).length:Nat):=b;rw [List.length_map]at b;omega
  subst o
  rw [List.take_length]at g
  rw [aE3 g]
  have w:(s.map cnR).length=s.length:=List.length_map ..
  refine qX ?_;intros
  refine aA (λm=> ?_) (λm=> ?_)
  ·(repeat' first|(refine qW ?_;intros)|((conv=>whnf);first|refine dwR ?_|((first|refine aA ?_ ?_|refine aC ?_ ?_)<;>intro hb<;>(first|exact ddX hb|try simp only [lnS]at hb))|(refine aB ?_ ?_<;>intro hb<;>try exact dsX hb)))
   rw [if_pos (by omega)]
   exact bFf
  ·refine qX ?_;intros
   rw [if_neg (by omega)]
   refine aA (λN=> ?_) (λN=> ?_)
   ·have z:0 < s.length:=by omega
    have h:(s.map cnR)[(0:Int).toNat]? =some (cnR s[0]):=bA (i:=0) z
    have E:s.headD c0=s[0]:=by cases s with|nil=>simp at z|cons a r=>rfl
    rw [aJ]at h
    (repeat' first|(refine qW ?_;intros)|((conv=>whnf);first|refine dwR ?_|((first|refine aA ?_ ?_|refine aC ?_ ?_)<;>intro hb<;>(first|exact ddX hb|try simp only [lnS]at hb))|(refine aB ?_ ?_<;>intro hb<;>try exact dsX hb)))
    rw [if_pos (by omega),E]
    exact uJ _ _
   ·refine qX ?_;intros
    rw [if_neg (by omega)]
    refine aA (λB=> ?_) (λB=> ?_)
    ·(repeat' first|(refine qW ?_;intros)|((conv=>whnf);first|refine dwR ?_|((first|refine aA ?_ ?_|refine aC ?_ ?_)<;>intro hb<;>(first|exact ddX hb|try simp only [lnS]at hb))|(refine aB ?_ ?_<;>intro hb<;>try exact dsX hb)))
     rw [if_pos (by omega)]
     exact aQi 2
    ·rw [if_neg (by omega)]
     (repeat' first|(refine qW ?_;intros)|((conv=>whnf);first|refine dwR ?_|((first|refine aA ?_ ?_|refine aC ?_ ?_)<;>intro hb<;>(first|exact ddX hb|try simp only [lnS]at hb))|(refine aB ?_ ?_<;>intro hb<;>try exact dsX hb)))
     exact uJ (.mk 5 [] 0 0 s) 0
theorem aV9: ∀c:Cn,(aI c).2≠0->(aI c).1=c0:=by
 refine Cn.ind ?_
 intro c f h
 rw [eX]at h |-
 split at h
 ·rename_i b
  rw [if_pos b]
  cases hp:c.parts with
  |nil=>rfl
  |cons p r=>
   rw [hp]at h
   have e:uG c.name ((p::r).map aI)=if (aI p).2≠0\/(aI p).1.kind=2 then aI p else (.mk 6 c.name 0 0 [(aI p).1],0):=rfl
   rw [e]at h |-
   split at h
   ·rename_i a
    rw [if_pos a]
    exact f p (by rw [hp];simp) h
   ·exact absurd rfl h
 ·rename_i b
  rw [if_neg b]
  split at h
  ·rename_i j
   rw [if_pos j]
   by_cases hb: ∃p∈c.parts,(aI p).2≠0
   ·rw [aMo hb]
   ·have hb: ∀p∈c.parts,(aI p).2=0:= λp hp=>Classical.byContradiction λg=>hb ⟨p,hp,g⟩
    rw [kH hb]at h |-
    unfold eV at h |-
    split at h
    ·exact absurd rfl h
    ·split at h
     ·exact absurd rfl h
     ·split at h
      ·exact absurd rfl h
      ·split at h
       ·rename_i hf a d i
        rw [if_neg a,if_neg d,if_pos i]
       ·exact absurd rfl h
  ·exact absurd rfl h
theorem qJ {c:Cn}(h:bM c=0):(c.kind≠5->c.kind≠6->c.parts=[])/\(c.kind=6->c.parts.length=1):=by
 unfold bM at h
 split at h
 ·simp at h
 ·rename_i hk
  unfold iE at h
  split at h
  ·simp at h
  ·rename_i g
   have b:¬ ((c.parts.length:Int) < (gA c.kind).least):= λe=>g (.inl e)
   have a:¬ ((gA c.kind).most < c.parts.length):= λe=>g (.inr (.inl e))
   refine⟨λh5 f=> ?_,λf=> ?_⟩
   ·have d:c.kind=1\/c.kind=2\/c.kind=3\/c.kind=4\/c.kind=7:=by omega
    have i:(gA c.kind).most=0:=by rcases d with e|e|e|e|e<;>rw [e]<;>rfl
    rw [i]at a
    exact List.length_eq_zero_iff.1 (by omega)
   ·rw [f]at b a
    have e1:(gA 6).least=1:=rfl
    have e2:(gA 6).most=1:=rfl
    omega
theorem aXa {ps:List Cn}(h: ∀p∈ps,(aI p).2=0):eV (fC [] ((ps.map λp=>(aI p).1).flatMap pF))=kI (ps.map aI):=by
 rw [kH h]
 congr 1
 refine aJu (aA1 _ _ .nil) λx=> ?_
 rw [aH3,dP,List.mem_flatMap]
 simp only [List.not_mem_nil,false_or]
 constructor
 ·rintro⟨⟨t,d,hx⟩,b⟩
  obtain⟨p,hp,rfl⟩:=List.mem_map.1 d
  refine⟨p,hp, ?_⟩
  unfold pF at hx
  unfold bS
  split at hx
  ·rename_i a
   rw [if_neg (by omega),if_pos a];exact hx
  ·rename_i a
   simp only [List.mem_singleton]at hx
   rw [hx]at b
   rw [if_neg b,if_neg a,hx];simp
 ·rintro⟨p,hp,hx⟩
  have c:=vI p (h p hp) x hx
  refine⟨⟨_,List.mem_map_of_mem hp, ?_⟩,c.1⟩
  unfold bS at hx
  unfold pF
  split at hx
  ·simp at hx
  ·split at hx
   ·rename_i a
    rw [if_pos a];exact hx
   ·rename_i a
    rw [if_neg a];exact hx
theorem aMz: ∀ps:List Cn,iA (ps.map λp=>(aI p).1)<=iA ps
 | []=>by simp
 |c::r=>by
  have h1:=aMz r
  have h2:=hZ c
  rw [List.map_cons,bP,bP];omega
theorem bEn {c:Cn}(h:c.parts=[]):PairW c 0 (.tup [.d (.agg [.int .i64 c.kind, .str c.name, .int .i64 c.lo, .int .i64 c.hi, .nil]), .d (.int .i64 0)]):=by
 refine⟨_,rfl, .inr ?_⟩
 rw [aJ,h]
 exact⟨rfl,rfl,rfl,rfl,rfl,trivial⟩
def aBv (c:Cn):Prop:=Tri Tryz.prog 111 [.d (.agg (cnR c))] [] (λr=>r= .tup [.d (.agg (cnR (aI c).1)), .d (.int .i64 (aI c).2)])
theorem aN0 {c:Cn}(hf:bM c=0) {j:Nat}(hjl:j < c.parts.length) (hz: ∀p∈c.parts.take j,(aI p).2=0) (h:(aI c.parts[j]).2≠0):aI c=(c0,(aI c.parts[j]).2):=by
 obtain⟨i,d⟩:=qJ hf
 have a:((c.parts.take j).map aI).find? (λr=>decide (r.2≠0))=none:=List.find?_eq_none.2 λr l=>by
  obtain⟨p,hp,rfl⟩:=List.mem_map.1 l
  simp [hz p hp]
 rw [eX]
 by_cases b:c.kind=6
 ·rw [if_pos b]
  have hl1:=d b
  have g:j=0:=by omega
  subst g
  have e:c.parts.map aI=aI c.parts[0]::(c.parts.drop 1).map aI:=by
   rw [<-List.map_cons (f:=aI),<-List.drop_eq_getElem_cons hjl,List.drop_zero]
  rw [e,uG,if_pos (.inl h)]
  exact Prod.ext (aV9 _ h) rfl
 ·rw [if_neg b]
  by_cases k:c.kind=5
  ·rw [if_pos k]
   exact aHw hjl a h
  ·have:=i k b
   rw [this]at hjl
   simp at hjl
theorem aSj (c:Cn) (hs:aM c<=1000000) (hf:bM c=0) (hk:c.kind=5) (ih: ∀p∈c.parts,aBv p):aBv c:=by
 unfold aBv
 have hlp:=jL c.parts
 have hsz:=cP c
 have i:c.kind=5:=hk
 refine Tri.pairW ?_
 rw [aJ]
 refine qG [1,6] hty Tryz.func111 [0,1,2,3,4,5,6,7,13,26,35,42,47] ?_
 refine qX ?_;intros
 refine aD hty (λj:Nat=>([(1, .ea 5 [[.int .i64 c.kind, .str c.name, .int .i64 c.lo, .int .i64 c.hi, .sl 5 (c.parts.map cnR)]] 0 0),(2, .ptr 2 0),(4, .osl 8 5 (((c.parts.take j).map λp=>(aI p).1).map cnR)),(5, .d (.int .i64 j))],[(8, .own 45 5 (((c.parts.take j).map λp=>(aI p).1).map cnR).length),(2, .cells 45 [.d (.int .i64 0), .d (.str []), .d (.int .i64 0), .d (.int .i64 0), .d .nil])])) (λj=>j<=c.parts.length/\ ∀p∈c.parts.take j,(aI p).2=0) (λj=>c.parts.length - j) 0 ⟨by omega,by simp⟩ ⟨qB,qB⟩ ?_
 rintro j ⟨hj,hz⟩
 refine qX ?_;intros
 refine aA (λf=> ?_) (λf=> ?_)
 ·have a:j < c.parts.length:=by have f:(j:Int) < ((c.parts.map cnR).length:Nat):=f;rw [List.length_map]at f;omega
  have g:(c.parts.map cnR)[(j:Int).toNat]? =some (cnR c.parts[j]):=bA a
  have hi:=ih c.parts[j] (List.getElem_mem a)
  unfold aBv at hi
  have o:((c.parts.take (j+1)).map λp=>(aI p).1)=((c.parts.take j).map λp=>(aI p).1)++[(aI c.parts[j]).1]:=by rw [List.take_succ_eq_append_getElem a,List.map_append];rfl
  have n:(aI c.parts[j]).2=0-> ∀p∈c.parts.take (j+1),(aI p).2=0:= λh p hp=>by
   rw [List.take_succ_eq_append_getElem a]at hp
   rcases List.mem_append.1 hp with hp|hp
   ·exact hz p hp
   ·simp only [List.mem_singleton]at hp;rw [hp];exact h
  have k:=aN0 hf a hz
  have hll:((c.parts.take j).map λp=>(aI p).1).length=j:=by rw [List.length_map,List.length_take];omega
  clear ih hz hf hk
  generalize ((c.parts.take j).map λp=>(aI p).1)=L at *
  generalize c.parts[j]=x at *
  generalize aI c=R at *
  generalize (aI x).1=t at *
  generalize (aI x).2=e at *
  have m:=aJ t
  rw [aJ]at g hi
  rw [aJ t]at hi
  refine qZ ?_;intros
  refine aC (λl=> ?_) (λl=> ?_)
  ·refine qX ?_;intros
   rw [k l]
   exact aQi e
  ·have l:e=0:=by simpa using l
   refine qZ ?_;intros
   refine⟨j+1,⟨by omega,n l⟩,qO, ?_⟩
   dsimp only
   rw [o,List.map_append,List.map_singleton,m,List.length_append]
   exact⟨qB,qB⟩
 have a:j=c.parts.length:=by have f:¬ (j:Int) < ((c.parts.map cnR).length:Nat):=f;rw [List.length_map]at f;omega
 subst a
 rw [List.take_length]at hz |-
 have b:=(aOr (c.parts.map λp=>(aI p).1) (by have:=aMz c.parts;omega)).pairW
 rw [aXa hz]at b
 have b:=Tri.osl (id:=8) b
 rw [eX,if_neg (by omega),if_pos i]
 rw [aJ (kI (c.parts.map aI)).1]at b
 generalize kI (c.parts.map aI)=M at *
 clear ih hz hf
 refine qX ?_;intros
 refine aA (λq=> ?_) (λq=> ?_)
 ·refine qZ ?_;intros
  exact uJ _ _
 ·exact absurd i q
theorem aOp (c:Cn) (hs:aM c<=1000000) (hf:bM c=0) (a:c.kind=6) (hps: ∀p∈c.parts,Okn p) (ih: ∀p∈c.parts,aBv p):aBv c:=by
 unfold aBv
 have hlp:=jL c.parts
 have hsz:=cP c
 have m:c.kind=6:=a
 have w:=(qJ hf).2 a
 refine Tri.pairW ?_
 rw [aJ]
 refine qG [1,6] hty Tryz.func111 [0,1,2,3,4,5,6,7,13,26,35,42,47] ?_
 refine qX ?_;intros
 refine aD hty (λj:Nat=>([(1, .ea 5 [[.int .i64 c.kind, .str c.name, .int .i64 c.lo, .int .i64 c.hi, .sl 5 (c.parts.map cnR)]] 0 0),(2, .ptr 2 0),(4, .osl 8 5 (((c.parts.take j).map λp=>(aI p).1).map cnR)),(5, .d (.int .i64 j))],[(8, .own 45 5 (((c.parts.take j).map λp=>(aI p).1).map cnR).length),(2, .cells 45 [.d (.int .i64 0), .d (.str []), .d (.int .i64 0), .d (.int .i64 0), .d .nil])])) (λj=>j<=c.parts.length/\ ∀p∈c.parts.take j,(aI p).2=0) (λj=>c.parts.length - j) 0 ⟨by omega,by simp⟩ ⟨qB,qB⟩ ?_
 rintro j ⟨hj,hz⟩
 refine qX ?_;intros
 refine aA (λi=> ?_) (λi=> ?_)
 ·have b:j < c.parts.length:=by have i:(j:Int) < ((c.parts.map cnR).length:Nat):=i;rw [List.length_map]at i;omega
  have f:(c.parts.map cnR)[(j:Int).toNat]? =some (cnR c.parts[j]):=bA b
  have hi:=ih c.parts[j] (List.getElem_mem b)
  unfold aBv at hi
  have u:((c.parts.take (j+1)).map λp=>(aI p).1)=((c.parts.take j).map λp=>(aI p).1)++[(aI c.parts[j]).1]:=by rw [List.take_succ_eq_append_getElem b,List.map_append];rfl
  have s:(aI c.parts[j]).2=0-> ∀p∈c.parts.take (j+1),(aI p).2=0:= λh p hp=>by
   rw [List.take_succ_eq_append_getElem b]at hp
   rcases List.mem_append.1 hp with hp|hp
   ·exact hz p hp
   ·simp only [List.mem_singleton]at hp;rw [hp];exact h
  have o:=aN0 hf b hz
  have hll:((c.parts.take j).map λp=>(aI p).1).length=j:=by rw [List.length_map,List.length_take];omega
  clear ih hz hf a
  generalize ((c.parts.take j).map λp=>(aI p).1)=L at *
  generalize c.parts[j]=x at *
  generalize aI c=R at *
  generalize (aI x).1=t at *
  generalize (aI x).2=e at *
  have k:=aJ t
  rw [aJ]at f hi
  rw [aJ t]at hi
  refine qZ ?_;intros
  refine aC (λl=> ?_) (λl=> ?_)
  ·refine qX ?_;intros
   rw [o l]
   exact aQi e
  ·have l:e=0:=by simpa using l
   refine qZ ?_;intros
   refine⟨j+1,⟨by omega,s l⟩,qO, ?_⟩
   dsimp only
   rw [u,List.map_append,List.map_singleton,k,List.length_append]
   exact⟨qB,qB⟩
 have b:j=c.parts.length:=by have i:¬ (j:Int) < ((c.parts.map cnR).length:Nat):=i;rw [List.length_map]at i;omega
 subst b
 rw [List.take_length]at hz |-
 obtain⟨p,hp⟩:=List.length_eq_one_iff.1 w
 have n:=hz p (by rw [hp];simp)
 have e:uG c.name (c.parts.map aI)=if (aI p).2≠0\/(aI p).1.kind=2 then aI p else (.mk 6 c.name 0 0 [(aI p).1],0):=by rw [hp];rfl
 have q:(c.parts.map λp=>(aI p).1).map cnR=[cnR (aI p).1]:=by rw [hp];rfl
 rw [eX,if_pos m,e,q]
 have v:aI p=((aI p).1,0):=Prod.ext rfl n
 have r:(aI p).1.kind=2\/(aI p).1.kind=1\/(aI p).1.kind=3\/(aI p).1.kind=4\/(aI p).1.kind=5\/(aI p).1.kind=6\/(aI p).1.kind=7:=by
  have i:=(fS _).1 (lY p (hps p (by rw [hp];simp)) n).ok
  have l:=i.1
  unfold bM at l
  split at l
  ·simp at l
  ·omega
 generalize (aI p).1=t at *
 have k:=aJ t
 clear ih hz hf e q
 rw [k]
 have hl0:(0:Int).toNat < [[D.int .i64 t.kind, .str t.name, .int .i64 t.lo, .int .i64 t.hi, .sl 5 (t.parts.map cnR)]].length:=Nat.le.refl
 have f:[[D.int .i64 t.kind, .str t.name, .int .i64 t.lo, .int .i64 t.hi, .sl 5 (t.parts.map cnR)]][(0:Int).toNat]? =some [D.int .i64 t.kind, .str t.name, .int .i64 t.lo, .int .i64 t.hi, .sl 5 (t.parts.map cnR)]:=rfl
 have g:[[D.int .i64 t.kind, .str t.name, .int .i64 t.lo, .int .i64 t.hi, .sl 5 (t.parts.map cnR)]]=[t].map cnR:=by rw [List.map_singleton,k]
 generalize [[D.int .i64 t.kind, .str t.name, .int .i64 t.lo, .int .i64 t.hi, .sl 5 (t.parts.map cnR)]]=rows at *
 refine qX ?_;intros
 refine aA (λz=> ?_) (λz=> ?_)
 ·exact absurd (m.symm.trans z) (by decide)
 refine qX ?_;intros
 refine aA (λy=> ?_) (λy=> ?_)
 ·rcases r with a|a
  ·rw [a]at f
   rw [if_pos (.inr a),v]
   refine qZ ?_;intros
   have h:=uJ t 0
   rw [a]at h
   exact h
  ·rw [if_neg (by rintro(h|h);exact h n;omega)]
   rcases a with a|a|a|a|a|a
   all_goals
    rw [a]at f
    refine qZ ?_;intros
    rw [g]
    exact uJ (.mk 6 c.name 0 0 [t]) 0
 ·exact absurd m y
theorem aOq (c:Cn) (h5:c.kind≠5) (h6:c.kind≠6) (hp:c.parts=[]):aBv c:=by
 unfold aBv
 have a:aI c=(c,0):=by rw [eX,if_neg h6,if_neg h5]
 rw [a]
 refine Tri.pairW ?_
 rw [aJ,hp,List.map_nil]
 refine qG [1,6] hty Tryz.func111 [0,1,2,3,4,5,6,7,13,26,35,42,47] ?_
 refine qX ?_;intros
 refine aD hty (λ_:Unit=>([(1, .ea 5 [[.int .i64 c.kind, .str c.name, .int .i64 c.lo, .int .i64 c.hi, .sl 5 []]] 0 0),(2, .ptr 2 0),(5, .d (.int .i64 0))],[(2, .cells 45 [.d (.int .i64 0), .d (.str []), .d (.int .i64 0), .d (.int .i64 0), .d .nil])])) (λ_=>True) (λ_=>0) () trivial ⟨qB,qB⟩ ?_
 rintro _ _
 refine qX ?_;intros
 refine aA (λhb=> ?_) (λhb=> ?_)
 ·exact absurd hb h5
 refine qX ?_;intros
 refine aA (λhb=> ?_) (λhb=> ?_)
 ·exact absurd hb h6
 refine qX ?_;intros
 exact bEn hp
theorem aOo: ∀(c:Cn) (_:aM c<=1000000) (_:Okn c),Tri Tryz.prog 111 [.d (.agg (cnR c))] [] (λr=>r= .tup [.d (.agg (cnR (aI c).1)), .d (.int .i64 (aI c).2)]):=by
 refine Cn.ind ?_
 intro c j i e
 obtain⟨g,a⟩:=(fS c).1 e
 have b: ∀p∈c.parts,aBv p:= λp hp=>j p hp (by have:=fK hp;omega) (a p hp)
 by_cases h:c.kind=5
 ·exact aSj c i g h b
 ·by_cases f:c.kind=6
  ·exact aOp c i g f a b
  ·exact aOq c h f ((qJ g).1 h f)
theorem aWh {c:Cn}(h:Okn c) (h5:c.kind≠5) (h6:c.kind≠6):c.parts=[]:=by
 have b:=((fS c).1 h).1
 have hk:1<=c.kind/\c.kind<=7:=by
  unfold bM at b
  split at b
  ·exact absurd b (by decide)
  ·omega
 rw [tL]at b
 have a:jX c=true:=by
  cases e:jX c
  ·rw [e,if_pos rfl]at b;exact absurd b (by decide)
  ·rfl
 unfold jX at a
 have hl:c.parts.length=0:=by
  rw [if_neg h5,if_neg h6]at a
  by_cases d:c.kind=1\/c.kind=2
  ·rw [if_pos d]at a;simp only [Bool.and_eq_true,decide_eq_true_eq]at a;omega
  ·rw [if_neg d]at a
   by_cases f:c.kind=3\/c.kind=4
   ·rw [if_pos f]at a;simp only [Bool.and_eq_true,decide_eq_true_eq]at a;omega
   ·rw [if_neg f]at a
    by_cases g:c.kind=7
    ·rw [if_pos g]at a;simp only [Bool.and_eq_true,decide_eq_true_eq]at a;omega
    ·omega
 exact List.eq_nil_of_length_eq_zero hl
theorem aDc: ∀(c:Cn) (_:Okn c),Tri Tryz.prog 96 [.d (.agg (cnR c))] [] (λr=>r= .d (.bool (bX c))):=by
 refine Cn.ind ?_
 intro c n g
 have hp:=((fS c).1 g).2
 have m:bX c=if c.kind=4 then true else if c.kind=6 then false else qY c.parts:=by
  rw [kQ]
  by_cases h:c.kind=4
  ·rw [if_pos h,if_pos h]
  ·rw [if_neg h,if_neg h]
   by_cases l:c.kind=5
   ·rw [if_pos l,if_neg (by omega)]
   ·rw [if_neg l]
    by_cases i:c.kind=6
    ·rw [if_pos i]
    ·rw [if_neg i,aWh g l i];rfl
 rw [m]
 clear m g
 rw [aJ]
 refine qG [1] hty Tryz.func96 [0,1,2,3,6,9,14,22] ?_
 (repeat' first|(refine qW ?_;intros)|((conv=>whnf);first|refine dwR ?_|((first|refine aA ?_ ?_|refine aC ?_ ?_)<;>intro hb<;>(first|exact ddX hb|try simp only [lnS]at hb))|(refine aB ?_ ?_<;>intro hb<;>try exact dsX hb)))
 ·rw [if_pos (by assumption)];rfl
 ·rw [if_neg (by assumption),if_pos (by assumption)];rfl
 ·rw [if_neg (by assumption),if_neg (by assumption)]
  refine aD hty (λj:Nat=>([(1, .ea 5 [[.int .i64 c.kind, .str c.name, .int .i64 c.lo, .int .i64 c.hi, .sl 5 (c.parts.map cnR)]] 0 0),(2, .d (.bool false)),(3, .d (.int .i64 j))],[])) (λj=>j<=c.parts.length/\qY c.parts=qY (c.parts.drop j)) (λj=>c.parts.length - j) 0 ⟨by omega,rfl⟩ ⟨by repeat' (first|exact trivial|exact rfl|exact⟨rfl,rfl⟩|refine And.intro ?_ ?_),trivial⟩ ?_
  rintro j ⟨hj,f⟩
  refine qX ?_;intros
  refine aA (λk=> ?_) (λk=> ?_)
  ·have a:j < c.parts.length:=by simp only [List.length_map]at k;omega
   have e:(c.parts.map cnR)[(j:Int).toNat]? =some (cnR c.parts[j]):=bA a
   have hi:=n c.parts[j] (List.getElem_mem a) (hp _ (List.getElem_mem a))
   rw [List.drop_eq_getElem_cons a,qY]at f
   generalize c.parts[j]=x at e hi f
   rw [aJ]at e hi
   generalize bX x=b at hi f
   (repeat' first|(refine qW ?_;intros)|((conv=>whnf);first|refine dwR ?_|((first|refine aA ?_ ?_|refine aC ?_ ?_)<;>intro hb<;>(first|exact ddX hb|try simp only [lnS]at hb))|(refine aB ?_ ?_<;>intro hb<;>try exact dsX hb)))
   ·rw [if_pos (by assumption)]at f
    exact bG f.symm
   ·rw [if_neg (by rw [(by assumption:b=false)];decide)]at f
    exact⟨j+1,⟨by omega,f⟩,qO,qB,trivial⟩
  ·have a:j=c.parts.length:=by simp only [List.length_map]at k;omega
   subst a
   rw [List.drop_length]at f
   (repeat' first|(refine qW ?_;intros)|((conv=>whnf);first|refine dwR ?_|((first|refine aA ?_ ?_|refine aC ?_ ?_)<;>intro hb<;>(first|exact ddX hb|try simp only [lnS]at hb))|(refine aB ?_ ?_<;>intro hb<;>try exact dsX hb)))
   exact bG f.symm
theorem aAa (c:Cn):Tri Tryz.prog 92 [.d (.agg (cnR c))] [] (λr=>r= .d (.bool (dQ c))):=by
 rw [aJ]
 have a:dQ c=(decide (c.kind=0) && (decide (c.name=[]) && (decide (c.lo=0) && (decide (c.hi=0) && decide (c.parts.length=0))))):=by
  unfold dQ
  congr 4
  simp [List.length_eq_zero_iff]
 rw [a]
 clear a
 refine qG [1] hty Tryz.func92 [0,1,2] ?_
 (repeat' first|(refine qW ?_;intros)|((conv=>whnf);first|refine dwR ?_|((first|refine aA ?_ ?_|refine aC ?_ ?_)<;>intro hb<;>(first|exact ddX hb|try simp only [lnS]at hb))|(refine aB ?_ ?_<;>intro hb<;>try exact dsX hb)))
 all_goals (refine bG (Eq.symm ?_);simp_all<;>first|omega|(rw [Bool.eq_iff_iff];simp<;>omega))
theorem aR1 {k:Int}(h:k < 1\/9 < k):cC k=⟨false,false,false,false,false,0,0⟩:=by
 unfold cC
 rcases h with h|h
 ·rw [show k.toNat=0 by omega];rfl
 ·rw [List.getD,List.getElem?_eq_none (show kR.length<=k.toNat by show 10<=k.toNat;omega)];rfl
def bFq (u:Use):SV:= .tup [.d (.bool u.left), .d (.bool u.right), .d (.bool u.role), .d (.bool u.a), .d (.bool u.b), .d (.int .i64 u.least), .d (.int .i64 u.most)]
theorem xO (k:Int):Tri Tryz.prog 91 [.d (.int .i64 k)] [] (λr=>r=bFq (cC k)):=by
 refine qG [] hty Tryz.func91 [0,2,3,4,5,6,7,8,9,10,14,16,18,20,22,24] ?_
 (repeat' first|(refine qW ?_;intros)|((conv=>whnf);first|refine dwR ?_|((first|refine aA ?_ ?_|refine aC ?_ ?_)<;>intro hb<;>(first|exact ddX hb|try simp only [lnS]at hb))|(refine aB ?_ ?_<;>intro hb<;>try exact dsX hb)))
 all_goals first
  |(subst_vars;rfl)
  |(rw [aR1 (by omega)];rfl)
end
end Go.Proofs.YtbobcfjlbcgchaaGreatDoor
