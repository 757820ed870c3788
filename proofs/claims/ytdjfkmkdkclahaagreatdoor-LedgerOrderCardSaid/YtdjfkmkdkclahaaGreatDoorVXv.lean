/-
  Queries: slices.Compact and slices.Contains of strings. Queries: slices.Contains of strings; the variables of a part. Queries: what the variables of a part are, plainly. The canonical form of a part: there is one, and the search finds it; plain. The canonical form of a part does not depend on the names of its variables, on order and repetition; plain.
  Conditions: none.
-/
import Derived.Test.YtdjfkmkdkclahaaGreatDoorVOh
import Derived.Test.YtdjfkmkdkclahaaGreatDoorVQqa
import Derived.Test.YtdjfkmkdkclahaaGreatDoorVBp
set_option linter.unnecessarySimpa false
set_option linter.unusedSectionVars false
set_option linter.unusedSimpArgs false
set_option linter.unusedVariables false
set_option maxHeartbeats 16000000
namespace Go.Proofs.YtdjfkmkdkclahaaGreatDoor
open Go.Proofs Go.RowKit
set_option maxRecDepth 10000
attribute [local irreducible] aL aH Tri aI YVC bP aS
def eqS (a b:List UInt8):Bool:=decide (a=b)
theorem zW (l:List (List UInt8)) (hlen:l.length<=1000000)
  (cap n:Nat) (hn:n=l.length) (hp0:Hp) {pin:Pin} {fr:Fr} {K:SV->Hp->Prop} (hp1: ∀k,100<=k->k∉pin) (hf: ∀k,100<=k->k∉gC fr) (hh: ∀k,100<=k->k∉lQ hp0) (hno:aR hp0 70=none) (hsub: ∀o,aA9 hp0 ((70,o)::hp0))
  (hk: ∀cap',K (.mw 170 1 (mT eqS l).length) ((170, .mrow 9 1 cap' ((mT eqS l).map aV))::hp0)):
  aH Tryz.prog pin fr ((70, .mrow 9 1 cap (l.map aV))::hp0) 68 [.mw 70 1 n] K:=by
 subst hn
 have fin: ∀(rows:List (List D)) (s:SV) (k:Nat),(s= .ms 70 1 0 k l.length\/(s= .mw 70 1 l.length/\k=l.length))->l.length=rows.length->k=(mT eqS l).length->rows.take k=(mT eqS l).map aV->PartP pin fr K 170 s ((70, .mrow 9 1 cap rows)::hp0):=by
  intro rows s k h1 h2 h3 h4
  refine⟨70,_,1,cap,k,l.length,rows,hp0,h1,rfl,h2,by rw [h3];exact aD7 _ _,⟨hp1 _ (by decide),hf _ (by decide),aWv (by decide) rfl hh _ (by decide)⟩,hsub _,hno,λcap'=> ?_⟩
  rw [h3]at h4 |-
  rw [h4]
  exact hk cap'
 refine aH.closeP 170 ?_
 refine aM false [] hty Tryz.func68 rfl (kp [0,2,3,4,5,8,13,25,32,44]) 200 (by simp [Tryz.f68]) ?_
 ((conv=>whnf);repeat' ((first|(intro hq;(try simp only [lnS]at hq);(try rewrite [List.length_map]))|refine sJ ?_|refine .intro _ (.intro rfl ?_)|refine exL (k:= ?_)|refine dwR ?_|((first|refine aC ?_ ?_|refine aD ?_ ?_)<;>intro hb<;>(first|exact ddX hb|try simp only [lnS]at hb))|(refine aB ?_ ?_<;>intro hb<;>try exact dsX hb))<;>(conv=>whnf)))
 ·have hd:mT eqS l=l:=lR _ _ (by omega)
  exact fin _ _ l.length (.inr ⟨rfl,rfl⟩) (List.length_map ..).symm (by rw [hd]) (by rw [hd,List.take_of_length_le (by rw [List.length_map];exact Nat.le_refl _)])
 ·refine sV hty (λk:Nat=>([(0, .mw 70 1 l.length),(3, .d (.int .i64 k))],(70, .mrow 9 1 cap (l.map aV))::hp0)) (λk=>(1<=k/\k<=l.length)/\mT eqS (l.take k)=l.take k) (λk=>l.length - k) 1 ⟨by omega,lR _ _ (by rw [List.length_take];omega)⟩ (by repeat' (first|exact trivial|exact rfl|refine And.intro ?_ ?_)) rfl ?_
  rintro k ⟨⟨hk1,hkl⟩,hd⟩
  ((conv=>whnf);repeat ((first|(intro hq;try simp only [lnS]at hq)|refine sI ?_|refine .intro _ (.intro rfl ?_));(conv=>whnf)))
  refine aC (λh1=> ?_) (λh1=> ?_)
  ·have hkl':k < l.length:=by omega
   have hkp:k - 1 < l.length:=by omega
   have hrow1:(l.map aV)[(k:Int).toNat]? =some (aV l[k]):=aO hkl'
   have hrow2:(l.map aV)[((k:Int) - 1).toNat]? =some (aV l[k - 1]):=by
    rw [show ((k:Int) - 1).toNat=k - 1 by omega,List.getElem?_map,List.getElem?_eq_getElem hkp];rfl
   have hdt:=sA eqS l (k - 1) (by omega)
   simp only [show k - 1+1=k by omega,show k - 1+2=k+1 by omega]at hdt
   ((conv=>whnf);repeat ((first|(intro hq;try simp only [lnS]at hq)|refine sI ?_|refine .intro _ (.intro rfl ?_));(conv=>whnf)))
   refine dwR ?_
   ((conv=>whnf);repeat ((first|(refine And.intro (List.length_map ..).symm ?_)|(refine⟨_,hrow1, ?_⟩)|(refine⟨_,hrow2, ?_⟩)|(intro hq;try simp only [lnS]at hq)|refine sI ?_|refine .intro _ (.intro rfl ?_));(conv=>whnf)))
   cases hb:decide (l[k]=l[k - 1])
   ·((conv=>whnf);repeat' ((first|(intro hq;(try simp only [lnS]at hq);(try rewrite [List.length_map]))|refine sJ ?_|refine .intro _ (.intro rfl ?_)|refine exL (k:= ?_)|refine dwR ?_|((first|refine aC ?_ ?_|refine aD ?_ ?_)<;>intro hb<;>(first|exact ddX hb|try simp only [lnS]at hb))|(refine aB ?_ ?_<;>intro hb<;>try exact dsX hb))<;>(conv=>whnf)))
    rw [show eqS l[k] l[k - 1]=false from hb,if_neg (by decide),hd]at hdt
    exact⟨k+1,⟨⟨by omega,by omega⟩,by rw [hdt];exact(List.take_succ_eq_append_getElem hkl').symm⟩,by dsimp only;omega,by repeat' (first|exact trivial|exact rfl|refine And.intro ?_ ?_),rfl⟩
   ·rw [show eqS l[k] l[k - 1]=true from hb,if_pos rfl,hd]at hdt
    ((conv=>whnf);repeat ((first|(refine lH hty rfl rfl rfl rfl rfl rfl ?_)|(intro hq;try simp only [lnS]at hq)|refine sI ?_|refine .intro _ (.intro rfl ?_));(conv=>whnf)))
    rw [show ((k:Int)).toNat=k from rfl]
    refine sV hty (λy:Nat×Nat×List (List UInt8)=>([(0, .mw 70 1 l.length),(3, .d (.int .i64 y.2.1)),(4, .ms 70 1 k (l.length - k) l.length),(5, .d (.int .i64 y.1))],(70, .mrow 9 1 cap (y.2.2.map aV))::hp0))
     (λy=>(1<=y.1/\y.1<=l.length - k)/\y.2.2.length=l.length/\(y.2.1+1<=k+y.1/\1<=y.2.1)/\y.2.2.take y.2.1=mT eqS (l.take (k+y.1))/\y.2.2.drop (k+y.1 - 1)=l.drop (k+y.1 - 1)) (λy=>l.length - k - y.1) (1,k,l) ⟨by dsimp only;omega,rfl,by dsimp only;omega,hdt.symm,rfl⟩ (by repeat' (first|exact trivial|exact rfl|refine And.intro ?_ ?_)) rfl ?_
    rintro⟨k2,m,q⟩ ⟨⟨hk21,hk2l⟩,hql,⟨hm1,hm0⟩,ht,hdr⟩
    dsimp only at hk21 hk2l hql hm1 hm0 ht hdr
    ((conv=>whnf);repeat ((first|(refine aHx hty rfl rfl rfl ?_)|(intro hq;try simp only [lnS]at hq)|refine sI ?_|refine .intro _ (.intro rfl ?_));(conv=>whnf)))
    refine aC (λh2=> ?_) (λh2=> ?_)
    ·have hA:k+k2 < l.length:=by dsimp only at h2;omega
     have hB:k+k2 - 1 < l.length:=by omega
     have hml:m < q.length:=by omega
     have eA:q[k+k2]'(hql ▸ hA)=l[k+k2]:=cZ hdr hql (by omega) hA
     have eB:q[k+k2 - 1]'(hql ▸ hB)=l[k+k2 - 1]:=cZ hdr hql (by omega) hB
     have hrowA:(q.map aV)[k+(k2:Int).toNat]? =some (aV l[k+k2]):=by
      rw [Int.toNat_natCast,List.getElem?_map,List.getElem?_eq_getElem (hql ▸ hA),eA];rfl
     have hrowB:(q.map aV)[k+((k2:Int) - 1).toNat]? =some (aV l[k+k2 - 1]):=by
      rw [show k+((k2:Int) - 1).toNat=k+k2 - 1 by omega,List.getElem?_map,List.getElem?_eq_getElem (hql ▸ hB),eB];rfl
     have hrowM:(q.map aV)[(m:Int).toNat]? =some (aV q[m]):=aO hml
     have hdt2:=sA eqS l (k+k2 - 1) (by omega)
     simp only [show k+k2 - 1+1=k+k2 by omega,show k+k2 - 1+2=k+(k2+1)by omega]at hdt2
     have hlq:l.length=(q.map aV).length:=by rw [List.length_map,hql]
     have hdr2:q.drop (k+k2)=l.drop (k+k2):=by
      have:=congrArg (List.drop 1) hdr
      rw [List.drop_drop,List.drop_drop,show k+k2 - 1+1=k+k2 by omega]at this
      exact this
     ((conv=>whnf);repeat ((first|(intro hq;try simp only [lnS]at hq)|refine sI ?_|refine .intro _ (.intro rfl ?_));(conv=>whnf)))
     refine dwR ?_
     ((conv=>whnf);repeat ((first|(refine And.intro hlq ?_)|(refine⟨_,hrowA, ?_⟩)|(refine⟨_,hrowB, ?_⟩)|(intro hq;try simp only [lnS]at hq)|refine sI ?_|refine .intro _ (.intro rfl ?_));(conv=>whnf)))
     cases hb2:decide (l[k+k2]=l[k+k2 - 1])
     ·((conv=>whnf);repeat' ((first|(intro hq;(try simp only [lnS]at hq);(try rewrite [List.length_map]))|refine sJ ?_|refine .intro _ (.intro rfl ?_)|refine exL (k:= ?_)|(refine And.intro hlq ?_)|(refine⟨_,hrowA, ?_⟩)|(refine⟨_,hrowM, ?_⟩)|(refine And.intro (rP rfl) ?_)|refine dwR ?_|((first|refine aC ?_ ?_|refine aD ?_ ?_)<;>intro hb<;>(first|exact ddX hb|try simp only [lnS]at hb))|(refine aB ?_ ?_<;>intro hb<;>try exact dsX hb))<;>(conv=>whnf)))
      rw [show eqS l[k+k2] l[k+k2 - 1]=false from hb2,if_neg (by decide),<-ht]at hdt2
      refine⟨(k2+1,m+1,q.set m l[k+k2]),⟨by dsimp only;omega,by dsimp only;rw [List.length_set];exact hql,by dsimp only;omega, ?_, ?_⟩,by dsimp only;omega,by repeat' (first|exact trivial|exact rfl|refine And.intro ?_ ?_), ?_⟩
      ·dsimp only
       rw [hdt2]
       exact pO _ hml
      ·dsimp only
       rw [show k+(k2+1) - 1=k+k2 by omega,List.drop_set_of_lt (by omega)]
       exact hdr2
      ·dsimp only
       rw [List.map_set]
       rfl
     ·((conv=>whnf);repeat' ((first|(intro hq;(try simp only [lnS]at hq);(try rewrite [List.length_map]))|refine sJ ?_|refine .intro _ (.intro rfl ?_)|refine exL (k:= ?_)|refine dwR ?_|((first|refine aC ?_ ?_|refine aD ?_ ?_)<;>intro hb<;>(first|exact ddX hb|try simp only [lnS]at hb))|(refine aB ?_ ?_<;>intro hb<;>try exact dsX hb))<;>(conv=>whnf)))
      rw [show eqS l[k+k2] l[k+k2 - 1]=true from hb2,if_pos rfl]at hdt2
      exact⟨(k2+1,m,q),⟨by dsimp only;omega,hql,by dsimp only;omega,by dsimp only;rw [hdt2];exact ht,by dsimp only;rw [show k+(k2+1) - 1=k+k2 by omega];exact hdr2⟩,by dsimp only;omega,by repeat' (first|exact trivial|exact rfl|refine And.intro ?_ ?_),rfl⟩
    ·have hke:k+k2=l.length:=by dsimp only at h2;omega
     rw [hke,List.take_length]at ht
     have hlq:l.length=(q.map aV).length:=by rw [List.length_map,hql]
     have hmq:m+(l.length - m)=(q.map aV).length:=by rw [List.length_map,hql];omega
     have hml:=congrArg List.length ht
     rw [List.length_take,Nat.min_eq_left (by omega)]at hml
     ((conv=>whnf);repeat' ((first|(intro hq;(try simp only [lnS]at hq);(try rewrite [List.length_map]))|refine sJ ?_|refine .intro _ (.intro rfl ?_)|refine exL (k:= ?_)|(refine lH hty rfl rfl rfl rfl rfl rfl ?_)|(refine aBv hty rfl rfl (by decide) rfl rfl rfl hlq hmq ?_)|refine dwR ?_|((first|refine aC ?_ ?_|refine aD ?_ ?_)<;>intro hb<;>(first|exact ddX hb|try simp only [lnS]at hb))|(refine aB ?_ ?_<;>intro hb<;>try exact dsX hb))<;>(conv=>whnf)))
     refine fin _ _ m (.inl rfl) ?_ hml ?_
     ·simp only [List.length_append,List.length_take,List.length_replicate,List.length_map]
      show l.length=min m q.length+(l.length - m)
      omega
     ·show ((q.map aV).take m++_).take m=_
      rw [List.take_append_of_le_length (by rw [List.length_take,List.length_map];omega),List.take_take,Nat.min_self,<-List.map_take,ht]
  ·have hkl':k=l.length:=by omega
   subst hkl'
   rw [List.take_length]at hd
   ((conv=>whnf);repeat' ((first|(intro hq;(try simp only [lnS]at hq);(try rewrite [List.length_map]))|refine sJ ?_|refine .intro _ (.intro rfl ?_)|refine exL (k:= ?_)|refine dwR ?_|((first|refine aC ?_ ?_|refine aD ?_ ?_)<;>intro hb<;>(first|exact ddX hb|try simp only [lnS]at hb))|(refine aB ?_ ?_<;>intro hb<;>try exact dsX hb))<;>(conv=>whnf)))
   exact fin _ _ l.length (.inr ⟨rfl,rfl⟩) (List.length_map ..).symm (by rw [hd]) (by rw [hd,List.take_of_length_le (by rw [List.length_map];exact Nat.le_refl _)])
end Go.Proofs.YtdjfkmkdkclahaaGreatDoor
namespace Go.Proofs.YtdjfkmkdkclahaaGreatDoor
open Go.Proofs Go.RowKit
set_option maxRecDepth 10000
attribute [local irreducible] aL aH Tri aI YVC bP aS
def aQo:List (List UInt8)->List UInt8->Int->Int
 | [],_,_=> -1
 |a::r,s,i=>if s=a then i else aQo r s (i+1)
theorem aM5: ∀(l:List (List UInt8)) (s:List UInt8) (i:Int) (_:0<=i),decide (aQo l s i>=0)=decide (s∈l)
 | [],s,i,_=>by simp [aQo]
 |a::r,s,i,h=>by
  have ih:=aM5 r s (i+1) (by omega)
  rw [aQo]
  by_cases e:s=a
  ·rw [if_pos e,decide_eq_true (by omega),decide_eq_true (by rw [e];exact List.mem_cons_self)]
  ·rw [if_neg e,ih,decide_eq_decide,List.mem_cons]
   exact⟨.inr,λh=>h.resolve_left e⟩
theorem aM4 (l:List (List UInt8)) (s:List UInt8):Tri Tryz.prog 140 [.d (.sl 1 (l.map aV)), .d (.str s)] [] (λr=>r= .d (.int .i64 (aQo l s 0))):=by
 refine aF hty Tryz.func140 rfl (kp [0,1,4,5,7,8,9,16]) [] _ _ _ (by simp [Tryz.f140]) (by simp) ?_
 ((conv=>whnf);repeat' ((first|(intro hq;(try simp only [lnS]at hq);(try rewrite [List.length_map]))|refine sJ ?_|refine .intro _ (.intro rfl ?_)|refine exL (k:= ?_)|refine dwR ?_|((first|refine aC ?_ ?_|refine aD ?_ ?_)<;>intro hb<;>(first|exact ddX hb|try simp only [lnS]at hb))|(refine aB ?_ ?_<;>intro hb<;>try exact dsX hb))<;>(conv=>whnf)))
 refine aJ hty (λj:Nat=>([(0, .d (.sl 1 (l.map aV))),(1, .d (.str s)),(7, .d (.int .i64 l.length)),(8, .d (.int .i64 j))],[])) (λj=>j<=l.length/\aQo l s 0=aQo (l.drop j) s j) (λj=>l.length - j) 0 ⟨by omega,rfl⟩ ⟨by repeat' (first|exact trivial|exact rfl|(rw [List.length_map];exact rfl)|refine And.intro ?_ ?_),trivial⟩ ?_
 rintro j ⟨hj,hn⟩
 ((conv=>whnf);repeat ((first|(intro hq;try simp only [lnS]at hq)|refine sI ?_|refine .intro _ (.intro rfl ?_));(conv=>whnf)))
 refine aC (λh1=> ?_) (λh1=> ?_)
 ·have hjl:j < l.length:=by omega
  have hrow:(l.map aV)[(j:Int).toNat]? =some (aV l[j]):=aO hjl
  rw [List.drop_eq_getElem_cons hjl,aQo]at hn
  generalize l[j]=x at hrow hn
  ((conv=>whnf);repeat' ((first|(intro hq;(try simp only [lnS]at hq);(try rewrite [List.length_map]))|refine sJ ?_|refine .intro _ (.intro rfl ?_)|refine exL (k:= ?_)|(refine⟨_,hrow, ?_⟩)|refine dwR ?_|((first|refine aC ?_ ?_|refine aD ?_ ?_)<;>intro hb<;>(first|exact ddX hb|try simp only [lnS]at hb))|(refine aB ?_ ?_<;>intro hb<;>try exact dsX hb))<;>(conv=>whnf)))
  ·rw [hn,if_pos hb];rfl
  ·rw [if_neg hb]at hn
   refine⟨j+1,⟨by omega,hn⟩,by dsimp only;omega,by repeat' (first|exact trivial|exact rfl|refine And.intro ?_ ?_),trivial⟩
 ·have hjl:j=l.length:=by omega
  subst hjl
  ((conv=>whnf);repeat' ((first|(intro hq;(try simp only [lnS]at hq);(try rewrite [List.length_map]))|refine sJ ?_|refine .intro _ (.intro rfl ?_)|refine exL (k:= ?_)|refine dwR ?_|((first|refine aC ?_ ?_|refine aD ?_ ?_)<;>intro hb<;>(first|exact ddX hb|try simp only [lnS]at hb))|(refine aB ?_ ?_<;>intro hb<;>try exact dsX hb))<;>(conv=>whnf)))
  rw [hn,List.drop_length];rfl
theorem jH (l:List (List UInt8)) (s:List UInt8):Tri Tryz.prog 99 [.d (.sl 1 (l.map aV)), .d (.str s)] [] (λr=>r= .d (.bool (decide (s∈l)))):=by
 have h:=aM4 l s
 refine aF hty Tryz.func99 rfl (kp [0,1,4]) [] _ _ _ (by simp [Tryz.f99]) (by simp) ?_
 ((conv=>whnf);repeat' ((first|(intro hq;(try simp only [lnS]at hq);(try rewrite [List.length_map]))|refine sJ ?_|refine .intro _ (.intro rfl ?_)|refine exL (k:= ?_)|(refine aA [] h trivial (λr hs=> ?_);subst hs)|refine dwR ?_|((first|refine aC ?_ ?_|refine aD ?_ ?_)<;>intro hb<;>(first|exact ddX hb|try simp only [lnS]at hb))|(refine aB ?_ ?_<;>intro hb<;>try exact dsX hb))<;>(conv=>whnf)))
 exact aN (aM5 l s 0 (by omega))
def cG (p:List At):List (List UInt8):=mT eqS (aKr (cD p))
theorem aDt (p:List At):(cD p).length<=2 * p.length:=by
 refine Nat.le_trans (List.length_filter_le ..) ?_
 induction p with
 |nil=>exact Nat.le_refl _
 |cons a r ih=>simp only [List.flatMap_cons,List.length_append,List.length_cons,List.length_nil];omega
theorem aIt {p:List At}{j:Nat}(h:j < p.length):cD (p.take (j+1))=cD (p.take j)++[p[j].x,p[j].y].filter bE:=by
 unfold cD
 rw [List.take_succ_eq_append_getElem h,List.flatMap_append,List.filter_append]
 simp
theorem gT (p:List At) (hlen:p.length<=100000):Tri Tryz.prog 31 [.d (.agg (aK p))] [] (λr=>r= .d (.sl 1 ((cG p).map aV))):=by
 have hvl:=aDt p
 show Tri Tryz.prog 31 [.d (.agg [.sl 6 (p.map atR)])] [] _
 refine aG false [1,4] hty Tryz.func31 rfl (kp [0,1,2,4,6,8,9,10,11,18,19,20,23]) [] _ _ _ (by simp [Tryz.f31]) (by simp) ?_
 ((conv=>whnf);repeat ((first|(intro hq;try simp only [lnS]at hq)|refine sI ?_|refine .intro _ (.intro rfl ?_));(conv=>whnf)))
 refine aL.mown 2 70 9 1 rfl (bQ (by with_unfolding_all exact rfl)) ?_
 refine aJ hty (λy:Nat×Nat=>([(2, .mw 70 1 (cD (p.take y.1)).length),(8, .d (.sl 6 (p.map atR))),(9, .d (.int .i64 p.length)),(10, .d (.int .i64 y.1))],[(70, .mrow 9 1 y.2 ((cD (p.take y.1)).map aV))])) (λy=>y.1<=p.length) (λy=>p.length - y.1) (0,0) (by dsimp only;omega) ⟨by repeat' (first|exact trivial|exact rfl|(rw [List.length_map];exact rfl)|refine And.intro ?_ ?_),⟨rfl,trivial⟩⟩ ?_
 rintro⟨j,cap⟩ hj
 dsimp only at hj
 ((conv=>whnf);repeat ((first|(intro hq;try simp only [lnS]at hq)|refine sI ?_|refine .intro _ (.intro rfl ?_));(conv=>whnf)))
 refine aC (λh1=> ?_) (λh1=> ?_)
 ·have hjl:j < p.length:=by omega
  have hrow:(p.map atR)[(j:Int).toNat]? =some (atR p[j]):=aO hjl
  have hacc:=aIt hjl
  have hal:=aDt (p.take j)
  rw [List.length_take]at hal
  generalize cD (p.take j)=acc at *
  generalize p[j]=a at *
  obtain⟨kd,nm,xx,yy,lo,hi⟩:=a
  rw [show atR ⟨kd,nm,xx,yy,lo,hi⟩=[.int .i64 kd, .str nm, .str xx, .str yy, .int .i64 lo, .int .i64 hi]from rfl]at hrow
  dsimp only at hacc
  ((conv=>whnf);repeat ((first|(refine⟨_,hrow, ?_⟩)|(intro hq;try simp only [lnS]at hq)|refine sI ?_|refine .intro _ (.intro rfl ?_));(conv=>whnf)))
  refine aJ hty (λy:Nat×Nat=>([(2, .mw 70 1 (acc++([xx,yy].take y.1).filter bE).length),(8, .d (.sl 6 (p.map atR))),(9, .d (.int .i64 p.length)),(10, .d (.int .i64 j)),(18, .d (.agg [.str xx, .str yy])),(19, .d (.int .i64 y.1))],[(70, .mrow 9 1 y.2 ((acc++([xx,yy].take y.1).filter bE).map aV))])) (λy=>y.1<=2) (λy=>2 - y.1) (0,cap) (by dsimp only;omega) ⟨by repeat' (first|exact trivial|exact rfl|exact aVx (by simp)|refine And.intro ?_ ?_),⟨by dsimp only;simp;rfl,trivial⟩⟩ ?_
  rintro⟨i,cap2⟩ hi
  dsimp only at hi
  have hrl:((acc++([xx,yy].take i).filter bE).map aV).length=(acc++([xx,yy].take i).filter bE).length:=List.length_map ..
  have hil:(([xx,yy].take i).filter bE).length<=2:=by
   refine Nat.le_trans (List.length_filter_le ..) ?_
   simp;omega
  have hb63:((acc++([xx,yy].take i).filter bE).map aV).length+1<=9223372036854775807:=by rw [hrl,List.length_append];omega
  have hb48:(((acc++([xx,yy].take i).filter bE).map aV).length+1)* 16<=140737488355328:=by rw [hrl,List.length_append];omega
  have hc:i=0\/i=1\/i=2:=by omega
  have hcx:=eC xx
  have hcy:=eC yy
  rcases hc with rfl|rfl|rfl
  ·have hT:bE xx=true->acc++([xx,yy].take 1).filter bE=(acc++([xx,yy].take 0).filter bE)++[xx]:= λh=>by
    cases hx:bE xx<;>simp_all [List.filter_cons]
   have hF:bE xx=false->acc++([xx,yy].take 1).filter bE=acc++([xx,yy].take 0).filter bE:= λh=>by
    cases hx:bE xx<;>simp_all [List.filter_cons]
   generalize acc++([xx,yy].take 0).filter bE=acc2 at *
   ((conv=>whnf);repeat' ((first|(intro hq;(try simp only [lnS]at hq);(try rewrite [List.length_map]))|refine sJ ?_|refine .intro _ (.intro rfl ?_)|refine exL (k:= ?_)|(refine And.intro hb63 ?_)|(refine And.intro hb48 ?_)|(refine And.intro hrl.symm ?_)|(refine aA [] hcx trivial (λr hs=> ?_);subst hs)|refine dwR ?_|((first|refine aC ?_ ?_|refine aD ?_ ?_)<;>intro hb<;>(first|exact ddX hb|try simp only [lnS]at hb))|(refine aB ?_ ?_<;>intro hb<;>try exact dsX hb))<;>(conv=>whnf)))
   ·rename_i cap3
    refine⟨(1,cap3),by dsimp only;omega,by dsimp only;omega,⟨?_, ?_⟩⟩
    ·dsimp only
     rw [hT (decide_eq_true hb)]
     repeat' (first|exact trivial|exact aVx (by rw [List.length_append];rfl)|exact rfl|refine And.intro ?_ ?_)
    ·dsimp only
     rw [hT (decide_eq_true hb),List.map_append]
     exact⟨rfl,trivial⟩
   ·refine⟨(1,cap2),by dsimp only;omega,by dsimp only;omega,⟨?_, ?_⟩⟩
    ·dsimp only
     rw [hF (decide_eq_false hb)]
     exact by repeat' (first|exact trivial|exact rfl|refine And.intro ?_ ?_)
    ·dsimp only
     rw [hF (decide_eq_false hb)]
     exact⟨rfl,trivial⟩
  ·have hT:bE yy=true->acc++([xx,yy].take 2).filter bE=(acc++([xx,yy].take 1).filter bE)++[yy]:= λh=>by
    cases hx:bE xx<;>simp_all [List.filter_cons]
   have hF:bE yy=false->acc++([xx,yy].take 2).filter bE=acc++([xx,yy].take 1).filter bE:= λh=>by
    cases hx:bE xx<;>simp_all [List.filter_cons]
   generalize acc++([xx,yy].take 1).filter bE=acc2 at *
   ((conv=>whnf);repeat' ((first|(intro hq;(try simp only [lnS]at hq);(try rewrite [List.length_map]))|refine sJ ?_|refine .intro _ (.intro rfl ?_)|refine exL (k:= ?_)|(refine And.intro hb63 ?_)|(refine And.intro hb48 ?_)|(refine And.intro hrl.symm ?_)|(refine aA [] hcy trivial (λr hs=> ?_);subst hs)|refine dwR ?_|((first|refine aC ?_ ?_|refine aD ?_ ?_)<;>intro hb<;>(first|exact ddX hb|try simp only [lnS]at hb))|(refine aB ?_ ?_<;>intro hb<;>try exact dsX hb))<;>(conv=>whnf)))
   ·rename_i cap3
    refine⟨(2,cap3),by dsimp only;omega,by dsimp only;omega,⟨?_, ?_⟩⟩
    ·dsimp only
     rw [hT (decide_eq_true hb)]
     repeat' (first|exact trivial|exact aVx (by rw [List.length_append];rfl)|exact rfl|refine And.intro ?_ ?_)
    ·dsimp only
     rw [hT (decide_eq_true hb),List.map_append]
     exact⟨rfl,trivial⟩
   ·refine⟨(2,cap2),by dsimp only;omega,by dsimp only;omega,⟨?_, ?_⟩⟩
    ·dsimp only
     rw [hF (decide_eq_false hb)]
     exact by repeat' (first|exact trivial|exact rfl|refine And.intro ?_ ?_)
    ·dsimp only
     rw [hF (decide_eq_false hb)]
     exact⟨rfl,trivial⟩
  ·rw [show ([xx,yy].take 2).filter bE=[xx,yy].filter bE from rfl,<-hacc]at *
   ((conv=>whnf);repeat' ((first|(intro hq;(try simp only [lnS]at hq);(try rewrite [List.length_map]))|refine sJ ?_|refine .intro _ (.intro rfl ?_)|refine exL (k:= ?_)|refine dwR ?_|((first|refine aC ?_ ?_|refine aD ?_ ?_)<;>intro hb<;>(first|exact ddX hb|try simp only [lnS]at hb))|(refine aB ?_ ?_<;>intro hb<;>try exact dsX hb))<;>(conv=>whnf)))
   exact⟨(j+1,cap2),by dsimp only;omega,by dsimp only;omega,⟨by repeat' (first|exact trivial|exact rfl|refine And.intro ?_ ?_),rfl,trivial⟩⟩
 ·have hjl:j=p.length:=by omega
  subst hjl
  rw [List.take_length]
  have hso:=(List.mergeSort_perm (cD p) (λx y=>decide (x<=y))).length_eq
  ((conv=>whnf);repeat ((first|(intro hq;try simp only [lnS]at hq)|refine sI ?_|refine .intro _ (.intro rfl ?_));(conv=>whnf)))
  refine aE5 Tryz.sortStr (cD p) rfl rfl (by omega) ?_
  ((conv=>whnf);repeat ((first|(intro hq;try simp only [lnS]at hq)|refine sI ?_|refine .intro _ (.intro rfl ?_));(conv=>whnf)))
  refine zW (aKr (cD p)) (by rw [show (aKr (cD p)).length=(cD p).length from hso];omega) cap _ hso.symm [] (by simp) (aVu (by with_unfolding_all exact rfl)) (by simp [lQ]) rfl (λo=>trivial) (λcap'=> ?_)
  ((conv=>whnf);repeat ((first|(intro hq;try simp only [lnS]at hq)|refine sI ?_|refine .intro _ (.intro rfl ?_));(conv=>whnf)))
  refine⟨(List.length_map ..).symm, ?_⟩
  ((conv=>whnf);repeat ((first|(intro hq;try simp only [lnS]at hq)|refine sI ?_|refine .intro _ (.intro rfl ?_));(conv=>whnf)))
  rfl
end Go.Proofs.YtdjfkmkdkclahaaGreatDoor
namespace Go.Proofs.YtdjfkmkdkclahaaGreatDoor
open Go.Proofs
theorem pG: ∀(n:Nat) (l:List (List UInt8)) (_:l.length<=n),l.eraseDups.Nodup
 | 0,l,h=>by
  have:l=[]:=List.length_eq_zero_iff.1 (by omega)
  subst this
  simp
 |n+1,[],_=>by simp
 |n+1,a::r,h=>by
  rw [List.eraseDups_cons,List.nodup_cons]
  refine⟨?_,pG n _ (Nat.le_trans (List.length_filter_le ..) (by simpa using h))⟩
  rw [List.mem_eraseDups,List.mem_filter]
  simp
theorem aUn (a b c:List UInt8) (h1:decide (a<=b)=true) (h2:decide (b<=c)=true):decide (a<=c)=true:=by
 rw [decide_eq_true_eq]at *
 exact List.le_trans h1 h2
theorem aUo (a b:List UInt8):(decide (a<=b) || decide (b<=a))=true:=by
 rw [Bool.or_eq_true,decide_eq_true_eq,decide_eq_true_eq]
 exact List.le_total a b
theorem aXd: ∀(p:List UInt8) (l:List (List UInt8)) (_:(p::l).Pairwise (λa b=>decide (a<=b)=true)),(p::aAu eqS p l).Nodup/\ ∀x,x∈p::aAu eqS p l↔x∈p::l
 |p,[],_=>⟨by simp [aAu],λx=>by simp [aAu]⟩
 |p,b::r,h=>by
  obtain⟨h1,h2⟩:=List.pairwise_cons.1 h
  obtain⟨i1,i2⟩:=aXd b r h2
  rw [aAu]
  by_cases e:b=p
  ·subst e
   rw [if_pos (by simp [eqS])]
   exact⟨i1,λx=>by rw [i2 x];simp⟩
  ·rw [if_neg (by simpa [eqS]using e)]
   refine⟨List.nodup_cons.2 ⟨λhm=> ?_,i1⟩,λx=> ?_⟩
   ·have hm':=(i2 p).1 hm
    have hbp:p<=b:=by simpa using h1 b List.mem_cons_self
    rcases List.mem_cons.1 hm' with rfl|hr
    ·exact e rfl
    ·have:=(List.pairwise_cons.1 h2).1 p hr
     rw [decide_eq_true_eq]at this
     exact e (List.le_antisymm this hbp)
   ·rw [List.mem_cons,i2 x];exact List.mem_cons.symm
theorem aWn (l:List (List UInt8)) (h:l.Pairwise (λa b=>decide (a<=b)=true)):(mT eqS l).Nodup/\ ∀x,x∈mT eqS l↔x∈l:=by
 cases l with
 |nil=>exact⟨by simp [mT],λx=>by simp [mT]⟩
 |cons a r=>exact aXd a r h
theorem eI (p:List At):(cG p).Nodup/\ ∀x,x∈cG p↔x∈cD p:=by
 obtain⟨h1,h2⟩:=aWn (aKr (cD p)) (List.pairwise_mergeSort aUn aUo _)
 exact⟨h1,λx=>by rw [show cG p=mT eqS (aKr (cD p))from rfl,h2 x];exact(List.mergeSort_perm _ _).mem_iff⟩
theorem aDu (p:List At):(cG p).length=(cD p).eraseDups.length:=by
 obtain⟨h1,h2⟩:=eI p
 refine List.Perm.length_eq ((List.perm_ext_iff_of_nodup h1 (pG _ _ (Nat.le_refl _))).2 λx=> ?_)
 rw [h2 x,List.mem_eraseDups]
def aK0 (told:List (List UInt8)) (parts:List (List At)) (i:Nat):Bool:=(told.take i).contains (told.getD i []) || parts.any (λp=> !(cD p).contains (told.getD i []))
theorem aH5 (told:List (List UInt8)) (parts:List (List At)):sN told parts=if told.any (λt=> !mW t)then 20 else if (List.range told.length).any (aK0 told parts)then 210 else 0:=rfl
theorem pV {F:Nat->Bool}{n j:Nat}(h:j < n) (hf:F j=true):(List.range n).any F=true:=List.any_eq_true.2 ⟨j,List.mem_range.2 h,hf⟩
theorem mR {F:Nat->Bool}{j:Nat}(h:(List.range j).any F=false) (hf:F j=false):(List.range (j+1)).any F=false:=by
 rw [List.range_succ,List.any_append,h];simp [hf]
theorem jL {α:Type}{F:α->Bool}{l:List α}{j:Nat}(h:j < l.length) (hf:F l[j]=true):l.any F=true:=List.any_eq_true.2 ⟨l[j],List.getElem_mem h,hf⟩
theorem fL {α:Type}{F:α->Bool}{l:List α}{j:Nat}(h:j < l.length) (hk:(l.take j).any F=false) (hf:F l[j]=false):(l.take (j+1)).any F=false:=by
 rw [List.take_succ_eq_append_getElem h,List.any_append,hk];simp [hf]
def iE (q:Qy):Int:=if q.parts.length < 1\/4 < q.parts.length\/3 < q.told.length then 210 else if q.parts.any (λp=>decide (p.length < 1) || decide (12 < p.length))then 210 else 0
theorem aOr (q:Qy):qE q=if iE q≠0 then iE q else if cE q.parts.flatten≠0 then cE q.parts.flatten else if sN q.told q.parts≠0 then sN q.told q.parts else if q.parts.any (λp=>decide (8 < (cD p).eraseDups.length))then 210 else 0:=by
 unfold qE iE
 by_cases h1:q.parts.length < 1\/4 < q.parts.length\/3 < q.told.length
 ·rw [if_pos h1,if_pos h1,if_pos (by decide)]
 ·rw [if_neg h1,if_neg h1]
  by_cases h2:q.parts.any (λp=>decide (p.length < 1) || decide (12 < p.length))=true
  ·rw [if_pos h2,if_pos h2,if_pos (by decide)]
  ·rw [if_neg h2,if_neg h2,if_neg (show ¬ (0:Int)≠0 by decide)]
end Go.Proofs.YtdjfkmkdkclahaaGreatDoor
namespace Go.Proofs.YtdjfkmkdkclahaaGreatDoor
open Go.Proofs
theorem zG: ∀(H T:List bZ) (s:bZ),s∉H->gV H T s=s
 | [],T,s,_=>by cases T<;>rfl
 |v::H,[],s,_=>rfl
 |v::H,t::T,s,h=>by
  rw [gV,if_neg (λe=>h (by rw [e];exact List.mem_cons_self))]
  exact zG H T s λhm=>h (List.mem_cons_of_mem _ hm)
theorem aM9: ∀{H T:List bZ}{i:Nat}{s t:bZ},H.Nodup->H[i]? =some s->T[i]? =some t->gV H T s=t
 | [],T,i,s,t,_,h,_=>by simp at h
 |v::H,[],i,s,t,_,_,h=>by simp at h
 |v::H,u::T,0,s,t,_,h1,h2=>by
  have h1:v=s:=by simpa using h1
  have h2:u=t:=by simpa using h2
  rw [gV,if_pos h1.symm,h2]
 |v::H,u::T,i+1,s,t,hn,h1,h2=>by
  obtain⟨n1,n2⟩:=List.nodup_cons.1 hn
  have h1:H[i]? =some s:=by simpa using h1
  have h2:T[i]? =some t:=by simpa using h2
  have hs:s∈H:=List.mem_of_getElem? h1
  rw [gV,if_neg (λe=>n1 (by rw [<-e];exact hs))]
  exact aM9 n2 h1 h2
theorem aP7 (k:Nat):bE (nmV k)=true:=rfl
abbrev gW (H:List bZ) (w:List Nat):bZ->bZ:=gV H (w.map λk=>nmV (k+1))
theorem aQq {H:List bZ}{w:List Nat}(hH:H.Nodup) (hN:H.length<=8) (hw:w.Perm (List.range H.length)) {s t:bZ}(hs:bE s=true->s∈H) (ht:bE t=true->t∈H) (e:gW H w s=gW H w t):s=t:=by
 have hl:w.length=H.length:=by rw [hw.length_eq,List.length_range]
 have hat: ∀s,s∈H-> ∃i k:Nat,H[i]? =some s/\w[i]? =some k/\k < H.length/\gW H w s=nmV (k+1):=by
  intro s hs
  obtain⟨i,hi⟩:=List.getElem?_of_mem hs
  have hil:=(List.getElem?_eq_some_iff.1 hi).1
  have hk:w[i]? =some (w[i]'(by omega)):=List.getElem?_eq_getElem (by omega)
  have hkn:=List.mem_range.1 (hw.mem_iff.1 (List.mem_of_getElem? hk))
  exact⟨i,_,hi,hk,hkn,aM9 hH hi (by rw [List.getElem?_map,hk];rfl)⟩
 have key: ∀s t,s∈H->t∉H->(bE t=true->t∈H)->gW H w s≠gW H w t:=by
  intro s t h1 h2 h3 e
  obtain⟨i,k,_,_,_,e1⟩:=hat s h1
  rw [e1,show gW H w t=t from zG _ _ _ h2]at e
  exact h2 (h3 (by rw [<-e];exact aP7 _))
 by_cases h1:s∈H
 ·by_cases h2:t∈H
  ·obtain⟨i,k,a1,a2,a3,a4⟩:=hat s h1
   obtain⟨j,m,b1,b2,b3,b4⟩:=hat t h2
   rw [a4,b4]at e
   have hkm:=aSe _ _ (by omega) (by omega) e
   obtain rfl:k=m:=by omega
   have hnd:w.Nodup:=hw.nodup_iff.2 List.nodup_range
   have hp:=List.pairwise_iff_getElem.1 hnd
   obtain⟨c1,c2⟩:=List.getElem?_eq_some_iff.1 a2
   obtain⟨d1,d2⟩:=List.getElem?_eq_some_iff.1 b2
   have hij:i=j:=by
    rcases Nat.lt_trichotomy i j with h|h|h
    ·exact absurd (c2.trans d2.symm) (hp i j c1 d1 h)
    ·exact h
    ·exact absurd (d2.trans c2.symm) (hp j i d1 c1 h)
   subst hij
   rw [a1]at b1
   injection b1
  ·exact absurd e (key s t h1 h2 ht)
 ·by_cases h2:t∈H
  ·exact absurd e.symm (key t s h2 h1 hs)
  ·rw [show gW H w s=s from zG _ _ _ h1,show gW H w t=t from zG _ _ _ h2]at e
   exact e
def Vof (p:List At) (H:List bZ):Prop:= ∀a∈p,(bE a.x=true->a.x∈H)/\(bE a.y=true->a.y∈H)
theorem aH3 {p:List At}:Vof p (cD p):=by
 intro a ha
 unfold cD
 refine⟨λh=> ?_,λh=> ?_⟩
 ·exact List.mem_filter.2 ⟨List.mem_flatMap.2 ⟨a,ha,by simp⟩,h⟩
 ·exact List.mem_filter.2 ⟨List.mem_flatMap.2 ⟨a,ha,by simp⟩,h⟩
theorem aU2 {p:List At}{H:List bZ}{w:List Nat}(hv:Vof p H) (hH:H.Nodup) (hN:H.length<=8) (hw:w.Perm (List.range H.length)) {a b:At}(ha:a∈p) (hb:b∈p) (e:rpA (gW H w) a=rpA (gW H w) b):a=b:=by
 obtain⟨k,n,x,y,lo,hi⟩:=a
 obtain⟨k',n',x',y',lo',hi'⟩:=b
 unfold rpA at e
 injection e with e1 e2 e3 e4 e5 e6
 have h1:=aQq hH hN hw (hv _ ha).1 (hv _ hb).1 e3
 have h2:=aQq hH hN hw (hv _ ha).2 (hv _ hb).2 e4
 dsimp only at *
 subst e1 e2 h1 h2 e5 e6
 rfl
theorem aLq {p P:List At}{f:At->At}(hi: ∀a∈P,∀b∈P,f a=f b->a=b):P.Nodup->(P.map f).Nodup:=by
 intro h
 rw [List.Nodup,List.pairwise_map]
 exact List.Pairwise.imp_of_mem (λ{a b} ha hb hne e=>hne (hi a ha b hb e)) h
def eO (p:List At) (H:List bZ) (w:List Nat):List At:=sF (p.map (rpA (gW H w)))
theorem aQ8 {p P:List At}{H:List bZ}{w:List Nat}(hP:IsTid p P) (hv:Vof p H) (hH:H.Nodup) (hN:H.length<=8) (hw:w.Perm (List.range H.length)):yOf P H (aFt w H.length) H.length=eO p H w:=by
 unfold yOf eO
 rw [aK8 hw]
 have hi: ∀a∈P,∀b∈P,rpA (gW H w) a=rpA (gW H w) b->a=b:= λa ha b hb e=>aU2 hv hH hN hw ((hP.m a).1 ha) ((hP.m b).1 hb) e
 have hnd:(P.map (rpA (gW H w))).Nodup:=aLq (p:=p) hi hP.n
 have h1:IsTid (p.map (rpA (gW H w))) (aE7 bM (P.map (rpA (gW H w)))):=by
  refine⟨eY bJ _,(lG _).nodup_iff.2 hnd,λx=> ?_⟩
  rw [(lG _).mem_iff,List.mem_map,List.mem_map]
  exact⟨λ⟨a,ha,e⟩=>⟨a,(hP.m a).1 ha,e⟩,λ⟨a,ha,e⟩=>⟨a,(hP.m a).2 ha,e⟩⟩
 exact h1.uniq (kC _) λx=>Iff.rfl
structure IsCan (p:List At) (H:List bZ) (y:List At):Prop where
 ex: ∃w:List Nat,w.Perm (List.range H.length)/\y=eO p H w
 le: ∀w:List Nat,w.Perm (List.range H.length)->bN bM y (eO p H w)<=0
theorem IsCan.uniq {p:List At}{H:List bZ}{y z:List At}(h:IsCan p H y) (k:IsCan p H z):y=z:=by
 obtain⟨w,hw,rfl⟩:=h.ex
 obtain⟨v,hv,rfl⟩:=k.ex
 have h1:=h.le v hv
 have h2:=k.le w hw
 have ha:=iP bJ (eO p H w) (eO p H v)
 exact(aBt (c:=bM) (λa b=>dL) _ _).1 (by omega)
theorem aJn {p P:List At}{H:List bZ}(hP:IsTid p P) (hv:Vof p H) (hH:H.Nodup) (hN:H.length<=8) (y:List At):aEw P H H.length 0 (List.replicate H.length none) y↔ ∃w:List Nat,w.Perm (List.range H.length)/\y=eO p H w:=by
 constructor
 ·rintro⟨a',h,rfl⟩
  obtain⟨w,hw,rfl⟩:=aFh.1 h
  exact⟨w,hw,aQ8 hP hv hH hN hw⟩
 ·rintro⟨w,hw,rfl⟩
  exact⟨aFt w H.length,aFh.2 ⟨w,hw,rfl⟩,(aQ8 hP hv hH hN hw).symm⟩
theorem aMn {p P:List At}{H:List bZ}(hP:IsTid p P) (hv:Vof p H) (hH:H.Nodup) (hN:H.length<=8): ∃y,dfs P H H.length 0 (List.replicate H.length none) none=some y/\IsCan p H y:=by
 have h:=(aMm P H hN H.length 0 (List.replicate H.length none) none (by omega)).iff (aJn hP hv hH hN)
 obtain⟨b,hb,_⟩:=h.le _ ⟨List.range H.length, .refl _,rfl⟩
 refine⟨b,hb, ?_,λw hw=> ?_⟩
 ·rcases h.or with e|⟨y,hy,e⟩
  ·rw [hb]at e;cases e
  ·rw [hb]at e
   injection e with e
   rw [e];exact hy
 ·obtain⟨b',hb',hl⟩:=h.le _ ⟨w,hw,rfl⟩
  rw [hb]at hb'
  injection hb' with hb'
  rw [hb'];exact hl
def dP (p:List At):List At:=(dfs (sF p) (cG p) (cG p).length 0 (List.replicate (cG p).length none) none).getD []
theorem fO (p:List At):Vof p (cG p)/\(cG p).Nodup:=by
 obtain⟨h1,h2⟩:=eI p
 exact⟨λa ha=>⟨λh=>(h2 _).2 ((aH3 a ha).1 h),λh=>(h2 _).2 ((aH3 a ha).2 h)⟩,h1⟩
theorem aT3 {p:List At}(h:(cG p).length<=8):IsCan p (cG p) (dP p):=by
 obtain⟨h1,h2⟩:=fO p
 obtain⟨y,e,hy⟩:=aMn (kC p) h1 h2 h
 unfold dP
 rw [e]
 exact hy
theorem aV0 {p:List At}{y:List At}(h:(cG p).length<=8) (hy:IsCan p (cG p) y):y=dP p:=hy.uniq (aT3 h)
end Go.Proofs.YtdjfkmkdkclahaaGreatDoor
namespace Go.Proofs.YtdjfkmkdkclahaaGreatDoor
open Go.Proofs
theorem aHg: ∀{l m:List bZ},l.Nodup->(∀x∈l,x∈m)->l.length=m.length->l.Perm m
 | [],m,_,_,h=>by
  have:m=[]:=List.length_eq_zero_iff.1 (by simpa using h.symm)
  rw [this]
 |a::r,m,hn,hs,hl=>by
  obtain⟨h1,h2⟩:=List.nodup_cons.1 hn
  have ha:=hs a List.mem_cons_self
  have he:=List.perm_cons_erase ha
  refine((aHg h2 (λx hx=> ?_) ?_).cons a).trans he.symm
  ·exact(List.mem_erase_of_ne (λe=>h1 (by rw [<-e];exact hx))).2 (hs x (List.mem_cons_of_mem _ hx))
  ·rw [List.length_erase_of_mem ha,<-hl];rfl
theorem aTq {σ:bZ->bZ}{H H':List bZ}{w':List Nat}(hH:H.Nodup) (hH':H'.Nodup) (hl:H.length=H'.length) (hm: ∀s∈H,σ s∈H') (hi: ∀s∈H,∀t∈H,σ s=σ t->s=t) (hw:w'.Perm (List.range H'.length)):
  ∃w:List Nat,w.Perm (List.range H.length)/\ ∀s∈H,gW H w s=gW H' w' (σ s):=by
 have hp:(H.map σ).Perm H':=by
  have hnd:(H.map σ).Nodup:=by
   rw [List.Nodup,List.pairwise_map]
   exact List.Pairwise.imp_of_mem (λ{a b} ha hb hne e=>hne (hi a ha b hb e)) hH
  have hsub: ∀x∈H.map σ,x∈H':= λx hx=>by
   obtain⟨s,hs,rfl⟩:=List.mem_map.1 hx
   exact hm s hs
  exact aHg hnd hsub (by rw [List.length_map];omega)
 have hlw:w'.length=H'.length:=by rw [hw.length_eq,List.length_range]
 have hat: ∀u∈H',∃i:Nat,i < H'.length/\H'[i]? =some u:=by
  intro u hu
  obtain⟨i,hi⟩:=List.getElem?_of_mem hu
  exact⟨i,(List.getElem?_eq_some_iff.1 hi).1,hi⟩
 let ix:bZ->Nat:= λu=>w'.getD (H'.idxOf u) 0
 have hix:H'.map ix=w':=by
  refine List.ext_getElem? λi=> ?_
  rw [List.getElem?_map]
  by_cases h:i < H'.length
  ·rw [List.getElem?_eq_getElem h,List.getElem?_eq_getElem (by omega)]
   simp only [Option.map_some,Option.some.injEq]
   show w'.getD (H'.idxOf H'[i]) 0=_
   have e:H'.idxOf H'[i]=i:=by
    have h1:H'.idxOf H'[i] < H'.length:=List.idxOf_lt_length_iff.2 (List.getElem_mem h)
    have h2:H'[H'.idxOf H'[i]]=H'[i]:=List.getElem_idxOf h1
    have hpw:=List.pairwise_iff_getElem.1 hH'
    rcases Nat.lt_trichotomy (H'.idxOf H'[i]) i with hlt|he|hgt
    ·exact absurd h2 (hpw _ _ h1 h hlt)
    ·exact he
    ·exact absurd h2.symm (hpw _ _ h h1 hgt)
   rw [e,List.getD_eq_getElem?_getD,List.getElem?_eq_getElem (by omega)]
   rfl
  ·rw [List.getElem?_eq_none (by omega),List.getElem?_eq_none (by omega)]
   rfl
 refine⟨H.map λs=>ix (σ s), ?_,λs hs=> ?_⟩
 ·have h1:=hp.map ix
  rw [List.map_map,hix]at h1
  rw [hl]
  exact h1.trans hw
 ·obtain⟨i,hi⟩:=List.getElem?_of_mem hs
  obtain⟨j,hj,hj'⟩:=hat _ (hm s hs)
  have e1:gW H (H.map λs=>ix (σ s)) s=nmV (ix (σ s)+1):=aM9 hH hi (by rw [List.getElem?_map,List.getElem?_map,hi];rfl)
  have e2:gW H' w' (σ s)=nmV (ix (σ s)+1):=by
   refine aM9 hH' hj' ?_
   conv=>lhs;rw [<-hix]
   rw [List.getElem?_map,List.getElem?_map,hj']
   rfl
  rw [e1,e2]
theorem aSn {p q:List At}{H H':List bZ}{w w':List Nat}{ρ:bZ->bZ}(hq: ∀x,x∈q↔x∈p.map (rpA ρ)) (h: ∀a∈p,gW H w a.x=gW H' w' (ρ a.x)/\gW H w a.y=gW H' w' (ρ a.y)):eO p H w=eO q H' w':=by
 refine aIx λx=> ?_
 rw [List.mem_map,List.mem_map]
 constructor
 ·rintro⟨a,ha,rfl⟩
  refine⟨rpA ρ a,(hq _).2 (List.mem_map.2 ⟨a,ha,rfl⟩), ?_⟩
  obtain⟨h1,h2⟩:=h a ha
  unfold rpA
  dsimp only
  rw [h1,h2]
 ·rintro⟨b,hb,rfl⟩
  obtain⟨a,ha,rfl⟩:=List.mem_map.1 ((hq b).1 hb)
  refine⟨a,ha, ?_⟩
  obtain⟨h1,h2⟩:=h a ha
  unfold rpA
  dsimp only
  rw [h1,h2]
end Go.Proofs.YtdjfkmkdkclahaaGreatDoor
