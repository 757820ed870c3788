/-
  Queries: slices.Compact and slices.Contains of strings. Queries: slices.Contains of strings; the variables of a part. Queries: what the variables of a part are, plainly. Queries: the numbers of parts and atoms; the told variables. Roles: which roles are simple where there are no axioms.
  Conditions: none.
-/
import Derived.Test.YtleihcnongldbaaGreatDoorVDb
import Derived.Test.YtleihcnongldbaaGreatDoorVUa
import Derived.Test.YtleihcnongldbaaGreatDoorVQqa
import Derived.Test.YtleihcnongldbaaGreatDoorVSne
set_option linter.unnecessarySimpa false
set_option linter.unusedSectionVars false
set_option linter.unusedSimpArgs false
set_option linter.unusedVariables false
set_option maxHeartbeats 16000000
namespace Go.Proofs.YtleihcnongldbaaGreatDoor
open Go.Proofs Go.RowKit
set_option maxRecDepth 10000
attribute [local irreducible] aO aH Tri aG YVC cL bB
def eqS (a b:List UInt8):Bool:=decide (a=b)
theorem tO (l:List (List UInt8)) (hlen:l.length<=1000000)
  (cap n:Nat) (hn:n=l.length) (hp0:Hp) {pin:Pin} {fr:Fr} {K:SV->Hp->Prop} (hp1: ∀k,100<=k->k∉pin) (hf: ∀k,100<=k->k∉fJ fr) (hh: ∀k,100<=k->k∉pD hp0) (hno:aQ hp0 70=none) (hsub: ∀o,aAc hp0 ((70,o)::hp0))
  (hk: ∀cap',K (.mw 170 1 (uE eqS l).length) ((170, .mrow 9 1 cap' ((uE eqS l).map cE))::hp0)):
  aH Tryz.prog pin fr ((70, .mrow 9 1 cap (l.map cE))::hp0) 109 [.mw 70 1 n] K:=by
 subst hn
 have fin: ∀(rows:List (List D)) (s:SV) (k:Nat),(s= .ms 70 1 0 k l.length\/(s= .mw 70 1 l.length/\k=l.length))->l.length=rows.length->k=(uE eqS l).length->rows.take k=(uE eqS l).map cE->PartP pin fr K 170 s ((70, .mrow 9 1 cap rows)::hp0):=by
  intro rows s k h1 h2 h3 h4
  refine⟨70,_,1,cap,k,l.length,rows,hp0,h1,rfl,h2,by rw [h3];exact aIe _ _,⟨hp1 _ (by decide),hf _ (by decide),aJn (by decide) rfl hh _ (by decide)⟩,hsub _,hno,λcap'=> ?_⟩
  rw [h3]at h4 |-
  rw [h4]
  exact hk cap'
 refine aH.closeP 170 ?_
 refine aI false [] hty Tryz.func109 rfl (kp [0,2,3,4,5,8,13,25,32,44]) 200 (by simp [Tryz.f109]) ?_
 ((conv=>whnf);repeat' ((first|(intro hq;(try simp only [lnS]at hq);(try rewrite [List.length_map]))|refine sJ ?_|refine .intro _ (.intro rfl ?_)|refine exL (k:= ?_)|refine dwR ?_|((first|refine aB ?_ ?_|refine aC ?_ ?_)<;>intro hb<;>(first|exact ddX hb|try simp only [lnS]at hb))|(refine aA ?_ ?_<;>intro hb<;>try exact dsX hb))<;>(conv=>whnf)))
 ·have hd:uE eqS l=l:=vR _ _ (by omega)
  exact fin _ _ l.length (.inr ⟨rfl,rfl⟩) (List.length_map ..).symm (by rw [hd]) (by rw [hd,List.take_of_length_le (by rw [List.length_map];exact Nat.le_refl _)])
 ·refine sH hty (λk:Nat=>([(0, .mw 70 1 l.length),(3, .d (.int .i64 k))],(70, .mrow 9 1 cap (l.map cE))::hp0)) (λk=>(1<=k/\k<=l.length)/\uE eqS (l.take k)=l.take k) (λk=>l.length - k) 1 ⟨by omega,vR _ _ (by rw [List.length_take];omega)⟩ (by repeat' (first|exact trivial|exact rfl|refine And.intro ?_ ?_)) rfl ?_
  rintro k ⟨⟨hk1,hkl⟩,hd⟩
  ((conv=>whnf);repeat ((first|(intro hq;try simp only [lnS]at hq)|refine sI ?_|refine .intro _ (.intro rfl ?_));(conv=>whnf)))
  refine aB (λh1=> ?_) (λh1=> ?_)
  ·have hkl':k < l.length:=by omega
   have hkp:k - 1 < l.length:=by omega
   have hrow1:(l.map cE)[(k:Int).toNat]? =some (cE l[k]):=aZ hkl'
   have hrow2:(l.map cE)[((k:Int) - 1).toNat]? =some (cE l[k - 1]):=by
    rw [show ((k:Int) - 1).toNat=k - 1 by omega,List.getElem?_map,List.getElem?_eq_getElem hkp];rfl
   have hdt:=zS eqS l (k - 1) (by omega)
   simp only [show k - 1+1=k by omega,show k - 1+2=k+1 by omega]at hdt
   ((conv=>whnf);repeat ((first|(intro hq;try simp only [lnS]at hq)|refine sI ?_|refine .intro _ (.intro rfl ?_));(conv=>whnf)))
   refine dwR ?_
   ((conv=>whnf);repeat ((first|(refine And.intro (List.length_map ..).symm ?_)|(refine⟨_,hrow1, ?_⟩)|(refine⟨_,hrow2, ?_⟩)|(intro hq;try simp only [lnS]at hq)|refine sI ?_|refine .intro _ (.intro rfl ?_));(conv=>whnf)))
   cases hb:decide (l[k]=l[k - 1])
   ·((conv=>whnf);repeat' ((first|(intro hq;(try simp only [lnS]at hq);(try rewrite [List.length_map]))|refine sJ ?_|refine .intro _ (.intro rfl ?_)|refine exL (k:= ?_)|refine dwR ?_|((first|refine aB ?_ ?_|refine aC ?_ ?_)<;>intro hb<;>(first|exact ddX hb|try simp only [lnS]at hb))|(refine aA ?_ ?_<;>intro hb<;>try exact dsX hb))<;>(conv=>whnf)))
    rw [show eqS l[k] l[k - 1]=false from hb,if_neg (by decide),hd]at hdt
    exact⟨k+1,⟨⟨by omega,by omega⟩,by rw [hdt];exact(List.take_succ_eq_append_getElem hkl').symm⟩,by dsimp only;omega,by repeat' (first|exact trivial|exact rfl|refine And.intro ?_ ?_),rfl⟩
   ·rw [show eqS l[k] l[k - 1]=true from hb,if_pos rfl,hd]at hdt
    ((conv=>whnf);repeat ((first|(refine uS hty rfl rfl rfl rfl rfl rfl ?_)|(intro hq;try simp only [lnS]at hq)|refine sI ?_|refine .intro _ (.intro rfl ?_));(conv=>whnf)))
    rw [show ((k:Int)).toNat=k from rfl]
    refine sH hty (λy:Nat×Nat×List (List UInt8)=>([(0, .mw 70 1 l.length),(3, .d (.int .i64 y.2.1)),(4, .ms 70 1 k (l.length - k) l.length),(5, .d (.int .i64 y.1))],(70, .mrow 9 1 cap (y.2.2.map cE))::hp0))
     (λy=>(1<=y.1/\y.1<=l.length - k)/\y.2.2.length=l.length/\(y.2.1+1<=k+y.1/\1<=y.2.1)/\y.2.2.take y.2.1=uE eqS (l.take (k+y.1))/\y.2.2.drop (k+y.1 - 1)=l.drop (k+y.1 - 1)) (λy=>l.length - k - y.1) (1,k,l) ⟨by dsimp only;omega,rfl,by dsimp only;omega,hdt.symm,rfl⟩ (by repeat' (first|exact trivial|exact rfl|refine And.intro ?_ ?_)) rfl ?_
    rintro⟨k2,m,q⟩ ⟨⟨hk21,hk2l⟩,hql,⟨hm1,hm0⟩,ht,hdr⟩
    dsimp only at hk21 hk2l hql hm1 hm0 ht hdr
    ((conv=>whnf);repeat ((first|(refine aI5 hty rfl rfl rfl ?_)|(intro hq;try simp only [lnS]at hq)|refine sI ?_|refine .intro _ (.intro rfl ?_));(conv=>whnf)))
    refine aB (λh2=> ?_) (λh2=> ?_)
    ·have hA:k+k2 < l.length:=by dsimp only at h2;omega
     have hB:k+k2 - 1 < l.length:=by omega
     have hml:m < q.length:=by omega
     have eA:q[k+k2]'(hql ▸ hA)=l[k+k2]:=iI hdr hql (by omega) hA
     have eB:q[k+k2 - 1]'(hql ▸ hB)=l[k+k2 - 1]:=iI hdr hql (by omega) hB
     have hrowA:(q.map cE)[k+(k2:Int).toNat]? =some (cE l[k+k2]):=by
      rw [Int.toNat_natCast,List.getElem?_map,List.getElem?_eq_getElem (hql ▸ hA),eA];rfl
     have hrowB:(q.map cE)[k+((k2:Int) - 1).toNat]? =some (cE l[k+k2 - 1]):=by
      rw [show k+((k2:Int) - 1).toNat=k+k2 - 1 by omega,List.getElem?_map,List.getElem?_eq_getElem (hql ▸ hB),eB];rfl
     have hrowM:(q.map cE)[(m:Int).toNat]? =some (cE q[m]):=aZ hml
     have hdt2:=zS eqS l (k+k2 - 1) (by omega)
     simp only [show k+k2 - 1+1=k+k2 by omega,show k+k2 - 1+2=k+(k2+1)by omega]at hdt2
     have hlq:l.length=(q.map cE).length:=by rw [List.length_map,hql]
     have hdr2:q.drop (k+k2)=l.drop (k+k2):=by
      have:=congrArg (List.drop 1) hdr
      rw [List.drop_drop,List.drop_drop,show k+k2 - 1+1=k+k2 by omega]at this
      exact this
     ((conv=>whnf);repeat ((first|(intro hq;try simp only [lnS]at hq)|refine sI ?_|refine .intro _ (.intro rfl ?_));(conv=>whnf)))
     refine dwR ?_
     ((conv=>whnf);repeat ((first|(refine And.intro hlq ?_)|(refine⟨_,hrowA, ?_⟩)|(refine⟨_,hrowB, ?_⟩)|(intro hq;try simp only [lnS]at hq)|refine sI ?_|refine .intro _ (.intro rfl ?_));(conv=>whnf)))
     cases hb2:decide (l[k+k2]=l[k+k2 - 1])
     ·((conv=>whnf);repeat' ((first|(intro hq;(try simp only [lnS]at hq);(try rewrite [List.length_map]))|refine sJ ?_|refine .intro _ (.intro rfl ?_)|refine exL (k:= ?_)|(refine And.intro hlq ?_)|(refine⟨_,hrowA, ?_⟩)|(refine⟨_,hrowM, ?_⟩)|(refine And.intro (aI6 rfl) ?_)|refine dwR ?_|((first|refine aB ?_ ?_|refine aC ?_ ?_)<;>intro hb<;>(first|exact ddX hb|try simp only [lnS]at hb))|(refine aA ?_ ?_<;>intro hb<;>try exact dsX hb))<;>(conv=>whnf)))
      rw [show eqS l[k+k2] l[k+k2 - 1]=false from hb2,if_neg (by decide),<-ht]at hdt2
      refine⟨(k2+1,m+1,q.set m l[k+k2]),⟨by dsimp only;omega,by dsimp only;rw [List.length_set];exact hql,by dsimp only;omega, ?_, ?_⟩,by dsimp only;omega,by repeat' (first|exact trivial|exact rfl|refine And.intro ?_ ?_), ?_⟩
      ·dsimp only
       rw [hdt2]
       exact wK _ hml
      ·dsimp only
       rw [show k+(k2+1) - 1=k+k2 by omega,List.drop_set_of_lt (by omega)]
       exact hdr2
      ·dsimp only
       rw [List.map_set]
       rfl
     ·((conv=>whnf);repeat' ((first|(intro hq;(try simp only [lnS]at hq);(try rewrite [List.length_map]))|refine sJ ?_|refine .intro _ (.intro rfl ?_)|refine exL (k:= ?_)|refine dwR ?_|((first|refine aB ?_ ?_|refine aC ?_ ?_)<;>intro hb<;>(first|exact ddX hb|try simp only [lnS]at hb))|(refine aA ?_ ?_<;>intro hb<;>try exact dsX hb))<;>(conv=>whnf)))
      rw [show eqS l[k+k2] l[k+k2 - 1]=true from hb2,if_pos rfl]at hdt2
      exact⟨(k2+1,m,q),⟨by dsimp only;omega,hql,by dsimp only;omega,by dsimp only;rw [hdt2];exact ht,by dsimp only;rw [show k+(k2+1) - 1=k+k2 by omega];exact hdr2⟩,by dsimp only;omega,by repeat' (first|exact trivial|exact rfl|refine And.intro ?_ ?_),rfl⟩
    ·have hke:k+k2=l.length:=by dsimp only at h2;omega
     rw [hke,List.take_length]at ht
     have hlq:l.length=(q.map cE).length:=by rw [List.length_map,hql]
     have hmq:m+(l.length - m)=(q.map cE).length:=by rw [List.length_map,hql];omega
     have hml:=congrArg List.length ht
     rw [List.length_take,Nat.min_eq_left (by omega)]at hml
     ((conv=>whnf);repeat' ((first|(intro hq;(try simp only [lnS]at hq);(try rewrite [List.length_map]))|refine sJ ?_|refine .intro _ (.intro rfl ?_)|refine exL (k:= ?_)|(refine uS hty rfl rfl rfl rfl rfl rfl ?_)|(refine aDo hty rfl rfl (by decide) rfl rfl rfl hlq hmq ?_)|refine dwR ?_|((first|refine aB ?_ ?_|refine aC ?_ ?_)<;>intro hb<;>(first|exact ddX hb|try simp only [lnS]at hb))|(refine aA ?_ ?_<;>intro hb<;>try exact dsX hb))<;>(conv=>whnf)))
     refine fin _ _ m (.inl rfl) ?_ hml ?_
     ·simp only [List.length_append,List.length_take,List.length_replicate,List.length_map]
      show l.length=min m q.length+(l.length - m)
      omega
     ·show ((q.map cE).take m++_).take m=_
      rw [List.take_append_of_le_length (by rw [List.length_take,List.length_map];omega),List.take_take,Nat.min_self,<-List.map_take,ht]
  ·have hkl':k=l.length:=by omega
   subst hkl'
   rw [List.take_length]at hd
   ((conv=>whnf);repeat' ((first|(intro hq;(try simp only [lnS]at hq);(try rewrite [List.length_map]))|refine sJ ?_|refine .intro _ (.intro rfl ?_)|refine exL (k:= ?_)|refine dwR ?_|((first|refine aB ?_ ?_|refine aC ?_ ?_)<;>intro hb<;>(first|exact ddX hb|try simp only [lnS]at hb))|(refine aA ?_ ?_<;>intro hb<;>try exact dsX hb))<;>(conv=>whnf)))
   exact fin _ _ l.length (.inr ⟨rfl,rfl⟩) (List.length_map ..).symm (by rw [hd]) (by rw [hd,List.take_of_length_le (by rw [List.length_map];exact Nat.le_refl _)])
end Go.Proofs.YtleihcnongldbaaGreatDoor
namespace Go.Proofs.YtleihcnongldbaaGreatDoor
open Go.Proofs Go.RowKit
set_option maxRecDepth 10000
attribute [local irreducible] aO aH Tri aG YVC cL bB
def aJa:List (List UInt8)->List UInt8->Int->Int
 | [],_,_=> -1
 |a::r,s,i=>if s=a then i else aJa r s (i+1)
theorem aFk: ∀(l:List (List UInt8)) (s:List UInt8) (i:Int) (_:0<=i),decide (aJa l s i>=0)=decide (s∈l)
 | [],s,i,_=>by simp [aJa]
 |a::r,s,i,h=>by
  have ih:=aFk r s (i+1) (by omega)
  rw [aJa]
  by_cases e:s=a
  ·rw [if_pos e,decide_eq_true (by omega),decide_eq_true (by rw [e];exact List.mem_cons_self)]
  ·rw [if_neg e,ih,decide_eq_decide,List.mem_cons]
   exact⟨.inr,λh=>h.resolve_left e⟩
theorem aFj (l:List (List UInt8)) (s:List UInt8):Tri Tryz.prog 147 [.d (.sl 1 (l.map cE)), .d (.str s)] [] (λr=>r= .d (.int .i64 (aJa l s 0))):=by
 refine aJ hty Tryz.func147 rfl (kp [0,1,4,5,7,8,9,16]) [] _ _ _ (by simp [Tryz.f147]) (by simp) ?_
 ((conv=>whnf);repeat' ((first|(intro hq;(try simp only [lnS]at hq);(try rewrite [List.length_map]))|refine sJ ?_|refine .intro _ (.intro rfl ?_)|refine exL (k:= ?_)|refine dwR ?_|((first|refine aB ?_ ?_|refine aC ?_ ?_)<;>intro hb<;>(first|exact ddX hb|try simp only [lnS]at hb))|(refine aA ?_ ?_<;>intro hb<;>try exact dsX hb))<;>(conv=>whnf)))
 refine aL hty (λj:Nat=>([(0, .d (.sl 1 (l.map cE))),(1, .d (.str s)),(7, .d (.int .i64 l.length)),(8, .d (.int .i64 j))],[])) (λj=>j<=l.length/\aJa l s 0=aJa (l.drop j) s j) (λj=>l.length - j) 0 ⟨by omega,rfl⟩ ⟨by repeat' (first|exact trivial|exact rfl|(rw [List.length_map];exact rfl)|refine And.intro ?_ ?_),trivial⟩ ?_
 rintro j ⟨hj,hn⟩
 ((conv=>whnf);repeat ((first|(intro hq;try simp only [lnS]at hq)|refine sI ?_|refine .intro _ (.intro rfl ?_));(conv=>whnf)))
 refine aB (λh1=> ?_) (λh1=> ?_)
 ·have hjl:j < l.length:=by omega
  have hrow:(l.map cE)[(j:Int).toNat]? =some (cE l[j]):=aZ hjl
  rw [List.drop_eq_getElem_cons hjl,aJa]at hn
  generalize l[j]=x at hrow hn
  ((conv=>whnf);repeat' ((first|(intro hq;(try simp only [lnS]at hq);(try rewrite [List.length_map]))|refine sJ ?_|refine .intro _ (.intro rfl ?_)|refine exL (k:= ?_)|(refine⟨_,hrow, ?_⟩)|refine dwR ?_|((first|refine aB ?_ ?_|refine aC ?_ ?_)<;>intro hb<;>(first|exact ddX hb|try simp only [lnS]at hb))|(refine aA ?_ ?_<;>intro hb<;>try exact dsX hb))<;>(conv=>whnf)))
  ·rw [hn,if_pos hb];rfl
  ·rw [if_neg hb]at hn
   refine⟨j+1,⟨by omega,hn⟩,by dsimp only;omega,by repeat' (first|exact trivial|exact rfl|refine And.intro ?_ ?_),trivial⟩
 ·have hjl:j=l.length:=by omega
  subst hjl
  ((conv=>whnf);repeat' ((first|(intro hq;(try simp only [lnS]at hq);(try rewrite [List.length_map]))|refine sJ ?_|refine .intro _ (.intro rfl ?_)|refine exL (k:= ?_)|refine dwR ?_|((first|refine aB ?_ ?_|refine aC ?_ ?_)<;>intro hb<;>(first|exact ddX hb|try simp only [lnS]at hb))|(refine aA ?_ ?_<;>intro hb<;>try exact dsX hb))<;>(conv=>whnf)))
  rw [hn,List.drop_length];rfl
theorem jB (l:List (List UInt8)) (s:List UInt8):Tri Tryz.prog 106 [.d (.sl 1 (l.map cE)), .d (.str s)] [] (λr=>r= .d (.bool (decide (s∈l)))):=by
 have h:=aFj l s
 refine aJ hty Tryz.func106 rfl (kp [0,1,4]) [] _ _ _ (by simp [Tryz.f106]) (by simp) ?_
 ((conv=>whnf);repeat' ((first|(intro hq;(try simp only [lnS]at hq);(try rewrite [List.length_map]))|refine sJ ?_|refine .intro _ (.intro rfl ?_)|refine exL (k:= ?_)|(refine aD [] h trivial (λr hs=> ?_);subst hs)|refine dwR ?_|((first|refine aB ?_ ?_|refine aC ?_ ?_)<;>intro hb<;>(first|exact ddX hb|try simp only [lnS]at hb))|(refine aA ?_ ?_<;>intro hb<;>try exact dsX hb))<;>(conv=>whnf)))
 exact aX (aFk l s 0 (by omega))
def wD (p:List At):List (List UInt8):=uE eqS (aEm (dP p))
theorem yO (p:List At):(dP p).length<=2 * p.length:=by
 refine Nat.le_trans (List.length_filter_le ..) ?_
 induction p with
 |nil=>exact Nat.le_refl _
 |cons a r ih=>simp only [List.flatMap_cons,List.length_append,List.length_cons,List.length_nil];omega
theorem aCk {p:List At}{j:Nat}(h:j < p.length):dP (p.take (j+1))=dP (p.take j)++[p[j].x,p[j].y].filter bV:=by
 unfold dP
 rw [List.take_succ_eq_append_getElem h,List.flatMap_append,List.filter_append]
 simp
theorem mR (p:List At) (hlen:p.length<=100000):Tri Tryz.prog 65 [.d (.agg (bI p))] [] (λr=>r= .d (.sl 1 ((wD p).map cE))):=by
 have hvl:=yO p
 show Tri Tryz.prog 65 [.d (.agg [.sl 6 (p.map atR)])] [] _
 refine aF false [1,4] hty Tryz.func65 rfl (kp [0,1,2,4,6,8,9,10,11,18,19,20,23]) [] _ _ _ (by simp [Tryz.f65]) (by simp) ?_
 ((conv=>whnf);repeat ((first|(intro hq;try simp only [lnS]at hq)|refine sI ?_|refine .intro _ (.intro rfl ?_));(conv=>whnf)))
 refine aO.mown 2 70 9 1 rfl (cI (by with_unfolding_all exact rfl)) ?_
 refine aL hty (λy:Nat×Nat=>([(2, .mw 70 1 (dP (p.take y.1)).length),(8, .d (.sl 6 (p.map atR))),(9, .d (.int .i64 p.length)),(10, .d (.int .i64 y.1))],[(70, .mrow 9 1 y.2 ((dP (p.take y.1)).map cE))])) (λy=>y.1<=p.length) (λy=>p.length - y.1) (0,0) (by dsimp only;omega) ⟨by repeat' (first|exact trivial|exact rfl|(rw [List.length_map];exact rfl)|refine And.intro ?_ ?_),⟨rfl,trivial⟩⟩ ?_
 rintro⟨j,cap⟩ hj
 dsimp only at hj
 ((conv=>whnf);repeat ((first|(intro hq;try simp only [lnS]at hq)|refine sI ?_|refine .intro _ (.intro rfl ?_));(conv=>whnf)))
 refine aB (λh1=> ?_) (λh1=> ?_)
 ·have hjl:j < p.length:=by omega
  have hrow:(p.map atR)[(j:Int).toNat]? =some (atR p[j]):=aZ hjl
  have hacc:=aCk hjl
  have hal:=yO (p.take j)
  rw [List.length_take]at hal
  generalize dP (p.take j)=acc at *
  generalize p[j]=a at *
  obtain⟨kd,nm,xx,yy,lo,hi⟩:=a
  rw [show atR ⟨kd,nm,xx,yy,lo,hi⟩=[.int .i64 kd, .str nm, .str xx, .str yy, .int .i64 lo, .int .i64 hi]from rfl]at hrow
  dsimp only at hacc
  ((conv=>whnf);repeat ((first|(refine⟨_,hrow, ?_⟩)|(intro hq;try simp only [lnS]at hq)|refine sI ?_|refine .intro _ (.intro rfl ?_));(conv=>whnf)))
  refine aL hty (λy:Nat×Nat=>([(2, .mw 70 1 (acc++([xx,yy].take y.1).filter bV).length),(8, .d (.sl 6 (p.map atR))),(9, .d (.int .i64 p.length)),(10, .d (.int .i64 j)),(18, .d (.agg [.str xx, .str yy])),(19, .d (.int .i64 y.1))],[(70, .mrow 9 1 y.2 ((acc++([xx,yy].take y.1).filter bV).map cE))])) (λy=>y.1<=2) (λy=>2 - y.1) (0,cap) (by dsimp only;omega) ⟨by repeat' (first|exact trivial|exact rfl|exact aO5 (by simp)|refine And.intro ?_ ?_),⟨by dsimp only;simp;rfl,trivial⟩⟩ ?_
  rintro⟨i,cap2⟩ hi
  dsimp only at hi
  have hrl:((acc++([xx,yy].take i).filter bV).map cE).length=(acc++([xx,yy].take i).filter bV).length:=List.length_map ..
  have hil:(([xx,yy].take i).filter bV).length<=2:=by
   refine Nat.le_trans (List.length_filter_le ..) ?_
   simp;omega
  have hb63:((acc++([xx,yy].take i).filter bV).map cE).length+1<=9223372036854775807:=by rw [hrl,List.length_append];omega
  have hb48:(((acc++([xx,yy].take i).filter bV).map cE).length+1)* 16<=140737488355328:=by rw [hrl,List.length_append];omega
  have hc:i=0\/i=1\/i=2:=by omega
  have hcx:=dZ xx
  have hcy:=dZ yy
  rcases hc with rfl|rfl|rfl
  ·have hT:bV xx=true->acc++([xx,yy].take 1).filter bV=(acc++([xx,yy].take 0).filter bV)++[xx]:= λh=>by
    cases hx:bV xx<;>simp_all [List.filter_cons]
   have hF:bV xx=false->acc++([xx,yy].take 1).filter bV=acc++([xx,yy].take 0).filter bV:= λh=>by
    cases hx:bV xx<;>simp_all [List.filter_cons]
   generalize acc++([xx,yy].take 0).filter bV=acc2 at *
   ((conv=>whnf);repeat' ((first|(intro hq;(try simp only [lnS]at hq);(try rewrite [List.length_map]))|refine sJ ?_|refine .intro _ (.intro rfl ?_)|refine exL (k:= ?_)|(refine And.intro hb63 ?_)|(refine And.intro hb48 ?_)|(refine And.intro hrl.symm ?_)|(refine aD [] hcx trivial (λr hs=> ?_);subst hs)|refine dwR ?_|((first|refine aB ?_ ?_|refine aC ?_ ?_)<;>intro hb<;>(first|exact ddX hb|try simp only [lnS]at hb))|(refine aA ?_ ?_<;>intro hb<;>try exact dsX hb))<;>(conv=>whnf)))
   ·rename_i cap3
    refine⟨(1,cap3),by dsimp only;omega,by dsimp only;omega,⟨?_, ?_⟩⟩
    ·dsimp only
     rw [hT (decide_eq_true hb)]
     repeat' (first|exact trivial|exact aO5 (by rw [List.length_append];rfl)|exact rfl|refine And.intro ?_ ?_)
    ·dsimp only
     rw [hT (decide_eq_true hb),List.map_append]
     exact⟨rfl,trivial⟩
   ·refine⟨(1,cap2),by dsimp only;omega,by dsimp only;omega,⟨?_, ?_⟩⟩
    ·dsimp only
     rw [hF (decide_eq_false hb)]
     exact by repeat' (first|exact trivial|exact rfl|refine And.intro ?_ ?_)
    ·dsimp only
     rw [hF (decide_eq_false hb)]
     exact⟨rfl,trivial⟩
  ·have hT:bV yy=true->acc++([xx,yy].take 2).filter bV=(acc++([xx,yy].take 1).filter bV)++[yy]:= λh=>by
    cases hx:bV xx<;>simp_all [List.filter_cons]
   have hF:bV yy=false->acc++([xx,yy].take 2).filter bV=acc++([xx,yy].take 1).filter bV:= λh=>by
    cases hx:bV xx<;>simp_all [List.filter_cons]
   generalize acc++([xx,yy].take 1).filter bV=acc2 at *
   ((conv=>whnf);repeat' ((first|(intro hq;(try simp only [lnS]at hq);(try rewrite [List.length_map]))|refine sJ ?_|refine .intro _ (.intro rfl ?_)|refine exL (k:= ?_)|(refine And.intro hb63 ?_)|(refine And.intro hb48 ?_)|(refine And.intro hrl.symm ?_)|(refine aD [] hcy trivial (λr hs=> ?_);subst hs)|refine dwR ?_|((first|refine aB ?_ ?_|refine aC ?_ ?_)<;>intro hb<;>(first|exact ddX hb|try simp only [lnS]at hb))|(refine aA ?_ ?_<;>intro hb<;>try exact dsX hb))<;>(conv=>whnf)))
   ·rename_i cap3
    refine⟨(2,cap3),by dsimp only;omega,by dsimp only;omega,⟨?_, ?_⟩⟩
    ·dsimp only
     rw [hT (decide_eq_true hb)]
     repeat' (first|exact trivial|exact aO5 (by rw [List.length_append];rfl)|exact rfl|refine And.intro ?_ ?_)
    ·dsimp only
     rw [hT (decide_eq_true hb),List.map_append]
     exact⟨rfl,trivial⟩
   ·refine⟨(2,cap2),by dsimp only;omega,by dsimp only;omega,⟨?_, ?_⟩⟩
    ·dsimp only
     rw [hF (decide_eq_false hb)]
     exact by repeat' (first|exact trivial|exact rfl|refine And.intro ?_ ?_)
    ·dsimp only
     rw [hF (decide_eq_false hb)]
     exact⟨rfl,trivial⟩
  ·rw [show ([xx,yy].take 2).filter bV=[xx,yy].filter bV from rfl,<-hacc]at *
   ((conv=>whnf);repeat' ((first|(intro hq;(try simp only [lnS]at hq);(try rewrite [List.length_map]))|refine sJ ?_|refine .intro _ (.intro rfl ?_)|refine exL (k:= ?_)|refine dwR ?_|((first|refine aB ?_ ?_|refine aC ?_ ?_)<;>intro hb<;>(first|exact ddX hb|try simp only [lnS]at hb))|(refine aA ?_ ?_<;>intro hb<;>try exact dsX hb))<;>(conv=>whnf)))
   exact⟨(j+1,cap2),by dsimp only;omega,by dsimp only;omega,⟨by repeat' (first|exact trivial|exact rfl|refine And.intro ?_ ?_),rfl,trivial⟩⟩
 ·have hjl:j=p.length:=by omega
  subst hjl
  rw [List.take_length]
  have hso:=(List.mergeSort_perm (dP p) (λx y=>decide (x<=y))).length_eq
  ((conv=>whnf);repeat ((first|(intro hq;try simp only [lnS]at hq)|refine sI ?_|refine .intro _ (.intro rfl ?_));(conv=>whnf)))
  refine yR Tryz.sortStr (dP p) rfl rfl (by omega) ?_
  ((conv=>whnf);repeat ((first|(intro hq;try simp only [lnS]at hq)|refine sI ?_|refine .intro _ (.intro rfl ?_));(conv=>whnf)))
  refine tO (aEm (dP p)) (by rw [show (aEm (dP p)).length=(dP p).length from hso];omega) cap _ hso.symm [] (by simp) (aNb (by with_unfolding_all exact rfl)) (by simp [pD]) rfl (λo=>trivial) (λcap'=> ?_)
  ((conv=>whnf);repeat ((first|(intro hq;try simp only [lnS]at hq)|refine sI ?_|refine .intro _ (.intro rfl ?_));(conv=>whnf)))
  refine⟨(List.length_map ..).symm, ?_⟩
  ((conv=>whnf);repeat ((first|(intro hq;try simp only [lnS]at hq)|refine sI ?_|refine .intro _ (.intro rfl ?_));(conv=>whnf)))
  rfl
end Go.Proofs.YtleihcnongldbaaGreatDoor
namespace Go.Proofs.YtleihcnongldbaaGreatDoor
open Go.Proofs
theorem tF: ∀(n:Nat) (l:List (List UInt8)) (_:l.length<=n),l.eraseDups.Nodup
 | 0,l,h=>by
  have:l=[]:=List.length_eq_zero_iff.1 (by omega)
  subst this
  simp
 |n+1,[],_=>by simp
 |n+1,a::r,h=>by
  rw [List.eraseDups_cons,List.nodup_cons]
  refine⟨?_,tF n _ (Nat.le_trans (List.length_filter_le ..) (by simpa using h))⟩
  rw [List.mem_eraseDups,List.mem_filter]
  simp
theorem aMt (a b c:List UInt8) (h1:decide (a<=b)=true) (h2:decide (b<=c)=true):decide (a<=c)=true:=by
 rw [decide_eq_true_eq]at *
 exact List.le_trans h1 h2
theorem aMu (a b:List UInt8):(decide (a<=b) || decide (b<=a))=true:=by
 rw [Bool.or_eq_true,decide_eq_true_eq,decide_eq_true_eq]
 exact List.le_total a b
theorem aPs: ∀(p:List UInt8) (l:List (List UInt8)) (_:(p::l).Pairwise (λa b=>decide (a<=b)=true)),(p::aA7 eqS p l).Nodup/\ ∀x,x∈p::aA7 eqS p l↔x∈p::l
 |p,[],_=>⟨by simp [aA7],λx=>by simp [aA7]⟩
 |p,b::r,h=>by
  obtain⟨h1,h2⟩:=List.pairwise_cons.1 h
  obtain⟨i1,i2⟩:=aPs b r h2
  rw [aA7]
  by_cases e:b=p
  ·subst e
   rw [if_pos (by simp [eqS])]
   exact⟨i1,λx=>by rw [i2 x];simp⟩
  ·rw [if_neg (by simpa [eqS]using e)]
   refine⟨List.nodup_cons.2 ⟨λhm=> ?_,i1⟩,λx=> ?_⟩
   ·have hm':=(i2 p).1 hm
    have hbp:p<=b:=by simpa using h1 b List.mem_cons_self
    rcases List.mem_cons.1 hm' with rfl|hr
    ·exact e rfl
    ·have:=(List.pairwise_cons.1 h2).1 p hr
     rw [decide_eq_true_eq]at this
     exact e (List.le_antisymm this hbp)
   ·rw [List.mem_cons,i2 x];exact List.mem_cons.symm
theorem aOy (l:List (List UInt8)) (h:l.Pairwise (λa b=>decide (a<=b)=true)):(uE eqS l).Nodup/\ ∀x,x∈uE eqS l↔x∈l:=by
 cases l with
 |nil=>exact⟨by simp [uE],λx=>by simp [uE]⟩
 |cons a r=>exact aPs a r h
theorem rS (p:List At):(wD p).Nodup/\ ∀x,x∈wD p↔x∈dP p:=by
 obtain⟨h1,h2⟩:=aOy (aEm (dP p)) (List.pairwise_mergeSort aMt aMu _)
 exact⟨h1,λx=>by rw [show wD p=uE eqS (aEm (dP p))from rfl,h2 x];exact(List.mergeSort_perm _ _).mem_iff⟩
theorem aE4 (p:List At):(wD p).length=(dP p).eraseDups.length:=by
 obtain⟨h1,h2⟩:=rS p
 refine List.Perm.length_eq ((List.perm_ext_iff_of_nodup h1 (tF _ _ (Nat.le_refl _))).2 λx=> ?_)
 rw [h2 x,List.mem_eraseDups]
def aLz (told:List (List UInt8)) (parts:List (List At)) (i:Nat):Bool:=(told.take i).contains (told.getD i []) || parts.any (λp=> !(dP p).contains (told.getD i []))
theorem aH1 (told:List (List UInt8)) (parts:List (List At)):rT told parts=if told.any (λt=> !uO t)then 20 else if (List.range told.length).any (aLz told parts)then 210 else 0:=rfl
theorem wV {F:Nat->Bool}{n j:Nat}(h:j < n) (hf:F j=true):(List.range n).any F=true:=List.any_eq_true.2 ⟨j,List.mem_range.2 h,hf⟩
theorem uA {F:Nat->Bool}{j:Nat}(h:(List.range j).any F=false) (hf:F j=false):(List.range (j+1)).any F=false:=by
 rw [List.range_succ,List.any_append,h];simp [hf]
theorem yB {α:Type}{F:α->Bool}{l:List α}{j:Nat}(h:j < l.length) (hf:F l[j]=true):l.any F=true:=List.any_eq_true.2 ⟨l[j],List.getElem_mem h,hf⟩
theorem rG {α:Type}{F:α->Bool}{l:List α}{j:Nat}(h:j < l.length) (hk:(l.take j).any F=false) (hf:F l[j]=false):(l.take (j+1)).any F=false:=by
 rw [List.take_succ_eq_append_getElem h,List.any_append,hk];simp [hf]
def kE (q:Qy):Int:=if q.parts.length < 1\/4 < q.parts.length\/3 < q.told.length then 210 else if q.parts.any (λp=>decide (p.length < 1) || decide (12 < p.length))then 210 else 0
theorem aMl (q:Qy):qE q=if kE q≠0 then kE q else if dJ q.parts.flatten≠0 then dJ q.parts.flatten else if rT q.told q.parts≠0 then rT q.told q.parts else if q.parts.any (λp=>decide (8 < (dP p).eraseDups.length))then 210 else 0:=by
 unfold qE kE
 by_cases h1:q.parts.length < 1\/4 < q.parts.length\/3 < q.told.length
 ·rw [if_pos h1,if_pos h1,if_pos (by decide)]
 ·rw [if_neg h1,if_neg h1]
  by_cases h2:q.parts.any (λp=>decide (p.length < 1) || decide (12 < p.length))=true
  ·rw [if_pos h2,if_pos h2,if_pos (by decide)]
  ·rw [if_neg h2,if_neg h2,if_neg (show ¬ (0:Int)≠0 by decide)]
end Go.Proofs.YtleihcnongldbaaGreatDoor
namespace Go.Proofs.YtleihcnongldbaaGreatDoor
open Go.Proofs Go.RowKit
set_option maxRecDepth 10000
attribute [local irreducible] aO aH Tri aG YVC cL bB
theorem tR (q:Qy):Tri Tryz.prog 62 [.d (.agg (qyR q))] [] (λr=>r= .d (.int .i64 (kE q))):=by
 obtain⟨told,parts⟩:=q
 show Tri Tryz.prog 62 [.d (.agg [.sl 1 (told.map cE), .sl 1 (parts.map bI)])] [] _
 have hlt:(told.map cE).length=told.length:=List.length_map ..
 have hlp:(parts.map bI).length=parts.length:=List.length_map ..
 by_cases h1:parts.length < 1\/4 < parts.length\/3 < told.length
 ·rw [show kE ⟨told,parts⟩=210 from if_pos h1]
  refine aF false [1,4] hty Tryz.func62 rfl (kp [0,1,2,4,20,22,23,24,25,37]) [] _ _ _ (by simp [Tryz.f62]) (by simp) ?_
  ((conv=>whnf);repeat' ((first|(intro hq;(try simp only [lnS]at hq);(try rewrite [List.length_map]))|refine sJ ?_|refine .intro _ (.intro rfl ?_)|refine exL (k:= ?_)|refine dwR ?_|((first|refine aB ?_ ?_|refine aC ?_ ?_)<;>intro hb<;>(first|exact ddX hb|try simp only [lnS]at hb))|(refine aA ?_ ?_<;>intro hb<;>try exact dsX hb))<;>(conv=>whnf)))
  all_goals first|rfl|(exfalso;omega)
 rw [show kE ⟨told,parts⟩=if parts.any (λp=>decide (p.length < 1) || decide (12 < p.length))then 210 else 0 from if_neg h1]
 refine aF false [1,4] hty Tryz.func62 rfl (kp [0,1,2,4,20,22,23,24,25,37]) [] _ _ _ (by simp [Tryz.f62]) (by simp) ?_
 ((conv=>whnf);repeat' ((first|(intro hq;(try simp only [lnS]at hq);(try rewrite [List.length_map]))|refine sJ ?_|refine .intro _ (.intro rfl ?_)|refine exL (k:= ?_)|refine dwR ?_|((first|refine aB ?_ ?_|refine aC ?_ ?_)<;>intro hb<;>(first|exact ddX hb|try simp only [lnS]at hb))|(refine aA ?_ ?_<;>intro hb<;>try exact dsX hb))<;>(conv=>whnf)))
 refine aL hty (λj:Nat=>([(22, .d (.sl 1 (parts.map bI))),(23, .d (.int .i64 parts.length)),(24, .d (.int .i64 j))],[])) (λj=>j<=parts.length/\(parts.take j).any (λp=>decide (p.length < 1) || decide (12 < p.length))=false) (λj=>parts.length - j) 0 ⟨by omega,rfl⟩ ⟨by repeat' (first|exact trivial|exact rfl|(rw [List.length_map];exact rfl)|refine And.intro ?_ ?_),trivial⟩ ?_
 rintro j ⟨hj,hn⟩
 ((conv=>whnf);repeat ((first|(intro hq;try simp only [lnS]at hq)|refine sI ?_|refine .intro _ (.intro rfl ?_));(conv=>whnf)))
 refine aB (λh2=> ?_) (λh2=> ?_)
 ·have hjl:j < parts.length:=by omega
  have hrow:(parts.map bI)[(j:Int).toNat]? =some (bI parts[j]):=aZ hjl
  have hhit:=yB (F:= λp:List At=>decide (p.length < 1) || decide (12 < p.length)) hjl
  have hsuc:=rG (F:= λp:List At=>decide (p.length < 1) || decide (12 < p.length)) hjl hn
  generalize parts[j]=x at hrow hhit hsuc
  rw [show bI x=[.sl 6 (x.map atR)]from rfl]at hrow
  have hlx:(x.map atR).length=x.length:=List.length_map ..
  ((conv=>whnf);repeat' ((first|(intro hq;(try simp only [lnS]at hq);(try rewrite [List.length_map]))|refine sJ ?_|refine .intro _ (.intro rfl ?_)|refine exL (k:= ?_)|(refine⟨_,hrow, ?_⟩)|refine dwR ?_|((first|refine aB ?_ ?_|refine aC ?_ ?_)<;>intro hb<;>(first|exact ddX hb|try simp only [lnS]at hb))|(refine aA ?_ ?_<;>intro hb<;>try exact dsX hb))<;>(conv=>whnf)))
  ·rw [if_pos (hhit (by rw [Bool.or_eq_true,decide_eq_true_eq,decide_eq_true_eq];omega))];rfl
  ·rw [if_pos (hhit (by rw [Bool.or_eq_true,decide_eq_true_eq,decide_eq_true_eq];omega))];rfl
  ·refine⟨j+1,⟨by omega,hsuc (by rw [Bool.or_eq_false_iff,decide_eq_false_iff_not,decide_eq_false_iff_not];omega)⟩,by dsimp only;omega,by repeat' (first|exact trivial|exact rfl|refine And.intro ?_ ?_),trivial⟩
 ·have hjl:j=parts.length:=by omega
  subst hjl
  rw [List.take_length]at hn
  ((conv=>whnf);repeat' ((first|(intro hq;(try simp only [lnS]at hq);(try rewrite [List.length_map]))|refine sJ ?_|refine .intro _ (.intro rfl ?_)|refine exL (k:= ?_)|refine dwR ?_|((first|refine aB ?_ ?_|refine aC ?_ ?_)<;>intro hb<;>(first|exact ddX hb|try simp only [lnS]at hb))|(refine aA ?_ ?_<;>intro hb<;>try exact dsX hb))<;>(conv=>whnf)))
  rw [if_neg (by rw [hn];decide)];rfl
theorem uI (q:Qy) (hp: ∀p∈q.parts,p.length<=100000):Tri Tryz.prog 64 [.d (.agg (qyR q))] [] (λr=>r= .d (.int .i64 (rT q.told q.parts))):=by
 obtain⟨told,parts⟩:=q
 dsimp only at hp |-
 rw [aH1]
 show Tri Tryz.prog 64 [.d (.agg [.sl 1 (told.map cE), .sl 1 (parts.map bI)])] [] _
 have hlt:(told.map cE).length=told.length:=List.length_map ..
 have hlp:(parts.map bI).length=parts.length:=List.length_map ..
 refine aF false [1,8] hty Tryz.func64 rfl (kp [0,1,2,4,5,6,8,10,11,12,13,18,21,22,23,24,33,35,36,37,38,45]) [] _ _ _ (by simp [Tryz.f64]) (by simp) ?_
 ((conv=>whnf);repeat' ((first|(intro hq;(try simp only [lnS]at hq);(try rewrite [List.length_map]))|refine sJ ?_|refine .intro _ (.intro rfl ?_)|refine exL (k:= ?_)|refine dwR ?_|((first|refine aB ?_ ?_|refine aC ?_ ?_)<;>intro hb<;>(first|exact ddX hb|try simp only [lnS]at hb))|(refine aA ?_ ?_<;>intro hb<;>try exact dsX hb))<;>(conv=>whnf)))
 refine aL hty (λj:Nat=>([(1, .ea 2 [[.sl 1 (told.map cE), .sl 1 (parts.map bI)]] 0 0),(10, .d (.sl 1 (told.map cE))),(11, .d (.int .i64 told.length)),(12, .d (.int .i64 j))],[])) (λj=>j<=told.length/\(told.take j).any (λt=> !uO t)=false) (λj=>told.length - j) 0 ⟨by omega,rfl⟩ ⟨by repeat' (first|exact trivial|exact rfl|(rw [List.length_map];exact rfl)|refine And.intro ?_ ?_),trivial⟩ ?_
 rintro j ⟨hj,hn⟩
 ((conv=>whnf);repeat ((first|(intro hq;try simp only [lnS]at hq)|refine sI ?_|refine .intro _ (.intro rfl ?_));(conv=>whnf)))
 refine aB (λh2=> ?_) (λh2=> ?_)
 ·have hjl:j < told.length:=by omega
  have hrow:(told.map cE)[(j:Int).toNat]? =some (cE told[j]):=aZ hjl
  have hhit:=yB (F:= λt:List UInt8=> !uO t) hjl
  have hsuc:=rG (F:= λt:List UInt8=> !uO t) hjl hn
  generalize told[j]=x at hrow hhit hsuc
  ((conv=>whnf);repeat' ((first|(intro hq;(try simp only [lnS]at hq);(try rewrite [List.length_map]))|refine sJ ?_|refine .intro _ (.intro rfl ?_)|refine exL (k:= ?_)|(refine⟨_,hrow, ?_⟩)|(refine aD [] (lO x) trivial (λr hs=> ?_);subst hs)|refine dwR ?_|((first|refine aB ?_ ?_|refine aC ?_ ?_)<;>intro hb<;>(first|exact ddX hb|try simp only [lnS]at hb))|(refine aA ?_ ?_<;>intro hb<;>try exact dsX hb))<;>(conv=>whnf)))
  ·rw [if_pos (hhit hb)];rfl
  ·refine⟨j+1,⟨by omega,hsuc hb⟩,by dsimp only;omega,by repeat' (first|exact trivial|exact rfl|refine And.intro ?_ ?_),trivial⟩
 have hjl:j=told.length:=by omega
 subst hjl
 rw [List.take_length]at hn
 rw [if_neg (by rw [hn];decide)]
 clear hn h2
 ((conv=>whnf);repeat' ((first|(intro hq;(try simp only [lnS]at hq);(try rewrite [List.length_map]))|refine sJ ?_|refine .intro _ (.intro rfl ?_)|refine exL (k:= ?_)|refine dwR ?_|((first|refine aB ?_ ?_|refine aC ?_ ?_)<;>intro hb<;>(first|exact ddX hb|try simp only [lnS]at hb))|(refine aA ?_ ?_<;>intro hb<;>try exact dsX hb))<;>(conv=>whnf)))
 refine aL hty (λj:Nat=>([(1, .ea 2 [[.sl 1 (told.map cE), .sl 1 (parts.map bI)]] 0 0),(21, .d (.sl 1 (told.map cE))),(22, .d (.int .i64 told.length)),(23, .d (.int .i64 j))],[])) (λj=>j<=told.length/\(List.range j).any (aLz told parts)=false) (λj=>told.length - j) 0 ⟨by omega,rfl⟩ ⟨by repeat' (first|exact trivial|exact rfl|(rw [List.length_map];exact rfl)|refine And.intro ?_ ?_),trivial⟩ ?_
 rintro j ⟨hj,hn⟩
 ((conv=>whnf);repeat ((first|(intro hq;try simp only [lnS]at hq)|refine sI ?_|refine .intro _ (.intro rfl ?_));(conv=>whnf)))
 refine aB (λh2=> ?_) (λh2=> ?_)
 ·have hjl:j < told.length:=by omega
  have hrow:(told.map cE)[(j:Int).toNat]? =some (cE told[j]):=aZ hjl
  have hhit:=wV (F:=aLz told parts) hjl
  have hsuc:=uA (F:=aLz told parts) hn
  have hbad:aLz told parts j=(decide (told[j]∈told.take j) || parts.any (λp=> !decide (told[j]∈dP p))):=by
   unfold aLz
   rw [show told.getD j []=told[j]by rw [List.getD_eq_getElem?_getD,List.getElem?_eq_getElem hjl];rfl,List.contains_eq_mem]
   simp only [List.contains_eq_mem]
  have hc:=jB (told.take j) told[j]
  generalize told[j]=x at hrow hbad hc
  rw [List.map_take]at hc
  rw [hbad]at hhit hsuc
  ((conv=>whnf);repeat ((first|(refine⟨_,hrow, ?_⟩)|(intro hq;try simp only [lnS]at hq)|refine sI ?_|refine .intro _ (.intro rfl ?_));(conv=>whnf)))
  refine aD [] hc trivial (λr hs=> ?_)
  subst hs
  ((conv=>whnf);repeat ((first|(intro hq;try simp only [lnS]at hq)|refine sI ?_|refine .intro _ (.intro rfl ?_));(conv=>whnf)))
  refine aB (λh3=> ?_) (λh3=> ?_)
  ·((conv=>whnf);repeat' ((first|(intro hq;(try simp only [lnS]at hq);(try rewrite [List.length_map]))|refine sJ ?_|refine .intro _ (.intro rfl ?_)|refine exL (k:= ?_)|refine dwR ?_|((first|refine aB ?_ ?_|refine aC ?_ ?_)<;>intro hb<;>(first|exact ddX hb|try simp only [lnS]at hb))|(refine aA ?_ ?_<;>intro hb<;>try exact dsX hb))<;>(conv=>whnf)))
   rw [if_pos (hhit (by rw [decide_eq_true h3];rfl))];rfl
  rw [decide_eq_false h3,Bool.false_or]at hhit hsuc
  ((conv=>whnf);repeat ((first|(intro hq;try simp only [lnS]at hq)|refine sI ?_|refine .intro _ (.intro rfl ?_));(conv=>whnf)))
  refine aL hty (λi:Nat=>([(1, .ea 2 [[.sl 1 (told.map cE), .sl 1 (parts.map bI)]] 0 0),(6, .d (.str x)),(21, .d (.sl 1 (told.map cE))),(22, .d (.int .i64 told.length)),(23, .d (.int .i64 j)),(35, .d (.sl 1 (parts.map bI))),(36, .d (.int .i64 parts.length)),(37, .d (.int .i64 i))],[])) (λi=>i<=parts.length/\(parts.take i).any (λp=> !decide (x∈dP p))=false) (λi=>parts.length - i) 0 ⟨by omega,rfl⟩ ⟨by repeat' (first|exact trivial|exact rfl|(rw [List.length_map];exact rfl)|refine And.intro ?_ ?_),trivial⟩ ?_
  rintro i ⟨hi,hm⟩
  ((conv=>whnf);repeat ((first|(intro hq;try simp only [lnS]at hq)|refine sI ?_|refine .intro _ (.intro rfl ?_));(conv=>whnf)))
  refine aB (λh4=> ?_) (λh4=> ?_)
  ·have hil:i < parts.length:=by omega
   have hrow2:(parts.map bI)[(i:Int).toNat]? =some (bI parts[i]):=aZ hil
   have hhit2:=yB (F:= λp:List At=> !decide (x∈dP p)) hil
   have hsuc2:=rG (F:= λp:List At=> !decide (x∈dP p)) hil hm
   have hv:=mR parts[i] (hp _ (List.getElem_mem hil))
   have hc2:=jB (wD parts[i]) x
   have hmem:=(rS parts[i]).2 x
   generalize parts[i]=y at hrow2 hhit2 hsuc2 hv hc2 hmem
   rw [show decide (x∈wD y)=decide (x∈dP y)from decide_eq_decide.2 hmem]at hc2
   generalize (wD y).map cE=vy at hv hc2
   rw [show bI y=[.sl 6 (y.map atR)]from rfl]at hrow2 hv
   ((conv=>whnf);repeat' ((first|(intro hq;(try simp only [lnS]at hq);(try rewrite [List.length_map]))|refine sJ ?_|refine .intro _ (.intro rfl ?_)|refine exL (k:= ?_)|(refine⟨_,hrow2, ?_⟩)|(refine aD [] hv trivial (λr hs=> ?_);subst hs)|(refine aD [] hc2 trivial (λr hs=> ?_);subst hs)|refine dwR ?_|((first|refine aB ?_ ?_|refine aC ?_ ?_)<;>intro hb<;>(first|exact ddX hb|try simp only [lnS]at hb))|(refine aA ?_ ?_<;>intro hb<;>try exact dsX hb))<;>(conv=>whnf)))
   ·rw [if_pos (hhit (hhit2 (by rw [decide_eq_false hb];rfl)))];rfl
   ·exact⟨i+1,⟨by omega,hsuc2 (by rw [decide_eq_true hb];rfl)⟩,by dsimp only;omega,by repeat' (first|exact trivial|exact rfl|refine And.intro ?_ ?_),trivial⟩
  ·have hil:i=parts.length:=by omega
   subst hil
   rw [List.take_length]at hm
   ((conv=>whnf);repeat' ((first|(intro hq;(try simp only [lnS]at hq);(try rewrite [List.length_map]))|refine sJ ?_|refine .intro _ (.intro rfl ?_)|refine exL (k:= ?_)|refine dwR ?_|((first|refine aB ?_ ?_|refine aC ?_ ?_)<;>intro hb<;>(first|exact ddX hb|try simp only [lnS]at hb))|(refine aA ?_ ?_<;>intro hb<;>try exact dsX hb))<;>(conv=>whnf)))
   exact⟨j+1,⟨by omega,hsuc hm⟩,by dsimp only;omega,by repeat' (first|exact trivial|exact rfl|refine And.intro ?_ ?_),trivial⟩
 ·have hjl:j=told.length:=by omega
  subst hjl
  rw [if_neg (by rw [hn];decide)]
  ((conv=>whnf);repeat' ((first|(intro hq;(try simp only [lnS]at hq);(try rewrite [List.length_map]))|refine sJ ?_|refine .intro _ (.intro rfl ?_)|refine exL (k:= ?_)|refine dwR ?_|((first|refine aB ?_ ?_|refine aC ?_ ?_)<;>intro hb<;>(first|exact ddX hb|try simp only [lnS]at hb))|(refine aA ?_ ?_<;>intro hb<;>try exact dsX hb))<;>(conv=>whnf)))
  rfl
end Go.Proofs.YtleihcnongldbaaGreatDoor
namespace Go.Proofs.YtleihcnongldbaaGreatDoor
open Go.Proofs Go.RowKit
set_option maxRecDepth 10000
attribute [local irreducible] aO aH Tri aG YVC cL bB
theorem aAh:Tri Tryz.prog 183 [.d .nil] [] (λr=>r= .d (.int .i64 0)):=by
 refine aJ hty Tryz.func183 rfl (kp [0,2,4,5,6,7,8,9,15]) [] _ _ _ (by simp [Tryz.f183]) (by simp) ?_
 ((conv=>whnf);repeat' ((first|(intro hq;(try simp only [lnS]at hq);(try rewrite [List.length_map]))|refine sJ ?_|refine .intro _ (.intro rfl ?_)|refine exL (k:= ?_)|(refine jF hty 2 ?_)|refine dwR ?_|((first|refine aB ?_ ?_|refine aC ?_ ?_)<;>intro hb<;>(first|exact ddX hb|try simp only [lnS]at hb))|(refine aA ?_ ?_<;>intro hb<;>try exact dsX hb))<;>(conv=>whnf)))
 rfl
theorem aG2 (s:List UInt8):Tri Tryz.prog 150 [.d .nil, .d (.sl 1 [[.str s]])] [] (λr=>r= .d (.int .i64 (if eZ s then 0 else 20))):=by
 refine aJ hty Tryz.func150 rfl (kp [0,1,4,5,7,8,12,14,15,16,17,23]) [] _ _ _ (by simp [Tryz.f150]) (by simp) ?_
 ((conv=>whnf);repeat' ((first|(intro hq;(try simp only [lnS]at hq);(try rewrite [List.length_map]))|refine sJ ?_|refine .intro _ (.intro rfl ?_)|refine exL (k:= ?_)|(refine jF hty 2 ?_)|(refine aD [] aAh trivial (λr hs=> ?_);subst hs)|(refine aD [] (hH _) trivial (λs hs=> ?_);subst hs)|refine dwR ?_|((first|refine aB ?_ ?_|refine aC ?_ ?_)<;>intro hb<;>(first|exact ddX hb|try simp only [lnS]at hb))|(refine aA ?_ ?_<;>intro hb<;>try exact dsX hb))<;>(conv=>whnf)))
 all_goals (cases h:eZ s)
 all_goals first|rfl|(simp_all;done)|(simp_all;rfl)
theorem aKm (s:List UInt8) (hn:eZ s=true):Tri Tryz.prog 111 [.d .nil, .d (.str s)] [] (λr=>r= .tup [.d (.bool true), .d (.int .i64 0)]):=by
 have h:=aG2 s
 rw [if_pos hn]at h
 refine aJ hty Tryz.func111 rfl (kp [0,1,4,5,6,7,9,10,12,18,21,22,23,24,29,47,48,49,50,66]) [] _ _ _ (by simp [Tryz.f111]) (by simp) ?_
 ((conv=>whnf);repeat ((first|(intro hq;try simp only [lnS]at hq)|refine sI ?_|refine .intro _ (.intro rfl ?_));(conv=>whnf)))
 refine aD [] (Tri.args (xs:=_) h ⟨eG.refl _,eG.osl,trivial⟩) trivial (λr hs=> ?_)
 subst hs
 ((conv=>whnf);repeat ((first|(intro hq;try simp only [lnS]at hq)|refine sI ?_|refine .intro _ (.intro rfl ?_));(conv=>whnf)))
 refine aBo rfl rfl (λl=>D.str l) 34 (cI (by with_unfolding_all exact rfl)) ?_
 ((conv=>whnf);repeat ((first|(intro hq;try simp only [lnS]at hq)|refine sI ?_|refine .intro _ (.intro rfl ?_));(conv=>whnf)))
 refine jF hty 2 ?_
 ((conv=>whnf);repeat ((first|(intro hq;try simp only [lnS]at hq)|refine sI ?_|refine .intro _ (.intro rfl ?_));(conv=>whnf)))
 refine aI false [] hty Tryz.func151 rfl (kp [0,1,4,5,6,7,9,17,25,26,27,28,34]) 100 (by simp [Tryz.f151]) ?_
 ((conv=>whnf);repeat ((first|(intro hq;try simp only [lnS]at hq)|refine sI ?_|refine .intro _ (.intro rfl ?_));(conv=>whnf)))
 refine aBo rfl rfl (λl=>D.str l) 35 (cI (by with_unfolding_all exact rfl)) ?_
 ((conv=>whnf);repeat ((first|(intro hq;try simp only [lnS]at hq)|refine sI ?_|refine .intro _ (.intro rfl ?_));(conv=>whnf)))
 refine aCn (.inr rfl) rfl (aBq rfl) rfl rfl rfl rfl (λbs1 c1=> ?_)
 ((conv=>whnf);repeat ((first|(intro hq;try simp only [lnS]at hq)|refine sI ?_|refine .intro _ (.intro rfl ?_));(conv=>whnf)))
 refine jF hty 3 ?_
 ((conv=>whnf);repeat' ((first|(intro hq;(try simp only [lnS]at hq);(try rewrite [List.length_map]))|refine sJ ?_|refine .intro _ (.intro rfl ?_)|refine exL (k:= ?_)|(refine aD5 (id:=34) rfl rfl (aBq rfl) rfl rfl rfl rfl ?_)|(refine jF hty 2 ?_)|refine dwR ?_|((first|refine aB ?_ ?_|refine aC ?_ ?_)<;>intro hb<;>(first|exact ddX hb|try simp only [lnS]at hb))|(refine aA ?_ ?_<;>intro hb<;>try exact dsX hb))<;>(conv=>whnf)))
 rfl
end Go.Proofs.YtleihcnongldbaaGreatDoor
