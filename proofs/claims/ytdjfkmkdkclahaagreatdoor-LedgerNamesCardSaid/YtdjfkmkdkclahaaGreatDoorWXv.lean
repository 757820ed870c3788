/-
  Queries: slices.Compact and slices.Contains of strings. Queries: slices.Contains of strings; the variables of a part. Queries: what the variables of a part are, plainly. The canonical form of a part: there is one, and the search finds it; plain. The canonical form of a part does not depend on the names of its variables, on order and repetition; plain.
  Conditions: none.
-/
import Derived.Test.YtdjfkmkdkclahaaGreatDoorWOh
import Derived.Test.YtdjfkmkdkclahaaGreatDoorWQqa
import Derived.Test.YtdjfkmkdkclahaaGreatDoorWBp
set_option linter.unnecessarySimpa false
set_option linter.unusedSectionVars false
set_option linter.unusedSimpArgs false
set_option linter.unusedVariables false
set_option maxHeartbeats 16000000
namespace Go.Proofs.YtdjfkmkdkclahaaGreatDoor
section
open Go.Proofs Go.RowKit
set_option maxRecDepth 10000
attribute [local irreducible] aH aF Tri aD YVC bO aP
def eqS (a b:List UInt8):Bool:=decide (a=b)
theorem rR (l:List (List UInt8)) (hlen:l.length<=1000000)
  (cap n:Nat) (hn:n=l.length) (hp0:Hp) {pin:Pin} {fr:Fr} {K:SV->Hp->Prop} (hp1: ∀k,100<=k->k∉pin) (hf: ∀k,100<=k->k∉fS fr) (hh: ∀k,100<=k->k∉jP hp0) (hno:aM hp0 70=none) (hsub: ∀o,sA hp0 ((70,o)::hp0))
  (hk: ∀cap',K (.mw 170 1 (kC eqS l).length) ((170, .mrow 9 1 cap' ((kC eqS l).map aT))::hp0)):
  aF Tryz.prog pin fr ((70, .mrow 9 1 cap (l.map aT))::hp0) 68 [.mw 70 1 n] K:=by
 subst hn
 have fin: ∀(rows:List (List D)) (s:SV) (k:Nat),(s= .ms 70 1 0 k l.length\/(s= .mw 70 1 l.length/\k=l.length))->l.length=rows.length->k=(kC eqS l).length->rows.take k=(kC eqS l).map aT->PartP pin fr K 170 s ((70, .mrow 9 1 cap rows)::hp0):=by
  intro rows s k h1 h2 h3 h4
  refine⟨70,_,1,cap,k,l.length,rows,hp0,h1,rfl,h2,by rw [h3];exact vW _ _,⟨hp1 _ (by decide),hf _ (by decide),aPc (by decide) rfl hh _ (by decide)⟩,hsub _,hno,λcap'=> ?_⟩
  rw [h3]at h4 |-
  rw [h4]
  exact hk cap'
 refine aF.closeP 170 ?_
 refine aN false [] hty Tryz.func68 rfl (kp [0,2,3,4,5,8,13,25,32,44]) 200 (by simp [Tryz.f68]) ?_
 ((conv=>whnf);repeat' ((first|(intro hq;(try simp only [lnS]at hq);(try rewrite [List.length_map]))|refine sJ ?_|refine qE_ ?_|refine exL (k:=?_)|refine dwR ?_|((first|refine aB ?_ ?_|refine aC ?_ ?_)<;>intro hb<;>(first|exact ddX hb|try simp only [lnS]at hb))|(refine aA ?_ ?_<;>intro hb<;>try exact dsX hb))<;>(conv=>whnf)))
 ·have hd:kC eqS l=l:=jQ _ _ (by omega)
  exact fin _ _ l.length (.inr ⟨rfl,rfl⟩) (List.length_map ..).symm (by rw [hd]) (by rw [hd,List.take_of_length_le (by rw [List.length_map];exact Nat.le_refl _)])
 ·refine mG hty (λk:Nat=>([(0, .mw 70 1 l.length),(3, .d (.int .i64 k))],(70, .mrow 9 1 cap (l.map aT))::hp0)) (λk=>(1<=k/\k<=l.length)/\kC eqS (l.take k)=l.take k) (λk=>l.length - k) 1 ⟨by omega,jQ _ _ (by rw [List.length_take];omega)⟩ qB rfl ?_
  rintro k ⟨⟨hk1,hkl⟩,hd⟩
  ((conv=>whnf);repeat ((first |(intro hq;try simp only [lnS]at hq)|refine sI ?_|refine qE_ ?_);conv=>whnf))
  refine aB (λh1=> ?_) (λh1=> ?_)
  ·have hkl':k < l.length:=by omega
   have hkp:k - 1 < l.length:=by omega
   have hrow1:(l.map aT)[(k:Int).toNat]? =some (aT l[k]):=aK hkl'
   have hrow2:(l.map aT)[((k:Int) - 1).toNat]? =some (aT l[k - 1]):=by
    rw [show ((k:Int) - 1).toNat=k - 1 by omega,List.getElem?_map,List.getElem?_eq_getElem hkp];rfl
   have hdt:=lQ eqS l (k - 1) (by omega)
   simp only [show k - 1+1=k by omega,show k - 1+2=k+1 by omega]at hdt
   ((conv=>whnf);repeat ((first |(intro hq;try simp only [lnS]at hq)|refine sI ?_|refine qE_ ?_);conv=>whnf))
   refine dwR ?_
   ((conv=>whnf);repeat ((first|(refine And.intro (List.length_map ..).symm ?_)|(refine⟨_,hrow1, ?_⟩)|(refine⟨_,hrow2, ?_⟩) |(intro hq;try simp only [lnS]at hq)|refine sI ?_|refine qE_ ?_);conv=>whnf))
   cases hb:decide (l[k]=l[k - 1])
   ·((conv=>whnf);repeat' ((first|(intro hq;(try simp only [lnS]at hq);(try rewrite [List.length_map]))|refine sJ ?_|refine qE_ ?_|refine exL (k:=?_)|refine dwR ?_|((first|refine aB ?_ ?_|refine aC ?_ ?_)<;>intro hb<;>(first|exact ddX hb|try simp only [lnS]at hb))|(refine aA ?_ ?_<;>intro hb<;>try exact dsX hb))<;>(conv=>whnf)))
    rw [show eqS l[k] l[k - 1]=false from hb,if_neg (by decide),hd]at hdt
    exact⟨k+1,⟨⟨by omega,by omega⟩,by rw [hdt];exact(List.take_succ_eq_append_getElem hkl').symm⟩,qO,qB,rfl⟩
   ·rw [show eqS l[k] l[k - 1]=true from hb,if_pos rfl,hd]at hdt
    ((conv=>whnf);repeat ((first|(refine jK hty rfl rfl rfl rfl rfl rfl ?_) |(intro hq;try simp only [lnS]at hq)|refine sI ?_|refine qE_ ?_);conv=>whnf))
    rw [show ((k:Int)).toNat=k from rfl]
    refine mG hty (λy:Nat×Nat×List (List UInt8)=>([(0, .mw 70 1 l.length),(3, .d (.int .i64 y.2.1)),(4, .ms 70 1 k (l.length - k) l.length),(5, .d (.int .i64 y.1))],(70, .mrow 9 1 cap (y.2.2.map aT))::hp0))
     (λy=>(1<=y.1/\y.1<=l.length - k)/\y.2.2.length=l.length/\(y.2.1+1<=k+y.1/\1<=y.2.1)/\y.2.2.take y.2.1=kC eqS (l.take (k+y.1))/\y.2.2.drop (k+y.1 - 1)=l.drop (k+y.1 - 1)) (λy=>l.length - k - y.1) (1,k,l) ⟨qO,rfl,qO,hdt.symm,rfl⟩ qB rfl ?_
    rintro⟨k2,m,q⟩ ⟨⟨hk21,hk2l⟩,hql,⟨hm1,hm0⟩,ht,hdr⟩
    dsimp only at hk21 hk2l hql hm1 hm0 ht hdr
    ((conv=>whnf);repeat ((first|(refine aBu hty rfl rfl rfl ?_) |(intro hq;try simp only [lnS]at hq)|refine sI ?_|refine qE_ ?_);conv=>whnf))
    refine aB (λh2=> ?_) (λh2=> ?_)
    ·have hA:k+k2 < l.length:=by dsimp only at h2;omega
     have hB:k+k2 - 1 < l.length:=by omega
     have hml:m < q.length:=by omega
     have eA:q[k+k2]'(hql ▸ hA)=l[k+k2]:=cS hdr hql (by omega) hA
     have eB:q[k+k2 - 1]'(hql ▸ hB)=l[k+k2 - 1]:=cS hdr hql (by omega) hB
     have hrowA:(q.map aT)[k+(k2:Int).toNat]? =some (aT l[k+k2]):=by
      rw [Int.toNat_natCast,List.getElem?_map,List.getElem?_eq_getElem (hql ▸ hA),eA];rfl
     have hrowB:(q.map aT)[k+((k2:Int) - 1).toNat]? =some (aT l[k+k2 - 1]):=by
      rw [show k+((k2:Int) - 1).toNat=k+k2 - 1 by omega,List.getElem?_map,List.getElem?_eq_getElem (hql ▸ hB),eB];rfl
     have hrowM:(q.map aT)[(m:Int).toNat]? =some (aT q[m]):=aK hml
     have hdt2:=lQ eqS l (k+k2 - 1) (by omega)
     simp only [show k+k2 - 1+1=k+k2 by omega,show k+k2 - 1+2=k+(k2+1)by omega]at hdt2
     have hlq:l.length=(q.map aT).length:=by rw [List.length_map,hql]
     have hdr2:q.drop (k+k2)=l.drop (k+k2):=by
      have:=congrArg (List.drop 1) hdr
      rw [List.drop_drop,List.drop_drop,show k+k2 - 1+1=k+k2 by omega]at this
      exact this
     ((conv=>whnf);repeat ((first |(intro hq;try simp only [lnS]at hq)|refine sI ?_|refine qE_ ?_);conv=>whnf))
     refine dwR ?_
     ((conv=>whnf);repeat ((first|(refine And.intro hlq ?_)|(refine⟨_,hrowA, ?_⟩)|(refine⟨_,hrowB, ?_⟩) |(intro hq;try simp only [lnS]at hq)|refine sI ?_|refine qE_ ?_);conv=>whnf))
     cases hb2:decide (l[k+k2]=l[k+k2 - 1])
     ·((conv=>whnf);repeat' ((first|(intro hq;(try simp only [lnS]at hq);(try rewrite [List.length_map]))|refine sJ ?_|refine qE_ ?_|refine exL (k:=?_)| (refine And.intro hlq ?_)|(refine⟨_,hrowA, ?_⟩)|(refine⟨_,hrowM, ?_⟩)|(refine And.intro (oF rfl) ?_)|refine dwR ?_|((first|refine aB ?_ ?_|refine aC ?_ ?_)<;>intro hb<;>(first|exact ddX hb|try simp only [lnS]at hb))|(refine aA ?_ ?_<;>intro hb<;>try exact dsX hb))<;>(conv=>whnf)))
      rw [show eqS l[k+k2] l[k+k2 - 1]=false from hb2,if_neg (by decide),<-ht]at hdt2
      refine⟨(k2+1,m+1,q.set m l[k+k2]),⟨qO,by dsimp only;rw [List.length_set];exact hql,qO, ?_, ?_⟩,qO,qB, ?_⟩
      ·dsimp only
       rw [hdt2]
       exact kQ _ hml
      ·dsimp only
       rw [show k+(k2+1) - 1=k+k2 by omega,List.drop_set_of_lt (by omega)]
       exact hdr2
      ·dsimp only
       rw [List.map_set]
       rfl
     ·((conv=>whnf);repeat' ((first|(intro hq;(try simp only [lnS]at hq);(try rewrite [List.length_map]))|refine sJ ?_|refine qE_ ?_|refine exL (k:=?_)|refine dwR ?_|((first|refine aB ?_ ?_|refine aC ?_ ?_)<;>intro hb<;>(first|exact ddX hb|try simp only [lnS]at hb))|(refine aA ?_ ?_<;>intro hb<;>try exact dsX hb))<;>(conv=>whnf)))
      rw [show eqS l[k+k2] l[k+k2 - 1]=true from hb2,if_pos rfl]at hdt2
      exact⟨(k2+1,m,q),⟨qO,hql,qO,by dsimp only;rw [hdt2];exact ht,by dsimp only;rw [show k+(k2+1) - 1=k+k2 by omega];exact hdr2⟩,qO,qB,rfl⟩
    ·have hke:k+k2=l.length:=by dsimp only at h2;omega
     rw [hke,List.take_length]at ht
     have hlq:l.length=(q.map aT).length:=by rw [List.length_map,hql]
     have hmq:m+(l.length - m)=(q.map aT).length:=by rw [List.length_map,hql];omega
     have hml:=congrArg List.length ht
     rw [List.length_take,Nat.min_eq_left (by omega)]at hml
     ((conv=>whnf);repeat' ((first|(intro hq;(try simp only [lnS]at hq);(try rewrite [List.length_map]))|refine sJ ?_|refine qE_ ?_|refine exL (k:=?_)| (refine jK hty rfl rfl rfl rfl rfl rfl ?_)|(refine uH hty rfl rfl (by decide) rfl rfl rfl hlq hmq ?_)|refine dwR ?_|((first|refine aB ?_ ?_|refine aC ?_ ?_)<;>intro hb<;>(first|exact ddX hb|try simp only [lnS]at hb))|(refine aA ?_ ?_<;>intro hb<;>try exact dsX hb))<;>(conv=>whnf)))
     refine fin _ _ m (.inl rfl) ?_ hml ?_
     ·simp only [List.length_append,List.length_take,List.length_replicate,List.length_map]
      show l.length=min m q.length+(l.length - m)
      omega
     ·show ((q.map aT).take m++_).take m=_
      rw [List.take_append_of_le_length (by rw [List.length_take,List.length_map];omega),List.take_take,Nat.min_self,<-List.map_take,ht]
  ·have hkl':k=l.length:=by omega
   subst hkl'
   rw [List.take_length]at hd
   ((conv=>whnf);repeat' ((first|(intro hq;(try simp only [lnS]at hq);(try rewrite [List.length_map]))|refine sJ ?_|refine qE_ ?_|refine exL (k:=?_)|refine dwR ?_|((first|refine aB ?_ ?_|refine aC ?_ ?_)<;>intro hb<;>(first|exact ddX hb|try simp only [lnS]at hb))|(refine aA ?_ ?_<;>intro hb<;>try exact dsX hb))<;>(conv=>whnf)))
   exact fin _ _ l.length (.inr ⟨rfl,rfl⟩) (List.length_map ..).symm (by rw [hd]) (by rw [hd,List.take_of_length_le (by rw [List.length_map];exact Nat.le_refl _)])
end
section
open Go.Proofs Go.RowKit
set_option maxRecDepth 10000
attribute [local irreducible] aH aF Tri aD YVC bO aP
def aJz:List (List UInt8)->List UInt8->Int->Int
 | [],_,_=> -1
 |a::r,s,i=>if s=a then i else aJz r s (i+1)
theorem aG1: ∀(l:List (List UInt8)) (s:List UInt8) (i:Int) (_:0<=i),decide (aJz l s i>=0)=decide (s∈l)
 | [],s,i,_=>by simp [aJz]
 |a::r,s,i,h=>by
  have ih:=aG1 r s (i+1) (by omega)
  rw [aJz]
  by_cases e:s=a
  ·rw [if_pos e,decide_eq_true (by omega),decide_eq_true (by rw [e];exact List.mem_cons_self)]
  ·rw [if_neg e,ih,decide_eq_decide,List.mem_cons]
   exact⟨.inr,λh=>h.resolve_left e⟩
theorem aG0 (l:List (List UInt8)) (s:List UInt8):Tri Tryz.prog 140 [.d (.sl 1 (l.map aT)), .d (.str s)] [] (λr=>r= .d (.int .i64 (aJz l s 0))):=by
 refine qG [] hty Tryz.func140 [0,1,4,5,7,8,9,16] ?_
 ((conv=>whnf);repeat' ((first|(intro hq;(try simp only [lnS]at hq);(try rewrite [List.length_map]))|refine sJ ?_|refine qE_ ?_|refine exL (k:=?_)|refine dwR ?_|((first|refine aB ?_ ?_|refine aC ?_ ?_)<;>intro hb<;>(first|exact ddX hb|try simp only [lnS]at hb))|(refine aA ?_ ?_<;>intro hb<;>try exact dsX hb))<;>(conv=>whnf)))
 refine aG hty (λj:Nat=>([(0, .d (.sl 1 (l.map aT))),(1, .d (.str s)),(7, .d (.int .i64 l.length)),(8, .d (.int .i64 j))],[])) (λj=>j<=l.length/\aJz l s 0=aJz (l.drop j) s j) (λj=>l.length - j) 0 ⟨by omega,rfl⟩ ⟨by repeat' (first|exact trivial|exact rfl|(rw [List.length_map];exact rfl)|refine And.intro ?_ ?_),trivial⟩ ?_
 rintro j ⟨hj,hn⟩
 ((conv=>whnf);repeat ((first |(intro hq;try simp only [lnS]at hq)|refine sI ?_|refine qE_ ?_);conv=>whnf))
 refine aB (λh1=> ?_) (λh1=> ?_)
 ·have hjl:j < l.length:=by omega
  have hrow:(l.map aT)[(j:Int).toNat]? =some (aT l[j]):=aK hjl
  rw [List.drop_eq_getElem_cons hjl,aJz]at hn
  generalize l[j]=x at hrow hn
  ((conv=>whnf);repeat' ((first|(intro hq;(try simp only [lnS]at hq);(try rewrite [List.length_map]))|refine sJ ?_|refine qE_ ?_|refine exL (k:=?_)| (refine⟨_,hrow, ?_⟩)|refine dwR ?_|((first|refine aB ?_ ?_|refine aC ?_ ?_)<;>intro hb<;>(first|exact ddX hb|try simp only [lnS]at hb))|(refine aA ?_ ?_<;>intro hb<;>try exact dsX hb))<;>(conv=>whnf)))
  ·rw [hn,if_pos hb];rfl
  ·rw [if_neg hb]at hn
   refine⟨j+1,⟨by omega,hn⟩,qO,qB,trivial⟩
 ·have hjl:j=l.length:=by omega
  subst hjl
  ((conv=>whnf);repeat' ((first|(intro hq;(try simp only [lnS]at hq);(try rewrite [List.length_map]))|refine sJ ?_|refine qE_ ?_|refine exL (k:=?_)|refine dwR ?_|((first|refine aB ?_ ?_|refine aC ?_ ?_)<;>intro hb<;>(first|exact ddX hb|try simp only [lnS]at hb))|(refine aA ?_ ?_<;>intro hb<;>try exact dsX hb))<;>(conv=>whnf)))
  rw [hn,List.drop_length];rfl
theorem iA (l:List (List UInt8)) (s:List UInt8):Tri Tryz.prog 99 [.d (.sl 1 (l.map aT)), .d (.str s)] [] (λr=>r= .d (.bool (decide (s∈l)))):=by
 have h:=aG0 l s
 refine qG [] hty Tryz.func99 [0,1,4] ?_
 ((conv=>whnf);repeat' ((first|(intro hq;(try simp only [lnS]at hq);(try rewrite [List.length_map]))|refine sJ ?_|refine qE_ ?_|refine exL (k:=?_)| refine qT h ?_|refine dwR ?_|((first|refine aB ?_ ?_|refine aC ?_ ?_)<;>intro hb<;>(first|exact ddX hb|try simp only [lnS]at hb))|(refine aA ?_ ?_<;>intro hb<;>try exact dsX hb))<;>(conv=>whnf)))
 exact aJ (aG1 l s 0 (by omega))
def aQ (p:List At):List (List UInt8):=kC eqS (aEo (bQ p))
theorem wR (p:List At):(bQ p).length<=2 * p.length:=by
 refine Nat.le_trans (List.length_filter_le ..) ?_
 induction p with
 |nil=>exact Nat.le_refl _
 |cons a r ih=>simp only [List.flatMap_cons,List.length_append,List.length_cons,List.length_nil];omega
theorem aCl {p:List At}{j:Nat}(h:j < p.length):bQ (p.take (j+1))=bQ (p.take j)++[p[j].x,p[j].y].filter aS:=by
 unfold bQ
 rw [List.take_succ_eq_append_getElem h,List.flatMap_append,List.filter_append]
 simp
theorem eG (p:List At) (hlen:p.length<=100000):Tri Tryz.prog 31 [.d (.agg (aI p))] [] (λr=>r= .d (.sl 1 ((aQ p).map aT))):=by
 have hvl:=wR p
 show Tri Tryz.prog 31 [.d (.agg [.sl 6 (p.map atR)])] [] _
 refine qG [1,4] hty Tryz.func31 [0,1,2,4,6,8,9,10,11,18,19,20,23] ?_
 ((conv=>whnf);repeat ((first |(intro hq;try simp only [lnS]at hq)|refine sI ?_|refine qE_ ?_);conv=>whnf))
 refine aH.mown 2 70 9 1 rfl (cO (by with_unfolding_all exact rfl)) ?_
 refine aG hty (λy:Nat×Nat=>([(2, .mw 70 1 (bQ (p.take y.1)).length),(8, .d (.sl 6 (p.map atR))),(9, .d (.int .i64 p.length)),(10, .d (.int .i64 y.1))],[(70, .mrow 9 1 y.2 ((bQ (p.take y.1)).map aT))])) (λy=>y.1<=p.length) (λy=>p.length - y.1) (0,0) (qO) ⟨by repeat' (first|exact trivial|exact rfl|(rw [List.length_map];exact rfl)|refine And.intro ?_ ?_),⟨rfl,trivial⟩⟩ ?_
 rintro⟨j,cap⟩ hj
 dsimp only at hj
 ((conv=>whnf);repeat ((first |(intro hq;try simp only [lnS]at hq)|refine sI ?_|refine qE_ ?_);conv=>whnf))
 refine aB (λh1=> ?_) (λh1=> ?_)
 ·have hjl:j < p.length:=by omega
  have hrow:(p.map atR)[(j:Int).toNat]? =some (atR p[j]):=aK hjl
  have hacc:=aCl hjl
  have hal:=wR (p.take j)
  rw [List.length_take]at hal
  generalize bQ (p.take j)=acc at *
  generalize p[j]=a at *
  obtain⟨kd,nm,xx,yy,lo,hi⟩:=a
  rw [show atR ⟨kd,nm,xx,yy,lo,hi⟩=[.int .i64 kd, .str nm, .str xx, .str yy, .int .i64 lo, .int .i64 hi]from rfl]at hrow
  dsimp only at hacc
  ((conv=>whnf);repeat ((first|(refine⟨_,hrow, ?_⟩) |(intro hq;try simp only [lnS]at hq)|refine sI ?_|refine qE_ ?_);conv=>whnf))
  refine aG hty (λy:Nat×Nat=>([(2, .mw 70 1 (acc++([xx,yy].take y.1).filter aS).length),(8, .d (.sl 6 (p.map atR))),(9, .d (.int .i64 p.length)),(10, .d (.int .i64 j)),(18, .d (.agg [.str xx, .str yy])),(19, .d (.int .i64 y.1))],[(70, .mrow 9 1 y.2 ((acc++([xx,yy].take y.1).filter aS).map aT))])) (λy=>y.1<=2) (λy=>2 - y.1) (0,cap) (qO) ⟨by repeat' (first|exact trivial|exact rfl|exact aOj (by simp)|refine And.intro ?_ ?_),⟨by dsimp only;simp;rfl,trivial⟩⟩ ?_
  rintro⟨i,cap2⟩ hi
  dsimp only at hi
  have hrl:((acc++([xx,yy].take i).filter aS).map aT).length=(acc++([xx,yy].take i).filter aS).length:=List.length_map ..
  have hil:(([xx,yy].take i).filter aS).length<=2:=by
   refine Nat.le_trans (List.length_filter_le ..) ?_
   simp;omega
  have hb63:((acc++([xx,yy].take i).filter aS).map aT).length+1<=9223372036854775807:=by rw [hrl,List.length_append];omega
  have hb48:(((acc++([xx,yy].take i).filter aS).map aT).length+1)* 16<=140737488355328:=by rw [hrl,List.length_append];omega
  have hc:i=0\/i=1\/i=2:=by omega
  have hcx:=dT xx
  have hcy:=dT yy
  rcases hc with rfl|rfl|rfl
  ·have hT:aS xx=true->acc++([xx,yy].take 1).filter aS=(acc++([xx,yy].take 0).filter aS)++[xx]:= λh=>by
    cases hx:aS xx<;>simp_all [List.filter_cons]
   have hF:aS xx=false->acc++([xx,yy].take 1).filter aS=acc++([xx,yy].take 0).filter aS:= λh=>by
    cases hx:aS xx<;>simp_all [List.filter_cons]
   generalize acc++([xx,yy].take 0).filter aS=acc2 at *
   ((conv=>whnf);repeat' ((first|(intro hq;(try simp only [lnS]at hq);(try rewrite [List.length_map]))|refine sJ ?_|refine qE_ ?_|refine exL (k:=?_)| (refine And.intro hb63 ?_)|(refine And.intro hb48 ?_)|(refine And.intro hrl.symm ?_)|refine qT hcx ?_|refine dwR ?_|((first|refine aB ?_ ?_|refine aC ?_ ?_)<;>intro hb<;>(first|exact ddX hb|try simp only [lnS]at hb))|(refine aA ?_ ?_<;>intro hb<;>try exact dsX hb))<;>(conv=>whnf)))
   ·rename_i cap3
    refine⟨(1,cap3),qO,qO,⟨?_, ?_⟩⟩
    ·dsimp only
     rw [hT (decide_eq_true hb)]
     repeat' (first|exact trivial|exact aOj (by rw [List.length_append];rfl)|exact rfl|refine And.intro ?_ ?_)
    ·dsimp only
     rw [hT (decide_eq_true hb),List.map_append]
     exact⟨rfl,trivial⟩
   ·refine⟨(1,cap2),qO,qO,⟨?_, ?_⟩⟩
    ·dsimp only
     rw [hF (decide_eq_false hb)]
     exact qB
    ·dsimp only
     rw [hF (decide_eq_false hb)]
     exact⟨rfl,trivial⟩
  ·have hT:aS yy=true->acc++([xx,yy].take 2).filter aS=(acc++([xx,yy].take 1).filter aS)++[yy]:= λh=>by
    cases hx:aS xx<;>simp_all [List.filter_cons]
   have hF:aS yy=false->acc++([xx,yy].take 2).filter aS=acc++([xx,yy].take 1).filter aS:= λh=>by
    cases hx:aS xx<;>simp_all [List.filter_cons]
   generalize acc++([xx,yy].take 1).filter aS=acc2 at *
   ((conv=>whnf);repeat' ((first|(intro hq;(try simp only [lnS]at hq);(try rewrite [List.length_map]))|refine sJ ?_|refine qE_ ?_|refine exL (k:=?_)| (refine And.intro hb63 ?_)|(refine And.intro hb48 ?_)|(refine And.intro hrl.symm ?_)|refine qT hcy ?_|refine dwR ?_|((first|refine aB ?_ ?_|refine aC ?_ ?_)<;>intro hb<;>(first|exact ddX hb|try simp only [lnS]at hb))|(refine aA ?_ ?_<;>intro hb<;>try exact dsX hb))<;>(conv=>whnf)))
   ·rename_i cap3
    refine⟨(2,cap3),qO,qO,⟨?_, ?_⟩⟩
    ·dsimp only
     rw [hT (decide_eq_true hb)]
     repeat' (first|exact trivial|exact aOj (by rw [List.length_append];rfl)|exact rfl|refine And.intro ?_ ?_)
    ·dsimp only
     rw [hT (decide_eq_true hb),List.map_append]
     exact⟨rfl,trivial⟩
   ·refine⟨(2,cap2),qO,qO,⟨?_, ?_⟩⟩
    ·dsimp only
     rw [hF (decide_eq_false hb)]
     exact qB
    ·dsimp only
     rw [hF (decide_eq_false hb)]
     exact⟨rfl,trivial⟩
  ·rw [show ([xx,yy].take 2).filter aS=[xx,yy].filter aS from rfl,<-hacc]at *
   ((conv=>whnf);repeat' ((first|(intro hq;(try simp only [lnS]at hq);(try rewrite [List.length_map]))|refine sJ ?_|refine qE_ ?_|refine exL (k:=?_)|refine dwR ?_|((first|refine aB ?_ ?_|refine aC ?_ ?_)<;>intro hb<;>(first|exact ddX hb|try simp only [lnS]at hb))|(refine aA ?_ ?_<;>intro hb<;>try exact dsX hb))<;>(conv=>whnf)))
   exact⟨(j+1,cap2),qO,qO,⟨qB,rfl,trivial⟩⟩
 ·have hjl:j=p.length:=by omega
  subst hjl
  rw [List.take_length]
  have hso:=(List.mergeSort_perm (bQ p) (λx y=>decide (x<=y))).length_eq
  ((conv=>whnf);repeat ((first |(intro hq;try simp only [lnS]at hq)|refine sI ?_|refine qE_ ?_);conv=>whnf))
  refine xF Tryz.sortStr (bQ p) rfl rfl (by omega) ?_
  ((conv=>whnf);repeat ((first |(intro hq;try simp only [lnS]at hq)|refine sI ?_|refine qE_ ?_);conv=>whnf))
  refine rR (aEo (bQ p)) (by rw [show (aEo (bQ p)).length=(bQ p).length from hso];omega) cap _ hso.symm [] (by simp) (aOh (by with_unfolding_all exact rfl)) (by simp [jP]) rfl (λo=>trivial) (λcap'=> ?_)
  ((conv=>whnf);repeat ((first |(intro hq;try simp only [lnS]at hq)|refine sI ?_|refine qE_ ?_);conv=>whnf))
  refine⟨(List.length_map ..).symm, ?_⟩
  ((conv=>whnf);repeat ((first |(intro hq;try simp only [lnS]at hq)|refine sI ?_|refine qE_ ?_);conv=>whnf))
  rfl
end
section
open Go.Proofs
theorem kL: ∀(n:Nat) (l:List (List UInt8)) (_:l.length<=n),l.eraseDups.Nodup
 | 0,l,h=>by
  have:l=[]:=List.length_eq_zero_iff.1 (by omega)
  subst this
  simp
 |n+1,[],_=>by simp
 |n+1,a::r,h=>by
  rw [List.eraseDups_cons,List.nodup_cons]
  refine⟨?_,kL n _ (Nat.le_trans (List.length_filter_le ..) (by simpa using h))⟩
  rw [List.mem_eraseDups,List.mem_filter]
  simp
theorem aNi (a b c:List UInt8) (h1:decide (a<=b)=true) (h2:decide (b<=c)=true):decide (a<=c)=true:=by
 rw [decide_eq_true_eq]at *
 exact List.le_trans h1 h2
theorem aNj (a b:List UInt8):(decide (a<=b) || decide (b<=a))=true:=by
 rw [Bool.or_eq_true,decide_eq_true_eq,decide_eq_true_eq]
 exact List.le_total a b
theorem aPt: ∀(p:List UInt8) (l:List (List UInt8)) (_:(p::l).Pairwise (λa b=>decide (a<=b)=true)),(p::sX eqS p l).Nodup/\ ∀x,x∈p::sX eqS p l↔x∈p::l
 |p,[],_=>⟨by simp [sX],λx=>by simp [sX]⟩
 |p,b::r,h=>by
  obtain⟨h1,h2⟩:=List.pairwise_cons.1 h
  obtain⟨i1,i2⟩:=aPt b r h2
  rw [sX]
  by_cases e:b=p
  ·subst e
   rw [if_pos (by simp [eqS])]
   exact⟨i1,λx=>by rw [i2 x];simp⟩
  ·rw [if_neg (by simpa [eqS]using e)]
   refine⟨List.nodup_cons.2 ⟨λhm=> ?_,i1⟩,λx=> ?_⟩
   ·have hm':=(i2 p).1 hm
    have hbp:p<=b:=by simpa using h1 b List.mem_cons_self
    rcases List.mem_cons.1 hm' with rfl|hr
    ·exact e rfl
    ·have:=(List.pairwise_cons.1 h2).1 p hr
     rw [decide_eq_true_eq]at this
     exact e (List.le_antisymm this hbp)
   ·rw [List.mem_cons,i2 x];exact List.mem_cons.symm
theorem aP5 (l:List (List UInt8)) (h:l.Pairwise (λa b=>decide (a<=b)=true)):(kC eqS l).Nodup/\ ∀x,x∈kC eqS l↔x∈l:=by
 cases l with
 |nil=>exact⟨by simp [kC],λx=>by simp [kC]⟩
 |cons a r=>exact aPt a r h
theorem cB (p:List At):(aQ p).Nodup/\ ∀x,x∈aQ p↔x∈bQ p:=by
 obtain⟨h1,h2⟩:=aP5 (aEo (bQ p)) (List.pairwise_mergeSort aNi aNj _)
 exact⟨h1,λx=>by rw [show aQ p=kC eqS (aEo (bQ p))from rfl,h2 x];exact(List.mergeSort_perm _ _).mem_iff⟩
theorem wS (p:List At):(aQ p).length=(bQ p).eraseDups.length:=by
 obtain⟨h1,h2⟩:=cB p
 refine List.Perm.length_eq ((List.perm_ext_iff_of_nodup h1 (kL _ _ (Nat.le_refl _))).2 λx=> ?_)
 rw [h2 x,List.mem_eraseDups]
def aDv (told:List (List UInt8)) (parts:List (List At)) (i:Nat):Bool:=(told.take i).contains (told.getD i []) || parts.any (λp=> !(bQ p).contains (told.getD i []))
theorem aB3 (told:List (List UInt8)) (parts:List (List At)):oQ told parts=if told.any (λt=> !lU t)then 20 else if (List.range told.length).any (aDv told parts)then 210 else 0:=rfl
theorem kX {F:Nat->Bool}{n j:Nat}(h:j < n) (hf:F j=true):(List.range n).any F=true:=List.any_eq_true.2 ⟨j,List.mem_range.2 h,hf⟩
theorem jY {F:Nat->Bool}{j:Nat}(h:(List.range j).any F=false) (hf:F j=false):(List.range (j+1)).any F=false:=by
 rw [List.range_succ,List.any_append,h];simp [hf]
theorem iE {α:Type}{F:α->Bool}{l:List α}{j:Nat}(h:j < l.length) (hf:F l[j]=true):l.any F=true:=List.any_eq_true.2 ⟨l[j],List.getElem_mem h,hf⟩
theorem fE {α:Type}{F:α->Bool}{l:List α}{j:Nat}(h:j < l.length) (hk:(l.take j).any F=false) (hf:F l[j]=false):(l.take (j+1)).any F=false:=by
 rw [List.take_succ_eq_append_getElem h,List.any_append,hk];simp [hf]
def gK (q:Qy):Int:=if q.parts.length < 1\/4 < q.parts.length\/3 < q.told.length then 210 else if q.parts.any (λp=>decide (p.length < 1) || decide (12 < p.length))then 210 else 0
theorem aIa (q:Qy):qE q=if gK q≠0 then gK q else if bS q.parts.flatten≠0 then bS q.parts.flatten else if oQ q.told q.parts≠0 then oQ q.told q.parts else if q.parts.any (λp=>decide (8 < (bQ p).eraseDups.length))then 210 else 0:=by
 unfold qE gK
 by_cases h1:q.parts.length < 1\/4 < q.parts.length\/3 < q.told.length
 ·rw [if_pos h1,if_pos h1,if_pos (by decide)]
 ·rw [if_neg h1,if_neg h1]
  by_cases h2:q.parts.any (λp=>decide (p.length < 1) || decide (12 < p.length))=true
  ·rw [if_pos h2,if_pos h2,if_pos (by decide)]
  ·rw [if_neg h2,if_neg h2,if_neg (show ¬ (0:Int)≠0 by decide)]
end
section
open Go.Proofs
theorem nB: ∀(H T:List bG) (s:bG),s∉H->gV H T s=s
 | [],T,s,_=>by cases T<;>rfl
 |v::H,[],s,_=>rfl
 |v::H,t::T,s,h=>by
  rw [gV,if_neg (λe=>h (by rw [e];exact List.mem_cons_self))]
  exact nB H T s λhm=>h (List.mem_cons_of_mem _ hm)
theorem aG5: ∀{H T:List bG}{i:Nat}{s t:bG},H.Nodup->H[i]? =some s->T[i]? =some t->gV H T s=t
 | [],T,i,s,t,_,h,_=>by simp at h
 |v::H,[],i,s,t,_,_,h=>by simp at h
 |v::H,u::T,0,s,t,_,h1,h2=>by
  have h1:v=s:=by simpa using h1
  have h2:u=t:=by simpa using h2
  rw [gV,if_pos h1.symm,h2]
 |v::H,u::T,i+1,s,t,hn,h1,h2=>by
  obtain⟨n1,n2⟩:=List.nodup_cons.1 hn
  have h1:H[i]? =some s:=by simpa using h1
  have h2:T[i]? =some t:=by simpa using h2
  have hs:s∈H:=List.mem_of_getElem? h1
  rw [gV,if_neg (λe=>n1 (by rw [<-e];exact hs))]
  exact aG5 n2 h1 h2
theorem aIr (k:Nat):aS (nmV k)=true:=rfl
abbrev gW (H:List bG) (w:List Nat):bG->bG:=gV H (w.map λk=>nmV (k+1))
theorem aK1 {H:List bG}{w:List Nat}(hH:H.Nodup) (hN:H.length<=8) (hw:w.Perm (List.range H.length)) {s t:bG}(hs:aS s=true->s∈H) (ht:aS t=true->t∈H) (e:gW H w s=gW H w t):s=t:=by
 have hl:w.length=H.length:=by rw [hw.length_eq,List.length_range]
 have hat: ∀s,s∈H-> ∃i k:Nat,H[i]? =some s/\w[i]? =some k/\k < H.length/\gW H w s=nmV (k+1):=by
  intro s hs
  obtain⟨i,hi⟩:=List.getElem?_of_mem hs
  have hil:=(List.getElem?_eq_some_iff.1 hi).1
  have hk:w[i]? =some (w[i]'(by omega)):=List.getElem?_eq_getElem (by omega)
  have hkn:=List.mem_range.1 (hw.mem_iff.1 (List.mem_of_getElem? hk))
  exact⟨i,_,hi,hk,hkn,aG5 hH hi (by rw [List.getElem?_map,hk];rfl)⟩
 have key: ∀s t,s∈H->t∉H->(aS t=true->t∈H)->gW H w s≠gW H w t:=by
  intro s t h1 h2 h3 e
  obtain⟨i,k,_,_,_,e1⟩:=hat s h1
  rw [e1,show gW H w t=t from nB _ _ _ h2]at e
  exact h2 (h3 (by rw [<-e];exact aIr _))
 by_cases h1:s∈H
 ·by_cases h2:t∈H
  ·obtain⟨i,k,a1,a2,a3,a4⟩:=hat s h1
   obtain⟨j,m,b1,b2,b3,b4⟩:=hat t h2
   rw [a4,b4]at e
   have hkm:=aLi _ _ (by omega) (by omega) e
   obtain rfl:k=m:=by omega
   have hnd:w.Nodup:=hw.nodup_iff.2 List.nodup_range
   have hp:=List.pairwise_iff_getElem.1 hnd
   obtain⟨c1,c2⟩:=List.getElem?_eq_some_iff.1 a2
   obtain⟨d1,d2⟩:=List.getElem?_eq_some_iff.1 b2
   have hij:i=j:=by
    rcases Nat.lt_trichotomy i j with h|h|h
    ·exact absurd (c2.trans d2.symm) (hp i j c1 d1 h)
    ·exact h
    ·exact absurd (d2.trans c2.symm) (hp j i d1 c1 h)
   subst hij
   rw [a1]at b1
   injection b1
  ·exact absurd e (key s t h1 h2 ht)
 ·by_cases h2:t∈H
  ·exact absurd e.symm (key t s h2 h1 hs)
  ·rw [show gW H w s=s from nB _ _ _ h1,show gW H w t=t from nB _ _ _ h2]at e
   exact e
def Vof (p:List At) (H:List bG):Prop:= ∀a∈p,(aS a.x=true->a.x∈H)/\(aS a.y=true->a.y∈H)
theorem aAz {p:List At}:Vof p (bQ p):=by
 intro a ha
 unfold bQ
 refine⟨λh=> ?_,λh=> ?_⟩
 ·exact List.mem_filter.2 ⟨List.mem_flatMap.2 ⟨a,ha,by simp⟩,h⟩
 ·exact List.mem_filter.2 ⟨List.mem_flatMap.2 ⟨a,ha,by simp⟩,h⟩
theorem aMz {p:List At}{H:List bG}{w:List Nat}(hv:Vof p H) (hH:H.Nodup) (hN:H.length<=8) (hw:w.Perm (List.range H.length)) {a b:At}(ha:a∈p) (hb:b∈p) (e:rpA (gW H w) a=rpA (gW H w) b):a=b:=by
 obtain⟨k,n,x,y,lo,hi⟩:=a
 obtain⟨k',n',x',y',lo',hi'⟩:=b
 unfold rpA at e
 injection e with e1 e2 e3 e4 e5 e6
 have h1:=aK1 hH hN hw (hv _ ha).1 (hv _ hb).1 e3
 have h2:=aK1 hH hN hw (hv _ ha).2 (hv _ hb).2 e4
 dsimp only at *
 subst e1 e2 h1 h2 e5 e6
 rfl
theorem aFl {p P:List At}{f:At->At}(hi: ∀a∈P,∀b∈P,f a=f b->a=b):P.Nodup->(P.map f).Nodup:=by
 intro h
 rw [List.Nodup,List.pairwise_map]
 exact List.Pairwise.imp_of_mem (λ{a b} ha hb hne e=>hne (hi a ha b hb e)) h
def dB (p:List At) (H:List bG) (w:List Nat):List At:=lV (p.map (rpA (gW H w)))
theorem aJn {p P:List At}{H:List bG}{w:List Nat}(hP:IsTid p P) (hv:Vof p H) (hH:H.Nodup) (hN:H.length<=8) (hw:w.Perm (List.range H.length)):yOf P H (zN w H.length) H.length=dB p H w:=by
 unfold yOf dB
 rw [aE4 hw]
 have hi: ∀a∈P,∀b∈P,rpA (gW H w) a=rpA (gW H w) b->a=b:= λa ha b hb e=>aMz hv hH hN hw ((hP.m a).1 ha) ((hP.m b).1 hb) e
 have hnd:(P.map (rpA (gW H w))).Nodup:=aFl (p:=p) hi hP.n
 have h1:IsTid (p.map (rpA (gW H w))) (xH bE (P.map (rpA (gW H w)))):=by
  refine⟨eQ bC _,(jJ _).nodup_iff.2 hnd,λx=> ?_⟩
  rw [(jJ _).mem_iff,List.mem_map,List.mem_map]
  exact⟨λ⟨a,ha,e⟩=>⟨a,(hP.m a).1 ha,e⟩,λ⟨a,ha,e⟩=>⟨a,(hP.m a).2 ha,e⟩⟩
 exact h1.uniq (iN _) λx=>Iff.rfl
structure IsCan (p:List At) (H:List bG) (y:List At):Prop where
 ex: ∃w:List Nat,w.Perm (List.range H.length)/\y=dB p H w
 le: ∀w:List Nat,w.Perm (List.range H.length)->bH bE y (dB p H w)<=0
theorem IsCan.uniq {p:List At}{H:List bG}{y z:List At}(h:IsCan p H y) (k:IsCan p H z):y=z:=by
 obtain⟨w,hw,rfl⟩:=h.ex
 obtain⟨v,hv,rfl⟩:=k.ex
 have h1:=h.le v hv
 have h2:=k.le w hw
 have ha:=gR bC (dB p H w) (dB p H v)
 exact(uF (c:=bE) (λa b=>dG) _ _).1 (by omega)
theorem aDe {p P:List At}{H:List bG}(hP:IsTid p P) (hv:Vof p H) (hH:H.Nodup) (hN:H.length<=8) (y:List At):yE P H H.length 0 (List.replicate H.length none) y↔ ∃w:List Nat,w.Perm (List.range H.length)/\y=dB p H w:=by
 constructor
 ·rintro⟨a',h,rfl⟩
  obtain⟨w,hw,rfl⟩:=zB.1 h
  exact⟨w,hw,aJn hP hv hH hN hw⟩
 ·rintro⟨w,hw,rfl⟩
  exact⟨zN w H.length,zB.2 ⟨w,hw,rfl⟩,(aJn hP hv hH hN hw).symm⟩
theorem aGg {p P:List At}{H:List bG}(hP:IsTid p P) (hv:Vof p H) (hH:H.Nodup) (hN:H.length<=8): ∃y,dfs P H H.length 0 (List.replicate H.length none) none=some y/\IsCan p H y:=by
 have h:=(aGf P H hN H.length 0 (List.replicate H.length none) none (by omega)).iff (aDe hP hv hH hN)
 obtain⟨b,hb,_⟩:=h.le _ ⟨List.range H.length, .refl _,rfl⟩
 refine⟨b,hb, ?_,λw hw=> ?_⟩
 ·rcases h.or with e|⟨y,hy,e⟩
  ·rw [hb]at e;cases e
  ·rw [hb]at e
   injection e with e
   rw [e];exact hy
 ·obtain⟨b',hb',hl⟩:=h.le _ ⟨w,hw,rfl⟩
  rw [hb]at hb'
  injection hb' with hb'
  rw [hb'];exact hl
def dU (p:List At):List At:=(dfs (lV p) (aQ p) (aQ p).length 0 (List.replicate (aQ p).length none) none).getD []
theorem dA (p:List At):Vof p (aQ p)/\(aQ p).Nodup:=by
 obtain⟨h1,h2⟩:=cB p
 exact⟨λa ha=>⟨λh=>(h2 _).2 ((aAz a ha).1 h),λh=>(h2 _).2 ((aAz a ha).2 h)⟩,h1⟩
theorem aGp {p:List At}(h:(aQ p).length<=8):IsCan p (aQ p) (dU p):=by
 obtain⟨h1,h2⟩:=dA p
 obtain⟨y,e,hy⟩:=aGg (iN p) h1 h2 h
 unfold dU
 rw [e]
 exact hy
theorem aK8 {p:List At}{y:List At}(h:(aQ p).length<=8) (hy:IsCan p (aQ p) y):y=dU p:=hy.uniq (aGp h)
end
section
open Go.Proofs
theorem aBf: ∀{l m:List bG},l.Nodup->(∀x∈l,x∈m)->l.length=m.length->l.Perm m
 | [],m,_,_,h=>by
  have:m=[]:=List.length_eq_zero_iff.1 (by simpa using h.symm)
  rw [this]
 |a::r,m,hn,hs,hl=>by
  obtain⟨h1,h2⟩:=List.nodup_cons.1 hn
  have ha:=hs a List.mem_cons_self
  have he:=List.perm_cons_erase ha
  refine((aBf h2 (λx hx=> ?_) ?_).cons a).trans he.symm
  ·exact(List.mem_erase_of_ne (λe=>h1 (by rw [<-e];exact hx))).2 (hs x (List.mem_cons_of_mem _ hx))
  ·rw [List.length_erase_of_mem ha,<-hl];rfl
theorem aE0 {σ:bG->bG}{H H':List bG}{w':List Nat}(hH:H.Nodup) (hH':H'.Nodup) (hl:H.length=H'.length) (hm: ∀s∈H,σ s∈H') (hi: ∀s∈H,∀t∈H,σ s=σ t->s=t) (hw:w'.Perm (List.range H'.length)):
  ∃w:List Nat,w.Perm (List.range H.length)/\ ∀s∈H,gW H w s=gW H' w' (σ s):=by
 have hp:(H.map σ).Perm H':=by
  have hnd:(H.map σ).Nodup:=by
   rw [List.Nodup,List.pairwise_map]
   exact List.Pairwise.imp_of_mem (λ{a b} ha hb hne e=>hne (hi a ha b hb e)) hH
  have hsub: ∀x∈H.map σ,x∈H':= λx hx=>by
   obtain⟨s,hs,rfl⟩:=List.mem_map.1 hx
   exact hm s hs
  exact aBf hnd hsub (by rw [List.length_map];omega)
 have hlw:w'.length=H'.length:=by rw [hw.length_eq,List.length_range]
 have hat: ∀u∈H',∃i:Nat,i < H'.length/\H'[i]? =some u:=by
  intro u hu
  obtain⟨i,hi⟩:=List.getElem?_of_mem hu
  exact⟨i,(List.getElem?_eq_some_iff.1 hi).1,hi⟩
 let ix:bG->Nat:= λu=>w'.getD (H'.idxOf u) 0
 have hix:H'.map ix=w':=by
  refine List.ext_getElem? λi=> ?_
  rw [List.getElem?_map]
  by_cases h:i < H'.length
  ·rw [List.getElem?_eq_getElem h,List.getElem?_eq_getElem (by omega)]
   simp only [Option.map_some,Option.some.injEq]
   show w'.getD (H'.idxOf H'[i]) 0=_
   have e:H'.idxOf H'[i]=i:=by
    have h1:H'.idxOf H'[i] < H'.length:=List.idxOf_lt_length_iff.2 (List.getElem_mem h)
    have h2:H'[H'.idxOf H'[i]]=H'[i]:=List.getElem_idxOf h1
    have hpw:=List.pairwise_iff_getElem.1 hH'
    rcases Nat.lt_trichotomy (H'.idxOf H'[i]) i with hlt|he|hgt
    ·exact absurd h2 (hpw _ _ h1 h hlt)
    ·exact he
    ·exact absurd h2.symm (hpw _ _ h h1 hgt)
   rw [e,List.getD_eq_getElem?_getD,List.getElem?_eq_getElem (by omega)]
   rfl
  ·rw [List.getElem?_eq_none (by omega),List.getElem?_eq_none (by omega)]
   rfl
 refine⟨H.map λs=>ix (σ s), ?_,λs hs=> ?_⟩
 ·have h1:=hp.map ix
  rw [List.map_map,hix]at h1
  rw [hl]
  exact h1.trans hw
 ·obtain⟨i,hi⟩:=List.getElem?_of_mem hs
  obtain⟨j,hj,hj'⟩:=hat _ (hm s hs)
  have e1:gW H (H.map λs=>ix (σ s)) s=nmV (ix (σ s)+1):=aG5 hH hi (by rw [List.getElem?_map,List.getElem?_map,hi];rfl)
  have e2:gW H' w' (σ s)=nmV (ix (σ s)+1):=by
   refine aG5 hH' hj' ?_
   conv=>lhs;rw [<-hix]
   rw [List.getElem?_map,List.getElem?_map,hj']
   rfl
  rw [e1,e2]
structure Rnm (p:List At) (ρ:bG->bG):Prop where
 inj: ∀s∈aQ p,∀t∈aQ p,ρ s=ρ t->s=t
 var: ∀s∈aQ p,aS (ρ s)=true
 fix: ∀s,aS s=false->ρ s=s
theorem kU {p q:List At}{ρ:bG->bG}(hr:Rnm p ρ) (hq: ∀x,x∈q↔x∈p.map (rpA ρ)) (u:bG):u∈aQ q↔ ∃s∈aQ p,u=ρ s:=by
 have hv: ∀(p:List At) (u:bG),u∈aQ p↔aS u=true/\ ∃a∈p,u=a.x\/u=a.y:=by
  intro p u
  rw [(cB p).2]
  unfold bQ
  rw [List.mem_filter,List.mem_flatMap]
  simp only [List.mem_cons,List.not_mem_nil,or_false]
  exact And.comm
 rw [hv]
 constructor
 ·rintro⟨hl,a,ha,h⟩
  obtain⟨b,hb,rfl⟩:=List.mem_map.1 ((hq a).1 ha)
  unfold rpA at h
  dsimp only at h
  have key: ∀s,(s=b.x\/s=b.y)->u=ρ s-> ∃s∈aQ p,u=ρ s:=by
   intro s hs e
   refine⟨s,(hv p s).2 ⟨?_,b,hb,hs⟩,e⟩
   cases hc:aS s with
   |true=>rfl
   |false=>rw [e,hr.fix s hc,hc]at hl;exact hl
  rcases h with h|h
  ·exact key _ (.inl rfl) h
  ·exact key _ (.inr rfl) h
 ·rintro⟨s,hs,rfl⟩
  obtain⟨_,b,hb,h⟩:=(hv p s).1 hs
  refine⟨hr.var s hs,rpA ρ b,(hq _).2 (List.mem_map.2 ⟨b,hb,rfl⟩), ?_⟩
  unfold rpA
  dsimp only
  rcases h with h|h
  ·exact .inl (by rw [h])
  ·exact .inr (by rw [h])
theorem aEz {p q:List At}{ρ:bG->bG}(hr:Rnm p ρ) (hq: ∀x,x∈q↔x∈p.map (rpA ρ)):(aQ q).length=(aQ p).length:=by
 have hnd:((aQ p).map ρ).Nodup:=by
  rw [List.Nodup,List.pairwise_map]
  exact List.Pairwise.imp_of_mem (λ{a b} ha hb hne e=>hne (hr.inj a ha b hb e)) (dA p).2
 have hp:(aQ q).Perm ((aQ p).map ρ):=(List.perm_ext_iff_of_nodup (dA q).2 hnd).2 λu=>by
  rw [kU hr hq,List.mem_map]
  exact⟨λ⟨s,h1,h2⟩=>⟨s,h1,h2.symm⟩,λ⟨s,h1,h2⟩=>⟨s,h1,h2.symm⟩⟩
 rw [hp.length_eq,List.length_map]
theorem aAo {p q:List At}{H H':List bG}{w w':List Nat}{ρ:bG->bG}(hq: ∀x,x∈q↔x∈p.map (rpA ρ)) (h: ∀a∈p,gW H w a.x=gW H' w' (ρ a.x)/\gW H w a.y=gW H' w' (ρ a.y)):dB p H w=dB q H' w':=by
 refine aCs λx=> ?_
 rw [List.mem_map,List.mem_map]
 constructor
 ·rintro⟨a,ha,rfl⟩
  refine⟨rpA ρ a,(hq _).2 (List.mem_map.2 ⟨a,ha,rfl⟩), ?_⟩
  obtain⟨h1,h2⟩:=h a ha
  unfold rpA
  dsimp only
  rw [h1,h2]
 ·rintro⟨b,hb,rfl⟩
  obtain⟨a,ha,rfl⟩:=List.mem_map.1 ((hq b).1 hb)
  refine⟨a,ha, ?_⟩
  obtain⟨h1,h2⟩:=h a ha
  unfold rpA
  dsimp only
  rw [h1,h2]
theorem aM7 {p q:List At}{ρ:bG->bG}(hr:Rnm p ρ) (hq: ∀x,x∈q↔x∈p.map (rpA ρ)) (hN:(aQ p).length<=8):dU q=dU p:=by
 have hlen:=aEz hr hq
 obtain⟨v1,n1⟩:=dA p
 obtain⟨v2,n2⟩:=dA q
 have hnl: ∀(H:List bG) (w:List Nat) (s:bG),(∀t∈H,aS t=true)->aS s=false->gW H w s=s:= λH w s hH hs=>nB _ _ _ λhm=>by rw [hH s hm]at hs;cases hs
 have hl1: ∀t∈aQ p,aS t=true:= λt ht=>by
  have:=((cB p).2 t).1 ht
  unfold bQ at this
  exact(List.mem_filter.1 this).2
 have hl2: ∀t∈aQ q,aS t=true:= λt ht=>by
  have:=((cB q).2 t).1 ht
  unfold bQ at this
  exact(List.mem_filter.1 this).2
 have hm: ∀s∈aQ p,ρ s∈aQ q:= λs hs=>(kU hr hq _).2 ⟨s,hs,rfl⟩
 -- from an order of q's variables to one of p's
 have back: ∀w':List Nat,w'.Perm (List.range (aQ q).length)-> ∃w:List Nat,w.Perm (List.range (aQ p).length)/\dB p (aQ p) w=dB q (aQ q) w':=by
  intro w' hw'
  obtain⟨w,hw,he⟩:=aE0 n1 n2 hlen.symm hm hr.inj hw'
  refine⟨w,hw,aAo hq λa ha=> ?_⟩
  have one: ∀s,(aS s=true->s∈aQ p)->gW (aQ p) w s=gW (aQ q) w' (ρ s):=by
   intro s hs
   cases hc:aS s with
   |true=>exact he s (hs hc)
   |false=>rw [hr.fix s hc,hnl _ _ _ hl1 hc,hnl _ _ _ hl2 hc]
  exact⟨one _ (v1 a ha).1,one _ (v1 a ha).2⟩
 -- and the other way
 have forth: ∀w:List Nat,w.Perm (List.range (aQ p).length)-> ∃w':List Nat,w'.Perm (List.range (aQ q).length)/\dB p (aQ p) w=dB q (aQ q) w':=by
  intro w hw
  have hinv: ∃σ:bG->bG,∀s∈aQ p,σ (ρ s)=s:=by
   refine⟨λu=>((aQ p).find? λs=>decide (ρ s=u)).getD [],λs hs=> ?_⟩
   show ((aQ p).find? (λt=>decide (ρ t=ρ s))).getD []=s
   cases hf:(aQ p).find? (λt=>decide (ρ t=ρ s))with
   |none=>
    have:=List.find?_eq_none.1 hf s hs
    simp at this
   |some t=>
    have h1:=List.find?_some hf
    have h2:=List.mem_of_find?_eq_some hf
    exact hr.inj t h2 s hs (of_decide_eq_true h1)
  obtain⟨σ,hσ⟩:=hinv
  obtain ⟨w', hw', he⟩ := aE0 (σ := σ) (H := aQ q) (H' := aQ p) n2 n1 hlen (λu hu => by
   obtain⟨s,hs,rfl⟩:=(kU hr hq u).1 hu
   rw [hσ s hs];exact hs) (λu hu v hv e=>by
   obtain⟨s,hs,rfl⟩:=(kU hr hq u).1 hu
   obtain⟨t,ht,rfl⟩:=(kU hr hq v).1 hv
   rw [hσ s hs,hσ t ht]at e
   rw [e]) hw
  refine⟨w',hw',aAo hq λa ha=> ?_⟩
  have one: ∀s,(aS s=true->s∈aQ p)->gW (aQ p) w s=gW (aQ q) w' (ρ s):=by
   intro s hs
   cases hc:aS s with
   |true=>
    have:=he (ρ s) (hm s (hs hc))
    rw [hσ s (hs hc)]at this
    exact this.symm
   |false=>rw [hr.fix s hc,hnl _ _ _ hl1 hc,hnl _ _ _ hl2 hc]
  exact⟨one _ (v1 a ha).1,one _ (v1 a ha).2⟩
 have hq8:(aQ q).length<=8:=by omega
 have hc:=aGp hq8
 refine aK8 hN ⟨?_,λw hw=> ?_⟩
 ·obtain⟨w',hw',e⟩:=hc.ex
  obtain⟨w,hw,e2⟩:=back w' hw'
  exact⟨w,hw,by rw [e,e2]⟩
 ·obtain⟨w',hw',e⟩:=forth w hw
  rw [e]
  exact hc.le w' hw'
end
end Go.Proofs.YtdjfkmkdkclahaaGreatDoor
