/-
  Queries: slices.Compact and slices.Contains of strings. Queries: slices.Contains of strings; the variables of a part. Queries: what the variables of a part are, plainly. Queries: the numbers of parts and atoms; the told variables. Roles: which roles are simple where there are no axioms.
  Conditions: none.
-/
import Derived.Test.YtcomlapnibckmaaGreatDoorVOh
import Derived.Test.YtcomlapnibckmaaGreatDoorVQqa
import Derived.Test.YtcomlapnibckmaaGreatDoorVSne
set_option linter.unnecessarySimpa false
set_option linter.unusedSectionVars false
set_option linter.unusedSimpArgs false
set_option linter.unusedVariables false
set_option maxHeartbeats 16000000
namespace Go.Proofs.YtcomlapnibckmaaGreatDoor
open Go.Proofs Go.RowKit
set_option maxRecDepth 10000
attribute [local irreducible] aN aH Tri aF YVC cM bB
def eqS (a b:List UInt8):Bool:=decide (a=b)
theorem pH (l:List (List UInt8)) (hlen:l.length<=1000000)
  (cap n:Nat) (hn:n=l.length) (hp0:Hp) {pin:Pin} {fr:Fr} {K:SV->Hp->Prop} (hp1: ∀k,100<=k->k∉pin) (hf: ∀k,100<=k->k∉eG fr) (hh: ∀k,100<=k->k∉mH hp0) (hno:aO hp0 70=none) (hsub: ∀o,vG hp0 ((70,o)::hp0))
  (hk: ∀cap',K (.mw 170 1 (pS eqS l).length) ((170, .mrow 9 1 cap' ((pS eqS l).map cF))::hp0)):
  aH Tryz.prog pin fr ((70, .mrow 9 1 cap (l.map cF))::hp0) 128 [.mw 70 1 n] K:=by
 subst hn
 have fin: ∀(rows:List (List D)) (s:SV) (k:Nat),(s= .ms 70 1 0 k l.length\/(s= .mw 70 1 l.length/\k=l.length))->l.length=rows.length->k=(pS eqS l).length->rows.take k=(pS eqS l).map cF->PartP pin fr K 170 s ((70, .mrow 9 1 cap rows)::hp0):=by
  intro rows s k h1 h2 h3 h4
  refine⟨70,_,1,cap,k,l.length,rows,hp0,h1,rfl,h2,by rw [h3];exact aDs _ _,⟨hp1 _ (by decide),hf _ (by decide),aEh (by decide) rfl hh _ (by decide)⟩,hsub _,hno,λcap'=> ?_⟩
  rw [h3]at h4 |-
  rw [h4]
  exact hk cap'
 refine aH.closeP 170 ?_
 refine aI false [] hty Tryz.func128 rfl (kp [0,2,3,4,5,8,13,25,32,44]) 200 (by simp [Tryz.f128]) ?_
 ((conv=>whnf);repeat' ((first|(intro hq;(try simp only [lnS]at hq);(try rewrite [List.length_map]))|refine sJ ?_|refine .intro _ (.intro rfl ?_)|refine exL (k:= ?_)|refine dwR ?_|((first|refine aB ?_ ?_|refine aC ?_ ?_)<;>intro hb<;>(first|exact ddX hb|try simp only [lnS]at hb))|(refine aA ?_ ?_<;>intro hb<;>try exact dsX hb))<;>(conv=>whnf)))
 ·have hd:pS eqS l=l:=rD _ _ (by omega)
  exact fin _ _ l.length (.inr ⟨rfl,rfl⟩) (List.length_map ..).symm (by rw [hd]) (by rw [hd,List.take_of_length_le (by rw [List.length_map];exact Nat.le_refl _)])
 ·refine oI hty (λk:Nat=>([(0, .mw 70 1 l.length),(3, .d (.int .i64 k))],(70, .mrow 9 1 cap (l.map cF))::hp0)) (λk=>(1<=k/\k<=l.length)/\pS eqS (l.take k)=l.take k) (λk=>l.length - k) 1 ⟨by omega,rD _ _ (by rw [List.length_take];omega)⟩ (by repeat' (first|exact trivial|exact rfl|refine And.intro ?_ ?_)) rfl ?_
  rintro k ⟨⟨hk1,hkl⟩,hd⟩
  ((conv=>whnf);repeat ((first|(intro hq;try simp only [lnS]at hq)|refine sI ?_|refine .intro _ (.intro rfl ?_));(conv=>whnf)))
  refine aB (λh1=> ?_) (λh1=> ?_)
  ·have hkl':k < l.length:=by omega
   have hkp:k - 1 < l.length:=by omega
   have hrow1:(l.map cF)[(k:Int).toNat]? =some (cF l[k]):=bH hkl'
   have hrow2:(l.map cF)[((k:Int) - 1).toNat]? =some (cF l[k - 1]):=by
    rw [show ((k:Int) - 1).toNat=k - 1 by omega,List.getElem?_map,List.getElem?_eq_getElem hkp];rfl
   have hdt:=uP eqS l (k - 1) (by omega)
   simp only [show k - 1+1=k by omega,show k - 1+2=k+1 by omega]at hdt
   ((conv=>whnf);repeat ((first|(intro hq;try simp only [lnS]at hq)|refine sI ?_|refine .intro _ (.intro rfl ?_));(conv=>whnf)))
   refine dwR ?_
   ((conv=>whnf);repeat ((first|(refine And.intro (List.length_map ..).symm ?_)|(refine⟨_,hrow1, ?_⟩)|(refine⟨_,hrow2, ?_⟩)|(intro hq;try simp only [lnS]at hq)|refine sI ?_|refine .intro _ (.intro rfl ?_));(conv=>whnf)))
   cases hb:decide (l[k]=l[k - 1])
   ·((conv=>whnf);repeat' ((first|(intro hq;(try simp only [lnS]at hq);(try rewrite [List.length_map]))|refine sJ ?_|refine .intro _ (.intro rfl ?_)|refine exL (k:= ?_)|refine dwR ?_|((first|refine aB ?_ ?_|refine aC ?_ ?_)<;>intro hb<;>(first|exact ddX hb|try simp only [lnS]at hb))|(refine aA ?_ ?_<;>intro hb<;>try exact dsX hb))<;>(conv=>whnf)))
    rw [show eqS l[k] l[k - 1]=false from hb,if_neg (by decide),hd]at hdt
    exact⟨k+1,⟨⟨by omega,by omega⟩,by rw [hdt];exact(List.take_succ_eq_append_getElem hkl').symm⟩,by dsimp only;omega,by repeat' (first|exact trivial|exact rfl|refine And.intro ?_ ?_),rfl⟩
   ·rw [show eqS l[k] l[k - 1]=true from hb,if_pos rfl,hd]at hdt
    ((conv=>whnf);repeat ((first|(refine qG hty rfl rfl rfl rfl rfl rfl ?_)|(intro hq;try simp only [lnS]at hq)|refine sI ?_|refine .intro _ (.intro rfl ?_));(conv=>whnf)))
    rw [show ((k:Int)).toNat=k from rfl]
    refine oI hty (λy:Nat×Nat×List (List UInt8)=>([(0, .mw 70 1 l.length),(3, .d (.int .i64 y.2.1)),(4, .ms 70 1 k (l.length - k) l.length),(5, .d (.int .i64 y.1))],(70, .mrow 9 1 cap (y.2.2.map cF))::hp0))
     (λy=>(1<=y.1/\y.1<=l.length - k)/\y.2.2.length=l.length/\(y.2.1+1<=k+y.1/\1<=y.2.1)/\y.2.2.take y.2.1=pS eqS (l.take (k+y.1))/\y.2.2.drop (k+y.1 - 1)=l.drop (k+y.1 - 1)) (λy=>l.length - k - y.1) (1,k,l) ⟨by dsimp only;omega,rfl,by dsimp only;omega,hdt.symm,rfl⟩ (by repeat' (first|exact trivial|exact rfl|refine And.intro ?_ ?_)) rfl ?_
    rintro⟨k2,m,q⟩ ⟨⟨hk21,hk2l⟩,hql,⟨hm1,hm0⟩,ht,hdr⟩
    dsimp only at hk21 hk2l hql hm1 hm0 ht hdr
    ((conv=>whnf);repeat ((first|(refine aDl hty rfl rfl rfl ?_)|(intro hq;try simp only [lnS]at hq)|refine sI ?_|refine .intro _ (.intro rfl ?_));(conv=>whnf)))
    refine aB (λh2=> ?_) (λh2=> ?_)
    ·have hA:k+k2 < l.length:=by dsimp only at h2;omega
     have hB:k+k2 - 1 < l.length:=by omega
     have hml:m < q.length:=by omega
     have eA:q[k+k2]'(hql ▸ hA)=l[k+k2]:=gB hdr hql (by omega) hA
     have eB:q[k+k2 - 1]'(hql ▸ hB)=l[k+k2 - 1]:=gB hdr hql (by omega) hB
     have hrowA:(q.map cF)[k+(k2:Int).toNat]? =some (cF l[k+k2]):=by
      rw [Int.toNat_natCast,List.getElem?_map,List.getElem?_eq_getElem (hql ▸ hA),eA];rfl
     have hrowB:(q.map cF)[k+((k2:Int) - 1).toNat]? =some (cF l[k+k2 - 1]):=by
      rw [show k+((k2:Int) - 1).toNat=k+k2 - 1 by omega,List.getElem?_map,List.getElem?_eq_getElem (hql ▸ hB),eB];rfl
     have hrowM:(q.map cF)[(m:Int).toNat]? =some (cF q[m]):=bH hml
     have hdt2:=uP eqS l (k+k2 - 1) (by omega)
     simp only [show k+k2 - 1+1=k+k2 by omega,show k+k2 - 1+2=k+(k2+1)by omega]at hdt2
     have hlq:l.length=(q.map cF).length:=by rw [List.length_map,hql]
     have hdr2:q.drop (k+k2)=l.drop (k+k2):=by
      have:=congrArg (List.drop 1) hdr
      rw [List.drop_drop,List.drop_drop,show k+k2 - 1+1=k+k2 by omega]at this
      exact this
     ((conv=>whnf);repeat ((first|(intro hq;try simp only [lnS]at hq)|refine sI ?_|refine .intro _ (.intro rfl ?_));(conv=>whnf)))
     refine dwR ?_
     ((conv=>whnf);repeat ((first|(refine And.intro hlq ?_)|(refine⟨_,hrowA, ?_⟩)|(refine⟨_,hrowB, ?_⟩)|(intro hq;try simp only [lnS]at hq)|refine sI ?_|refine .intro _ (.intro rfl ?_));(conv=>whnf)))
     cases hb2:decide (l[k+k2]=l[k+k2 - 1])
     ·((conv=>whnf);repeat' ((first|(intro hq;(try simp only [lnS]at hq);(try rewrite [List.length_map]))|refine sJ ?_|refine .intro _ (.intro rfl ?_)|refine exL (k:= ?_)|(refine And.intro hlq ?_)|(refine⟨_,hrowA, ?_⟩)|(refine⟨_,hrowM, ?_⟩)|(refine And.intro (aDm rfl) ?_)|refine dwR ?_|((first|refine aB ?_ ?_|refine aC ?_ ?_)<;>intro hb<;>(first|exact ddX hb|try simp only [lnS]at hb))|(refine aA ?_ ?_<;>intro hb<;>try exact dsX hb))<;>(conv=>whnf)))
      rw [show eqS l[k+k2] l[k+k2 - 1]=false from hb2,if_neg (by decide),<-ht]at hdt2
      refine⟨(k2+1,m+1,q.set m l[k+k2]),⟨by dsimp only;omega,by dsimp only;rw [List.length_set];exact hql,by dsimp only;omega, ?_, ?_⟩,by dsimp only;omega,by repeat' (first|exact trivial|exact rfl|refine And.intro ?_ ?_), ?_⟩
      ·dsimp only
       rw [hdt2]
       exact rU _ hml
      ·dsimp only
       rw [show k+(k2+1) - 1=k+k2 by omega,List.drop_set_of_lt (by omega)]
       exact hdr2
      ·dsimp only
       rw [List.map_set]
       rfl
     ·((conv=>whnf);repeat' ((first|(intro hq;(try simp only [lnS]at hq);(try rewrite [List.length_map]))|refine sJ ?_|refine .intro _ (.intro rfl ?_)|refine exL (k:= ?_)|refine dwR ?_|((first|refine aB ?_ ?_|refine aC ?_ ?_)<;>intro hb<;>(first|exact ddX hb|try simp only [lnS]at hb))|(refine aA ?_ ?_<;>intro hb<;>try exact dsX hb))<;>(conv=>whnf)))
      rw [show eqS l[k+k2] l[k+k2 - 1]=true from hb2,if_pos rfl]at hdt2
      exact⟨(k2+1,m,q),⟨by dsimp only;omega,hql,by dsimp only;omega,by dsimp only;rw [hdt2];exact ht,by dsimp only;rw [show k+(k2+1) - 1=k+k2 by omega];exact hdr2⟩,by dsimp only;omega,by repeat' (first|exact trivial|exact rfl|refine And.intro ?_ ?_),rfl⟩
    ·have hke:k+k2=l.length:=by dsimp only at h2;omega
     rw [hke,List.take_length]at ht
     have hlq:l.length=(q.map cF).length:=by rw [List.length_map,hql]
     have hmq:m+(l.length - m)=(q.map cF).length:=by rw [List.length_map,hql];omega
     have hml:=congrArg List.length ht
     rw [List.length_take,Nat.min_eq_left (by omega)]at hml
     ((conv=>whnf);repeat' ((first|(intro hq;(try simp only [lnS]at hq);(try rewrite [List.length_map]))|refine sJ ?_|refine .intro _ (.intro rfl ?_)|refine exL (k:= ?_)|(refine qG hty rfl rfl rfl rfl rfl rfl ?_)|(refine zU hty rfl rfl (by decide) rfl rfl rfl hlq hmq ?_)|refine dwR ?_|((first|refine aB ?_ ?_|refine aC ?_ ?_)<;>intro hb<;>(first|exact ddX hb|try simp only [lnS]at hb))|(refine aA ?_ ?_<;>intro hb<;>try exact dsX hb))<;>(conv=>whnf)))
     refine fin _ _ m (.inl rfl) ?_ hml ?_
     ·simp only [List.length_append,List.length_take,List.length_replicate,List.length_map]
      show l.length=min m q.length+(l.length - m)
      omega
     ·show ((q.map cF).take m++_).take m=_
      rw [List.take_append_of_le_length (by rw [List.length_take,List.length_map];omega),List.take_take,Nat.min_self,<-List.map_take,ht]
  ·have hkl':k=l.length:=by omega
   subst hkl'
   rw [List.take_length]at hd
   ((conv=>whnf);repeat' ((first|(intro hq;(try simp only [lnS]at hq);(try rewrite [List.length_map]))|refine sJ ?_|refine .intro _ (.intro rfl ?_)|refine exL (k:= ?_)|refine dwR ?_|((first|refine aB ?_ ?_|refine aC ?_ ?_)<;>intro hb<;>(first|exact ddX hb|try simp only [lnS]at hb))|(refine aA ?_ ?_<;>intro hb<;>try exact dsX hb))<;>(conv=>whnf)))
   exact fin _ _ l.length (.inr ⟨rfl,rfl⟩) (List.length_map ..).symm (by rw [hd]) (by rw [hd,List.take_of_length_le (by rw [List.length_map];exact Nat.le_refl _)])
end Go.Proofs.YtcomlapnibckmaaGreatDoor
namespace Go.Proofs.YtcomlapnibckmaaGreatDoor
open Go.Proofs Go.RowKit
set_option maxRecDepth 10000
attribute [local irreducible] aN aH Tri aF YVC cM bB
def aE7:List (List UInt8)->List UInt8->Int->Int
 | [],_,_=> -1
 |a::r,s,i=>if s=a then i else aE7 r s (i+1)
theorem aBk: ∀(l:List (List UInt8)) (s:List UInt8) (i:Int) (_:0<=i),decide (aE7 l s i>=0)=decide (s∈l)
 | [],s,i,_=>by simp [aE7]
 |a::r,s,i,h=>by
  have ih:=aBk r s (i+1) (by omega)
  rw [aE7]
  by_cases e:s=a
  ·rw [if_pos e,decide_eq_true (by omega),decide_eq_true (by rw [e];exact List.mem_cons_self)]
  ·rw [if_neg e,ih,decide_eq_decide,List.mem_cons]
   exact⟨.inr,λh=>h.resolve_left e⟩
theorem aBj (l:List (List UInt8)) (s:List UInt8):Tri Tryz.prog 183 [.d (.sl 1 (l.map cF)), .d (.str s)] [] (λr=>r= .d (.int .i64 (aE7 l s 0))):=by
 refine aK hty Tryz.func183 rfl (kp [0,1,4,5,7,8,9,16]) [] _ _ _ (by simp [Tryz.f183]) (by simp) ?_
 ((conv=>whnf);repeat' ((first|(intro hq;(try simp only [lnS]at hq);(try rewrite [List.length_map]))|refine sJ ?_|refine .intro _ (.intro rfl ?_)|refine exL (k:= ?_)|refine dwR ?_|((first|refine aB ?_ ?_|refine aC ?_ ?_)<;>intro hb<;>(first|exact ddX hb|try simp only [lnS]at hb))|(refine aA ?_ ?_<;>intro hb<;>try exact dsX hb))<;>(conv=>whnf)))
 refine aQ hty (λj:Nat=>([(0, .d (.sl 1 (l.map cF))),(1, .d (.str s)),(7, .d (.int .i64 l.length)),(8, .d (.int .i64 j))],[])) (λj=>j<=l.length/\aE7 l s 0=aE7 (l.drop j) s j) (λj=>l.length - j) 0 ⟨by omega,rfl⟩ ⟨by repeat' (first|exact trivial|exact rfl|(rw [List.length_map];exact rfl)|refine And.intro ?_ ?_),trivial⟩ ?_
 rintro j ⟨hj,hn⟩
 ((conv=>whnf);repeat ((first|(intro hq;try simp only [lnS]at hq)|refine sI ?_|refine .intro _ (.intro rfl ?_));(conv=>whnf)))
 refine aB (λh1=> ?_) (λh1=> ?_)
 ·have hjl:j < l.length:=by omega
  have hrow:(l.map cF)[(j:Int).toNat]? =some (cF l[j]):=bH hjl
  rw [List.drop_eq_getElem_cons hjl,aE7]at hn
  generalize l[j]=x at hrow hn
  ((conv=>whnf);repeat' ((first|(intro hq;(try simp only [lnS]at hq);(try rewrite [List.length_map]))|refine sJ ?_|refine .intro _ (.intro rfl ?_)|refine exL (k:= ?_)|(refine⟨_,hrow, ?_⟩)|refine dwR ?_|((first|refine aB ?_ ?_|refine aC ?_ ?_)<;>intro hb<;>(first|exact ddX hb|try simp only [lnS]at hb))|(refine aA ?_ ?_<;>intro hb<;>try exact dsX hb))<;>(conv=>whnf)))
  ·rw [hn,if_pos hb];rfl
  ·rw [if_neg hb]at hn
   refine⟨j+1,⟨by omega,hn⟩,by dsimp only;omega,by repeat' (first|exact trivial|exact rfl|refine And.intro ?_ ?_),trivial⟩
 ·have hjl:j=l.length:=by omega
  subst hjl
  ((conv=>whnf);repeat' ((first|(intro hq;(try simp only [lnS]at hq);(try rewrite [List.length_map]))|refine sJ ?_|refine .intro _ (.intro rfl ?_)|refine exL (k:= ?_)|refine dwR ?_|((first|refine aB ?_ ?_|refine aC ?_ ?_)<;>intro hb<;>(first|exact ddX hb|try simp only [lnS]at hb))|(refine aA ?_ ?_<;>intro hb<;>try exact dsX hb))<;>(conv=>whnf)))
  rw [hn,List.drop_length];rfl
theorem gP (l:List (List UInt8)) (s:List UInt8):Tri Tryz.prog 125 [.d (.sl 1 (l.map cF)), .d (.str s)] [] (λr=>r= .d (.bool (decide (s∈l)))):=by
 have h:=aBj l s
 refine aK hty Tryz.func125 rfl (kp [0,1,4]) [] _ _ _ (by simp [Tryz.f125]) (by simp) ?_
 ((conv=>whnf);repeat' ((first|(intro hq;(try simp only [lnS]at hq);(try rewrite [List.length_map]))|refine sJ ?_|refine .intro _ (.intro rfl ?_)|refine exL (k:= ?_)|(refine aD [] h trivial (λr hs=> ?_);subst hs)|refine dwR ?_|((first|refine aB ?_ ?_|refine aC ?_ ?_)<;>intro hb<;>(first|exact ddX hb|try simp only [lnS]at hb))|(refine aA ?_ ?_<;>intro hb<;>try exact dsX hb))<;>(conv=>whnf)))
 exact aV (aBk l s 0 (by omega))
def rM (p:List At):List (List UInt8):=pS eqS (aAp (dE p))
theorem tM (p:List At):(dE p).length<=2 * p.length:=by
 refine Nat.le_trans (List.length_filter_le ..) ?_
 induction p with
 |nil=>exact Nat.le_refl _
 |cons a r ih=>simp only [List.flatMap_cons,List.length_append,List.length_cons,List.length_nil];omega
theorem yK {p:List At}{j:Nat}(h:j < p.length):dE (p.take (j+1))=dE (p.take j)++[p[j].x,p[j].y].filter bR:=by
 unfold dE
 rw [List.take_succ_eq_append_getElem h,List.flatMap_append,List.filter_append]
 simp
theorem kA (p:List At) (hlen:p.length<=100000):Tri Tryz.prog 76 [.d (.agg (bK p))] [] (λr=>r= .d (.sl 1 ((rM p).map cF))):=by
 have hvl:=tM p
 show Tri Tryz.prog 76 [.d (.agg [.sl 6 (p.map atR)])] [] _
 refine aG false [1,4] hty Tryz.func76 rfl (kp [0,1,2,4,6,8,9,10,11,18,19,20,23]) [] _ _ _ (by simp [Tryz.f76]) (by simp) ?_
 ((conv=>whnf);repeat ((first|(intro hq;try simp only [lnS]at hq)|refine sI ?_|refine .intro _ (.intro rfl ?_));(conv=>whnf)))
 refine aN.mown 2 70 9 1 rfl (cD (by with_unfolding_all exact rfl)) ?_
 refine aQ hty (λy:Nat×Nat=>([(2, .mw 70 1 (dE (p.take y.1)).length),(8, .d (.sl 6 (p.map atR))),(9, .d (.int .i64 p.length)),(10, .d (.int .i64 y.1))],[(70, .mrow 9 1 y.2 ((dE (p.take y.1)).map cF))])) (λy=>y.1<=p.length) (λy=>p.length - y.1) (0,0) (by dsimp only;omega) ⟨by repeat' (first|exact trivial|exact rfl|(rw [List.length_map];exact rfl)|refine And.intro ?_ ?_),⟨rfl,trivial⟩⟩ ?_
 rintro⟨j,cap⟩ hj
 dsimp only at hj
 ((conv=>whnf);repeat ((first|(intro hq;try simp only [lnS]at hq)|refine sI ?_|refine .intro _ (.intro rfl ?_));(conv=>whnf)))
 refine aB (λh1=> ?_) (λh1=> ?_)
 ·have hjl:j < p.length:=by omega
  have hrow:(p.map atR)[(j:Int).toNat]? =some (atR p[j]):=bH hjl
  have hacc:=yK hjl
  have hal:=tM (p.take j)
  rw [List.length_take]at hal
  generalize dE (p.take j)=acc at *
  generalize p[j]=a at *
  obtain⟨kd,nm,xx,yy,lo,hi⟩:=a
  rw [show atR ⟨kd,nm,xx,yy,lo,hi⟩=[.int .i64 kd, .str nm, .str xx, .str yy, .int .i64 lo, .int .i64 hi]from rfl]at hrow
  dsimp only at hacc
  ((conv=>whnf);repeat ((first|(refine⟨_,hrow, ?_⟩)|(intro hq;try simp only [lnS]at hq)|refine sI ?_|refine .intro _ (.intro rfl ?_));(conv=>whnf)))
  refine aQ hty (λy:Nat×Nat=>([(2, .mw 70 1 (acc++([xx,yy].take y.1).filter bR).length),(8, .d (.sl 6 (p.map atR))),(9, .d (.int .i64 p.length)),(10, .d (.int .i64 j)),(18, .d (.agg [.str xx, .str yy])),(19, .d (.int .i64 y.1))],[(70, .mrow 9 1 y.2 ((acc++([xx,yy].take y.1).filter bR).map cF))])) (λy=>y.1<=2) (λy=>2 - y.1) (0,cap) (by dsimp only;omega) ⟨by repeat' (first|exact trivial|exact rfl|exact aHw (by simp)|refine And.intro ?_ ?_),⟨by dsimp only;simp;rfl,trivial⟩⟩ ?_
  rintro⟨i,cap2⟩ hi
  dsimp only at hi
  have hrl:((acc++([xx,yy].take i).filter bR).map cF).length=(acc++([xx,yy].take i).filter bR).length:=List.length_map ..
  have hil:(([xx,yy].take i).filter bR).length<=2:=by
   refine Nat.le_trans (List.length_filter_le ..) ?_
   simp;omega
  have hb63:((acc++([xx,yy].take i).filter bR).map cF).length+1<=9223372036854775807:=by rw [hrl,List.length_append];omega
  have hb48:(((acc++([xx,yy].take i).filter bR).map cF).length+1)* 16<=140737488355328:=by rw [hrl,List.length_append];omega
  have hc:i=0\/i=1\/i=2:=by omega
  have hcx:=dF xx
  have hcy:=dF yy
  rcases hc with rfl|rfl|rfl
  ·have hT:bR xx=true->acc++([xx,yy].take 1).filter bR=(acc++([xx,yy].take 0).filter bR)++[xx]:= λh=>by
    cases hx:bR xx<;>simp_all [List.filter_cons]
   have hF:bR xx=false->acc++([xx,yy].take 1).filter bR=acc++([xx,yy].take 0).filter bR:= λh=>by
    cases hx:bR xx<;>simp_all [List.filter_cons]
   generalize acc++([xx,yy].take 0).filter bR=acc2 at *
   ((conv=>whnf);repeat' ((first|(intro hq;(try simp only [lnS]at hq);(try rewrite [List.length_map]))|refine sJ ?_|refine .intro _ (.intro rfl ?_)|refine exL (k:= ?_)|(refine And.intro hb63 ?_)|(refine And.intro hb48 ?_)|(refine And.intro hrl.symm ?_)|(refine aD [] hcx trivial (λr hs=> ?_);subst hs)|refine dwR ?_|((first|refine aB ?_ ?_|refine aC ?_ ?_)<;>intro hb<;>(first|exact ddX hb|try simp only [lnS]at hb))|(refine aA ?_ ?_<;>intro hb<;>try exact dsX hb))<;>(conv=>whnf)))
   ·rename_i cap3
    refine⟨(1,cap3),by dsimp only;omega,by dsimp only;omega,⟨?_, ?_⟩⟩
    ·dsimp only
     rw [hT (decide_eq_true hb)]
     repeat' (first|exact trivial|exact aHw (by rw [List.length_append];rfl)|exact rfl|refine And.intro ?_ ?_)
    ·dsimp only
     rw [hT (decide_eq_true hb),List.map_append]
     exact⟨rfl,trivial⟩
   ·refine⟨(1,cap2),by dsimp only;omega,by dsimp only;omega,⟨?_, ?_⟩⟩
    ·dsimp only
     rw [hF (decide_eq_false hb)]
     exact by repeat' (first|exact trivial|exact rfl|refine And.intro ?_ ?_)
    ·dsimp only
     rw [hF (decide_eq_false hb)]
     exact⟨rfl,trivial⟩
  ·have hT:bR yy=true->acc++([xx,yy].take 2).filter bR=(acc++([xx,yy].take 1).filter bR)++[yy]:= λh=>by
    cases hx:bR xx<;>simp_all [List.filter_cons]
   have hF:bR yy=false->acc++([xx,yy].take 2).filter bR=acc++([xx,yy].take 1).filter bR:= λh=>by
    cases hx:bR xx<;>simp_all [List.filter_cons]
   generalize acc++([xx,yy].take 1).filter bR=acc2 at *
   ((conv=>whnf);repeat' ((first|(intro hq;(try simp only [lnS]at hq);(try rewrite [List.length_map]))|refine sJ ?_|refine .intro _ (.intro rfl ?_)|refine exL (k:= ?_)|(refine And.intro hb63 ?_)|(refine And.intro hb48 ?_)|(refine And.intro hrl.symm ?_)|(refine aD [] hcy trivial (λr hs=> ?_);subst hs)|refine dwR ?_|((first|refine aB ?_ ?_|refine aC ?_ ?_)<;>intro hb<;>(first|exact ddX hb|try simp only [lnS]at hb))|(refine aA ?_ ?_<;>intro hb<;>try exact dsX hb))<;>(conv=>whnf)))
   ·rename_i cap3
    refine⟨(2,cap3),by dsimp only;omega,by dsimp only;omega,⟨?_, ?_⟩⟩
    ·dsimp only
     rw [hT (decide_eq_true hb)]
     repeat' (first|exact trivial|exact aHw (by rw [List.length_append];rfl)|exact rfl|refine And.intro ?_ ?_)
    ·dsimp only
     rw [hT (decide_eq_true hb),List.map_append]
     exact⟨rfl,trivial⟩
   ·refine⟨(2,cap2),by dsimp only;omega,by dsimp only;omega,⟨?_, ?_⟩⟩
    ·dsimp only
     rw [hF (decide_eq_false hb)]
     exact by repeat' (first|exact trivial|exact rfl|refine And.intro ?_ ?_)
    ·dsimp only
     rw [hF (decide_eq_false hb)]
     exact⟨rfl,trivial⟩
  ·rw [show ([xx,yy].take 2).filter bR=[xx,yy].filter bR from rfl,<-hacc]at *
   ((conv=>whnf);repeat' ((first|(intro hq;(try simp only [lnS]at hq);(try rewrite [List.length_map]))|refine sJ ?_|refine .intro _ (.intro rfl ?_)|refine exL (k:= ?_)|refine dwR ?_|((first|refine aB ?_ ?_|refine aC ?_ ?_)<;>intro hb<;>(first|exact ddX hb|try simp only [lnS]at hb))|(refine aA ?_ ?_<;>intro hb<;>try exact dsX hb))<;>(conv=>whnf)))
   exact⟨(j+1,cap2),by dsimp only;omega,by dsimp only;omega,⟨by repeat' (first|exact trivial|exact rfl|refine And.intro ?_ ?_),rfl,trivial⟩⟩
 ·have hjl:j=p.length:=by omega
  subst hjl
  rw [List.take_length]
  have hso:=(List.mergeSort_perm (dE p) (λx y=>decide (x<=y))).length_eq
  ((conv=>whnf);repeat ((first|(intro hq;try simp only [lnS]at hq)|refine sI ?_|refine .intro _ (.intro rfl ?_));(conv=>whnf)))
  refine tQ Tryz.sortStr (dE p) rfl rfl (by omega) ?_
  ((conv=>whnf);repeat ((first|(intro hq;try simp only [lnS]at hq)|refine sI ?_|refine .intro _ (.intro rfl ?_));(conv=>whnf)))
  refine pH (aAp (dE p)) (by rw [show (aAp (dE p)).length=(dE p).length from hso];omega) cap _ hso.symm [] (by simp) (aHb (by with_unfolding_all exact rfl)) (by simp [mH]) rfl (λo=>trivial) (λcap'=> ?_)
  ((conv=>whnf);repeat ((first|(intro hq;try simp only [lnS]at hq)|refine sI ?_|refine .intro _ (.intro rfl ?_));(conv=>whnf)))
  refine⟨(List.length_map ..).symm, ?_⟩
  ((conv=>whnf);repeat ((first|(intro hq;try simp only [lnS]at hq)|refine sI ?_|refine .intro _ (.intro rfl ?_));(conv=>whnf)))
  rfl
end Go.Proofs.YtcomlapnibckmaaGreatDoor
namespace Go.Proofs.YtcomlapnibckmaaGreatDoor
open Go.Proofs
theorem pC: ∀(n:Nat) (l:List (List UInt8)) (_:l.length<=n),l.eraseDups.Nodup
 | 0,l,h=>by
  have:l=[]:=List.length_eq_zero_iff.1 (by omega)
  subst this
  simp
 |n+1,[],_=>by simp
 |n+1,a::r,h=>by
  rw [List.eraseDups_cons,List.nodup_cons]
  refine⟨?_,pC n _ (Nat.le_trans (List.length_filter_le ..) (by simpa using h))⟩
  rw [List.mem_eraseDups,List.mem_filter]
  simp
theorem aGx (a b c:List UInt8) (h1:decide (a<=b)=true) (h2:decide (b<=c)=true):decide (a<=c)=true:=by
 rw [decide_eq_true_eq]at *
 exact List.le_trans h1 h2
theorem aGy (a b:List UInt8):(decide (a<=b) || decide (b<=a))=true:=by
 rw [Bool.or_eq_true,decide_eq_true_eq,decide_eq_true_eq]
 exact List.le_total a b
theorem aJa: ∀(p:List UInt8) (l:List (List UInt8)) (_:(p::l).Pairwise (λa b=>decide (a<=b)=true)),(p::vC eqS p l).Nodup/\ ∀x,x∈p::vC eqS p l↔x∈p::l
 |p,[],_=>⟨by simp [vC],λx=>by simp [vC]⟩
 |p,b::r,h=>by
  obtain⟨h1,h2⟩:=List.pairwise_cons.1 h
  obtain⟨i1,i2⟩:=aJa b r h2
  rw [vC]
  by_cases e:b=p
  ·subst e
   rw [if_pos (by simp [eqS])]
   exact⟨i1,λx=>by rw [i2 x];simp⟩
  ·rw [if_neg (by simpa [eqS]using e)]
   refine⟨List.nodup_cons.2 ⟨λhm=> ?_,i1⟩,λx=> ?_⟩
   ·have hm':=(i2 p).1 hm
    have hbp:p<=b:=by simpa using h1 b List.mem_cons_self
    rcases List.mem_cons.1 hm' with rfl|hr
    ·exact e rfl
    ·have:=(List.pairwise_cons.1 h2).1 p hr
     rw [decide_eq_true_eq]at this
     exact e (List.le_antisymm this hbp)
   ·rw [List.mem_cons,i2 x];exact List.mem_cons.symm
theorem aIj (l:List (List UInt8)) (h:l.Pairwise (λa b=>decide (a<=b)=true)):(pS eqS l).Nodup/\ ∀x,x∈pS eqS l↔x∈l:=by
 cases l with
 |nil=>exact⟨by simp [pS],λx=>by simp [pS]⟩
 |cons a r=>exact aJa a r h
theorem nW (p:List At):(rM p).Nodup/\ ∀x,x∈rM p↔x∈dE p:=by
 obtain⟨h1,h2⟩:=aIj (aAp (dE p)) (List.pairwise_mergeSort aGx aGy _)
 exact⟨h1,λx=>by rw [show rM p=pS eqS (aAp (dE p))from rfl,h2 x];exact(List.mergeSort_perm _ _).mem_iff⟩
theorem aAb (p:List At):(rM p).length=(dE p).eraseDups.length:=by
 obtain⟨h1,h2⟩:=nW p
 refine List.Perm.length_eq ((List.perm_ext_iff_of_nodup h1 (pC _ _ (Nat.le_refl _))).2 λx=> ?_)
 rw [h2 x,List.mem_eraseDups]
def aGa (told:List (List UInt8)) (parts:List (List At)) (i:Nat):Bool:=(told.take i).contains (told.getD i []) || parts.any (λp=> !(dE p).contains (told.getD i []))
theorem aCl (told:List (List UInt8)) (parts:List (List At)):rS told parts=if told.any (λt=> !uZ t)then 20 else if (List.range told.length).any (aGa told parts)then 210 else 0:=rfl
theorem sD {F:Nat->Bool}{n j:Nat}(h:j < n) (hf:F j=true):(List.range n).any F=true:=List.any_eq_true.2 ⟨j,List.mem_range.2 h,hf⟩
theorem pP {F:Nat->Bool}{j:Nat}(h:(List.range j).any F=false) (hf:F j=false):(List.range (j+1)).any F=false:=by
 rw [List.range_succ,List.any_append,h];simp [hf]
theorem sX {α:Type}{F:α->Bool}{l:List α}{j:Nat}(h:j < l.length) (hf:F l[j]=true):l.any F=true:=List.any_eq_true.2 ⟨l[j],List.getElem_mem h,hf⟩
theorem nP {α:Type}{F:α->Bool}{l:List α}{j:Nat}(h:j < l.length) (hk:(l.take j).any F=false) (hf:F l[j]=false):(l.take (j+1)).any F=false:=by
 rw [List.take_succ_eq_append_getElem h,List.any_append,hk];simp [hf]
def hJ (q:Qy):Int:=if q.parts.length < 1\/4 < q.parts.length\/3 < q.told.length then 210 else if q.parts.any (λp=>decide (p.length < 1) || decide (12 < p.length))then 210 else 0
theorem aGp (q:Qy):qE q=if hJ q≠0 then hJ q else if dB q.parts.flatten≠0 then dB q.parts.flatten else if rS q.told q.parts≠0 then rS q.told q.parts else if q.parts.any (λp=>decide (8 < (dE p).eraseDups.length))then 210 else 0:=by
 unfold qE hJ
 by_cases h1:q.parts.length < 1\/4 < q.parts.length\/3 < q.told.length
 ·rw [if_pos h1,if_pos h1,if_pos (by decide)]
 ·rw [if_neg h1,if_neg h1]
  by_cases h2:q.parts.any (λp=>decide (p.length < 1) || decide (12 < p.length))=true
  ·rw [if_pos h2,if_pos h2,if_pos (by decide)]
  ·rw [if_neg h2,if_neg h2,if_neg (show ¬ (0:Int)≠0 by decide)]
end Go.Proofs.YtcomlapnibckmaaGreatDoor
namespace Go.Proofs.YtcomlapnibckmaaGreatDoor
open Go.Proofs Go.RowKit
set_option maxRecDepth 10000
attribute [local irreducible] aN aH Tri aF YVC cM bB
theorem pJ (q:Qy):Tri Tryz.prog 73 [.d (.agg (qyR q))] [] (λr=>r= .d (.int .i64 (hJ q))):=by
 obtain⟨told,parts⟩:=q
 show Tri Tryz.prog 73 [.d (.agg [.sl 1 (told.map cF), .sl 1 (parts.map bK)])] [] _
 have hlt:(told.map cF).length=told.length:=List.length_map ..
 have hlp:(parts.map bK).length=parts.length:=List.length_map ..
 by_cases h1:parts.length < 1\/4 < parts.length\/3 < told.length
 ·rw [show hJ ⟨told,parts⟩=210 from if_pos h1]
  refine aG false [1,4] hty Tryz.func73 rfl (kp [0,1,2,4,20,22,23,24,25,37]) [] _ _ _ (by simp [Tryz.f73]) (by simp) ?_
  ((conv=>whnf);repeat' ((first|(intro hq;(try simp only [lnS]at hq);(try rewrite [List.length_map]))|refine sJ ?_|refine .intro _ (.intro rfl ?_)|refine exL (k:= ?_)|refine dwR ?_|((first|refine aB ?_ ?_|refine aC ?_ ?_)<;>intro hb<;>(first|exact ddX hb|try simp only [lnS]at hb))|(refine aA ?_ ?_<;>intro hb<;>try exact dsX hb))<;>(conv=>whnf)))
  all_goals first|rfl|(exfalso;omega)
 rw [show hJ ⟨told,parts⟩=if parts.any (λp=>decide (p.length < 1) || decide (12 < p.length))then 210 else 0 from if_neg h1]
 refine aG false [1,4] hty Tryz.func73 rfl (kp [0,1,2,4,20,22,23,24,25,37]) [] _ _ _ (by simp [Tryz.f73]) (by simp) ?_
 ((conv=>whnf);repeat' ((first|(intro hq;(try simp only [lnS]at hq);(try rewrite [List.length_map]))|refine sJ ?_|refine .intro _ (.intro rfl ?_)|refine exL (k:= ?_)|refine dwR ?_|((first|refine aB ?_ ?_|refine aC ?_ ?_)<;>intro hb<;>(first|exact ddX hb|try simp only [lnS]at hb))|(refine aA ?_ ?_<;>intro hb<;>try exact dsX hb))<;>(conv=>whnf)))
 refine aQ hty (λj:Nat=>([(22, .d (.sl 1 (parts.map bK))),(23, .d (.int .i64 parts.length)),(24, .d (.int .i64 j))],[])) (λj=>j<=parts.length/\(parts.take j).any (λp=>decide (p.length < 1) || decide (12 < p.length))=false) (λj=>parts.length - j) 0 ⟨by omega,rfl⟩ ⟨by repeat' (first|exact trivial|exact rfl|(rw [List.length_map];exact rfl)|refine And.intro ?_ ?_),trivial⟩ ?_
 rintro j ⟨hj,hn⟩
 ((conv=>whnf);repeat ((first|(intro hq;try simp only [lnS]at hq)|refine sI ?_|refine .intro _ (.intro rfl ?_));(conv=>whnf)))
 refine aB (λh2=> ?_) (λh2=> ?_)
 ·have hjl:j < parts.length:=by omega
  have hrow:(parts.map bK)[(j:Int).toNat]? =some (bK parts[j]):=bH hjl
  have hhit:=sX (F:= λp:List At=>decide (p.length < 1) || decide (12 < p.length)) hjl
  have hsuc:=nP (F:= λp:List At=>decide (p.length < 1) || decide (12 < p.length)) hjl hn
  generalize parts[j]=x at hrow hhit hsuc
  rw [show bK x=[.sl 6 (x.map atR)]from rfl]at hrow
  have hlx:(x.map atR).length=x.length:=List.length_map ..
  ((conv=>whnf);repeat' ((first|(intro hq;(try simp only [lnS]at hq);(try rewrite [List.length_map]))|refine sJ ?_|refine .intro _ (.intro rfl ?_)|refine exL (k:= ?_)|(refine⟨_,hrow, ?_⟩)|refine dwR ?_|((first|refine aB ?_ ?_|refine aC ?_ ?_)<;>intro hb<;>(first|exact ddX hb|try simp only [lnS]at hb))|(refine aA ?_ ?_<;>intro hb<;>try exact dsX hb))<;>(conv=>whnf)))
  ·rw [if_pos (hhit (by rw [Bool.or_eq_true,decide_eq_true_eq,decide_eq_true_eq];omega))];rfl
  ·rw [if_pos (hhit (by rw [Bool.or_eq_true,decide_eq_true_eq,decide_eq_true_eq];omega))];rfl
  ·refine⟨j+1,⟨by omega,hsuc (by rw [Bool.or_eq_false_iff,decide_eq_false_iff_not,decide_eq_false_iff_not];omega)⟩,by dsimp only;omega,by repeat' (first|exact trivial|exact rfl|refine And.intro ?_ ?_),trivial⟩
 ·have hjl:j=parts.length:=by omega
  subst hjl
  rw [List.take_length]at hn
  ((conv=>whnf);repeat' ((first|(intro hq;(try simp only [lnS]at hq);(try rewrite [List.length_map]))|refine sJ ?_|refine .intro _ (.intro rfl ?_)|refine exL (k:= ?_)|refine dwR ?_|((first|refine aB ?_ ?_|refine aC ?_ ?_)<;>intro hb<;>(first|exact ddX hb|try simp only [lnS]at hb))|(refine aA ?_ ?_<;>intro hb<;>try exact dsX hb))<;>(conv=>whnf)))
  rw [if_neg (by rw [hn];decide)];rfl
theorem pW (q:Qy) (hp: ∀p∈q.parts,p.length<=100000):Tri Tryz.prog 75 [.d (.agg (qyR q))] [] (λr=>r= .d (.int .i64 (rS q.told q.parts))):=by
 obtain⟨told,parts⟩:=q
 dsimp only at hp |-
 rw [aCl]
 show Tri Tryz.prog 75 [.d (.agg [.sl 1 (told.map cF), .sl 1 (parts.map bK)])] [] _
 have hlt:(told.map cF).length=told.length:=List.length_map ..
 have hlp:(parts.map bK).length=parts.length:=List.length_map ..
 refine aG false [1,8] hty Tryz.func75 rfl (kp [0,1,2,4,5,6,8,10,11,12,13,18,21,22,23,24,33,35,36,37,38,45]) [] _ _ _ (by simp [Tryz.f75]) (by simp) ?_
 ((conv=>whnf);repeat' ((first|(intro hq;(try simp only [lnS]at hq);(try rewrite [List.length_map]))|refine sJ ?_|refine .intro _ (.intro rfl ?_)|refine exL (k:= ?_)|refine dwR ?_|((first|refine aB ?_ ?_|refine aC ?_ ?_)<;>intro hb<;>(first|exact ddX hb|try simp only [lnS]at hb))|(refine aA ?_ ?_<;>intro hb<;>try exact dsX hb))<;>(conv=>whnf)))
 refine aQ hty (λj:Nat=>([(1, .ea 2 [[.sl 1 (told.map cF), .sl 1 (parts.map bK)]] 0 0),(10, .d (.sl 1 (told.map cF))),(11, .d (.int .i64 told.length)),(12, .d (.int .i64 j))],[])) (λj=>j<=told.length/\(told.take j).any (λt=> !uZ t)=false) (λj=>told.length - j) 0 ⟨by omega,rfl⟩ ⟨by repeat' (first|exact trivial|exact rfl|(rw [List.length_map];exact rfl)|refine And.intro ?_ ?_),trivial⟩ ?_
 rintro j ⟨hj,hn⟩
 ((conv=>whnf);repeat ((first|(intro hq;try simp only [lnS]at hq)|refine sI ?_|refine .intro _ (.intro rfl ?_));(conv=>whnf)))
 refine aB (λh2=> ?_) (λh2=> ?_)
 ·have hjl:j < told.length:=by omega
  have hrow:(told.map cF)[(j:Int).toNat]? =some (cF told[j]):=bH hjl
  have hhit:=sX (F:= λt:List UInt8=> !uZ t) hjl
  have hsuc:=nP (F:= λt:List UInt8=> !uZ t) hjl hn
  generalize told[j]=x at hrow hhit hsuc
  ((conv=>whnf);repeat' ((first|(intro hq;(try simp only [lnS]at hq);(try rewrite [List.length_map]))|refine sJ ?_|refine .intro _ (.intro rfl ?_)|refine exL (k:= ?_)|(refine⟨_,hrow, ?_⟩)|(refine aD [] (iJ x) trivial (λr hs=> ?_);subst hs)|refine dwR ?_|((first|refine aB ?_ ?_|refine aC ?_ ?_)<;>intro hb<;>(first|exact ddX hb|try simp only [lnS]at hb))|(refine aA ?_ ?_<;>intro hb<;>try exact dsX hb))<;>(conv=>whnf)))
  ·rw [if_pos (hhit hb)];rfl
  ·refine⟨j+1,⟨by omega,hsuc hb⟩,by dsimp only;omega,by repeat' (first|exact trivial|exact rfl|refine And.intro ?_ ?_),trivial⟩
 have hjl:j=told.length:=by omega
 subst hjl
 rw [List.take_length]at hn
 rw [if_neg (by rw [hn];decide)]
 clear hn h2
 ((conv=>whnf);repeat' ((first|(intro hq;(try simp only [lnS]at hq);(try rewrite [List.length_map]))|refine sJ ?_|refine .intro _ (.intro rfl ?_)|refine exL (k:= ?_)|refine dwR ?_|((first|refine aB ?_ ?_|refine aC ?_ ?_)<;>intro hb<;>(first|exact ddX hb|try simp only [lnS]at hb))|(refine aA ?_ ?_<;>intro hb<;>try exact dsX hb))<;>(conv=>whnf)))
 refine aQ hty (λj:Nat=>([(1, .ea 2 [[.sl 1 (told.map cF), .sl 1 (parts.map bK)]] 0 0),(21, .d (.sl 1 (told.map cF))),(22, .d (.int .i64 told.length)),(23, .d (.int .i64 j))],[])) (λj=>j<=told.length/\(List.range j).any (aGa told parts)=false) (λj=>told.length - j) 0 ⟨by omega,rfl⟩ ⟨by repeat' (first|exact trivial|exact rfl|(rw [List.length_map];exact rfl)|refine And.intro ?_ ?_),trivial⟩ ?_
 rintro j ⟨hj,hn⟩
 ((conv=>whnf);repeat ((first|(intro hq;try simp only [lnS]at hq)|refine sI ?_|refine .intro _ (.intro rfl ?_));(conv=>whnf)))
 refine aB (λh2=> ?_) (λh2=> ?_)
 ·have hjl:j < told.length:=by omega
  have hrow:(told.map cF)[(j:Int).toNat]? =some (cF told[j]):=bH hjl
  have hhit:=sD (F:=aGa told parts) hjl
  have hsuc:=pP (F:=aGa told parts) hn
  have hbad:aGa told parts j=(decide (told[j]∈told.take j) || parts.any (λp=> !decide (told[j]∈dE p))):=by
   unfold aGa
   rw [show told.getD j []=told[j]by rw [List.getD_eq_getElem?_getD,List.getElem?_eq_getElem hjl];rfl,List.contains_eq_mem]
   simp only [List.contains_eq_mem]
  have hc:=gP (told.take j) told[j]
  generalize told[j]=x at hrow hbad hc
  rw [List.map_take]at hc
  rw [hbad]at hhit hsuc
  ((conv=>whnf);repeat ((first|(refine⟨_,hrow, ?_⟩)|(intro hq;try simp only [lnS]at hq)|refine sI ?_|refine .intro _ (.intro rfl ?_));(conv=>whnf)))
  refine aD [] hc trivial (λr hs=> ?_)
  subst hs
  ((conv=>whnf);repeat ((first|(intro hq;try simp only [lnS]at hq)|refine sI ?_|refine .intro _ (.intro rfl ?_));(conv=>whnf)))
  refine aB (λh3=> ?_) (λh3=> ?_)
  ·((conv=>whnf);repeat' ((first|(intro hq;(try simp only [lnS]at hq);(try rewrite [List.length_map]))|refine sJ ?_|refine .intro _ (.intro rfl ?_)|refine exL (k:= ?_)|refine dwR ?_|((first|refine aB ?_ ?_|refine aC ?_ ?_)<;>intro hb<;>(first|exact ddX hb|try simp only [lnS]at hb))|(refine aA ?_ ?_<;>intro hb<;>try exact dsX hb))<;>(conv=>whnf)))
   rw [if_pos (hhit (by rw [decide_eq_true h3];rfl))];rfl
  rw [decide_eq_false h3,Bool.false_or]at hhit hsuc
  ((conv=>whnf);repeat ((first|(intro hq;try simp only [lnS]at hq)|refine sI ?_|refine .intro _ (.intro rfl ?_));(conv=>whnf)))
  refine aQ hty (λi:Nat=>([(1, .ea 2 [[.sl 1 (told.map cF), .sl 1 (parts.map bK)]] 0 0),(6, .d (.str x)),(21, .d (.sl 1 (told.map cF))),(22, .d (.int .i64 told.length)),(23, .d (.int .i64 j)),(35, .d (.sl 1 (parts.map bK))),(36, .d (.int .i64 parts.length)),(37, .d (.int .i64 i))],[])) (λi=>i<=parts.length/\(parts.take i).any (λp=> !decide (x∈dE p))=false) (λi=>parts.length - i) 0 ⟨by omega,rfl⟩ ⟨by repeat' (first|exact trivial|exact rfl|(rw [List.length_map];exact rfl)|refine And.intro ?_ ?_),trivial⟩ ?_
  rintro i ⟨hi,hm⟩
  ((conv=>whnf);repeat ((first|(intro hq;try simp only [lnS]at hq)|refine sI ?_|refine .intro _ (.intro rfl ?_));(conv=>whnf)))
  refine aB (λh4=> ?_) (λh4=> ?_)
  ·have hil:i < parts.length:=by omega
   have hrow2:(parts.map bK)[(i:Int).toNat]? =some (bK parts[i]):=bH hil
   have hhit2:=sX (F:= λp:List At=> !decide (x∈dE p)) hil
   have hsuc2:=nP (F:= λp:List At=> !decide (x∈dE p)) hil hm
   have hv:=kA parts[i] (hp _ (List.getElem_mem hil))
   have hc2:=gP (rM parts[i]) x
   have hmem:=(nW parts[i]).2 x
   generalize parts[i]=y at hrow2 hhit2 hsuc2 hv hc2 hmem
   rw [show decide (x∈rM y)=decide (x∈dE y)from decide_eq_decide.2 hmem]at hc2
   generalize (rM y).map cF=vy at hv hc2
   rw [show bK y=[.sl 6 (y.map atR)]from rfl]at hrow2 hv
   ((conv=>whnf);repeat' ((first|(intro hq;(try simp only [lnS]at hq);(try rewrite [List.length_map]))|refine sJ ?_|refine .intro _ (.intro rfl ?_)|refine exL (k:= ?_)|(refine⟨_,hrow2, ?_⟩)|(refine aD [] hv trivial (λr hs=> ?_);subst hs)|(refine aD [] hc2 trivial (λr hs=> ?_);subst hs)|refine dwR ?_|((first|refine aB ?_ ?_|refine aC ?_ ?_)<;>intro hb<;>(first|exact ddX hb|try simp only [lnS]at hb))|(refine aA ?_ ?_<;>intro hb<;>try exact dsX hb))<;>(conv=>whnf)))
   ·rw [if_pos (hhit (hhit2 (by rw [decide_eq_false hb];rfl)))];rfl
   ·exact⟨i+1,⟨by omega,hsuc2 (by rw [decide_eq_true hb];rfl)⟩,by dsimp only;omega,by repeat' (first|exact trivial|exact rfl|refine And.intro ?_ ?_),trivial⟩
  ·have hil:i=parts.length:=by omega
   subst hil
   rw [List.take_length]at hm
   ((conv=>whnf);repeat' ((first|(intro hq;(try simp only [lnS]at hq);(try rewrite [List.length_map]))|refine sJ ?_|refine .intro _ (.intro rfl ?_)|refine exL (k:= ?_)|refine dwR ?_|((first|refine aB ?_ ?_|refine aC ?_ ?_)<;>intro hb<;>(first|exact ddX hb|try simp only [lnS]at hb))|(refine aA ?_ ?_<;>intro hb<;>try exact dsX hb))<;>(conv=>whnf)))
   exact⟨j+1,⟨by omega,hsuc hm⟩,by dsimp only;omega,by repeat' (first|exact trivial|exact rfl|refine And.intro ?_ ?_),trivial⟩
 ·have hjl:j=told.length:=by omega
  subst hjl
  rw [if_neg (by rw [hn];decide)]
  ((conv=>whnf);repeat' ((first|(intro hq;(try simp only [lnS]at hq);(try rewrite [List.length_map]))|refine sJ ?_|refine .intro _ (.intro rfl ?_)|refine exL (k:= ?_)|refine dwR ?_|((first|refine aB ?_ ?_|refine aC ?_ ?_)<;>intro hb<;>(first|exact ddX hb|try simp only [lnS]at hb))|(refine aA ?_ ?_<;>intro hb<;>try exact dsX hb))<;>(conv=>whnf)))
  rfl
end Go.Proofs.YtcomlapnibckmaaGreatDoor
namespace Go.Proofs.YtcomlapnibckmaaGreatDoor
open Go.Proofs Go.RowKit
set_option maxRecDepth 10000
attribute [local irreducible] aN aH Tri aF YVC cM bB
theorem vL:Tri Tryz.prog 188 [.d .nil] [] (λr=>r= .d (.int .i64 0)):=by
 refine aK hty Tryz.func188 rfl (kp [0,2,4,5,6,7,8,9,15]) [] _ _ _ (by simp [Tryz.f188]) (by simp) ?_
 ((conv=>whnf);repeat' ((first|(intro hq;(try simp only [lnS]at hq);(try rewrite [List.length_map]))|refine sJ ?_|refine .intro _ (.intro rfl ?_)|refine exL (k:= ?_)|(refine gR hty 2 ?_)|refine dwR ?_|((first|refine aB ?_ ?_|refine aC ?_ ?_)<;>intro hb<;>(first|exact ddX hb|try simp only [lnS]at hb))|(refine aA ?_ ?_<;>intro hb<;>try exact dsX hb))<;>(conv=>whnf)))
 rfl
theorem aBy (s:List UInt8):Tri Tryz.prog 186 [.d .nil, .d (.sl 1 [[.str s]])] [] (λr=>r= .d (.int .i64 (if eF s then 0 else 20))):=by
 refine aK hty Tryz.func186 rfl (kp [0,1,4,5,7,8,12,14,15,16,17,23]) [] _ _ _ (by simp [Tryz.f186]) (by simp) ?_
 ((conv=>whnf);repeat' ((first|(intro hq;(try simp only [lnS]at hq);(try rewrite [List.length_map]))|refine sJ ?_|refine .intro _ (.intro rfl ?_)|refine exL (k:= ?_)|(refine gR hty 2 ?_)|(refine aD [] vL trivial (λr hs=> ?_);subst hs)|(refine aD [] (fU _) trivial (λs hs=> ?_);subst hs)|refine dwR ?_|((first|refine aB ?_ ?_|refine aC ?_ ?_)<;>intro hb<;>(first|exact ddX hb|try simp only [lnS]at hb))|(refine aA ?_ ?_<;>intro hb<;>try exact dsX hb))<;>(conv=>whnf)))
 all_goals (cases h:eF s)
 all_goals first|rfl|(simp_all;done)|(simp_all;rfl)
theorem aF7 (s:List UInt8) (hn:eF s=true):Tri Tryz.prog 130 [.d .nil, .d (.str s)] [] (λr=>r= .tup [.d (.bool true), .d (.int .i64 0)]):=by
 have h:=aBy s
 rw [if_pos hn]at h
 refine aK hty Tryz.func130 rfl (kp [0,1,4,5,6,7,9,10,12,18,21,22,23,24,29,47,48,49,50,66]) [] _ _ _ (by simp [Tryz.f130]) (by simp) ?_
 ((conv=>whnf);repeat ((first|(intro hq;try simp only [lnS]at hq)|refine sI ?_|refine .intro _ (.intro rfl ?_));(conv=>whnf)))
 refine aD [] (Tri.args (xs:=_) h ⟨dJ.refl _,dJ.osl,trivial⟩) trivial (λr hs=> ?_)
 subst hs
 ((conv=>whnf);repeat ((first|(intro hq;try simp only [lnS]at hq)|refine sI ?_|refine .intro _ (.intro rfl ?_));(conv=>whnf)))
 refine xI rfl rfl (λl=>D.str l) 34 (cD (by with_unfolding_all exact rfl)) ?_
 ((conv=>whnf);repeat ((first|(intro hq;try simp only [lnS]at hq)|refine sI ?_|refine .intro _ (.intro rfl ?_));(conv=>whnf)))
 refine gR hty 2 ?_
 ((conv=>whnf);repeat ((first|(intro hq;try simp only [lnS]at hq)|refine sI ?_|refine .intro _ (.intro rfl ?_));(conv=>whnf)))
 refine aI false [] hty Tryz.func187 rfl (kp [0,1,4,5,6,7,9,17,25,26,27,28,34]) 100 (by simp [Tryz.f187]) ?_
 ((conv=>whnf);repeat ((first|(intro hq;try simp only [lnS]at hq)|refine sI ?_|refine .intro _ (.intro rfl ?_));(conv=>whnf)))
 refine xI rfl rfl (λl=>D.str l) 35 (cD (by with_unfolding_all exact rfl)) ?_
 ((conv=>whnf);repeat ((first|(intro hq;try simp only [lnS]at hq)|refine sI ?_|refine .intro _ (.intro rfl ?_));(conv=>whnf)))
 refine yM (.inr rfl) rfl (xK rfl) rfl rfl rfl rfl (λbs1 c1=> ?_)
 ((conv=>whnf);repeat ((first|(intro hq;try simp only [lnS]at hq)|refine sI ?_|refine .intro _ (.intro rfl ?_));(conv=>whnf)))
 refine gR hty 3 ?_
 ((conv=>whnf);repeat' ((first|(intro hq;(try simp only [lnS]at hq);(try rewrite [List.length_map]))|refine sJ ?_|refine .intro _ (.intro rfl ?_)|refine exL (k:= ?_)|(refine zE (id:=34) rfl rfl (xK rfl) rfl rfl rfl rfl ?_)|(refine gR hty 2 ?_)|refine dwR ?_|((first|refine aB ?_ ?_|refine aC ?_ ?_)<;>intro hb<;>(first|exact ddX hb|try simp only [lnS]at hb))|(refine aA ?_ ?_<;>intro hb<;>try exact dsX hb))<;>(conv=>whnf)))
 rfl
end Go.Proofs.YtcomlapnibckmaaGreatDoor
