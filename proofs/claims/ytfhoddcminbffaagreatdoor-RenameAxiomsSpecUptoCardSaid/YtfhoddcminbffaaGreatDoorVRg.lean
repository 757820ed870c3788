/-
  Rename: slices.CompactFunc over renamings; the sorted list without doubles. slices.Grow of nil: rows of the call's own with room. Rename: slices.Concat of renamings.
  Conditions: none.
-/
import Derived.Test.YtfhoddcminbffaaGreatDoorVRsc
import Derived.Test.YtfhoddcminbffaaGreatDoorVRf
import Derived.Test.YtfhoddcminbffaaGreatDoorVAm
import Derived.Test.YtfhoddcminbffaaGreatDoorVRea
import Derived.Test.YtfhoddcminbffaaGreatDoorVSna
import Derived.Shelf.Spec.SlicesGrow
import Derived.Test.YtfhoddcminbffaaGreatDoorVLzp
set_option linter.unnecessarySimpa false
set_option linter.unusedSectionVars false
set_option linter.unusedSimpArgs false
set_option linter.unusedVariables false
set_option maxHeartbeats 16000000
namespace Go.Proofs.YtfhoddcminbffaaGreatDoor
open Go.Proofs
set_option maxRecDepth 10000
attribute [local irreducible] aV aM Tri aI YVC dQ bN
def eqR (a b:Rn):Bool:=decide (dT a b=0)
theorem sN (g:FuncId) (O:HObj) (hcall:cY Tryz.prog g=true) (l:List Rn) (hlen:l.length<=1000000) (hg: ∀a∈l,∀b∈l,Tri Tryz.prog g [.d (.agg (rnR a)), .d (.agg (rnR b)), .ptr 3 0] [(3,O)] (λr=>r= .d (.bool (eqR a b))))
  (cap n:Nat) (hn:n=l.length) (hp1:Hp) {pin:List Nat} {fr:Fr} {K:SV->Hp->Prop} (hpp: ∀k,100<=k->k∉pin) (hf: ∀k,100<=k->k∉fN fr) (hh: ∀k,100<=k->k∉iL ((3,O)::hp1)) (hno:bB ((3,O)::hp1) 70=none) (hsub: ∀o,yX ((3,O)::hp1) ((70,o)::(3,O)::hp1))
  (hk: ∀cap',K (.mw 170 3 (oV eqR l).length) ((170, .mrow 68 3 cap' ((oV eqR l).map rnR))::(3,O)::hp1)):
  aM Tryz.prog pin fr ((70, .mrow 68 3 cap (l.map rnR))::(3,O)::hp1) 119 [.mw 70 3 n, .fn g [] [.ptr 3 0]] K:=by
 subst hn
 have fin: ∀(rows:List (List D)) (s:SV) (k:Nat),(s= .ms 70 3 0 k l.length\/(s= .mw 70 3 l.length/\k=l.length))->l.length=rows.length->k=(oV eqR l).length->rows.take k=(oV eqR l).map rnR->PartP pin fr K 170 s ((70, .mrow 68 3 cap rows)::(3,O)::hp1):=by
  intro rows s k h1 h2 h3 h4
  refine⟨70,_,3,cap,k,l.length,rows,(3,O)::hp1,h1,rfl,h2,by rw [h3];exact nF _ _,⟨hpp _ (by decide),hf _ (by decide),aIg (by decide) rfl hh _ (by decide)⟩,hsub _,hno,λcap'=> ?_⟩
  rw [h3]at h4 |-
  rw [h4]
  exact hk cap'
 refine aM.closeP 170 ?_
 refine bX false [] hty Tryz.func119 rfl (kp [0,1,4,5,6,7,10,15,28,35,49]) 200 (by simp [Tryz.f119]) ?_
 ((conv=>whnf);repeat' ((first|(intro hq;(try simp only [lnS]at hq);(try rewrite [List.length_map]))|refine sJ ?_|refine .intro _ (.intro rfl ?_)|refine exL (k:= ?_)|refine dwR ?_|((first|refine aD ?_ ?_|refine aF ?_ ?_)<;>intro hb<;>(first|exact ddX hb|try simp only [lnS]at hb))|(refine aC ?_ ?_<;>intro hb<;>try exact dsX hb))<;>(conv=>whnf)))
 ·have hd:oV eqR l=l:=kW _ _ (by omega)
  exact fin _ _ l.length (.inr ⟨rfl,rfl⟩) (List.length_map ..).symm (by rw [hd]) (by rw [hd,List.take_of_length_le (by rw [List.length_map];exact Nat.le_refl _)])
 ·refine dE hty (λk:Nat=>([(0, .mw 70 3 l.length),(1, .fn g [] [.ptr 3 0]),(5, .d (.int .i64 k))],(70, .mrow 68 3 cap (l.map rnR))::(3,O)::hp1)) (λk=>(1<=k/\k<=l.length)/\oV eqR (l.take k)=l.take k) (λk=>l.length - k) 1 ⟨by omega,kW _ _ (by rw [List.length_take];omega)⟩ (by repeat' (first|exact trivial|exact rfl|refine And.intro ?_ ?_)) rfl ?_
  rintro k ⟨⟨hk1,hkl⟩,hd⟩
  ((conv=>whnf);repeat ((first|(intro hq;try simp only [lnS]at hq)|refine sI ?_|refine .intro _ (.intro rfl ?_));(conv=>whnf)))
  refine aD (λh1=> ?_) (λh1=> ?_)
  ·have hkl':k < l.length:=by omega
   have hkp:k - 1 < l.length:=by omega
   have hrow1:(l.map rnR)[(k:Int).toNat]? =some (rnR l[k]):=aS hkl'
   have hrow2:(l.map rnR)[((k:Int) - 1).toNat]? =some (rnR l[k - 1]):=by
    rw [show ((k:Int) - 1).toNat=k - 1 by omega,List.getElem?_map,List.getElem?_eq_getElem hkp];rfl
   have hgg:=hg l[k] (List.getElem_mem hkl') l[k - 1] (List.getElem_mem hkp)
   have hdt:=nE eqR l (k - 1) (by omega)
   simp only [show k - 1+1=k by omega,show k - 1+2=k+1 by omega]at hdt
   ((conv=>whnf);repeat ((first|(intro hq;try simp only [lnS]at hq)|refine sI ?_|refine .intro _ (.intro rfl ?_));(conv=>whnf)))
   refine dwR ?_
   ((conv=>whnf);repeat ((first|(refine And.intro (List.length_map ..).symm ?_)|(refine⟨_,hrow1, ?_⟩)|(refine⟨_,hrow2, ?_⟩)|(refine⟨hcall, .d (.bool _),_,[(3,O)],rfl,⟨rfl,trivial⟩,hgg, ?_⟩)|(intro hq;try simp only [lnS]at hq)|refine sI ?_|refine .intro _ (.intro rfl ?_));(conv=>whnf)))
   cases hb:eqR l[k] l[k - 1]
   ·((conv=>whnf);repeat' ((first|(intro hq;(try simp only [lnS]at hq);(try rewrite [List.length_map]))|refine sJ ?_|refine .intro _ (.intro rfl ?_)|refine exL (k:= ?_)|refine dwR ?_|((first|refine aD ?_ ?_|refine aF ?_ ?_)<;>intro hb<;>(first|exact ddX hb|try simp only [lnS]at hb))|(refine aC ?_ ?_<;>intro hb<;>try exact dsX hb))<;>(conv=>whnf)))
    rw [hb,if_neg (by decide),hd]at hdt
    exact⟨k+1,⟨⟨by omega,by omega⟩,by rw [hdt];exact(List.take_succ_eq_append_getElem hkl').symm⟩,by dsimp only;omega,by repeat' (first|exact trivial|exact rfl|refine And.intro ?_ ?_),rfl⟩
   ·rw [hb,if_pos rfl,hd]at hdt
    ((conv=>whnf);repeat ((first|(refine kN hty rfl rfl rfl rfl rfl rfl ?_)|(intro hq;try simp only [lnS]at hq)|refine sI ?_|refine .intro _ (.intro rfl ?_));(conv=>whnf)))
    rw [show ((k:Int)).toNat=k from rfl]
    refine dE hty (λy:Nat×Nat×List Rn=>([(0, .mw 70 3 l.length),(1, .fn g [] [.ptr 3 0]),(5, .d (.int .i64 y.2.1)),(6, .ms 70 3 k (l.length - k) l.length),(7, .d (.int .i64 y.1))],(70, .mrow 68 3 cap (y.2.2.map rnR))::(3,O)::hp1))
     (λy=>(1<=y.1/\y.1<=l.length - k)/\y.2.2.length=l.length/\(y.2.1+1<=k+y.1/\1<=y.2.1)/\y.2.2.take y.2.1=oV eqR (l.take (k+y.1))/\y.2.2.drop (k+y.1 - 1)=l.drop (k+y.1 - 1)) (λy=>l.length - k - y.1) (1,k,l) ⟨by dsimp only;omega,rfl,by dsimp only;omega,hdt.symm,rfl⟩ (by repeat' (first|exact trivial|exact rfl|refine And.intro ?_ ?_)) rfl ?_
    rintro⟨k2,m,q⟩ ⟨⟨hk21,hk2l⟩,hql,⟨hm1,hm0⟩,ht,hdr⟩
    dsimp only at hk21 hk2l hql hm1 hm0 ht hdr
    ((conv=>whnf);repeat ((first|(refine aB1 hty rfl rfl rfl ?_)|(intro hq;try simp only [lnS]at hq)|refine sI ?_|refine .intro _ (.intro rfl ?_));(conv=>whnf)))
    refine aD (λh2=> ?_) (λh2=> ?_)
    ·have hA:k+k2 < l.length:=by dsimp only at h2;omega
     have hB:k+k2 - 1 < l.length:=by omega
     have hml:m < q.length:=by omega
     have eA:q[k+k2]'(hql ▸ hA)=l[k+k2]:=dP hdr hql (by omega) hA
     have eB:q[k+k2 - 1]'(hql ▸ hB)=l[k+k2 - 1]:=dP hdr hql (by omega) hB
     have hrowA:(q.map rnR)[k+(k2:Int).toNat]? =some (rnR l[k+k2]):=by
      rw [Int.toNat_natCast,List.getElem?_map,List.getElem?_eq_getElem (hql ▸ hA),eA];rfl
     have hrowB:(q.map rnR)[k+((k2:Int) - 1).toNat]? =some (rnR l[k+k2 - 1]):=by
      rw [show k+((k2:Int) - 1).toNat=k+k2 - 1 by omega,List.getElem?_map,List.getElem?_eq_getElem (hql ▸ hB),eB];rfl
     have hrowM:(q.map rnR)[(m:Int).toNat]? =some (rnR q[m]):=aS hml
     have hgg2:=hg l[k+k2] (List.getElem_mem hA) l[k+k2 - 1] (List.getElem_mem hB)
     have hdt2:=nE eqR l (k+k2 - 1) (by omega)
     simp only [show k+k2 - 1+1=k+k2 by omega,show k+k2 - 1+2=k+(k2+1)by omega]at hdt2
     have hlq:l.length=(q.map rnR).length:=by rw [List.length_map,hql]
     have hdr2:q.drop (k+k2)=l.drop (k+k2):=by
      have:=congrArg (List.drop 1) hdr
      rw [List.drop_drop,List.drop_drop,show k+k2 - 1+1=k+k2 by omega]at this
      exact this
     ((conv=>whnf);repeat ((first|(intro hq;try simp only [lnS]at hq)|refine sI ?_|refine .intro _ (.intro rfl ?_));(conv=>whnf)))
     refine dwR ?_
     ((conv=>whnf);repeat ((first|(refine And.intro hlq ?_)|(refine⟨_,hrowA, ?_⟩)|(refine⟨_,hrowB, ?_⟩)|(refine⟨hcall, .d (.bool _),_,[(3,O)],rfl,⟨rfl,trivial⟩,hgg2, ?_⟩)|(intro hq;try simp only [lnS]at hq)|refine sI ?_|refine .intro _ (.intro rfl ?_));(conv=>whnf)))
     cases hb2:eqR l[k+k2] l[k+k2 - 1]
     ·((conv=>whnf);repeat' ((first|(intro hq;(try simp only [lnS]at hq);(try rewrite [List.length_map]))|refine sJ ?_|refine .intro _ (.intro rfl ?_)|refine exL (k:= ?_)|(refine And.intro hlq ?_)|(refine⟨_,hrowA, ?_⟩)|(refine⟨_,hrowM, ?_⟩)|(refine And.intro (kT rfl) ?_)|refine dwR ?_|((first|refine aD ?_ ?_|refine aF ?_ ?_)<;>intro hb<;>(first|exact ddX hb|try simp only [lnS]at hb))|(refine aC ?_ ?_<;>intro hb<;>try exact dsX hb))<;>(conv=>whnf)))
      rw [hb2,if_neg (by decide),<-ht]at hdt2
      refine⟨(k2+1,m+1,q.set m l[k+k2]),⟨by dsimp only;omega,by dsimp only;rw [List.length_set];exact hql,by dsimp only;omega, ?_, ?_⟩,by dsimp only;omega,by repeat' (first|exact trivial|exact rfl|refine And.intro ?_ ?_), ?_⟩
      ·dsimp only
       rw [hdt2]
       exact mC _ hml
      ·dsimp only
       rw [show k+(k2+1) - 1=k+k2 by omega,List.drop_set_of_lt (by omega)]
       exact hdr2
      ·dsimp only
       rw [List.map_set]
       rfl
     ·((conv=>whnf);repeat' ((first|(intro hq;(try simp only [lnS]at hq);(try rewrite [List.length_map]))|refine sJ ?_|refine .intro _ (.intro rfl ?_)|refine exL (k:= ?_)|refine dwR ?_|((first|refine aD ?_ ?_|refine aF ?_ ?_)<;>intro hb<;>(first|exact ddX hb|try simp only [lnS]at hb))|(refine aC ?_ ?_<;>intro hb<;>try exact dsX hb))<;>(conv=>whnf)))
      rw [hb2,if_pos rfl]at hdt2
      exact⟨(k2+1,m,q),⟨by dsimp only;omega,hql,by dsimp only;omega,by dsimp only;rw [hdt2];exact ht,by dsimp only;rw [show k+(k2+1) - 1=k+k2 by omega];exact hdr2⟩,by dsimp only;omega,by repeat' (first|exact trivial|exact rfl|refine And.intro ?_ ?_),rfl⟩
    ·have hke:k+k2=l.length:=by dsimp only at h2;omega
     rw [hke,List.take_length]at ht
     have hlq:l.length=(q.map rnR).length:=by rw [List.length_map,hql]
     have hmq:m+(l.length - m)=(q.map rnR).length:=by rw [List.length_map,hql];omega
     have hml:=congrArg List.length ht
     rw [List.length_take,Nat.min_eq_left (by omega)]at hml
     ((conv=>whnf);repeat' ((first|(intro hq;(try simp only [lnS]at hq);(try rewrite [List.length_map]))|refine sJ ?_|refine .intro _ (.intro rfl ?_)|refine exL (k:= ?_)|(refine kN hty rfl rfl rfl rfl rfl rfl ?_)|(refine uO hty rfl rfl (by decide) rfl rfl rfl hlq hmq ?_)|refine dwR ?_|((first|refine aD ?_ ?_|refine aF ?_ ?_)<;>intro hb<;>(first|exact ddX hb|try simp only [lnS]at hb))|(refine aC ?_ ?_<;>intro hb<;>try exact dsX hb))<;>(conv=>whnf)))
     refine fin _ _ m (.inl rfl) ?_ hml ?_
     ·simp only [List.length_append,List.length_take,List.length_replicate,List.length_map]
      show l.length=min m q.length+(l.length - m)
      omega
     ·show ((q.map rnR).take m++_).take m=_
      rw [List.take_append_of_le_length (by rw [List.length_take,List.length_map];omega),List.take_take,Nat.min_self,<-List.map_take,ht]
  ·have hkl':k=l.length:=by omega
   subst hkl'
   rw [List.take_length]at hd
   ((conv=>whnf);repeat' ((first|(intro hq;(try simp only [lnS]at hq);(try rewrite [List.length_map]))|refine sJ ?_|refine .intro _ (.intro rfl ?_)|refine exL (k:= ?_)|refine dwR ?_|((first|refine aD ?_ ?_|refine aF ?_ ?_)<;>intro hb<;>(first|exact ddX hb|try simp only [lnS]at hb))|(refine aC ?_ ?_<;>intro hb<;>try exact dsX hb))<;>(conv=>whnf)))
   exact fin _ _ l.length (.inr ⟨rfl,rfl⟩) (List.length_map ..).symm (by rw [hd]) (by rw [hd,List.take_of_length_le (by rw [List.length_map];exact Nat.le_refl _)])
theorem aM.nilM {P:Program}{pin:List Nat}{fr:Fr}{hp:Hp}{f:FuncId}{args:List SV}{K:SV->Hp->Prop}(id e z:Nat)
  (h:aM P pin fr hp f args λs hp'=>(s= .d .nil/\fB id pin fr hp'/\K (.mw id z 0) ((id, .mrow e z 0 [])::hp'))\/K s hp'):aM P pin fr hp f args K:=by
 unfold aM at *
 intro E ρ0 w0 tm hpin h30 h40 vs hargs
 refine(h E ρ0 w0 tm hpin h30 h40 vs hargs).mono ?_
 rintro e0 w ⟨v,ρ,s,hp1,rfl,⟨rfl,⟨f1,f2,f3⟩,hk⟩|hk,h3,h4,hr⟩
 ·obtain⟨m1,m2,m3⟩:=h3.newMrow (id:=id) (e:=e) (z:=z) (cap:=0) (rows:=[]) (v:= .slice none 0 0) f3 (by rw [hpin];exact f1) (Grew.refl w) (.inl ⟨rfl,rfl,none,rfl⟩) (λg hg=>by simp [eP]at hg)
  have ev:=hr.nil_inv
  subst ev
  exact⟨_,_,_,_,rfl,hk,m1,h4.mono m2 (λ_ _ x=>x) λi hi=>m3 i λe=>f2 (e ▸ hi), .mw id z 0 0 none (by simp) (by simp) (λh=>absurd rfl h) (by simp [Env.retop]) (by simp [Env.retop])⟩
 ·exact⟨v,ρ,s,hp1,rfl,hk,h3,h4,hr⟩
theorem aI8 {a b x:Rn}(h:gN a=gN b):dT a x=dT b x:=by
 unfold gN at h
 rw [Prod.mk.injEq]at h
 unfold dT
 rw [h.1,h.2]
structure Sd (l x:List Rn):Prop where
 str:x.Pairwise λa b=>dT a b < 0
 sub: ∀r∈x,r∈l
 key: ∀r∈l,∃q∈x,gN q=gN r
 len:x.length<=l.length
theorem aFo: ∀(p:Rn) (l:List Rn),(p::l).Pairwise (λa b=>¬ dT b a < 0)->(∀x∈pW eqR p l,dT p x < 0)/\(pW eqR p l).Pairwise (λa b=>dT a b < 0)/\(∀x∈pW eqR p l,x∈l)/\ ∀x∈p::l,∃q∈p::pW eqR p l,gN q=gN x
 |p,[],_=>⟨by simp [pW],by simp [pW],by simp [pW],λx hx=>⟨p,by simp,by simp at hx;rw [hx]⟩⟩
 |p,b::r,h=>by
  have h1:=List.pairwise_cons.1 h
  obtain⟨i1,i2,i3,i4⟩:=aFo b r h1.2
  rw [pW]
  by_cases he:dT b p=0
  ·have hk:=iP.1 he
   rw [if_pos (by simp [eqR,he])]
   refine⟨λx hx=>by rw [<-aI8 hk];exact i1 x hx,i2,λx hx=>List.mem_cons_of_mem _ (i3 x hx),λx hx=> ?_⟩
   rcases List.mem_cons.1 hx with rfl|hx
   ·exact⟨x,by simp,rfl⟩
   ·obtain⟨q,hq,e⟩:=i4 x hx
    rcases List.mem_cons.1 hq with rfl|hq
    ·exact⟨p,by simp,hk.symm.trans e⟩
    ·exact⟨q,List.mem_cons_of_mem _ hq,e⟩
  ·rw [if_neg (by simp [eqR,he])]
   have hlt:dT p b < 0:=by
    have:=h1.1 b (by simp)
    have:=wB.anti p b
    omega
   refine⟨λx hx=> ?_,List.pairwise_cons.2 ⟨i1,i2⟩,λx hx=> ?_,λx hx=> ?_⟩
   ·rcases List.mem_cons.1 hx with rfl|hx
    ·exact hlt
    ·exact rV hlt (i1 x hx)
   ·rcases List.mem_cons.1 hx with rfl|hx
    ·simp
    ·exact List.mem_cons_of_mem _ (i3 x hx)
   ·rcases List.mem_cons.1 hx with rfl|hx
    ·exact⟨x,by simp,rfl⟩
    ·obtain⟨q,hq,e⟩:=i4 x hx
     exact⟨q,List.mem_cons_of_mem _ hq,e⟩
theorem aLu {l S:List Rn}(hp:S.Perm l) (hs:Srt dT S):Sd l (oV eqR S):=by
 have hl:=nF eqR S
 rw [hp.length_eq]at hl
 cases S with
 |nil=>
  have:=hp.symm.eq_nil
  subst this
  exact⟨.nil,by simp [oV],by simp,hl⟩
 |cons a r=>
  obtain⟨i1,i2,i3,i4⟩:=aFo a r hs
  refine⟨List.pairwise_cons.2 ⟨i1,i2⟩,λx hx=>hp.mem_iff.1 ?_,λx hx=>i4 x (hp.mem_iff.2 hx),hl⟩
  rcases List.mem_cons.1 hx with rfl|hx
  ·simp
  ·exact List.mem_cons_of_mem _ (i3 x hx)
theorem wU (l:List Rn) (hl:l.length<=1000000) {pin:List Nat}{fr:Fr}{hp:Hp}{K:SV->Hp->Prop}(hfr:fB 70 pin fr hp)
  (hk: ∀cap,K (.mw 70 3 l.length) ((70, .mrow 68 3 cap (l.map rnR))::hp)):
  aM Tryz.prog pin fr hp 117 [.d (rnL l)] K:=by
 refine aM.nilM 70 68 3 ?_
 refine yH true hty Tryz.func117 rfl (kp [0,2,4]) 63 (by simp [Tryz.f117]) ?_
 obtain⟨f1,f2,f3⟩:=hfr
 ((conv=>whnf);repeat' ((first|(intro hq;(try simp only [lnS]at hq);(try rewrite [List.length_map]))|refine sJ ?_|refine .intro _ (.intro rfl ?_)|refine exL (k:= ?_)|refine dwR ?_|((first|refine aD ?_ ?_|refine aF ?_ ?_)<;>intro hb<;>(first|exact ddX hb|try simp only [lnS]at hb))|(refine aC ?_ ?_<;>intro hb<;>try exact dsX hb))<;>(conv=>whnf)))
 ·rename_i b
  have e:=hq hb
  have e:l=[]:=List.map_eq_nil_iff.1 e
  subst e
  exact .inl ⟨rfl,⟨f1,f2,f3⟩,hk 0⟩
 ·refine⟨⟨by rw [List.mem_append];exact λh=>h.elim f1 f2, ?_,f3⟩, ?_, ?_,λcap hc=> ?_⟩
  ·simp [mT,kB,SV.ids,aJs]
  ·rw [List.length_map];omega
  ·show (l.map rnR).length * 40<=140737488355328
   rw [List.length_map];omega
  ·((conv=>whnf);repeat ((first|(intro hq;try simp only [lnS]at hq)|refine sI ?_|refine .intro _ (.intro rfl ?_));(conv=>whnf)))
   rw [List.length_map]
   exact .inr (hk cap)
theorem wR (x y:Rn):Tri Tryz.prog 120 [.d (.agg (rnR x)), .d (.agg (rnR y)), .ptr 3 0] [(3, .cells 70 [.fn 48 [] []])] (λr=>r= .d (.bool (eqR x y))):=by
 have c:=gX x y
 refine gO 10 false [3,4] hty Tryz.func120 rfl (kp [0,1,2,3,4,5]) [] _ _ _ (by simp [Tryz.f120]) (by simp) ?_
 ((conv=>whnf);repeat' ((first|(intro hq;(try simp only [lnS]at hq);(try rewrite [List.length_map]))|refine sJ ?_|refine .intro _ (.intro rfl ?_)|refine exL (k:= ?_)|(refine aG [] c trivial (λr hs=> ?_);subst hs)|refine dwR ?_|((first|refine aD ?_ ?_|refine aF ?_ ?_)<;>intro hb<;>(first|exact ddX hb|try simp only [lnS]at hb))|(refine aC ?_ ?_<;>intro hb<;>try exact dsX hb))<;>(conv=>whnf)))
 rfl
theorem vI (l:List Rn) (hl:l.length<=100000):Tri Tryz.prog 75 [.d (rnL l), .fn 48 [] []] [] (λr=> ∃x,Sd l x/\r= .d (rnL x)):=by
 refine aH false [] hty Tryz.func75 rfl (kp [0,1,3,4]) [] _ _ _ (by simp [Tryz.f75]) (by simp) ?_
 ((conv=>whnf);repeat ((first|(intro hq;try simp only [lnS]at hq)|refine sI ?_|refine .intro _ (.intro rfl ?_));(conv=>whnf)))
 refine wU l (by omega) (dV (by with_unfolding_all exact rfl)) (λcap=> ?_)
 ((conv=>whnf);repeat ((first|(intro hq;try simp only [lnS]at hq)|refine sI ?_|refine .intro _ (.intro rfl ?_));(conv=>whnf)))
 refine qJ ⟨rfl,wB.ord,gX⟩ l hl rfl cap _ (λS hS hs=> ?_)
 ((conv=>whnf);repeat ((first|(intro hq;try simp only [lnS]at hq)|refine sI ?_|refine .intro _ (.intro rfl ?_));(conv=>whnf)))
 have hll:=hS.length_eq
 refine sN 120 (.cells 70 [.fn 48 [] []]) (by kernel_rfl) S (by omega) (λa _ b _=>wR a b) cap _ hll.symm [] (by simp) (aKc (by with_unfolding_all exact rfl)) (by simp [iL,HObj.ids,SV.idsL,SV.ids];omega) rfl (λo=>⟨rfl,trivial⟩) (λcap'=> ?_)
 have hdl:=nF eqR S
 ((conv=>whnf);repeat' ((first|(intro hq;(try simp only [lnS]at hq);(try rewrite [List.length_map]))|refine sJ ?_|refine .intro _ (.intro rfl ?_)|refine exL (k:= ?_)|refine dwR ?_|((first|refine aD ?_ ?_|refine aF ?_ ?_)<;>intro hb<;>(first|exact ddX hb|try simp only [lnS]at hb))|(refine aC ?_ ?_<;>intro hb<;>try exact dsX hb))<;>(conv=>whnf)))
 exact⟨(List.length_map ..).symm,rfl,_,aLu hS hs,rfl⟩
end Go.Proofs.YtfhoddcminbffaaGreatDoor
namespace Go.Proofs.YtfhoddcminbffaaGreatDoor
open Go.RowKit Go.Shelf Go.Proofs
section
variable {P:Program}
theorem aM.growNil {r:Ren}(L:Lays8.n4 P r) {T:TI}{dd:TypeDesc}{i:TypeInfo}{zv:Value}(hT:TIok P (r.t 25) T dd i zv) (hpos:0 < T.size) {pin:List Nat}{fr:Fr}{hp:Hp}{K:SV->Hp->Prop}(id n:Nat) (hn:n * T.bytes<=140737488355328) (h63:n<=4611686018427387904) (hfr:fB id pin fr hp)
  (hk: ∀cap,K (.mw id T.size 0) ((id, .mrow (r.t 25) T.size cap [])::hp)):aM P pin fr hp (r.f 4) [.d .nil, .d (.int .i64 n)] K:=by
 intro E ρ w tm hpin hm hf vs hargs
 obtain⟨ha1,ha2⟩:=hargs
 obtain⟨f1,f2,f3⟩:=hfr
 have hv: ∃v0 v1,vs= #[v0,v1]:=by
  rcases vs with⟨l⟩
  match l,ha1 with
  | [a,b],_=>exact⟨a,b,rfl⟩
 obtain⟨v0,v1,rfl⟩:=hv
 have e0:=(ha2 0 _ v0 rfl rfl).nil_inv
 have e1:=(ha2 1 _ v1 rfl rfl).int_inv
 subst e0 e1
 rcases Nat.eq_zero_or_pos n with h0|h0
 ·subst h0
  refine(Any8.slices_Grow_room L none 0 0 0 w (by omega) (by omega) (by omega) (by omega)).mono ?_
  rintro e w' ⟨rfl,rfl⟩
  obtain⟨m1,m2,m3⟩:=hm.newMrow (id:=id) (e:=r.t 25) (z:=T.size) (cap:=0) (rows:=[]) (v:= .slice none 0 0) f3 (by rw [hpin];exact f1) (Grew.refl w') (.inl ⟨rfl,rfl,none,rfl⟩) (λg hg=>by simp [eP]at hg)
  exact⟨_,_,_,_,rfl,hk 0,m1,hf.mono m2 (λ_ _ x=>x) λj hi=>m3 j λe=>f2 (e ▸ hi), .mw id _ 0 0 none (by simp) (by simp) (λh=>absurd rfl h) (by simp [Env.retop]) (by simp [Env.retop])⟩
 ·refine(Any8.slices_Grow_grow L i zv hT.info hT.zero (by rw [hT.size];exact hpos) none 0 0 n [] w (by omega) (by omega) (by rw [hT.bytes,Nat.zero_add];exact hn) (by omega) (by simp) (λ_=>rfl) (λa h=>by cases h)).mono ?_
  rintro e w' ⟨rfl,hw⟩
  simp only [Nat.zero_add,Nat.sub_zero]at hw |-
  have hge:=grownCap_ge w n 0 (r.t 25)
  have hle:grownCap w n 0 (r.t 25)<=maxLen:=grownCap_le_maxLen w n 0 (r.t 25) (by simp only [maxLen];omega)
  obtain⟨G,hG⟩: ∃G,G=grownCap w n 0 (r.t 25):=⟨_,rfl⟩
  rw [<-hG]at hge hle hw |-
  have h1:zv.cells.size=T.size:=by rw [hT.cells,hT.size]
  obtain⟨cur,hc⟩: ∃cur,cur=(([]:List Value).toArray++Builtin.zeroCells zv.cells n++Builtin.zeroCells zv.cells (G - n)):=⟨_,rfl⟩
  rw [<-hc]at hw
  subst hw
  have hsz:cur.size=G * T.size:=by
   rw [hc,Array.size_append,Array.size_append,size_zeroCells,size_zeroCells,h1,List.size_toArray,List.length_nil,Nat.zero_add,<-Nat.add_mul]
   congr 1;omega
  have hmut:fG (w.drew.alloc (.cells cur (r.t 25))) ρ.S (r.t 25) T.size G [] (.slice (some ⟨w.heap.size,0,none⟩) 0 G):=
   .inr ⟨by omega,w.heap.size,cur,rfl,heap_alloc_new w.drew _,by simp,hle,hsz,⟨by simp,by simp,by simp,by simp⟩,λj hj=>by have:=hm.slt _ j hj;omega⟩
  obtain ⟨m1, m2, m3⟩ := hm.newMrow (id := id) f3 (by rw [hpin]; exact f1) ((Grew.drew w).trans (Grew.alloc w.drew _)) hmut (λg hg => by
    simp [eP]at hg
    omega)
  exact⟨_,_,_,_,rfl,hk G,m1,hf.mono m2 (λ_ _ x=>x) λj hi=>m3 j λe=>f2 (e ▸ hi), .mw id _ 0 G _ (by simp) hle (λ_=>⟨_,rfl⟩) (by simp [Env.retop]) (by simp [Env.retop])⟩
end
end Go.Proofs.YtfhoddcminbffaaGreatDoor
namespace Go.Proofs.YtfhoddcminbffaaGreatDoor
open Go.Proofs
set_option maxRecDepth 10000
attribute [local irreducible] aV aM Tri aI YVC dQ bN
theorem aHx:Tryz.growRn_ren.f 4=121:=rfl
theorem aHw:Tryz.growRn_ren.t 25=68:=rfl
theorem zM (n:Nat) (hn:n<=1000000) {pin:List Nat}{fr:Fr}{hp:Hp}{K:SV->Hp->Prop}(hfr:fB 70 pin fr hp) (hk: ∀cap,K (.mw 70 3 0) ((70, .mrow 68 3 cap [])::hp)):
  aM Tryz.prog pin fr hp 121 [.d .nil, .d (.int .i64 n)] K:=by
 have h0:ty 68=some ⟨.struct [(3,0),(9,1),(9,2)],3,40,[.int .i64 0, .str [], .str []]⟩:=rfl
 obtain⟨dd,i,zv,hT⟩:=aP (hty _ _ h0)
 have L:=Tryz.growRn
 rw [<-aHx]
 rw [<-aHw]at hT hk
 exact aM.growNil L hT (by decide) 70 n (by show n * 40<=140737488355328;omega) (by omega) hfr hk
def aL3 (l:List Rn):List D:=[rnL l]
def aLk (ls:List (List Rn)):D:= .sl 1 (ls.map aL3)
theorem xT {ls:List (List Rn)}{j:Nat}(h:j < ls.length):(ls.take (j+1)).flatten=(ls.take j).flatten++ls[j]:=by
 rw [List.take_succ_eq_append_getElem h,List.flatten_append];simp
theorem aFg (ls:List (List Rn)) (j:Nat):(ls.take j).flatten.length<=ls.flatten.length:=by
 conv=>rhs;rw [<-List.take_append_drop j ls,List.flatten_append,List.length_append]
 omega
theorem vJ (ls:List (List Rn)) (h:ls.flatten.length<=1000000) (hl:ls.length<=1000000):Tri Tryz.prog 76 [.d (aLk ls)] [] (λr=>r= .d (rnL ls.flatten)):=by
 refine aH false [] hty Tryz.func76 rfl (kp [0,2,3,5,6,8,9,10,11,12,20,25,26,27,28]) [] _ _ _ (by simp [Tryz.f76]) (by simp) ?_
 ((conv=>whnf);repeat ((first|(intro hq;try simp only [lnS]at hq)|refine sI ?_|refine .intro _ (.intro rfl ?_));(conv=>whnf)))
 refine aK hty (λj:Nat=>([(0, .d (aLk ls)),(3, .d (.int .i64 (ls.take j).flatten.length)),(9, .d (aLk ls)),(10, .d (.int .i64 ls.length)),(11, .d (.int .i64 j))],[])) (λj=>j<=ls.length) (λj=>ls.length - j) 0 (by omega) ⟨by repeat' (first|exact trivial|exact rfl|(rw [List.length_map];exact rfl)|refine And.intro ?_ ?_),trivial⟩ ?_
 rintro j hj
 ((conv=>whnf);repeat ((first|(intro hq;try simp only [lnS]at hq)|refine sI ?_|refine .intro _ (.intro rfl ?_));(conv=>whnf)))
 refine aD (λh1=> ?_) (λh1=> ?_)
 ·have hjl:j < ls.length:=by omega
  have hrow:(ls.map aL3)[(j:Int).toNat]? =some (aL3 ls[j]):=aS hjl
  have hft:=xT hjl
  have hfl:=aFg ls (j+1)
  generalize ls[j]=x at hrow hft
  have hcast:(((ls.take (j+1)).flatten.length:Nat):Int)=((ls.take j).flatten.length:Nat)+(x.length:Nat):=by
   rw [hft,List.length_append];omega
  ((conv=>whnf);repeat' ((first|(intro hq;(try simp only [lnS]at hq);(try rewrite [List.length_map]))|refine sJ ?_|refine .intro _ (.intro rfl ?_)|refine exL (k:= ?_)|(refine⟨_,hrow, ?_⟩)|refine dwR ?_|((first|refine aD ?_ ?_|refine aF ?_ ?_)<;>intro hb<;>(first|exact ddX hb|try simp only [lnS]at hb))|(refine aC ?_ ?_<;>intro hb<;>try exact dsX hb))<;>(conv=>whnf)))
  refine⟨j+1,by dsimp only;omega,by dsimp only;omega,⟨?_,trivial⟩⟩
  dsimp only
  rw [hcast]
  repeat' (first|exact trivial|exact rfl|refine And.intro ?_ ?_)
 have hjl:j=ls.length:=by omega
 subst hjl
 rw [List.take_length]
 ((conv=>whnf);repeat ((first|(intro hq;try simp only [lnS]at hq)|refine sI ?_|refine .intro _ (.intro rfl ?_));(conv=>whnf)))
 refine zM _ h (dV (by with_unfolding_all exact rfl)) (λcap=> ?_)
 ((conv=>whnf);repeat ((first|(intro hq;try simp only [lnS]at hq)|refine sI ?_|refine .intro _ (.intro rfl ?_));(conv=>whnf)))
 refine aK hty (λy:Nat×Nat=>([(6, .mw 70 3 (ls.take y.1).flatten.length),(25, .d (aLk ls)),(26, .d (.int .i64 ls.length)),(27, .d (.int .i64 y.1))],[(70, .mrow 68 3 y.2 ((ls.take y.1).flatten.map rnR))])) (λy=>y.1<=ls.length) (λy=>ls.length - y.1) (0,cap) (by dsimp only;omega) ⟨by repeat' (first|exact trivial|exact rfl|(rw [List.length_map];exact rfl)|refine And.intro ?_ ?_),⟨rfl,trivial⟩⟩ ?_
 rintro⟨j,cap⟩ hj
 dsimp only at hj
 ((conv=>whnf);repeat ((first|(intro hq;try simp only [lnS]at hq)|refine sI ?_|refine .intro _ (.intro rfl ?_));(conv=>whnf)))
 refine aD (λh1=> ?_) (λh1=> ?_)
 ·have hjl:j < ls.length:=by dsimp only at h1;omega
  have hrow:(ls.map aL3)[(j:Int).toNat]? =some (aL3 ls[j]):=aS hjl
  have hft:=xT hjl
  have hfl:=aFg ls (j+1)
  generalize ls[j]=x at hrow hft
  rw [hft,List.length_append]at hfl
  ((conv=>whnf);repeat' ((first|(intro hq;(try simp only [lnS]at hq);(try rewrite [List.length_map]))|refine sJ ?_|refine .intro _ (.intro rfl ?_)|refine exL (k:= ?_)|(refine⟨_,hrow, ?_⟩)|refine dwR ?_|((first|refine aD ?_ ?_|refine aF ?_ ?_)<;>intro hb<;>(first|exact ddX hb|try simp only [lnS]at hb))|(refine aC ?_ ?_<;>intro hb<;>try exact dsX hb))<;>(conv=>whnf)))
  refine⟨(List.length_map ..).symm,by simp only [List.length_map];omega, ?_,λcap' hc=> ?_⟩
  ·show (((ls.take j).flatten.map rnR).length+(x.map rnR).length)* 40<=140737488355328
   simp only [List.length_map];omega
  ·((conv=>whnf);repeat ((first|(intro hq;try simp only [lnS]at hq)|refine sI ?_|refine .intro _ (.intro rfl ?_));(conv=>whnf)))
   refine⟨(j+1,cap'),by dsimp only;omega,by dsimp only;omega, ?_, ?_⟩
   ·repeat' (first|exact trivial|exact rfl|exact wkMw (by(try dsimp only);rw [hft];simp only [List.length_append,List.length_map])|refine And.intro ?_ ?_)
   ·dsimp only
    rw [hft,List.map_append]
    repeat' (first|exact trivial|exact rfl|refine And.intro ?_ ?_)
 ·have hjl:j=ls.length:=by dsimp only at h1;omega
  subst hjl
  rw [List.take_length]
  ((conv=>whnf);repeat' ((first|(intro hq;(try simp only [lnS]at hq);(try rewrite [List.length_map]))|refine sJ ?_|refine .intro _ (.intro rfl ?_)|refine exL (k:= ?_)|refine dwR ?_|((first|refine aD ?_ ?_|refine aF ?_ ?_)<;>intro hb<;>(first|exact ddX hb|try simp only [lnS]at hb))|(refine aC ?_ ?_<;>intro hb<;>try exact dsX hb))<;>(conv=>whnf)))
  refine⟨(List.length_map ..).symm, ?_⟩
  ((conv=>whnf);repeat ((first|(intro hq;try simp only [lnS]at hq)|refine sI ?_|refine .intro _ (.intro rfl ?_));(conv=>whnf)))
  rfl
end Go.Proofs.YtfhoddcminbffaaGreatDoor
