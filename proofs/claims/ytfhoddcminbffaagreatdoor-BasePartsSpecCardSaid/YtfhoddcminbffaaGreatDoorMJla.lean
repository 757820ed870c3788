/-
  The library's stable sort at rows that may be written: the symmetric merge. The library's stable sort at rows that may be written: the whole. Base: New. Layer 7, reference: New. Base: combine, Minus, Common. Base: Keep. Base: the chapter's examples. BaseOrder, walked. Base: what Minus, Common and Keep make, plainly. BaseNewSpec, walked.
  Conditions: none.
-/
import Derived.Test.YtfhoddcminbffaaGreatDoorMQm
import Derived.Test.YtfhoddcminbffaaGreatDoorMJa
import Derived.Test.YtfhoddcminbffaaGreatDoorMDd
import Derived.Test.YtfhoddcminbffaaGreatDoorMJh
set_option linter.unnecessarySimpa false
set_option linter.unusedSectionVars false
set_option linter.unusedSimpArgs false
set_option linter.unusedVariables false
set_option maxHeartbeats 32000000
namespace Go.Proofs.YtfhoddcminbffaaGreatDoor
open Go.Proofs
set_option maxRecDepth 10000
attribute [local irreducible] aM aJ Tri aH YVC dI bI
structure CutI (cf:SAx->SAx->Int) (A B:List SAx) (h s0 r0 u v:Nat):Prop where
 le:s0<=u/\u<=v/\v<=r0
 lo: ∀x y,s0 < u->A[u - 1]? =some x->B[h - u]? =some y->¬ cf y x < 0
 hi: ∀x y,v < r0->A[v]? =some x->B[h - 1 - v]? =some y->cf y x < 0
theorem pA {g:FuncId}{cf:SAx->SAx->Int}(G:CmpG g cf): ∀(sz:Nat) (Pr A B Q:List SAx) (_:A.length+B.length<=sz) (_:0 < A.length) (_:0 < B.length) (_:Srt cf A) (_:Srt cf B) {L:List SAx}(_:L=Pr++(A++(B++Q))) (_:L.length<=1000000) {n:Nat}{a m b:Int}(_:n=L.length) (_:a=(Pr.length:Nat)) (_:m=(Pr.length+A.length:Nat)) (_:b=(Pr.length+A.length+B.length:Nat)) (cap:Nat) (rest:Hp) {pin:List Nat}{fr:Fr}{K:SV->Hp->Prop}
  (_: ∀S,S.Perm (A++B)->Srt cf S->K (dQ []) ((70, .mrow 48 16 cap ((Pr++(S++Q)).map saR))::rest)),
  aJ Tryz.prog pin fr ((70, .mrow 48 16 cap (L.map saR))::rest) 143 [.mw 70 16 n, .d (.int .i64 a), .d (.int .i64 m), .d (.int .i64 b), .fn g [] []] K:=by
 intro sz
 induction sz with
 |zero=>intro Pr A B Q h h1;exact absurd h (by omega)
 |succ sz ih=>
  intro Pr A B Q hsz hA0 hB0 hA hB L hL hl n a m b hn ha hm hb cap rest pin fr K fin
  by_cases cA:A.length=1
  ·obtain⟨x,rfl⟩:=List.length_eq_one_iff.1 cA
   exact aJn G Pr x B Q hB hL hl hn ha hm (by rw [hb,List.length_singleton]) cap rest fin
  by_cases cB:B.length=1
  ·obtain⟨y,rfl⟩:=List.length_eq_one_iff.1 cB
   exact aFi G Pr A y Q hA cA hL hl hn ha hm (by rw [hb,List.length_singleton]) cap rest fin
  subst hn;subst ha;subst hb;subst hm
  have hlen:L.length=Pr.length+(A.length+(B.length+Q.length)):=by rw [hL];simp only [List.length_append]
  have hMl:(L.map saR).length=L.length:=List.length_map ..
  have hrA: ∀(k:Nat) (x:SAx),A[k]? =some x-> ∀i:Nat,i=Pr.length+k->(L.map saR)[((i:Nat):Int).toNat]? =some (saR x):= λk x hx i hi=>
   aGq (Pr:=Pr) (A:=A) (R:=B++Q) hL hx (by rw [Int.toNat_natCast,hi])
  have hrB: ∀(k:Nat) (x:SAx),B[k]? =some x-> ∀i:Int,i=((Pr.length+A.length+k:Nat):Int)->(L.map saR)[i.toNat]? =some (saR x):= λk x hx i hi=>
   aGq (Pr:=Pr++A) (A:=B) (R:=Q) (by rw [hL];simp) hx (by rw [hi,Int.toNat_natCast,List.length_append])
  generalize hN:L.length=N at *
  refine dW hty Tryz.func143 rfl (kp [0,1,2,3,4,10,11,12,13,14,15,16,17,18,19,20,21,22,23,24,28,33,50,58,80,85,103,110,140,151,171,185,199,213]) 500 (by simp [Tryz.f143]) ?_
  obtain⟨h,hh⟩: ∃h,h=(A.length+B.length) / 2:=⟨_,rfl⟩
  have hh2:=aD6 (i:=Pr.length) (j:=Pr.length+A.length+B.length) (by omega)
  have hmid:(Pr.length+(Pr.length+A.length+B.length)) / 2=Pr.length+h:=by omega
  rw [hmid]at hh2
  ((conv=>whnf);repeat ((first|(intro hq;try simp only [lnS]at hq)|refine sI ?_|refine .intro _ (.intro rfl ?_));(conv=>whnf)))
  refine aB (λh1=> ?_) (λh1=> ?_)
  ·exfalso;omega
  ((conv=>whnf);repeat ((first|(intro hq;try simp only [lnS]at hq)|refine sI ?_|refine .intro _ (.intro rfl ?_));(conv=>whnf)))
  refine aB (λh2=> ?_) (λh2=> ?_)
  ·exfalso;omega
  ((conv=>whnf);repeat ((first|(intro hq;try simp only [lnS]at hq)|refine sI ?_|refine .intro _ (.intro rfl ?_));(conv=>whnf)))
  rw [hh2]
  -- the ends of the search
  obtain⟨s0,r0,hsr,hcase⟩: ∃s0 r0,(s0<=r0/\r0<=A.length/\r0<=h/\h - s0<=B.length/\s0<=h)/\((h < A.length/\s0=h - B.length/\B.length<=h/\r0=h)\/(A.length<=h/\s0=0/\r0=A.length)):=by
   by_cases hc:h < A.length
   ·exact⟨h - B.length,h,by omega, .inl ⟨hc,rfl,by omega,rfl⟩⟩
   ·exact⟨0,A.length,by omega, .inr ⟨by omega,rfl,rfl⟩⟩
  ((conv=>whnf);repeat ((first|(intro hq;try simp only [lnS]at hq)|refine sI ?_|refine .intro _ (.intro rfl ?_));(conv=>whnf)))
  refine aB (λh3=> ?_) (λh3=> ?_)
  all_goals (
   ((conv=>whnf);repeat ((first|(intro hq;try simp only [lnS]at hq)|refine sI ?_|refine .intro _ (.intro rfl ?_));(conv=>whnf)))
   refine dE hty (λy:Nat×Nat=>([(0, .mw 70 16 N),(1, .d (.int .i64 (Pr.length:Nat))),(2, .d (.int .i64 (Pr.length+A.length:Nat))),(3, .d (.int .i64 (Pr.length+A.length+B.length:Nat))),(4, .fn g [] []),(18, .d (.int .i64 (Pr.length+h:Nat))),(19, .d (.int .i64 (((Pr.length+h:Nat):Int)+(Pr.length+A.length:Nat)))),(20, .d (.int .i64 (Pr.length+y.1:Nat))),(21, .d (.int .i64 (Pr.length+y.2:Nat))),(22, .d (.int .i64 (((Pr.length+h:Nat):Int)+(Pr.length+A.length:Nat) - 1)))],(70, .mrow 48 16 cap (L.map saR))::rest))
    (λy=>CutI cf A B h s0 r0 y.1 y.2) (λy=>y.2 - y.1) (s0,r0) ⟨⟨Nat.le_refl _,hsr.1,Nat.le_refl _⟩,λx y q=>absurd q (Nat.lt_irrefl _),λx y q=>absurd q (Nat.lt_irrefl _)⟩ (by repeat' (first|exact trivial|exact rfl|exact fC (by(try dsimp only);omega)|refine And.intro ?_ ?_)) rfl ?_
   rintro⟨u,v⟩ hI
   dsimp only at hI |-
   obtain⟨i1,i2,i3⟩:=hI.le
   obtain⟨w,hw⟩: ∃w,w=(u+v) / 2:=⟨_,rfl⟩
   have hh3:=aD6 (i:=Pr.length+u) (j:=Pr.length+v) (by omega)
   rw [show (Pr.length+u+(Pr.length+v)) / 2=Pr.length+w by omega]at hh3
   ((conv=>whnf);repeat ((first|(intro hq;try simp only [lnS]at hq)|refine sI ?_|refine .intro _ (.intro rfl ?_));(conv=>whnf)))
   refine aB (λh4=> ?_) (λh4=> ?_)
   ·have hw1:u<=w/\w < v:=by omega
    obtain⟨x,hx⟩: ∃x,A[w]? =some x:=⟨_,List.getElem?_eq_getElem (by omega)⟩
    obtain⟨y,hy⟩: ∃y,B[h - 1 - w]? =some y:=⟨_,List.getElem?_eq_getElem (by omega)⟩
    have rx:=hrA _ x hx (Pr.length+w) rfl
    have ry:=hrB _ y hy ((((Pr.length+h:Nat):Int)+(Pr.length+A.length:Nat) - 1) - (Pr.length+w:Nat)) (by omega)
    have htr:=G.tri y x
    generalize hc:cf y x=c at htr
    ((conv=>whnf);repeat ((first|(intro hq;try simp only [lnS]at hq)|refine sI ?_|refine .intro _ (.intro rfl ?_));(conv=>whnf)))
    rw [hh3]
    ((conv=>whnf);repeat ((first|(intro hq;try simp only [lnS]at hq)|refine sI ?_|refine .intro _ (.intro rfl ?_));(conv=>whnf)))
    refine dwR ?_
    ((conv=>whnf);repeat ((first|(refine And.intro hMl.symm ?_)|(refine⟨_,rx, ?_⟩)|(refine⟨_,ry, ?_⟩)|(refine⟨G.call, .d (.int .i64 _),_,[],rfl,trivial,htr, ?_⟩)|(intro hq;try simp only [lnS]at hq)|refine sI ?_|refine .intro _ (.intro rfl ?_));(conv=>whnf)))
    refine aC (λh5=> ?_) (λh5=> ?_)
    ·((conv=>whnf);repeat' ((first|(intro hq;(try simp only [lnS]at hq);(try rewrite [List.length_map]))|refine sJ ?_|refine .intro _ (.intro rfl ?_)|refine exL (k:= ?_)|refine dwR ?_|((first|refine aB ?_ ?_|refine aC ?_ ?_)<;>intro hb<;>(first|exact ddX hb|try simp only [lnS]at hb))|(refine aA ?_ ?_<;>intro hb<;>try exact dsX hb))<;>(conv=>whnf)))
     refine⟨(w+1,v),⟨by dsimp only;omega,λx' y' _ hx' hy'=> ?_,hI.hi⟩,by dsimp only;omega,(by repeat' (first|exact trivial|exact rfl|exact fC (by(try dsimp only);omega)|refine And.intro ?_ ?_)),rfl⟩
     rw [Nat.add_sub_cancel,hx]at hx'
     rw [show h - (w+1)=h - 1 - w by omega,hy]at hy'
     injection hx' with hx'
     injection hy' with hy'
     subst hx';subst hy'
     rw [hc];exact h5
    ·((conv=>whnf);repeat' ((first|(intro hq;(try simp only [lnS]at hq);(try rewrite [List.length_map]))|refine sJ ?_|refine .intro _ (.intro rfl ?_)|refine exL (k:= ?_)|refine dwR ?_|((first|refine aB ?_ ?_|refine aC ?_ ?_)<;>intro hb<;>(first|exact ddX hb|try simp only [lnS]at hb))|(refine aA ?_ ?_<;>intro hb<;>try exact dsX hb))<;>(conv=>whnf)))
     refine⟨(u,w),⟨by dsimp only;omega,hI.lo,λx' y' _ hx' hy'=> ?_⟩,by dsimp only;omega,(by repeat' (first|exact trivial|exact rfl|exact fC (by(try dsimp only);omega)|refine And.intro ?_ ?_)),rfl⟩
     dsimp only at hx' hy'
     rw [hx]at hx'
     rw [hy]at hy'
     injection hx' with hx'
     injection hy' with hy'
     subst hx';subst hy'
     rw [hc];exact h5
   ·obtain rfl:u=v:=by omega
    obtain⟨t,ht⟩: ∃t,t=h - u:=⟨_,rfl⟩
    have hcross := aLe G.ord hA hB (s := u) (t := t) (by omega) (by omega) (λx y hx ht0 hy => G.ord.asym _ _ (hI.hi x y (by
      have:=(List.getElem?_eq_some_iff.1 hx).1
      omega) hx (by rw [show h - 1 - u=t - 1 by omega];exact hy))) (λx y hu hx hy=>hI.lo x y (by
      have:=(List.getElem?_eq_some_iff.1 hy).1
      omega) hx (by rw [<-ht];exact hy))
    have eA:A=A.take u++A.drop u:=(List.take_append_drop _ _).symm
    have eB:B=B.take t++B.drop t:=(List.take_append_drop _ _).symm
    have lA1:(A.take u).length=u:=by rw [List.length_take];omega
    have lA2:(A.drop u).length=A.length - u:=List.length_drop
    have lB1:(B.take t).length=t:=by rw [List.length_take];omega
    have lB2:(B.drop t).length=B.length - t:=List.length_drop
    generalize A.take u=A1 at hcross eA lA1
    generalize A.drop u=A2 at hcross eA lA2
    generalize B.take t=B1 at hcross eB lB1
    generalize B.drop t=B2 at hcross eB lB2
    have sA:Srt cf (A1++A2):=eA ▸ hA
    have sB:Srt cf (B1++B2):=eB ▸ hB
    obtain⟨sA1,sA2,_⟩:=Srt.app.1 sA
    obtain⟨sB1,sB2,_⟩:=Srt.app.1 sB
    have lA:A.length=A1.length+A2.length:=by rw [eA,List.length_append]
    have lB:B.length=B1.length+B2.length:=by rw [eB,List.length_append]
    have hfin: ∀S1 S2,S1.Perm (A1++B1)->Srt cf S1->S2.Perm (A2++B2)->Srt cf S2-> ∀M,M=Pr++(S1++(S2++Q))->K (dQ []) ((70, .mrow 48 16 cap (M.map saR))::rest):= λS1 S2 p1 q1 p2 q2 M hM=>by
     have := fin (S1 ++ S2) (by
      refine(p1.append p2).trans ?_
      rw [eA,eB]
      simp only [List.append_assoc]
      refine List.Perm.append_left A1 ?_
      rw [<-List.append_assoc,<-List.append_assoc]
      exact List.Perm.append_right B2 List.perm_append_comm) (Srt.app.2 ⟨q1,q2,λx hx y hy=>hcross x (p1.mem_iff.1 hx) y (p2.mem_iff.1 hy)⟩)
     rw [hM]
     rw [List.append_assoc]at this
     exact this
    have eL:L=Pr++(A1++(A2++(B1++(B2++Q)))):=by rw [hL,eA,eB];simp
    have lN:(Pr++(A1++(B1++(A2++(B2++Q))))).length=N:=by rw [hlen];simp only [List.length_append];omega
    have noA:A1.length=0->Srt cf (A1++B1):= λq=>by rw [List.eq_nil_of_length_eq_zero q];exact sB1
    have noB:B1.length=0->Srt cf (A1++B1):= λq=>by rw [List.eq_nil_of_length_eq_zero q,List.append_nil];exact sA1
    have noA2:A2.length=0->Srt cf (A2++B2):= λq=>by rw [List.eq_nil_of_length_eq_zero q];exact sB2
    have noB2:B2.length=0->Srt cf (A2++B2):= λq=>by rw [List.eq_nil_of_length_eq_zero q,List.append_nil];exact sA2
    have ih1:= λ{pin:List Nat} {fr:Fr} {K:SV->Hp->Prop} (q1:0 < A1.length) (q2:0 < B1.length)=>ih Pr A1 B1 (A2++(B2++Q)) (by omega) q1 q2 sA1 sB1 (L:=Pr++(A1++(B1++(A2++(B2++Q))))) rfl (by omega) (n:=N) (a:=(Pr.length:Nat)) (m:=(Pr.length+u:Nat)) (b:=(Pr.length+h:Nat)) lN.symm rfl (by omega) (by omega) cap rest (pin:=pin) (fr:=fr) (K:=K)
    have ih2:= λ{pin:List Nat} {fr:Fr} {K:SV->Hp->Prop} (S1:List SAx) (p1:S1.Perm (A1++B1)) (q1:0 < A2.length) (q2:0 < B2.length)=>ih (Pr++S1) A2 B2 Q (by omega) q1 q2 sA2 sB2 (L:=Pr++(S1++(A2++(B2++Q)))) (by simp) (by have:=p1.length_eq;simp only [List.length_append]at this lN |-;omega) (n:=N) (a:=(Pr.length+h:Nat)) (m:=((Pr.length+h:Nat):Int)+(Pr.length+A.length:Nat) - (Pr.length+u:Nat)) (b:=(Pr.length+A.length+B.length:Nat)) (by have:=p1.length_eq;simp only [List.length_append]at this lN |-;omega) (by have:=p1.length_eq;simp only [List.length_append]at this |-;omega) (by have:=p1.length_eq;simp only [List.length_append]at this |-;omega) (by have:=p1.length_eq;simp only [List.length_append]at this |-;omega) cap rest (pin:=pin) (fr:=fr) (K:=K)
    have hrot:= λ{pin:List Nat} {fr:Fr} {K:SV->Hp->Prop} (q1:0 < A2.length) (q2:0 < B1.length)=>aEy (g:=g) (Pr++A1) A2 B1 (B2++Q) (List.length_pos_iff.1 q1) (List.length_pos_iff.1 q2) (L:=L) (by rw [eL];simp) (by omega) (n:=N) (a:=(Pr.length+u:Nat)) (m:=(Pr.length+A.length:Nat)) (b:=((Pr.length+h:Nat):Int)+(Pr.length+A.length:Nat) - (Pr.length+u:Nat)) hN.symm (by rw [List.length_append];omega) (by rw [List.length_append];omega) (by rw [List.length_append];omega) cap rest (pin:=pin) (fr:=fr) (K:=K)
    have eRot:(Pr++A1)++(B1++(A2++(B2++Q)))=Pr++(A1++(B1++(A2++(B2++Q)))):=by simp
    rw [eRot]at hrot
    have eNo:¬ (0 < A2.length/\0 < B1.length)->L=Pr++(A1++(B1++(A2++(B2++Q)))):= λq=>by
     rw [eL]
     by_cases q0:A2.length=0
     ·rw [List.eq_nil_of_length_eq_zero q0];simp
     ·rw [List.eq_nil_of_length_eq_zero (show B1.length=0 by omega)];simp
    have ih2n:= λ{pin:List Nat} {fr:Fr} {K:SV->Hp->Prop}=>ih2 (pin:=pin) (fr:=fr) (K:=K) (A1++B1) (.refl _)
    rw [show Pr++((A1++B1)++(A2++(B2++Q)))=Pr++(A1++(B1++(A2++(B2++Q))))by simp]at ih2n
    clear eRot hrA hrB hcross fin hI hA hB sA sB ih
    by_cases c1:0 < A2.length/\0 < B1.length
    all_goals by_cases c2:0 < A1.length/\0 < B1.length
    all_goals by_cases c3:0 < A2.length/\0 < B2.length
    all_goals (try rw [eNo c1])
    all_goals ((conv=>whnf);repeat' ((first|(intro hq;(try simp only [lnS]at hq);(try rewrite [List.length_map]))|refine sJ ?_|refine .intro _ (.intro rfl ?_)|refine exL (k:= ?_)|(refine hrot c1.1 c1.2 ?_)|(refine ih1 c2.1 c2.2 (λS1 p1 s1=> ?_))|(refine ih2 _ p1 c3.1 c3.2 (λS2 p2 s2=> ?_))|(refine ih2n c3.1 c3.2 (λS2 p2 s2=> ?_))|refine dwR ?_|((first|refine aB ?_ ?_|refine aC ?_ ?_)<;>intro hb<;>(first|exact ddX hb|try simp only [lnS]at hb))|(refine aA ?_ ?_<;>intro hb<;>try exact dsX hb))<;>(conv=>whnf)))
    all_goals first
     |exact hfin S1 S2 p1 s1 p2 s2 _ (by simp)
     |exact hfin S1 (A2++B2) p1 s1 (.refl _) (by first|exact noA2 (by omega)|exact noB2 (by omega)) _ (by simp)
     |exact hfin (A1++B1) S2 (.refl _) (by first|exact noA (by omega)|exact noB (by omega)) p2 s2 _ (by simp)
     |exact hfin (A1++B1) (A2++B2) (.refl _) (by first|exact noA (by omega)|exact noB (by omega)) (.refl _) (by first|exact noA2 (by omega)|exact noB2 (by omega)) _ (by simp))
end Go.Proofs.YtfhoddcminbffaaGreatDoor
namespace Go.Proofs.YtfhoddcminbffaaGreatDoor
open Go.Proofs
set_option maxRecDepth 10000
attribute [local irreducible] aM aJ Tri aH YVC dI bI
theorem aEn {g:FuncId}{cf:SAx->SAx->Int}(G:CmpG g cf) (l:List SAx) (hl:l.length<=100000) {n:Nat}{k:Int}(hn:n=l.length) (hk:k=(l.length:Nat)) (cap:Nat) (rest:Hp) {pin:List Nat}{fr:Fr}{K:SV->Hp->Prop}
  (fin: ∀S,S.Perm l->Srt cf S->K (dQ []) ((70, .mrow 48 16 cap (S.map saR))::rest)):
  aJ Tryz.prog pin fr ((70, .mrow 48 16 cap (l.map saR))::rest) 100 [.mw 70 16 n, .d (.int .i64 k), .fn g [] []] K:=by
 subst hn;subst hk
 generalize hN:l.length=N at *
 refine dW hty Tryz.func100 rfl (kp [0,1,2,6,7,8,9,13,30,35,54]) 500 (by simp [Tryz.f100]) ?_
 ((conv=>whnf);repeat ((first|(intro hq;try simp only [lnS]at hq)|refine sI ?_|refine .intro _ (.intro rfl ?_));(conv=>whnf)))
 refine dE hty (λy:List SAx×List SAx=>([(0, .mw 70 16 N),(1, .d (.int .i64 (N:Nat))),(2, .fn g [] []),(6, .d (.int .i64 20)),(7, .d (.int .i64 (y.1.length:Nat))),(8, .d (.int .i64 (y.1.length+20:Nat)))],(70, .mrow 48 16 cap ((y.1++y.2).map saR))::rest)) (λy=>(y.1++y.2).Perm l/\(∃k,y.1.length=k * 20)/\Blk cf 20 y.1) (λy=>y.2.length) ([],l) ⟨.refl _,⟨0,rfl⟩, .nil⟩ (by repeat' (first|exact trivial|exact rfl|exact fC (by(try dsimp only);omega)|refine And.intro ?_ ?_)) rfl ?_
 rintro⟨U,V⟩ ⟨hp,⟨k,hk⟩,hU⟩
 dsimp only at hp hk hU |-
 have hUV:U.length+V.length=N:=by have:=hp.length_eq;rw [List.length_append]at this;omega
 ((conv=>whnf);repeat ((first|(intro hq;try simp only [lnS]at hq)|refine sI ?_|refine .intro _ (.intro rfl ?_));(conv=>whnf)))
 refine aB (λh1=> ?_) (λh1=> ?_)
 ·have hV:20<=V.length:=by omega
  have eV:V=V.take 20++V.drop 20:=(List.take_append_drop _ _).symm
  have l1:(V.take 20).length=20:=by rw [List.length_take];omega
  generalize V.take 20=A at eV l1
  generalize V.drop 20=Q at eV
  subst eV
  rw [List.length_append]at hUV hV
  ((conv=>whnf);repeat ((first|(intro hq;try simp only [lnS]at hq)|refine sI ?_|refine .intro _ (.intro rfl ?_));(conv=>whnf)))
  refine sL G U A Q rfl (by simp only [List.length_append];omega) (by simp only [List.length_append];omega) (by first|rfl|omega) (by omega) cap rest (λS hS hs=> ?_)
  have lS:=hS.length_eq
  ((conv=>whnf);repeat ((first|(intro hq;try simp only [lnS]at hq)|refine sI ?_|refine .intro _ (.intro rfl ?_));(conv=>whnf)))
  refine⟨(U++S,Q),⟨?_,⟨k+1, ?_⟩,hU.app hk hs (by omega)⟩,by dsimp only;rw [List.length_append];omega,(by repeat' (first|exact trivial|exact rfl|exact fC (by(try dsimp only);(try rw [List.length_append]);omega)|refine And.intro ?_ ?_)), ?_⟩
  ·dsimp only
   rw [List.append_assoc]
   exact(List.Perm.append_left U (List.Perm.append_right Q hS)).trans hp
  ·dsimp only
   rw [List.length_append,hk,Nat.add_mul];omega
  ·dsimp only
   rw [List.append_assoc]
 have hV:V.length < 20:=by omega
 ((conv=>whnf);repeat ((first|(intro hq;try simp only [lnS]at hq)|refine sI ?_|refine .intro _ (.intro rfl ?_));(conv=>whnf)))
 refine sL G U V [] (by simp) (by simp only [List.length_append];omega) (by simp only [List.length_append];omega) (by first|rfl|omega) (by omega) cap rest (λS hS hs=> ?_)
 have lS:=hS.length_eq
 have hb0:Blk cf 20 (U++S):=hU.app hk hs (by omega)
 have hp0:(U++S).Perm l:=(List.Perm.append_left U hS).trans hp
 rw [List.append_nil]
 generalize U++S=l1 at hb0 hp0
 clear hU hk hp hS hs lS hV hUV h1
 ((conv=>whnf);repeat ((first|(intro hq;try simp only [lnS]at hq)|refine sI ?_|refine .intro _ (.intro rfl ?_));(conv=>whnf)))
 refine dE hty (λy:Nat×List SAx=>([(0, .mw 70 16 N),(1, .d (.int .i64 (N:Nat))),(2, .fn g [] []),(6, .d (.int .i64 (y.1:Nat)))],(70, .mrow 48 16 cap (y.2.map saR))::rest)) (λy=>(20<=y.1/\y.1<=200000)/\y.2.Perm l/\Blk cf y.1 y.2) (λy=>N - y.1) (20,l1) ⟨by dsimp only;omega,hp0,hb0⟩ (by repeat' (first|exact trivial|exact rfl|exact fC (by(try dsimp only);omega)|refine And.intro ?_ ?_)) rfl ?_
 rintro⟨bs,l2⟩ ⟨⟨hb1,hb2⟩,hp,hB⟩
 dsimp only at hb1 hb2 hp hB |-
 have hl2:l2.length=N:=by have:=hp.length_eq;omega
 ((conv=>whnf);repeat ((first|(intro hq;try simp only [lnS]at hq)|refine sI ?_|refine .intro _ (.intro rfl ?_));(conv=>whnf)))
 refine aB (λh1=> ?_) (λh1=> ?_)
 ·((conv=>whnf);repeat ((first|(intro hq;try simp only [lnS]at hq)|refine sI ?_|refine .intro _ (.intro rfl ?_));(conv=>whnf)))
  refine dE hty (λy:List SAx×List SAx=>([(0, .mw 70 16 N),(1, .d (.int .i64 (N:Nat))),(2, .fn g [] []),(6, .d (.int .i64 (bs:Nat))),(7, .d (.int .i64 (y.1.length:Nat))),(8, .d (.int .i64 (y.1.length+2 * bs:Nat)))],(70, .mrow 48 16 cap ((y.1++y.2).map saR))::rest)) (λy=>(y.1++y.2).Perm l/\(∃k,y.1.length=k * (2 * bs))/\Blk cf (2 * bs) y.1/\Blk cf bs y.2) (λy=>y.2.length) ([],l2) ⟨hp,⟨0,by simp⟩, .nil,hB⟩ (by repeat' (first|exact trivial|exact rfl|exact fC (by(try dsimp only);(try rw [List.length_nil]);omega)|refine And.intro ?_ ?_)) rfl ?_
  rintro⟨U,V⟩ ⟨hq,⟨k,hk⟩,hU,hV⟩
  dsimp only at hq hk hU hV |-
  have hUV:U.length+V.length=N:=by have:=hq.length_eq;rw [List.length_append]at this;omega
  ((conv=>whnf);repeat ((first|(intro hq;try simp only [lnS]at hq)|refine sI ?_|refine .intro _ (.intro rfl ?_));(conv=>whnf)))
  refine aB (λh2=> ?_) (λh2=> ?_)
  ·have hVl:2 * bs<=V.length:=by omega
   have sA:=hV.first
   have sB:=hV.rest.first
   have sQ:=hV.rest.rest
   have eV:V=V.take bs++((V.drop bs).take bs++(V.drop bs).drop bs):=by rw [List.take_append_drop,List.take_append_drop]
   have l1:(V.take bs).length=bs:=by rw [List.length_take];omega
   have l2:((V.drop bs).take bs).length=bs:=by rw [List.length_take,List.length_drop];omega
   generalize V.take bs=A at eV l1 sA
   generalize (V.drop bs).take bs=B at eV l2 sB
   generalize (V.drop bs).drop bs=Q at eV sQ
   subst eV
   simp only [List.length_append]at hUV hVl
   ((conv=>whnf);repeat ((first|(intro hq;try simp only [lnS]at hq)|refine sI ?_|refine .intro _ (.intro rfl ?_));(conv=>whnf)))
   refine pA G (2 * bs) U A B Q (by omega) (by omega) (by omega) sA sB rfl (by simp only [List.length_append];omega) (by simp only [List.length_append];omega) (by first|rfl|omega) (by omega) (by omega) cap rest (λS hS hs=> ?_)
   have lS:=hS.length_eq
   rw [List.length_append]at lS
   ((conv=>whnf);repeat ((first|(intro hq;try simp only [lnS]at hq)|refine sI ?_|refine .intro _ (.intro rfl ?_));(conv=>whnf)))
   refine⟨(U++S,Q),⟨?_,⟨k+1, ?_⟩,hU.app hk hs (by omega),sQ⟩,by dsimp only;simp only [List.length_append];omega,(by repeat' (first|exact trivial|exact rfl|exact fC (by(try dsimp only);(try rw [List.length_append]);omega)|refine And.intro ?_ ?_)), ?_⟩
   ·dsimp only
    rw [List.append_assoc]
    refine(List.Perm.append_left U (List.Perm.append_right Q hS)).trans ?_
    rw [List.append_assoc]
    exact hq
   ·dsimp only
    rw [List.length_append,hk,Nat.add_mul];omega
   ·dsimp only
    rw [List.append_assoc]
  ·have hVl:V.length < 2 * bs:=by omega
   ((conv=>whnf);repeat ((first|(intro hq;try simp only [lnS]at hq)|refine sI ?_|refine .intro _ (.intro rfl ?_));(conv=>whnf)))
   refine aB (λh3=> ?_) (λh3=> ?_)
   ·have hVb:bs < V.length:=by omega
    have sA:=hV.first
    have sB:=hV.rest.all (by rw [List.length_drop];omega)
    have eV:V=V.take bs++V.drop bs:=(List.take_append_drop _ _).symm
    have l1:(V.take bs).length=bs:=by rw [List.length_take];omega
    have l2:(V.drop bs).length=V.length - bs:=List.length_drop
    generalize V.take bs=A at eV l1 sA
    generalize V.drop bs=B at eV l2 sB
    subst eV
    simp only [List.length_append]at hUV hVl hVb l2
    ((conv=>whnf);repeat ((first|(intro hq;try simp only [lnS]at hq)|refine sI ?_|refine .intro _ (.intro rfl ?_));(conv=>whnf)))
    refine pA G (2 * bs) U A B [] (by omega) (by omega) (by omega) sA sB (by simp) (by simp only [List.length_append];omega) (by simp only [List.length_append];omega) (by first|rfl|omega) (by omega) (by omega) cap rest (λS hS hs=> ?_)
    have lS:=hS.length_eq
    rw [List.length_append]at lS
    ((conv=>whnf);repeat ((first|(intro hq;try simp only [lnS]at hq)|refine sI ?_|refine .intro _ (.intro rfl ?_));(conv=>whnf)))
    refine⟨(2 * bs,U++S),⟨by dsimp only;omega,(List.Perm.append_left U hS).trans hq,hU.app hk hs (by omega)⟩,by dsimp only;omega,(by repeat' (first|exact trivial|exact rfl|exact fC (by(try dsimp only);omega)|refine And.intro ?_ ?_)), ?_⟩
    dsimp only
    rw [List.append_nil]
   ·have hVb:V.length<=bs:=by omega
    ((conv=>whnf);repeat ((first|(intro hq;try simp only [lnS]at hq)|refine sI ?_|refine .intro _ (.intro rfl ?_));(conv=>whnf)))
    refine⟨(2 * bs,U++V),⟨by dsimp only;omega,hq,hU.app hk (hV.all hVb) (by omega)⟩,by dsimp only;omega,(by repeat' (first|exact trivial|exact rfl|exact fC (by(try dsimp only);omega)|refine And.intro ?_ ?_)),rfl⟩
 ·((conv=>whnf);repeat ((first|(intro hq;try simp only [lnS]at hq)|refine sI ?_|refine .intro _ (.intro rfl ?_));(conv=>whnf)))
  exact fin l2 hp (hB.all (by omega))
theorem uF {g:FuncId}{cf:SAx->SAx->Int}(G:CmpG g cf) (l:List SAx) (hl:l.length<=100000) {n:Nat}(hn:n=l.length) (cap:Nat) (rest:Hp) {pin:List Nat}{fr:Fr}{K:SV->Hp->Prop}
  (fin: ∀S,S.Perm l->Srt cf S->K (dQ []) ((70, .mrow 48 16 cap (S.map saR))::rest)):
  aJ Tryz.prog pin fr ((70, .mrow 48 16 cap (l.map saR))::rest) 52 [.mw 70 16 n, .fn g [] []] K:=by
 subst hn
 refine dW hty Tryz.func52 rfl (kp [0,1]) 500 (by simp [Tryz.f52]) ?_
 ((conv=>whnf);repeat ((first|(intro hq;try simp only [lnS]at hq)|refine sI ?_|refine .intro _ (.intro rfl ?_));(conv=>whnf)))
 refine aEn G l hl rfl rfl cap rest (λS hS hs=> ?_)
 ((conv=>whnf);repeat ((first|(intro hq;try simp only [lnS]at hq)|refine sI ?_|refine .intro _ (.intro rfl ?_));(conv=>whnf)))
 exact fin S hS hs
end Go.Proofs.YtfhoddcminbffaaGreatDoor
namespace Go.Proofs.YtfhoddcminbffaaGreatDoor
open Go.Proofs
set_option maxRecDepth 10000
theorem aJ.frozB {P:Program}{pin:List Nat}{fr:Fr}{hp hp1:Hp}{f:FuncId}{K:SV->Hp->Prop}{id i t e z cap n:Nat}{rows:List (List D)}(ho:aU hp id=some (.mrow e z cap rows)) (hn:n=rows.length) (hsub:kE hp1 hp) (hno:aU hp1 id=none)
  (hc:aU hp1 i=some (.cells t [.mw id z n])) (h:aJ P pin fr (hY hp1 i (.cells t [.d (.sl z rows)])) f [.d (.agg [.sl z rows])] K):aJ P pin fr hp f [.agg [.mw id z n]] K:=by
 intro E ρ w tm hpin h3 h4 vs hargs
 obtain⟨S',s1,s2,s3⟩:=h3.froze ho hsub hno
 obtain⟨q1,_⟩:=h3.sat id _ ho
 have m := s2.recell hc (cs' := [.d (.sl z rows)]) rfl (λj s' v hs' hv => by
  cases j with
  |zero=>
   simp at hs'
   subst hs'
   obtain⟨A,c,_,_,_,_,_,e2⟩:=(hv _ rfl).mw_inv
   have:=e2 (hn.trans q1.symm)
   subst this
   exact .d _ _ s3
  |succ j=>simp at hs')
 refine h E _ w tm hpin m (h4.mono (λ_ _ _=>rfl) s1 λi _=>ρ.moved_withS S' i) vs ⟨hargs.1,λk s v hs hv=> ?_⟩
 cases k with
 |succ k=>simp at hs
 |zero=>
  simp at hs
  subst hs
  cases hargs.2 0 _ v rfl hv with
  |agg cs us hl h=>
   refine .d _ _ (.agg _ _ hl λj x u hx hu=> ?_)
   cases j with
   |succ j=>simp at hx
   |zero=>
    simp at hx
    subst hx
    obtain⟨A,c,_,_,_,_,_,e2⟩:=(h 0 _ u rfl hu).mw_inv
    have:=e2 (hn.trans q1.symm)
    subst this
    exact s3
attribute [local irreducible] aM aJ Tri aH YVC dI bI
structure PairB (l:List Ax) (e:Int) (s:SV):Prop where
 ex: ∃a,s= .tup [.d a, .d (.int .i64 e)]/\(a=hZ l\/WkD a (hZ l))
theorem Tri.pairB {P:Program}{f:FuncId}{qs:List SV}{hp:Hp}{l:List Ax}{e:Int}(h:Tri P f qs hp (PairB l e)):Tri P f qs hp (λr=>r= .tup [.d (hZ l), .d (.int .i64 e)]):=by
 refine Tri.resT h ?_
 rintro s ⟨a,rfl,rfl|hw⟩
 ·exact .inl rfl
 ·exact .inr ⟨_,[.d (hZ l), .d (.int .i64 e)],rfl,⟨hw,by exact rfl,trivial⟩,rfl⟩
theorem aFg (e:Int):PairB [] e (.tup [.d (.agg [.nil]), .d (.int .i64 e)]):=⟨_,rfl, .inr ⟨rfl,trivial⟩⟩
theorem xD (l:List Ax) (e:Int):PairB l e (.tup [.d (hZ l), .d (.int .i64 e)]):=⟨_,rfl, .inl rfl⟩
theorem mwW {i z a b:Nat}(h:a=b):Wk (.mw i z a) (.mw i z b):=by subst h;exact rfl
theorem aGu: ∀(l:List Ax) (h: ∀x∈l,SmA x),((l.pmap Subtype.mk h:List SAx)).map Subtype.val=l
 | [],_=>rfl
 |x::r,h=>by rw [List.pmap_cons,List.map_cons,aGu r]
theorem aCt (a:Ax):mM [] a=[a]:=rfl
theorem aH7 {b:List Ax}{z a:Ax}(h:aQ z a=0):mM (b++[z]) a=b++[{ z with isopen:=z.isopen || a.isopen }]:=by
 unfold mM
 simp only [List.getLast?_append,List.getLast?_singleton,Option.some_or,List.dropLast_concat]
 rw [if_pos h]
theorem aH6 {b:List Ax}{z a:Ax}(h:¬ aQ z a=0):mM (b++[z]) a=b++[z]++[a]:=by
 unfold mM
 simp only [List.getLast?_append,List.getLast?_singleton,Option.some_or,List.dropLast_concat]
 rw [if_neg h]
theorem aMw {l:List Ax}: ∀x∈jV l,∃y∈l,erA x=erA y:=by
 have key: ∀(l b:List Ax),∀x∈l.foldl mM b,(∃y∈b,erA x=erA y)\/ ∃y∈l,erA x=erA y:=by
  intro l
  induction l with
  |nil=>intro b x hx;exact .inl ⟨x,hx,rfl⟩
  |cons a r ih=>
   intro b x hx
   rw [List.foldl_cons]at hx
   rcases ih _ x hx with⟨y,hy,e⟩|⟨y,hy,e⟩
   ·rcases List.eq_nil_or_concat b with hb|⟨b0,z,hb⟩
    ·subst hb
     rw [aCt]at hy
     simp at hy;subst hy
     exact .inr ⟨y,by simp,e⟩
    ·rw [List.concat_eq_append]at hb
     subst hb
     by_cases h:aQ z a=0
     ·rw [aH7 h]at hy
      rcases List.mem_append.1 hy with hy|hy
      ·exact .inl ⟨y,List.mem_append_left _ hy,e⟩
      ·simp at hy;subst hy
       exact .inl ⟨z,by simp,e⟩
     ·rw [aH6 h]at hy
      rcases List.mem_append.1 hy with hy|hy
      ·exact .inl ⟨y,hy,e⟩
      ·simp at hy;subst hy
       exact .inr ⟨y,by simp,e⟩
   ·exact .inr ⟨y,List.mem_cons_of_mem _ hy,e⟩
 intro x hx
 rcases key l [] x hx with⟨y,hy,_⟩|h
 ·cases hy
 ·exact h
theorem aQm {x y:Ax}(h:erA x=erA y) (hy:SmA y):SmA x:=by
 have e1:(erA x).left=(erA y).left:=by rw [h]
 have e2:(erA x).right=(erA y).right:=by rw [h]
 have e3:(erA x).roles=(erA y).roles:=by rw [h]
 have e1:x.left=y.left:=e1
 have e2:x.right=y.right:=e2
 have e3:x.roles=y.roles:=e3
 unfold SmA
 rw [e1,e2,e3]
 exact hy
theorem aLb {l:List Ax}{j:Nat}(h:j < l.length):(nH (l.take (j+1))).map axR=(nH (l.take j)).map axR++[axR (aS l[j]).1]:=by
 unfold nH
 rw [List.take_succ_eq_append_getElem h,List.map_append,List.map_append];rfl
theorem tN (l:List Ax) (hn:l.length<=100000):Tri Tryz.prog 19 [.d (.sl 16 (l.map axR))] NG (λr=>r= .tup [.d (hZ (lE l).1), .d (.int .i64 (lE l).2)]):=by
 refine Tri.pairB ?_
 refine aF false [6,7,10] hty Tryz.func19 rfl (kp [0,2,3,4,6,7,8,10,11,12,13,14,15,16,25,35,36,37,38,56,84]) [] _ _ _ (by simp [Tryz.f19]) (by decide) ?_
 ((conv=>whnf);repeat ((first|(intro hq;try simp only [lnS]at hq)|refine sI ?_|refine .intro _ (.intro rfl ?_));(conv=>whnf)))
 rw [List.length_map]
 refine aM.mown 4 70 48 16 rfl (bW (by with_unfolding_all exact rfl)) ?_
 refine aG hty (λy:Nat×Nat=>([(2, .ptr 2 0),(3, .d (.int .i64 0)),(4, .mw 70 16 y.1),(13, .d (.sl 16 (l.map axR))),(14, .d (.int .i64 l.length)),(15, .d (.int .i64 y.1))],(70, .mrow 48 16 y.2 ((nH (l.take y.1)).map axR))::(2, .cells 38 [.d .nil])::NG)) (λy=>y.1<=l.length/\ ∀x∈l.take y.1,(aS x).2=0) (λy=>l.length - y.1) (0,0) ⟨by dsimp only;omega,by simp⟩ ⟨by repeat' (first|exact trivial|exact rfl|refine And.intro ?_ ?_),⟨rfl,rfl,rfl,rfl,trivial⟩⟩ ?_
 rintro⟨j,cap⟩ ⟨hj,hz⟩
 dsimp only at hj hz
 ((conv=>whnf);repeat ((first|(intro hq;try simp only [lnS]at hq)|refine sI ?_|refine .intro _ (.intro rfl ?_));(conv=>whnf)))
 refine aB (λh1=> ?_) (λh1=> ?_)
 ·have hjl:j < l.length:=by dsimp only at h1;omega
  have hrow:=bR hjl
  have ht:=jX l[j]
  have herr:=aAa hjl hz
  have htm:=aLb hjl
  have hz2:(aS l[j]).2=0-> ∀x∈l.take (j+1),(aS x).2=0:= λh2 y hy=>by
   rw [List.take_succ_eq_append_getElem hjl]at hy
   rcases List.mem_append.1 hy with hy|hy
   ·exact hz y hy
   ·simp at hy;subst hy;exact h2
  have hlt:((nH (l.take j)).map axR).length=j:=by unfold nH;rw [List.length_map,List.length_map,List.length_take];omega
  have hb63:((nH (l.take j)).map axR).length+1<=9223372036854775807:=by rw [hlt];omega
  have hb48:(((nH (l.take j)).map axR).length+1)* 216<=140737488355328:=by rw [hlt];omega
  generalize (aS l[j]).1=T at *
  generalize (aS l[j]).2=e at *
  generalize l[j]=x at *
  generalize (nH (l.take j)).map axR=rows at *
  ((conv=>whnf);repeat ((first|(refine⟨_,hrow, ?_⟩)|(refine aD NG ht ⟨rfl,rfl,trivial⟩ (λr hs=> ?_);subst hs)|(intro hq;try simp only [lnS]at hq)|refine sI ?_|refine .intro _ (.intro rfl ?_));(conv=>whnf)))
  refine aC (λh2=> ?_) (λh2=> ?_)
  ·have hv:lE l=([],e):=by unfold lE;rw [if_pos (by rw [herr h2];exact h2),herr h2]
   rw [hv]
   ((conv=>whnf);repeat' ((first|(intro hq;(try simp only [lnS]at hq);(try rewrite [List.length_map]))|refine sJ ?_|refine .intro _ (.intro rfl ?_)|refine exL (k:= ?_)|refine dwR ?_|((first|refine aB ?_ ?_|refine aC ?_ ?_)<;>intro hb<;>(first|exact ddX hb|try simp only [lnS]at hb))|(refine aA ?_ ?_<;>intro hb<;>try exact dsX hb))<;>(conv=>whnf)))
   exact aFg _
  ·((conv=>whnf);repeat ((first|(refine And.intro hlt.symm ?_)|(refine And.intro hb63 ?_)|(refine And.intro hb48 ?_)|(intro hq;try simp only [lnS]at hq)|refine sI ?_|refine .intro _ (.intro rfl ?_));(conv=>whnf)))
   rename_i cap'
   refine⟨(j+1,cap'),⟨by dsimp only;omega,hz2 (by simpa using h2)⟩,by dsimp only;omega, ?_⟩
   dsimp only
   rw [htm]
   exact⟨by repeat' (first|exact trivial|exact rfl|exact mwW (by rw [hlt];rfl)|refine And.intro ?_ ?_),⟨rfl,rfl,rfl,rfl,trivial⟩⟩
 have hjl:j=l.length:=by dsimp only at h1;omega
 subst hjl
 rw [List.take_length]at hz |-
 have hv:lE l=if aY (aKr (nH l))≠0 then ([],aY (aKr (nH l)))else (aKr (nH l),0):=by
  unfold lE;rw [if_neg (by rw [(nI l).2 hz];simp)]
 rw [hv]
 clear hv h1 hj
 have hTl:(nH l).length=l.length:=by unfold nH;rw [List.length_map]
 have hsm: ∀x∈nH l,SmA x:= λx hx=>by
  obtain⟨y,hy,rfl⟩:=List.mem_map.1 hx
  exact lC (hz y hy)
 rw [<-aGp (nH l) hsm]
 have hpv:=aGu (nH l) hsm
 have hQl:((nH l).pmap Subtype.mk hsm:List SAx).length=l.length:=by rw [List.length_pmap,hTl]
 generalize ((nH l).pmap Subtype.mk hsm:List SAx)=Q at *
 ((conv=>whnf);repeat ((first|(intro hq;try simp only [lnS]at hq)|refine sI ?_|refine .intro _ (.intro rfl ?_));(conv=>whnf)))
 refine uF ⟨rfl,aSe.ord,λx y=>eY x.1 y.1 x.2.1 x.2.2.1 x.2.2.2 y.2.1 y.2.2.1 y.2.2.2⟩ Q (by omega) hQl.symm cap _ (λS hS hs=> ?_)
 have hperm:(S.map Subtype.val).Perm (nH l):=by rw [<-hpv];exact hS.map _
 have hsrt:(S.map Subtype.val).Pairwise λx y=>¬ aQ y x < 0:=by rw [List.pairwise_map];exact hs
 have hnb:=aB5 hperm hsrt
 have hSl:(S.map Subtype.val).length=l.length:=by rw [hperm.length_eq,hTl]
 have hsm2: ∀x∈S.map Subtype.val,SmA x:= λx hx=>hsm x (hperm.mem_iff.1 hx)
 rw [aRo]
 generalize S.map Subtype.val=A at *
 clear hS hs hpv hperm hsrt
 rw [<-hnb]
 ((conv=>whnf);repeat ((first|(intro hq;try simp only [lnS]at hq)|refine sI ?_|refine .intro _ (.intro rfl ?_));(conv=>whnf)))
 refine aM.mownC 2 71 38 48 16 0 rfl rfl (bW (by with_unfolding_all exact rfl)) ?_
 refine aG hty (λy:Nat×Nat=>([(2, .ptr 2 0),(3, .d (.int .i64 0)),(35, .mw 70 16 l.length),(36, .d (.int .i64 l.length)),(37, .d (.int .i64 y.1))],(71, .mrow 48 16 y.2 ((jV (A.take y.1)).map axR))::(70, .mrow 48 16 cap (A.map axR))::(2, .cells 38 [.mw 71 16 (jV (A.take y.1)).length])::NG)) (λy=>y.1<=A.length) (λy=>A.length - y.1) (0,0) (by dsimp only;omega) ⟨by repeat' (first|exact trivial|exact rfl|refine And.intro ?_ ?_),⟨rfl,rfl,rfl,rfl,rfl,trivial⟩⟩ ?_
 rintro⟨k,cap2⟩ hk
 dsimp only at hk
 ((conv=>whnf);repeat ((first|(intro hq;try simp only [lnS]at hq)|refine sI ?_|refine .intro _ (.intro rfl ?_));(conv=>whnf)))
 refine aB (λh1=> ?_) (λh1=> ?_)
 ·have hkl:k < A.length:=by dsimp only at h1;omega
  have hrow:=bR hkl
  have hmt:=aJo hkl
  have hml:=aMx (A.take k)
  rw [List.length_take]at hml
  have hsx:=hsm2 _ (List.getElem_mem hkl)
  have hsb: ∀z∈jV (A.take k),SmA z:= λz hz=>by
   obtain⟨y,hy,e⟩:=aMw z hz
   exact aQm e (hsm2 y (List.mem_of_mem_take hy))
  generalize jV (A.take k)=B at *
  have hAl:l.length=(A.map axR).length:=by rw [List.length_map,hSl]
  generalize A[k]=x at *
  ((conv=>whnf);repeat ((first|(refine⟨_,hrow, ?_⟩)|(refine And.intro hAl ?_)|(intro hq;try simp only [lnS]at hq)|refine sI ?_|refine .intro _ (.intro rfl ?_));(conv=>whnf)))
  have hBl:(B.map axR).length=B.length:=List.length_map ..
  have hb63:(B.map axR).length+1<=9223372036854775807:=by rw [hBl];omega
  have hb48:((B.map axR).length+1)* 216<=140737488355328:=by rw [hBl];omega
  have happ:(B++[x]).map axR=B.map axR++[axR x]:=by rw [List.map_append];rfl
  rcases List.eq_nil_or_concat B with hB|⟨B0,z,hB⟩
  ·subst hB
   rw [aCt]at hmt
   refine dwR ?_
   ((conv=>whnf);repeat ((first|(refine And.intro hb63 ?_)|(refine And.intro hb48 ?_)|(intro hq;try simp only [lnS]at hq)|refine sI ?_|refine .intro _ (.intro rfl ?_));(conv=>whnf)))
   rename_i cap'
   refine⟨(k+1,cap'),by dsimp only;omega,by dsimp only;omega, ?_⟩
   dsimp only
   rw [hmt]
   exact⟨by repeat' (first|exact trivial|exact rfl|refine And.intro ?_ ?_),⟨rfl,rfl,rfl,rfl,rfl,trivial⟩⟩
  ·rw [List.concat_eq_append]at hB
   have hz:z∈B:=by rw [hB];simp
   have c:=vI z x (hsb z hz) hsx
   have hBn:B.length=B0.length+1:=by rw [hB,List.length_append];rfl
   have hrz:(B.map axR)[((B.length:Int) - 1).toNat]? =some (axR z):=by
    rw [hB,show (((B0++[z]).length:Int) - 1).toNat=B0.length by rw [<-hB];omega,List.getElem?_map,List.getElem?_append_right (Nat.le_refl _),Nat.sub_self];rfl
   have hne:aQ z x≠0->mM B x=B++[x]:= λh=>by rw [hB,aH6 h]
   have heq:aQ z x=0->(mM B x).map axR=(B.map axR).set ((B.length:Int) - 1).toNat (axR { z with isopen:=z.isopen || x.isopen })/\(mM B x).length=B.length:= λh=>by
    rw [hB,aH7 h,show (((B0++[z]).length:Int) - 1).toNat=B0.length by rw [<-hB];omega]
    refine⟨?_,by simp⟩
    rw [<-List.map_set]
    congr 1
    rw [List.set_append_right _ _ (Nat.le_refl _),Nat.sub_self];rfl
   generalize aQ z x=v at *
   refine dwR ?_
   ((conv=>whnf);repeat ((first|(refine And.intro hBl.symm ?_)|(refine⟨_,hrz, ?_⟩)|(refine⟨by kernel_rfl, .d (.bool _),_,[],rfl,trivial,c, ?_⟩)|(intro hq;try simp only [lnS]at hq)|refine sI ?_|refine .intro _ (.intro rfl ?_));(conv=>whnf)))
   refine aB (λh4=> ?_) (λh4=>by exfalso;omega)
   ((conv=>whnf);repeat ((first|(refine And.intro hBl.symm ?_)|(refine⟨_,hrz, ?_⟩)|(refine⟨by kernel_rfl, .d (.bool _),_,[],rfl,trivial,c, ?_⟩)|(intro hq;try simp only [lnS]at hq)|refine sI ?_|refine .intro _ (.intro rfl ?_));(conv=>whnf)))
   refine aB (λh5=> ?_) (λh5=> ?_)
   ·obtain⟨e1,e2⟩:=heq h5
    rw [<-hmt]at e1 e2
    ((conv=>whnf);repeat ((first|(intro hq;try simp only [lnS]at hq)|refine sI ?_|refine .intro _ (.intro rfl ?_));(conv=>whnf)))
    refine fR hty [0,1,2,3,4,5,6,7,8,9,10,11,12,13,14,15,16,17] (by kernel_rfl) (by kernel_rfl) ?_
    obtain⟨zk,zo,z1,z2,z3,z4,z5,z6⟩:=z
    obtain⟨xk,xo,x1,x2,x3,x4,x5,x6⟩:=x
    cases zo<;>cases xo
    all_goals
     ((conv=>whnf);repeat ((first|(refine And.intro hBl.symm ?_)|(refine⟨_,hrz, ?_⟩)|(intro hq;try simp only [lnS]at hq)|refine sI ?_|refine .intro _ (.intro rfl ?_));(conv=>whnf)))
     refine⟨(k+1,cap2),by dsimp only;omega,by dsimp only;omega, ?_⟩
     dsimp only
     rw [e1,e2]
     exact⟨by repeat' (first|exact trivial|exact rfl|refine And.intro ?_ ?_),⟨rfl,rfl,rfl,rfl,rfl,trivial⟩⟩
   ·have e1:=hne h5
    rw [e1]at hmt
    ((conv=>whnf);repeat ((first|(refine And.intro hBl.symm ?_)|(refine And.intro hb63 ?_)|(refine And.intro hb48 ?_)|(intro hq;try simp only [lnS]at hq)|refine sI ?_|refine .intro _ (.intro rfl ?_));(conv=>whnf)))
    rename_i cap'
    refine⟨(k+1,cap'),by dsimp only;omega,by dsimp only;omega, ?_⟩
    dsimp only
    rw [hmt,happ,List.length_append]
    exact⟨by repeat' (first|exact trivial|exact rfl|refine And.intro ?_ ?_),⟨rfl,rfl,by rw [hBl];exact rfl,rfl,rfl,trivial⟩⟩
 ·have hkl:k=A.length:=by dsimp only at h1;omega
  subst hkl
  rw [List.take_length]
  have hck:=eN (jV A)
  generalize jV A=B at *
  ((conv=>whnf);repeat ((first|(intro hq;try simp only [lnS]at hq)|refine sI ?_|refine .intro _ (.intro rfl ?_));(conv=>whnf)))
  refine aJ.frozB (id:=71) (i:=2) (rows:=B.map axR) (hp1:=(70, .mrow 48 16 cap (A.map axR))::(2, .cells 38 [.mw 71 16 B.length])::NG) rfl (List.length_map ..).symm ⟨rfl,rfl,rfl,rfl,trivial⟩ rfl rfl ?_
  refine aD NG hck ⟨rfl,rfl,trivial⟩ (λr hs=> ?_)
  subst hs
  generalize aY B=e at *
  ((conv=>whnf);repeat ((first|(intro hq;try simp only [lnS]at hq)|refine sI ?_|refine .intro _ (.intro rfl ?_));(conv=>whnf)))
  refine aC (λh2=> ?_) (λh2=> ?_)
  ·rw [if_pos h2]
   ((conv=>whnf);repeat' ((first|(intro hq;(try simp only [lnS]at hq);(try rewrite [List.length_map]))|refine sJ ?_|refine .intro _ (.intro rfl ?_)|refine exL (k:= ?_)|refine dwR ?_|((first|refine aB ?_ ?_|refine aC ?_ ?_)<;>intro hb<;>(first|exact ddX hb|try simp only [lnS]at hb))|(refine aA ?_ ?_<;>intro hb<;>try exact dsX hb))<;>(conv=>whnf)))
   exact aFg _
  ·rw [if_neg (by simp [h2])]
   ((conv=>whnf);repeat' ((first|(intro hq;(try simp only [lnS]at hq);(try rewrite [List.length_map]))|refine sJ ?_|refine .intro _ (.intro rfl ?_)|refine exL (k:= ?_)|refine dwR ?_|((first|refine aB ?_ ?_|refine aC ?_ ?_)<;>intro hb<;>(first|exact ddX hb|try simp only [lnS]at hb))|(refine aA ?_ ?_<;>intro hb<;>try exact dsX hb))<;>(conv=>whnf)))
   exact xD _ _
end Go.Proofs.YtfhoddcminbffaaGreatDoor
namespace Go.Proofs.YtfhoddcminbffaaGreatDoor
open Go.Proofs
set_option maxRecDepth 10000
attribute [local irreducible] aM aJ Tri aH YVC dI bI
def oA (l:List Ax):List Ax:=(nH l).foldl wY []
theorem aK8 {l:List Ax}{j:Nat}(h:j < l.length):oA (l.take (j+1))=wY (oA (l.take j)) (aS l[j]).1:=by
 unfold oA nH
 rw [List.take_succ_eq_append_getElem h,List.map_append,List.foldl_append];rfl
theorem aHp (l:List Ax):oA l=aKr (nH l):=aQ2 _
theorem aD7 (l:List Ax):(oA l).length<=l.length:=by
 have:=aD8 (nH l) []
 have e:(nH l).length=l.length:=List.length_map ..
 unfold oA
 rw [e,List.length_nil]at this;omega
theorem aHo {l:List Ax}(h: ∀x∈l,(aS x).2=0): ∀y∈oA l,SmA y:=by
 intro y hy
 rw [aHp]at hy
 obtain⟨z,hz,e⟩:=(aB4 (nH l)).mem y hy
 obtain⟨x,hx,rfl⟩:=List.mem_map.1 hz
 exact aQm (bO.1 e) (lC (h x hx))
def aSv (d:D) (F:List Ax):Prop:=(d= .nil/\F=[])\/d= .sl 16 (F.map axR)
theorem aSv.wk {d:D}{F:List Ax}(h:aSv d F):WkD d (.sl 16 (F.map axR)):=by
 rcases h with⟨rfl,rfl⟩|rfl
 ·rfl
 ·exact lM _
theorem yJ (l:List Ax) (hs: ∀x∈l,SmA x) (hn:l.length<=10000):Tri Tryz.prog 20 [.d (.sl 16 (l.map axR))] [] (λr=>r= .tup [.d (hZ (lE l).1), .d (.int .i64 (lE l).2)]):=by
 refine Tri.pairB ?_
 have hrl:(l.map axR).length=l.length:=List.length_map ..
 refine aF false [6] hty Tryz.func20 rfl (kp [0,2,3,4,5,6,7,8,13,25,36]) [] _ _ _ (by simp [Tryz.f20]) (by simp) ?_
 ((conv=>whnf);repeat ((first|(intro hq;try simp only [lnS]at hq)|refine sI ?_|refine .intro _ (.intro rfl ?_));(conv=>whnf)))
 refine aG hty (λy:Nat×D=>([(0, .d (.sl 16 (l.map axR))),(2, .ptr 2 0),(4, .ptr 4 0),(5, .d (.int .i64 y.1))],[(4, .cells 38 [.d y.2]),(2, .cells 38 [.d .nil])])) (λy=>y.1<=l.length/\(∀x∈l.take y.1,(aS x).2=0)/\aSv y.2 (oA (l.take y.1))) (λy=>l.length - y.1) (0, .nil) ⟨by dsimp only;omega,by simp, .inl ⟨rfl,rfl⟩⟩ ⟨by repeat' (first|exact trivial|exact rfl|refine And.intro ?_ ?_),by repeat' (first|exact trivial|exact rfl|refine And.intro ?_ ?_)⟩ ?_
 rintro⟨j,d⟩ ⟨hj,hz,hd⟩
 dsimp only at hj hz hd
 ((conv=>whnf);repeat ((first|(intro hq;try simp only [lnS]at hq)|refine sI ?_|refine .intro _ (.intro rfl ?_));(conv=>whnf)))
 refine aB (λh1=> ?_) (λh1=> ?_)
 ·have hjl:j < l.length:=by have h1:(j:Int) < ((l.map axR).length:Nat):=h1;rw [hrl]at h1;omega
  have hrow:=bR hjl
  have hx:=hs _ (List.getElem_mem hjl)
  have ct:=iT l[j] hx.1 hx.2.1
  have herr:=aAa hjl hz
  have hft:=aK8 hjl
  have hz2:(aS l[j]).2=0-> ∀x∈l.take (j+1),(aS x).2=0:= λh2 y hy=>by
   rw [List.take_succ_eq_append_getElem hjl]at hy
   rcases List.mem_append.1 hy with hy|hy
   ·exact hz y hy
   ·simp at hy;subst hy;exact h2
  have hFs:=aHo hz
  have hFl:=aD7 (l.take j)
  rw [List.length_take]at hFl
  have hts:= λh2:(aS l[j]).2=0=>lC h2
  generalize (aS l[j]).1=t at *
  generalize (aS l[j]).2=e at *
  generalize l[j]=x at *
  generalize oA (l.take j)=F at *
  clear hx
  ((conv=>whnf);repeat ((first|(refine⟨_,hrow, ?_⟩)|(refine aD [] ct trivial (λr hs=> ?_);subst hs)|(intro hq;try simp only [lnS]at hq)|refine sI ?_|refine .intro _ (.intro rfl ?_));(conv=>whnf)))
  refine aC (λh2=> ?_) (λh2=> ?_)
  ·have hv:lE l=([],e):=by unfold lE;rw [if_pos (by rw [herr h2];exact h2),herr h2]
   rw [hv]
   ((conv=>whnf);repeat' ((first|(intro hq;(try simp only [lnS]at hq);(try rewrite [List.length_map]))|refine sJ ?_|refine .intro _ (.intro rfl ?_)|refine exL (k:= ?_)|refine dwR ?_|((first|refine aB ?_ ?_|refine aC ?_ ?_)<;>intro hb<;>(first|exact ddX hb|try simp only [lnS]at hb))|(refine aA ?_ ?_<;>intro hb<;>try exact dsX hb))<;>(conv=>whnf)))
   exact aFg _
  ·have h2:e=0:=by simpa using h2
   have ci0:=aAt F t (hts h2) hFs (by omega)
   have ci:Tri Tryz.prog 55 [.d d, .d (.agg (axR t))] [] (λr=>r= .d (.sl 16 ((wY F t).map axR))):=Tri.weakD ci0 ⟨hd.wk,lM _,trivial⟩
   ((conv=>whnf);repeat ((first|(refine aD [] ci trivial (λr hs=> ?_);subst hs)|(intro hq;try simp only [lnS]at hq)|refine sI ?_|refine .intro _ (.intro rfl ?_));(conv=>whnf)))
   refine⟨(j+1, .sl 16 ((wY F t).map axR)),⟨by dsimp only;omega,hz2 h2, ?_⟩,by dsimp only;omega,⟨by repeat' (first|exact trivial|exact rfl|refine And.intro ?_ ?_),by repeat' (first|exact trivial|exact rfl|refine And.intro ?_ ?_)⟩⟩
   dsimp only
   rw [hft]
   exact .inr rfl
 have hjl:j=l.length:=by have h1:¬ (j:Int) < ((l.map axR).length:Nat):=h1;rw [hrl]at h1;omega
 subst hjl
 rw [List.take_length]at hz hd
 have hv:lE l=if aY (oA l)≠0 then ([],aY (oA l))else (oA l,0):=by
  unfold lE;rw [if_neg (by rw [(nI l).2 hz];simp),aHp]
 rw [hv]
 clear hv h1 hj
 have hFl:=aD7 l
 have cc0:=gX (oA l) (aHo hz) (by omega)
 have cc:Tri Tryz.prog 23 [.d (.agg [d])] [] (λr=>r= .d (.int .i64 (aY (oA l)))):=Tri.weakD cc0 ⟨⟨hd.wk,trivial⟩,trivial⟩
 generalize aY (oA l)=e at *
 generalize oA l=F at *
 ((conv=>whnf);repeat ((first|(refine aD [] cc trivial (λr hs=> ?_);subst hs)|(intro hq;try simp only [lnS]at hq)|refine sI ?_|refine .intro _ (.intro rfl ?_));(conv=>whnf)))
 refine aC (λh2=> ?_) (λh2=> ?_)
 ·rw [if_pos h2]
  ((conv=>whnf);repeat' ((first|(intro hq;(try simp only [lnS]at hq);(try rewrite [List.length_map]))|refine sJ ?_|refine .intro _ (.intro rfl ?_)|refine exL (k:= ?_)|refine dwR ?_|((first|refine aB ?_ ?_|refine aC ?_ ?_)<;>intro hb<;>(first|exact ddX hb|try simp only [lnS]at hb))|(refine aA ?_ ?_<;>intro hb<;>try exact dsX hb))<;>(conv=>whnf)))
  exact aFg _
 ·have h2:e=0:=by simpa using h2
  rw [if_neg (by simp [h2])]
  rcases hd with⟨rfl,rfl⟩|rfl
  ·((conv=>whnf);repeat ((first|(intro hq;try simp only [lnS]at hq)|refine sI ?_|refine .intro _ (.intro rfl ?_));(conv=>whnf)))
   exact⟨_,rfl, .inr ⟨rfl,trivial⟩⟩
  ·((conv=>whnf);repeat ((first|(intro hq;try simp only [lnS]at hq)|refine sI ?_|refine .intro _ (.intro rfl ?_));(conv=>whnf)))
   exact xD _ _
end Go.Proofs.YtfhoddcminbffaaGreatDoor
namespace Go.Proofs.YtfhoddcminbffaaGreatDoor
open Go.Proofs
set_option maxRecDepth 10000
attribute [local irreducible] aM aJ Tri aH YVC dI bI
def aMb (x:Ax) (b:List Ax):Option Ax:=match b with|y::_=>if aQ y x=0 then some y else none| []=>none
def kQ (x:Ax):List Ax->List Ax
 |y::r=>if aQ y x < 0 then kQ x r else y::r
 | []=>[]
def pU (r:Ax×Bool):List Ax:=if r.2=true then [r.1]else []
def mV (kf:Ax->Option Ax->Ax×Bool):List Ax->List Ax->List Ax
 | [],_=>[]
 |x::a,b=>pU (kf x (aMb x (kQ x b)))++mV kf a (kQ x b)
def aT1:List D:=[.int .i64 0, .bool false, .int .i64 0, .str [], .int .i64 0, .int .i64 0, .nil, .int .i64 0, .str [], .int .i64 0, .int .i64 0, .nil, .nil, .str [], .str [], .str []]
structure KeepG (g:FuncId) (kf:Ax->Option Ax->Ax×Bool):Prop where
 call:dV Tryz.prog g=true
 none: ∀x,Tri Tryz.prog g [.d (.agg (axR x)), .d (.agg aT1), .d (.bool false)] [] (λr=>r= .tup [.d (.agg (axR (kf x none).1)), .d (.bool (kf x none).2)])
 some: ∀x y,Tri Tryz.prog g [.d (.agg (axR x)), .d (.agg (axR y)), .d (.bool true)] [] (λr=>r= .tup [.d (.agg (axR (kf x (some y)).1)), .d (.bool (kf x (some y)).2)])
theorem slW {z:Nat}{r r':List (List D)}(h:r=r'):Wk (.d (.sl z r)) (.d (.sl z r')):=by subst h;exact rS _
theorem aQf (b:List Ax) (k n:Nat) (hn:((b.drop k).map axR).length<=n):List.drop 1 (List.take n ((b.drop k).map axR))=(b.drop (k+1)).map axR:=by
 rw [List.take_of_length_le hn,<-List.map_drop,List.drop_drop]
theorem sR (g:FuncId) (kf:Ax->Option Ax->Ax×Bool) (hg:KeepG g kf) (a b:List Ax) (ha: ∀x∈a,SmA x) (hb: ∀x∈b,SmA x) (hn:a.length<=1000000):
  Tri Tryz.prog 72 [.d (.sl 16 (a.map axR)), .d (.sl 16 (b.map axR)), .fn 53 [] [], .fn g [] []] [] (λr=>r= .d (.sl 16 ((mV kf a b).map axR))):=by
 refine Tri.len 1 rfl λhbl=> ?_
 rw [List.length_map]at hbl
 refine aF false [10,13] hty Tryz.func72 rfl (kp [0,1,2,3,8,10,11,12,13,14,15,16,17,18,32,47,59]) [] _ _ _ (by simp [Tryz.f72]) (by simp) ?_
 ((conv=>whnf);repeat ((first|(intro hq;try simp only [lnS]at hq)|refine sI ?_|refine .intro _ (.intro rfl ?_));(conv=>whnf)))
 rw [List.length_map]
 refine aM.own 8 70 48 16 rfl (bW (by with_unfolding_all exact rfl)) ?_
 refine aG hty (λy:Nat×Nat×List Ax=>([(1, .d (.sl 16 ((b.drop y.2.1).map axR))),(2, .fn 53 [] []),(3, .fn g [] []),(8, .osl 70 16 (y.2.2.map axR)),(15, .d (.sl 16 (a.map axR))),(16, .d (.int .i64 a.length)),(17, .d (.int .i64 y.1))],[(70, .own 48 16 (y.2.2.map axR).length)])) (λy=>(y.1<=a.length/\y.2.2.length<=y.1)/\y.2.2++mV kf (a.drop y.1) (b.drop y.2.1)=mV kf a b) (λy=>a.length - y.1) (0,0,[]) ⟨⟨Nat.zero_le _,Nat.le_refl _⟩,rfl⟩ ⟨by repeat' (first|exact trivial|exact rfl|refine And.intro ?_ ?_),by repeat' (first|exact trivial|exact rfl|refine And.intro ?_ ?_)⟩ ?_
 rintro⟨j,k,out⟩ ⟨⟨hj,ho⟩,hc⟩
 dsimp only at hj ho hc
 ((conv=>whnf);repeat ((first|(intro hq;try simp only [lnS]at hq)|refine sI ?_|refine .intro _ (.intro rfl ?_));(conv=>whnf)))
 refine aB (λh1=> ?_) (λh1=> ?_)
 ·have hjl:j < a.length:=by dsimp only at h1;omega
  have hrow:=bR hjl
  have hx:=ha _ (List.getElem_mem hjl)
  rw [jW hjl]at hc
  generalize a[j]=x at *
  ((conv=>whnf);repeat ((first|(refine⟨_,hrow, ?_⟩)|(intro hq;try simp only [lnS]at hq)|refine sI ?_|refine .intro _ (.intro rfl ?_));(conv=>whnf)))
  refine aG hty (λk:Nat=>([(1, .d (.sl 16 ((b.drop k).map axR))),(2, .fn 53 [] []),(3, .fn g [] []),(8, .osl 70 16 (out.map axR)),(10, .ea 16 [axR x] 0 0),(15, .d (.sl 16 (a.map axR))),(16, .d (.int .i64 a.length)),(17, .d (.int .i64 j))],[(70, .own 48 16 (out.map axR).length)])) (λk=>out++(pU (kf x (aMb x (kQ x (b.drop k))))++mV kf (a.drop (j+1)) (kQ x (b.drop k)))=mV kf a b) (λk=>b.length - k) k hc ⟨by repeat' (first|exact trivial|exact rfl|refine And.intro ?_ ?_),by repeat' (first|exact trivial|exact rfl|refine And.intro ?_ ?_)⟩ ?_
  clear hc
  intro k hc
  by_cases hkl:k < b.length
  ·have hrow2:((b.drop k).map axR)[(0:Int).toNat]? =some (axR b[k]):=by rw [jW hkl];rfl
   have hdl:((b.drop k).map axR).length=b.length - k:=by rw [List.length_map,List.length_drop]
   have hy:=hb _ (List.getElem_mem hkl)
   have c:=eY b[k] x hy.1 hy.2.1 hy.2.2 hx.1 hx.2.1 hx.2.2
   have hd:kQ x (b.drop k)=if aQ b[k] x < 0 then kQ x (b.drop (k+1))else b.drop k:=by rw [jW hkl,kQ,<-jW hkl]
   have hpt:aMb x (b.drop k)=if aQ b[k] x=0 then some b[k]else none:=by rw [jW hkl];rfl
   generalize aQ b[k] x=v at *
   ((conv=>whnf);repeat ((first|(intro hq;try simp only [lnS]at hq)|refine sI ?_|refine .intro _ (.intro rfl ?_));(conv=>whnf)))
   refine dwR ?_
   ((conv=>whnf);repeat ((first|(refine⟨_,hrow2, ?_⟩)|(refine⟨by kernel_rfl, .d (.int .i64 _),_,[],rfl,trivial,c, ?_⟩)|(intro hq;try simp only [lnS]at hq)|refine sI ?_|refine .intro _ (.intro rfl ?_));(conv=>whnf)))
   refine aB (λh4=> ?_) (λh4=>by exfalso;omega)
   ((conv=>whnf);repeat ((first|(refine⟨_,hrow2, ?_⟩)|(refine⟨by kernel_rfl, .d (.int .i64 _),_,[],rfl,trivial,c, ?_⟩)|(intro hq;try simp only [lnS]at hq)|refine sI ?_|refine .intro _ (.intro rfl ?_));(conv=>whnf)))
   refine aB (λh5=> ?_) (λh5=> ?_)
   ·rw [if_pos h5]at hd
    have hsl:=aQf b k ((b.drop k).map axR).length (Nat.le_refl _)
    ((conv=>whnf);repeat ((first|(intro hq;try simp only [lnS]at hq)|refine sI ?_|refine .intro _ (.intro rfl ?_));(conv=>whnf)))
    refine⟨k+1,by dsimp only;rw [<-hd];exact hc,by dsimp only;omega,⟨by repeat' (first|exact trivial|exact rfl|exact slW hsl|refine And.intro ?_ ?_),⟨rfl,trivial⟩⟩⟩
   ·rw [if_neg h5]at hd
    rw [hd,hpt]at hc
    have hs1:=hg.some x b[k]
    have hs0:=hg.none x
    generalize b[k]=y at *
    ((conv=>whnf);repeat ((first|(intro hq;try simp only [lnS]at hq)|refine sI ?_|refine .intro _ (.intro rfl ?_));(conv=>whnf)))
    refine dwR ?_
    ((conv=>whnf);repeat ((first|(refine⟨_,hrow2, ?_⟩)|(refine⟨by kernel_rfl, .d (.int .i64 _),_,[],rfl,trivial,c, ?_⟩)|(intro hq;try simp only [lnS]at hq)|refine sI ?_|refine .intro _ (.intro rfl ?_));(conv=>whnf)))
    refine aB (λh4=> ?_) (λh4=>by exfalso;omega)
    ((conv=>whnf);repeat ((first|(refine⟨_,hrow2, ?_⟩)|(refine⟨by kernel_rfl, .d (.int .i64 _),_,[],rfl,trivial,c, ?_⟩)|(intro hq;try simp only [lnS]at hq)|refine sI ?_|refine .intro _ (.intro rfl ?_));(conv=>whnf)))
    refine aB (λh6=> ?_) (λh6=> ?_)
    ·rw [if_pos h6]at hc
     have hs:=hs1
     obtain⟨O,hO⟩: ∃O,O=some y:=⟨_,rfl⟩
     rw [<-hO]at hc hs
     rw [show true=decide (v=0)by simp [h6]]at hs
     have hsl0:(b.drop k).map axR=(b.drop k).map axR:=rfl
     ((conv=>whnf);repeat ((first|(refine⟨_,hrow2, ?_⟩)|(intro hq;try simp only [lnS]at hq)|refine sI ?_|refine .intro _ (.intro rfl ?_));(conv=>whnf)))
     have hol:(out.map axR).length=out.length:=List.length_map ..
     have hb63:(out.map axR).length+1<=9223372036854775807:=by rw [hol];omega
     have hb48:((out.map axR).length+1)* 216<=140737488355328:=by rw [hol];omega
     have happ: ∀z:Ax,(out++[z]).map axR=out.map axR++[axR z]:= λz=>by rw [List.map_append];rfl
     unfold pU at hc
     ((conv=>whnf);repeat ((first|(intro hq;try simp only [lnS]at hq)|refine sI ?_|refine .intro _ (.intro rfl ?_));(conv=>whnf)))
     rw [hg.call]
     ((conv=>whnf);repeat ((first|(intro hq;try simp only [lnS]at hq)|refine sI ?_|refine .intro _ (.intro rfl ?_));(conv=>whnf)))
     refine aD [] hs trivial (λr hr=> ?_)
     subst hr
     generalize (kf x O).1=Z at *
     generalize (kf x O).2=ok at *
     cases ok
     ·rw [if_neg (by decide),List.nil_append]at hc
      ((conv=>whnf);repeat' ((first|(intro hq;(try simp only [lnS]at hq);(try rewrite [List.length_map]))|refine sJ ?_|refine .intro _ (.intro rfl ?_)|refine exL (k:= ?_)|refine dwR ?_|((first|refine aB ?_ ?_|refine aC ?_ ?_)<;>intro hb<;>(first|exact ddX hb|try simp only [lnS]at hb))|(refine aA ?_ ?_<;>intro hb<;>try exact dsX hb))<;>(conv=>whnf)))
      exact⟨(j+1,k,out),⟨⟨by dsimp only;omega,by dsimp only;omega⟩,hc⟩,by dsimp only;omega,⟨by repeat' (first|exact trivial|exact rfl|exact slW hsl0|refine And.intro ?_ ?_),by repeat' (first|exact trivial|exact rfl|refine And.intro ?_ ?_)⟩⟩
     ·rw [if_pos rfl,<-List.append_assoc]at hc
      ((conv=>whnf);repeat ((first|(refine And.intro hb63 ?_)|(refine And.intro hb48 ?_)|(intro hq;try simp only [lnS]at hq)|refine sI ?_|refine .intro _ (.intro rfl ?_));(conv=>whnf)))
      refine⟨(j+1,k,out++[Z]),⟨⟨by dsimp only;omega,by dsimp only;rw [List.length_append,List.length_singleton];omega⟩,hc⟩,by dsimp only;omega, ?_⟩
      dsimp only
      rw [happ,List.length_append]
      exact⟨by repeat' (first|exact trivial|exact rfl|exact slW hsl0|refine And.intro ?_ ?_),by repeat' (first|exact trivial|exact rfl|refine And.intro ?_ ?_)⟩
    ·rw [if_neg h6]at hc
     have hs:=hs0
     obtain⟨O,hO⟩: ∃O:Option Ax,O=none:=⟨_,rfl⟩
     rw [<-hO]at hc hs
     rw [show false=decide (v=0)by simp [h6]]at hs
     have hsl0:(b.drop k).map axR=(b.drop k).map axR:=rfl
     ((conv=>whnf);repeat ((first|(intro hq;try simp only [lnS]at hq)|refine sI ?_|refine .intro _ (.intro rfl ?_));(conv=>whnf)))
     have hol:(out.map axR).length=out.length:=List.length_map ..
     have hb63:(out.map axR).length+1<=9223372036854775807:=by rw [hol];omega
     have hb48:((out.map axR).length+1)* 216<=140737488355328:=by rw [hol];omega
     have happ: ∀z:Ax,(out++[z]).map axR=out.map axR++[axR z]:= λz=>by rw [List.map_append];rfl
     unfold pU at hc
     ((conv=>whnf);repeat ((first|(intro hq;try simp only [lnS]at hq)|refine sI ?_|refine .intro _ (.intro rfl ?_));(conv=>whnf)))
     rw [hg.call]
     ((conv=>whnf);repeat ((first|(intro hq;try simp only [lnS]at hq)|refine sI ?_|refine .intro _ (.intro rfl ?_));(conv=>whnf)))
     refine aD [] hs trivial (λr hr=> ?_)
     subst hr
     generalize (kf x O).1=Z at *
     generalize (kf x O).2=ok at *
     cases ok
     ·rw [if_neg (by decide),List.nil_append]at hc
      ((conv=>whnf);repeat' ((first|(intro hq;(try simp only [lnS]at hq);(try rewrite [List.length_map]))|refine sJ ?_|refine .intro _ (.intro rfl ?_)|refine exL (k:= ?_)|refine dwR ?_|((first|refine aB ?_ ?_|refine aC ?_ ?_)<;>intro hb<;>(first|exact ddX hb|try simp only [lnS]at hb))|(refine aA ?_ ?_<;>intro hb<;>try exact dsX hb))<;>(conv=>whnf)))
      exact⟨(j+1,k,out),⟨⟨by dsimp only;omega,by dsimp only;omega⟩,hc⟩,by dsimp only;omega,⟨by repeat' (first|exact trivial|exact rfl|exact slW hsl0|refine And.intro ?_ ?_),by repeat' (first|exact trivial|exact rfl|refine And.intro ?_ ?_)⟩⟩
     ·rw [if_pos rfl,<-List.append_assoc]at hc
      ((conv=>whnf);repeat ((first|(refine And.intro hb63 ?_)|(refine And.intro hb48 ?_)|(intro hq;try simp only [lnS]at hq)|refine sI ?_|refine .intro _ (.intro rfl ?_));(conv=>whnf)))
      refine⟨(j+1,k,out++[Z]),⟨⟨by dsimp only;omega,by dsimp only;rw [List.length_append,List.length_singleton];omega⟩,hc⟩,by dsimp only;omega, ?_⟩
      dsimp only
      rw [happ,List.length_append]
      exact⟨by repeat' (first|exact trivial|exact rfl|exact slW hsl0|refine And.intro ?_ ?_),by repeat' (first|exact trivial|exact rfl|refine And.intro ?_ ?_)⟩
  ·have hd0:b.drop k=[]:=List.drop_eq_nil_of_le (by omega)
   rw [hd0]at hc |-
   have hs:=hg.none x
   obtain⟨O,hO⟩: ∃O:Option Ax,O=none:=⟨_,rfl⟩
   have hc:out++(pU (kf x none)++mV kf (a.drop (j+1)) (b.drop k))=mV kf a b:=by rw [hd0];exact hc
   rw [<-hO]at hc hs
   ((conv=>whnf);repeat ((first|(intro hq;try simp only [lnS]at hq)|refine sI ?_|refine .intro _ (.intro rfl ?_));(conv=>whnf)))
   refine dwR ?_
   ((conv=>whnf);repeat ((first|(intro hq;try simp only [lnS]at hq)|refine sI ?_|refine .intro _ (.intro rfl ?_));(conv=>whnf)))
   refine dwR ?_
   have hsl0:([]:List Ax).map axR=(b.drop k).map axR:=by rw [hd0]
   have hol:(out.map axR).length=out.length:=List.length_map ..
   have hb63:(out.map axR).length+1<=9223372036854775807:=by rw [hol];omega
   have hb48:((out.map axR).length+1)* 216<=140737488355328:=by rw [hol];omega
   have happ: ∀z:Ax,(out++[z]).map axR=out.map axR++[axR z]:= λz=>by rw [List.map_append];rfl
   unfold pU at hc
   ((conv=>whnf);repeat ((first|(intro hq;try simp only [lnS]at hq)|refine sI ?_|refine .intro _ (.intro rfl ?_));(conv=>whnf)))
   rw [hg.call]
   ((conv=>whnf);repeat ((first|(intro hq;try simp only [lnS]at hq)|refine sI ?_|refine .intro _ (.intro rfl ?_));(conv=>whnf)))
   refine aD [] hs trivial (λr hr=> ?_)
   subst hr
   generalize (kf x O).1=Z at *
   generalize (kf x O).2=ok at *
   cases ok
   ·rw [if_neg (by decide),List.nil_append]at hc
    ((conv=>whnf);repeat' ((first|(intro hq;(try simp only [lnS]at hq);(try rewrite [List.length_map]))|refine sJ ?_|refine .intro _ (.intro rfl ?_)|refine exL (k:= ?_)|refine dwR ?_|((first|refine aB ?_ ?_|refine aC ?_ ?_)<;>intro hb<;>(first|exact ddX hb|try simp only [lnS]at hb))|(refine aA ?_ ?_<;>intro hb<;>try exact dsX hb))<;>(conv=>whnf)))
    exact⟨(j+1,k,out),⟨⟨by dsimp only;omega,by dsimp only;omega⟩,hc⟩,by dsimp only;omega,⟨by repeat' (first|exact trivial|exact rfl|exact slW hsl0|refine And.intro ?_ ?_),by repeat' (first|exact trivial|exact rfl|refine And.intro ?_ ?_)⟩⟩
   ·rw [if_pos rfl,<-List.append_assoc]at hc
    ((conv=>whnf);repeat ((first|(refine And.intro hb63 ?_)|(refine And.intro hb48 ?_)|(intro hq;try simp only [lnS]at hq)|refine sI ?_|refine .intro _ (.intro rfl ?_));(conv=>whnf)))
    refine⟨(j+1,k,out++[Z]),⟨⟨by dsimp only;omega,by dsimp only;rw [List.length_append,List.length_singleton];omega⟩,hc⟩,by dsimp only;omega, ?_⟩
    dsimp only
    rw [happ,List.length_append]
    exact⟨by repeat' (first|exact trivial|exact rfl|exact slW hsl0|refine And.intro ?_ ?_),by repeat' (first|exact trivial|exact rfl|refine And.intro ?_ ?_)⟩
 ·have hjl:j=a.length:=by dsimp only at h1;omega
  subst hjl
  rw [List.drop_length]at hc
  rw [<-hc]
  ((conv=>whnf);repeat' ((first|(intro hq;(try simp only [lnS]at hq);(try rewrite [List.length_map]))|refine sJ ?_|refine .intro _ (.intro rfl ?_)|refine exL (k:= ?_)|refine dwR ?_|((first|refine aB ?_ ?_|refine aC ?_ ?_)<;>intro hb<;>(first|exact ddX hb|try simp only [lnS]at hb))|(refine aA ?_ ?_<;>intro hb<;>try exact dsX hb))<;>(conv=>whnf)))
  rw [show mV kf [] (b.drop k)=[]from rfl,List.append_nil]
  rfl
def kfM (x:Ax) (o:Option Ax):Ax×Bool:=(x,o.isNone)
def kfC (x:Ax) (o:Option Ax):Ax×Bool:=({ x with isopen:=x.isopen && (match o with|some y=>y.isopen|none=>false) },o.isSome)
theorem aV3:KeepG 73 kfM where
 call:=by kernel_rfl
 none:= λx=>by
  refine aF false [3,4] hty Tryz.func73 rfl (kp [0,1,2,3,6,7]) [] _ _ _ (by simp [Tryz.f73]) (by simp) ?_
  ((conv=>whnf);repeat' ((first|(intro hq;(try simp only [lnS]at hq);(try rewrite [List.length_map]))|refine sJ ?_|refine .intro _ (.intro rfl ?_)|refine exL (k:= ?_)|refine dwR ?_|((first|refine aB ?_ ?_|refine aC ?_ ?_)<;>intro hb<;>(first|exact ddX hb|try simp only [lnS]at hb))|(refine aA ?_ ?_<;>intro hb<;>try exact dsX hb))<;>(conv=>whnf)))
  rfl
 some:= λx y=>by
  refine aF false [3,4] hty Tryz.func73 rfl (kp [0,1,2,3,6,7]) [] _ _ _ (by simp [Tryz.f73]) (by simp) ?_
  ((conv=>whnf);repeat' ((first|(intro hq;(try simp only [lnS]at hq);(try rewrite [List.length_map]))|refine sJ ?_|refine .intro _ (.intro rfl ?_)|refine exL (k:= ?_)|refine dwR ?_|((first|refine aB ?_ ?_|refine aC ?_ ?_)<;>intro hb<;>(first|exact ddX hb|try simp only [lnS]at hb))|(refine aA ?_ ?_<;>intro hb<;>try exact dsX hb))<;>(conv=>whnf)))
  rfl
theorem aV4:KeepG 74 kfC where
 call:=by kernel_rfl
 none:= λx=>by
  obtain⟨k,o,a1,a2,a3,a4,a5,a6⟩:=x
  cases o
  all_goals
   refine aF false [4] hty Tryz.func74 rfl (kp [0,1,2,3,4,6,7]) [] _ _ _ (by simp [Tryz.f74]) (by simp) ?_
   ((conv=>whnf);repeat' ((first|(intro hq;(try simp only [lnS]at hq);(try rewrite [List.length_map]))|refine sJ ?_|refine .intro _ (.intro rfl ?_)|refine exL (k:= ?_)|refine dwR ?_|((first|refine aB ?_ ?_|refine aC ?_ ?_)<;>intro hb<;>(first|exact ddX hb|try simp only [lnS]at hb))|(refine aA ?_ ?_<;>intro hb<;>try exact dsX hb))<;>(conv=>whnf)))
   rfl
 some:= λx y=>by
  obtain⟨k,o,a1,a2,a3,a4,a5,a6⟩:=x
  obtain⟨k',o',b1,b2,b3,b4,b5,b6⟩:=y
  cases o<;>cases o'
  all_goals
   refine aF false [4] hty Tryz.func74 rfl (kp [0,1,2,3,4,6,7]) [] _ _ _ (by simp [Tryz.f74]) (by simp) ?_
   ((conv=>whnf);repeat' ((first|(intro hq;(try simp only [lnS]at hq);(try rewrite [List.length_map]))|refine sJ ?_|refine .intro _ (.intro rfl ?_)|refine exL (k:= ?_)|refine dwR ?_|((first|refine aB ?_ ?_|refine aC ?_ ?_)<;>intro hb<;>(first|exact ddX hb|try simp only [lnS]at hb))|(refine aA ?_ ?_<;>intro hb<;>try exact dsX hb))<;>(conv=>whnf)))
   rfl
noncomputable def dF (a b:List Ax):Int:=if aY a≠0 then aY a else aY b
theorem rL (a b:List Ax):Tri Tryz.prog 69 [.d (hZ a), .d (hZ b)] NG (λr=>r= .d (.int .i64 (dF a b))):=by
 have c1:=eN a
 have c2:=eN b
 have hv:dF a b=if aY a≠0 then aY a else aY b:=rfl
 rw [hv]
 clear hv
 generalize aY a=e1 at *
 generalize aY b=e2 at *
 refine aF false [2,3] hty Tryz.func69 rfl (kp [0,1,2,3,4,5,9]) [] _ _ _ (by simp [Tryz.f69]) (by decide) ?_
 ((conv=>whnf);repeat ((first|(refine aD NG c1 ⟨rfl,rfl,trivial⟩ (λr hs=> ?_);subst hs)|(intro hq;try simp only [lnS]at hq)|refine sI ?_|refine .intro _ (.intro rfl ?_));(conv=>whnf)))
 refine aC (λh1=> ?_) (λh1=> ?_)
 ·rw [if_pos h1]
  ((conv=>whnf);repeat' ((first|(intro hq;(try simp only [lnS]at hq);(try rewrite [List.length_map]))|refine sJ ?_|refine .intro _ (.intro rfl ?_)|refine exL (k:= ?_)|refine dwR ?_|((first|refine aB ?_ ?_|refine aC ?_ ?_)<;>intro hb<;>(first|exact ddX hb|try simp only [lnS]at hb))|(refine aA ?_ ?_<;>intro hb<;>try exact dsX hb))<;>(conv=>whnf)))
  rfl
 ·rw [if_neg (by simp [h1])]
  ((conv=>whnf);repeat ((first|(refine aD NG c2 ⟨rfl,rfl,trivial⟩ (λr hs=> ?_);subst hs)|(intro hq;try simp only [lnS]at hq)|refine sI ?_|refine .intro _ (.intro rfl ?_));(conv=>whnf)))
  rfl
theorem wM {a b:List Ax}(h:dF a b=0):aY a=0/\aY b=0:=by
 unfold dF at h
 split at h
 ·rename_i h1;exact absurd h h1
 ·rename_i h1;exact⟨by simpa using h1,h⟩
noncomputable def aKp (kf:Ax->Option Ax->Ax×Bool) (a b:List Ax):List Ax×Int:=if dF a b≠0 then ([],dF a b)else (mV kf a b,0)
theorem yV (a b:List Ax):Tri Tryz.prog 33 [.d (hZ a), .d (hZ b)] NG (λr=>r= .tup [.d (hZ (aKp kfM a b).1), .d (.int .i64 (aKp kfM a b).2)]):=by
 refine Tri.pairB ?_
 have c1:=rL a b
 have hv:aKp kfM a b=if dF a b≠0 then ([],dF a b)else (mV kfM a b,0):=rfl
 have hb0:=wM (a:=a) (b:=b)
 rw [hv]
 clear hv
 generalize dF a b=e at *
 refine aF false [2,3] hty Tryz.func33 rfl (kp [0,1,2,3,4,5,6,11]) [] _ _ _ (by simp [Tryz.f33]) (by decide) ?_
 ((conv=>whnf);repeat ((first|(refine aD NG c1 ⟨rfl,rfl,trivial⟩ (λr hs=> ?_);subst hs)|(intro hq;try simp only [lnS]at hq)|refine sI ?_|refine .intro _ (.intro rfl ?_));(conv=>whnf)))
 refine aC (λh1=> ?_) (λh1=> ?_)
 ·rw [if_pos h1]
  ((conv=>whnf);repeat' ((first|(intro hq;(try simp only [lnS]at hq);(try rewrite [List.length_map]))|refine sJ ?_|refine .intro _ (.intro rfl ?_)|refine exL (k:= ?_)|refine dwR ?_|((first|refine aB ?_ ?_|refine aC ?_ ?_)<;>intro hb<;>(first|exact ddX hb|try simp only [lnS]at hb))|(refine aA ?_ ?_<;>intro hb<;>try exact dsX hb))<;>(conv=>whnf)))
  exact aFg _
 ·rw [if_neg (by simp [h1])]
  obtain⟨q1,q2⟩:=hb0 h1
  have o1:=(cJ a).1 q1
  have o2:=(cJ b).1 q2
  have c2:=sR 73 kfM aV3 a b (λx hx=>pG (cP (by rw [o1.tidy x hx]))) (λx hx=>pG (cP (by rw [o2.tidy x hx]))) (by have:=o1.few;omega)
  ((conv=>whnf);repeat ((first|(refine aD [] c2 trivial (λr hs=> ?_);subst hs)|(intro hq;try simp only [lnS]at hq)|refine sI ?_|refine .intro _ (.intro rfl ?_));(conv=>whnf)))
  exact xD _ _
theorem aDs (a b:List Ax):Tri Tryz.prog 35 [.d (hZ a), .d (hZ b)] NG (λr=>r= .tup [.d (hZ (aKp kfC a b).1), .d (.int .i64 (aKp kfC a b).2)]):=by
 refine Tri.pairB ?_
 have c1:=rL a b
 have hv:aKp kfC a b=if dF a b≠0 then ([],dF a b)else (mV kfC a b,0):=rfl
 have hb0:=wM (a:=a) (b:=b)
 rw [hv]
 clear hv
 generalize dF a b=e at *
 refine aF false [2,3] hty Tryz.func35 rfl (kp [0,1,2,3,4,5,6,11]) [] _ _ _ (by simp [Tryz.f35]) (by decide) ?_
 ((conv=>whnf);repeat ((first|(refine aD NG c1 ⟨rfl,rfl,trivial⟩ (λr hs=> ?_);subst hs)|(intro hq;try simp only [lnS]at hq)|refine sI ?_|refine .intro _ (.intro rfl ?_));(conv=>whnf)))
 refine aC (λh1=> ?_) (λh1=> ?_)
 ·rw [if_pos h1]
  ((conv=>whnf);repeat' ((first|(intro hq;(try simp only [lnS]at hq);(try rewrite [List.length_map]))|refine sJ ?_|refine .intro _ (.intro rfl ?_)|refine exL (k:= ?_)|refine dwR ?_|((first|refine aB ?_ ?_|refine aC ?_ ?_)<;>intro hb<;>(first|exact ddX hb|try simp only [lnS]at hb))|(refine aA ?_ ?_<;>intro hb<;>try exact dsX hb))<;>(conv=>whnf)))
  exact aFg _
 ·rw [if_neg (by simp [h1])]
  obtain⟨q1,q2⟩:=hb0 h1
  have o1:=(cJ a).1 q1
  have o2:=(cJ b).1 q2
  have c2:=sR 74 kfC aV4 a b (λx hx=>pG (cP (by rw [o1.tidy x hx]))) (λx hx=>pG (cP (by rw [o2.tidy x hx]))) (by have:=o1.few;omega)
  ((conv=>whnf);repeat ((first|(refine aD [] c2 trivial (λr hs=> ?_);subst hs)|(intro hq;try simp only [lnS]at hq)|refine sI ?_|refine .intro _ (.intro rfl ?_));(conv=>whnf)))
  exact xD _ _
end Go.Proofs.YtfhoddcminbffaaGreatDoor
namespace Go.Proofs.YtfhoddcminbffaaGreatDoor
open Go.Proofs
set_option maxRecDepth 10000
attribute [local irreducible] aM aJ Tri aH YVC dI bI
def sN (n:Int):Int->List Int->Bool
 |_,[]=>true
 |last,i::r=> !(decide (i<=last)) && (!(decide (n<=i)) && sN n i r)
theorem vP {n:Int}: ∀{w:List Int}{last:Int}, -1<=last->sN n last w=true-> ∀i∈w,0<=i/\i < n
 | [],_,_,_,i,h=>by cases h
 |j::r,last,hl,hb,i,h=>by
  rw [sN,Bool.and_eq_true,Bool.and_eq_true]at hb
  obtain⟨b1,b2,b3⟩:=hb
  have b1:¬ j<=last:=by simpa using b1
  have b2:¬ n<=j:=by simpa using b2
  rcases List.mem_cons.1 h with rfl|h
  ·omega
  ·exact vP (by omega) b3 i h
def xJ (l:List Ax) (i:Int):Ax:=(l[i.toNat]?).getD a0
def iV (l:List Ax) (w:List Int):List Ax:=w.map (xJ l)
noncomputable def pV (l:List Ax) (w:List Int):List Ax×Int:=if aY l≠0 then ([],aY l)else if sN l.length (-1) w=false then ([],1)else (iV l w,0)
theorem aB1 {w:List Int}{j:Nat}(h:j < w.length):(w.map jZ)[((j:Nat):Int).toNat]? =some (jZ w[j]):=by
 rw [Int.toNat_natCast,List.getElem?_map,List.getElem?_eq_getElem h];rfl
theorem aD2 (l:List Ax) (w:List Int) (hw:w.length<=1000000):Tri Tryz.prog 24 [.d (hZ l), .d (.sl 1 (w.map jZ))] NG (λr=>r= .tup [.d (hZ (pV l w).1), .d (.int .i64 (pV l w).2)]):=by
 refine Tri.pairB ?_
 have c1:=eN l
 have hv:pV l w=if aY l≠0 then ([],aY l)else if sN l.length (-1) w=false then ([],1)else (iV l w,0):=rfl
 rw [hv]
 clear hv
 have hfew:aY l=0->l.length<=1024:= λh=>((cJ l).1 h).few
 generalize aY l=e at *
 refine aF false [2] hty Tryz.func24 rfl (kp [0,1,2,4,5,6,7,9,11,15,18,19,20,21,33,37,38,39,40]) [] _ _ _ (by simp [Tryz.f24]) (by decide) ?_
 ((conv=>whnf);repeat ((first|(refine aD NG c1 ⟨rfl,rfl,trivial⟩ (λr hs=> ?_);subst hs)|(intro hq;try simp only [lnS]at hq)|refine sI ?_|refine .intro _ (.intro rfl ?_));(conv=>whnf)))
 refine aC (λh1=> ?_) (λh1=> ?_)
 ·rw [if_pos h1]
  ((conv=>whnf);repeat' ((first|(intro hq;(try simp only [lnS]at hq);(try rewrite [List.length_map]))|refine sJ ?_|refine .intro _ (.intro rfl ?_)|refine exL (k:= ?_)|refine dwR ?_|((first|refine aB ?_ ?_|refine aC ?_ ?_)<;>intro hb<;>(first|exact ddX hb|try simp only [lnS]at hb))|(refine aA ?_ ?_<;>intro hb<;>try exact dsX hb))<;>(conv=>whnf)))
  exact aFg _
 rw [if_neg (by simp [h1])]
 have hl:=hfew h1
 clear hfew c1 h1
 ((conv=>whnf);repeat ((first|(intro hq;try simp only [lnS]at hq)|refine sI ?_|refine .intro _ (.intro rfl ?_));(conv=>whnf)))
 rw [show (w.map jZ).length=w.length from List.length_map ..]
 refine aG hty (λy:Nat×Int=>([(1, .d (.sl 1 (w.map jZ))),(2, .ea 1 [[.sl 16 (l.map axR)]] 0 0),(4, .ptr 4 0),(5, .d (.int .i64 0)),(7, .d (.int .i64 y.2)),(18, .d (.sl 1 (w.map jZ))),(19, .d (.int .i64 w.length)),(20, .d (.int .i64 y.1))],(4, .cells 38 [.d .nil])::NG)) (λy=>(y.1<=w.length/\ -1<=y.2)/\sN l.length (-1) w=sN l.length y.2 (w.drop y.1)) (λy=>w.length - y.1) (0, -1) ⟨⟨Nat.zero_le _,by decide⟩,rfl⟩ ⟨by repeat' (first|exact trivial|exact rfl|refine And.intro ?_ ?_),⟨rfl,rfl,rfl,trivial⟩⟩ ?_
 rintro⟨j,last⟩ ⟨⟨hj,hla⟩,hi⟩
 dsimp only at hj hla hi
 ((conv=>whnf);repeat ((first|(intro hq;try simp only [lnS]at hq)|refine sI ?_|refine .intro _ (.intro rfl ?_));(conv=>whnf)))
 refine aB (λh1=> ?_) (λh1=> ?_)
 ·have hjl:j < w.length:=by dsimp only at h1;omega
  have hrow:=aB1 hjl
  rw [jW hjl,sN]at hi
  generalize w[j]=i at *
  have hll:(l.map axR).length=l.length:=List.length_map ..
  ((conv=>whnf);repeat ((first|(refine⟨_,hrow, ?_⟩)|(intro hq;try simp only [lnS]at hq)|refine sI ?_|refine .intro _ (.intro rfl ?_));(conv=>whnf)))
  refine aB (λh2=> ?_) (λh2=> ?_)
  ·have h2:i<=last:=h2
   rw [if_pos (by rw [hi];simp [h2])]
   ((conv=>whnf);repeat' ((first|(intro hq;(try simp only [lnS]at hq);(try rewrite [List.length_map]))|refine sJ ?_|refine .intro _ (.intro rfl ?_)|refine exL (k:= ?_)|refine dwR ?_|((first|refine aB ?_ ?_|refine aC ?_ ?_)<;>intro hb<;>(first|exact ddX hb|try simp only [lnS]at hb))|(refine aA ?_ ?_<;>intro hb<;>try exact dsX hb))<;>(conv=>whnf)))
   exact aFg _
  ·have h2:¬ i<=last:=h2
   ((conv=>whnf);repeat ((first|(intro hq;try simp only [lnS]at hq)|refine sI ?_|refine .intro _ (.intro rfl ?_));(conv=>whnf)))
   refine aB (λh3=> ?_) (λh3=> ?_)
   ·have h3:((l.map axR).length:Int)<=i:=h3
    rw [hll]at h3
    rw [if_pos (by rw [hi];simp [h3])]
    ((conv=>whnf);repeat' ((first|(intro hq;(try simp only [lnS]at hq);(try rewrite [List.length_map]))|refine sJ ?_|refine .intro _ (.intro rfl ?_)|refine exL (k:= ?_)|refine dwR ?_|((first|refine aB ?_ ?_|refine aC ?_ ?_)<;>intro hb<;>(first|exact ddX hb|try simp only [lnS]at hb))|(refine aA ?_ ?_<;>intro hb<;>try exact dsX hb))<;>(conv=>whnf)))
    exact aFg _
   ·have h3:¬ ((l.map axR).length:Int)<=i:=h3
    rw [hll]at h3
    ((conv=>whnf);repeat' ((first|(intro hq;(try simp only [lnS]at hq);(try rewrite [List.length_map]))|refine sJ ?_|refine .intro _ (.intro rfl ?_)|refine exL (k:= ?_)|refine dwR ?_|((first|refine aB ?_ ?_|refine aC ?_ ?_)<;>intro hb<;>(first|exact ddX hb|try simp only [lnS]at hb))|(refine aA ?_ ?_<;>intro hb<;>try exact dsX hb))<;>(conv=>whnf)))
    refine⟨(j+1,i),⟨⟨by dsimp only;omega,by dsimp only;omega⟩,by dsimp only;rw [hi];simp [h2,h3]⟩,by dsimp only;omega,⟨by repeat' (first|exact trivial|exact rfl|refine And.intro ?_ ?_),⟨rfl,rfl,rfl,trivial⟩⟩⟩
 have hjl:j=w.length:=by dsimp only at h1;omega
 subst hjl
 rw [List.drop_length]at hi
 have hi:sN l.length (-1) w=true:=hi
 have hin:=vP (by decide) hi
 rw [if_neg (by rw [hi];decide)]
 clear h1 hj
 ((conv=>whnf);repeat ((first|(intro hq;try simp only [lnS]at hq)|refine sI ?_|refine .intro _ (.intro rfl ?_));(conv=>whnf)))
 rw [show (w.map jZ).length=w.length from List.length_map ..]
 refine aM.ownC 4 70 38 48 16 0 rfl rfl (bW (by with_unfolding_all exact rfl)) ?_
 refine aG hty (λj:Nat=>([(2, .ea 1 [[.sl 16 (l.map axR)]] 0 0),(4, .ptr 4 0),(5, .d (.int .i64 0)),(37, .d (.sl 1 (w.map jZ))),(38, .d (.int .i64 w.length)),(39, .d (.int .i64 j))],(70, .own 48 16 ((iV l (w.take j)).map axR).length)::(4, .cells 38 [.osl 70 16 ((iV l (w.take j)).map axR)])::NG)) (λj=>j<=w.length) (λj=>w.length - j) 0 (Nat.zero_le _) ⟨by repeat' (first|exact trivial|exact rfl|refine And.intro ?_ ?_),⟨rfl,rfl,rfl,rfl,trivial⟩⟩ ?_
 rintro j hj
 ((conv=>whnf);repeat ((first|(intro hq;try simp only [lnS]at hq)|refine sI ?_|refine .intro _ (.intro rfl ?_));(conv=>whnf)))
 refine aB (λh1=> ?_) (λh1=> ?_)
 ·have hjl:j < w.length:=by omega
  have hrow:=aB1 hjl
  obtain⟨i1,i2⟩:=hin _ (List.getElem_mem hjl)
  have hpk:iV l (w.take (j+1))=iV l (w.take j)++[xJ l w[j]]:=by
   unfold iV
   rw [List.take_succ_eq_append_getElem hjl,List.map_append];rfl
  have hrow2:(l.map axR)[w[j].toNat]? =some (axR (xJ l w[j])):=by
   have hk:w[j].toNat < l.length:=by omega
   rw [List.getElem?_map,List.getElem?_eq_getElem hk]
   unfold xJ
   rw [List.getElem?_eq_getElem hk];rfl
  have hPl:((iV l (w.take j)).map axR).length=j:=by unfold iV;rw [List.length_map,List.length_map,List.length_take];omega
  have hb63:((iV l (w.take j)).map axR).length+1<=9223372036854775807:=by rw [hPl];omega
  have hb48:(((iV l (w.take j)).map axR).length+1)* 216<=140737488355328:=by rw [hPl];omega
  have hil:w[j].toNat < (l.map axR).length:=by rw [List.length_map];omega
  generalize xJ l w[j]=x at *
  generalize iV l (w.take j)=P at *
  generalize w[j]=i at *
  ((conv=>whnf);repeat ((first|(refine⟨_,hrow, ?_⟩)|(intro hq;try simp only [lnS]at hq)|refine sI ?_|refine .intro _ (.intro rfl ?_));(conv=>whnf)))
  refine fR hty [0,1,2,3,4,5,6,7,8,9,10] (by kernel_rfl) (by kernel_rfl) ?_
  ((conv=>whnf);repeat ((first|(refine And.intro i1 ?_)|(refine And.intro hil ?_)|(refine⟨_,hrow2, ?_⟩)|(refine And.intro hb63 ?_)|(refine And.intro hb48 ?_)|(intro hq;try simp only [lnS]at hq)|refine sI ?_|refine .intro _ (.intro rfl ?_));(conv=>whnf)))
  refine⟨j+1,by omega,by dsimp only;omega, ?_⟩
  dsimp only
  rw [hpk,List.map_append,List.length_append]
  exact⟨by repeat' (first|exact trivial|exact rfl|refine And.intro ?_ ?_),⟨rfl,rfl,rfl,rfl,trivial⟩⟩
 ·have hjl:j=w.length:=by omega
  subst hjl
  rw [List.take_length]
  ((conv=>whnf);repeat' ((first|(intro hq;(try simp only [lnS]at hq);(try rewrite [List.length_map]))|refine sJ ?_|refine .intro _ (.intro rfl ?_)|refine exL (k:= ?_)|refine dwR ?_|((first|refine aB ?_ ?_|refine aC ?_ ?_)<;>intro hb<;>(first|exact ddX hb|try simp only [lnS]at hb))|(refine aA ?_ ?_<;>intro hb<;>try exact dsX hb))<;>(conv=>whnf)))
  exact xD _ _
end Go.Proofs.YtfhoddcminbffaaGreatDoor
namespace Go.Proofs.YtfhoddcminbffaaGreatDoor
open Go.Proofs
set_option maxRecDepth 10000
theorem Tri.aggB {P:Program}{f:FuncId}{cs:List SV}{ds ds':List D}{hp:Hp}{post:SV->Prop}(h:Tri P f [.d (.agg ds)] hp post) (hx:aR3 cs=some ds') (hw:aKs ds' ds):Tri P f [.agg cs] hp post:=by
 unfold Tri at h |-
 intro w ρ vs a b c
 refine h w ρ vs a ⟨b.1,λj s v hs hv=> ?_⟩ c
 match j,hs with
 | 0,hs=>
  injection hs with hs;subst hs
  obtain⟨us,rfl,e1,e2⟩:=(b.2 0 _ v rfl hv).agg_inv
  obtain⟨l1,l2⟩:=aBo hx
  refine .d _ _ (aA0 (a:= .agg ds') (.agg ds' us (by rw [e1,l1]) λj x v hx' hv'=> ?_) _ (by simpa [WkD]using hw))
  obtain⟨s,hs,hd⟩:=l2 j x hx'
  exact aE4 hd (e2 j s v hs hv')
theorem Tri.oslB {P:Program}{f:FuncId}{id z:Nat}{rows rows':List (List D)}{hp:Hp}{post:SV->Prop}(h:Tri P f [.d (.sl z rows')] hp post) (hw:aOa rows rows'):Tri P f [.osl id z rows] hp post:=by
 unfold Tri at h |-
 intro w ρ vs a b c
 refine h w ρ vs a ⟨b.1,λj s v hs hv=> ?_⟩ c
 match j,hs with
 | 0,hs=>
  injection hs with hs;subst hs
  exact .d _ _ (aA0 (b.2 0 _ v rfl hv).osl_inv.1 _ (by simpa [WkD]using hw))
theorem Tri.oslB2 {P:Program}{f:FuncId}{s0:SV}{id z:Nat}{rows rows':List (List D)}{hp:Hp}{post:SV->Prop}(h:Tri P f [s0, .d (.sl z rows')] hp post) (hw:aOa rows rows'):Tri P f [s0, .osl id z rows] hp post:=by
 unfold Tri at h |-
 intro w ρ vs a b c
 refine h w ρ vs a ⟨b.1,λj s v hs hv=> ?_⟩ c
 match j,hs with
 | 0,hs=>exact b.2 0 s v hs hv
 | 1,hs=>
  injection hs with hs;subst hs
  exact .d _ _ (aA0 (b.2 1 _ v rfl hv).osl_inv.1 _ (by simpa [WkD]using hw))
attribute [local irreducible] aM aJ Tri aH YVC dI bI
def lkA:Ax:=⟨9,false,c0,c0,[],[114],[97],[98]⟩
def lkO:Ax:=⟨9,true,c0,c0,[],[114],[97],[98]⟩
def rfA:Ax:=⟨7,false,c0,c0,[],[114],[],[]⟩
theorem aT6:aS lkA=(lkA,0):=by kernel_rfl
theorem aUq:aS lkO=(lkO,0):=by kernel_rfl
theorem aUp:aS rfA=(rfA,0):=by kernel_rfl
theorem aW0:jV [lkA,lkO,lkA]=[lkO]:=by kernel_rfl
theorem aVd:aQ lkA lkA=0:=by kernel_rfl
theorem aTx:aQ lkA lkO=0:=by kernel_rfl
theorem aVc:aQ lkO lkA=0:=by kernel_rfl
theorem aMn:¬ jO (ET []):=by
 rintro⟨L,w,t,h⟩
 obtain⟨i,hi,_⟩:=h.strict
 cases h.edge i hi
theorem ok2 : aY [lkO] = 0 := (cJ _).2 ⟨λx hx => by simp at hx; subst hx; exact aUq, by simp, by decide, λx hx _ => by simp at hx; subst hx; rfl, by
 have e:cQ [lkO]=[]:=by kernel_rfl
 rw [e];exact aMn⟩
theorem aW8:aY [lkA,lkA]=70:=by
 have h1:fJ [lkA,lkA]=0:=(gI _).2 λx hx=>by simp at hx;subst hx;exact aT6
 have h2:fA [lkA,lkA]=false:=by kernel_rfl
 unfold aY
 rw [if_neg (by rw [h1];simp),if_pos h2]
theorem aVs:aY [rfA]=71:=by
 have h1:fJ [rfA]=0:=(gI _).2 λx hx=>by simp at hx;subst hx;exact aUp
 have h2:fA [rfA]=true:=rfl
 unfold aY
 rw [if_neg (by rw [h1];simp),if_neg (by rw [h2];simp),if_neg (by decide),if_pos (by kernel_rfl)]
theorem aVz:lE [lkA,lkO,lkA]=([lkO],0):=by
 have h1:nH [lkA,lkO,lkA]=[lkA,lkO,lkA]:=by unfold nH;simp [aT6,aUq]
 have h2:aKr [lkA,lkO,lkA]=[lkO]:=by
  rw [<-aB5 (.refl [lkA,lkO,lkA]) (by simp [aVd,aTx,aVc]),aW0]
 have h3:aLc [lkA,lkO,lkA]=0:=(nI _).2 λx hx=>by
  simp at hx
  rcases hx with rfl|rfl|rfl
  ·rw [aT6]
  ·rw [aUq]
  ·rw [aT6]
 unfold lE
 rw [if_neg (by rw [h3];simp),h1,h2,if_neg (by rw [ok2];simp)]
theorem aVy:lE [rfA]=([],71):=by
 have h1:nH [rfA]=[rfA]:=by unfold nH;simp [aUp]
 have h2:aKr [rfA]=[rfA]:=by
  rw [<-aB5 (.refl [rfA]) (by simp)];rfl
 have h3:aLc [rfA]=0:=(nI _).2 λx hx=>by simp at hx;subst hx;rw [aUp]
 unfold lE
 rw [if_neg (by rw [h3];simp),h1,h2,if_pos (by rw [aVs];simp),aVs]
theorem aW5:xP [lkO] lkA=(0,true):=by
 unfold xP
 rw [aT6,if_neg (by simp)]
 have:xO lkA [lkO]=some 0:=by unfold xO;simp [List.findIdx?_cons,aTx]
 rw [this];rfl
theorem aTw:aQ lkO lkO=0:=by kernel_rfl
theorem aW1:aKp kfM [lkO] [lkO]=([],0):=by
 have h:dF [lkO] [lkO]=0:=by unfold dF;rw [if_neg (by rw [ok2];simp),ok2]
 unfold aKp
 rw [if_neg (by rw [h];simp)]
 have e:kQ lkO [lkO]=[lkO]:=by rw [kQ,if_neg (by rw [aTw];decide)]
 have e2:aMb lkO [lkO]=some lkO:=by
  show (if aQ lkO lkO=0 then some lkO else none)=some lkO
  rw [if_pos aTw]
 rw [mV,e,e2];rfl
theorem aW2:pV [lkO] [0,0]=([],1):=by
 unfold pV
 rw [if_neg (by rw [ok2];simp),if_pos (by kernel_rfl)]
def aPt (o:Bool):List D:=[.int .i64 9, .bool o, .int .i64 0, .str [], .int .i64 0, .int .i64 0, .nil, .int .i64 0, .str [], .int .i64 0, .int .i64 0, .nil, .nil, .str [114], .str [97], .str [98]]
def aUt:List D:=[.int .i64 7, .bool false, .int .i64 0, .str [], .int .i64 0, .int .i64 0, .nil, .int .i64 0, .str [], .int .i64 0, .int .i64 0, .nil, .nil, .str [114], .str [], .str []]
theorem rR:Tri Tryz.prog 17 [] NG (λr=>r= .d (.bool true)):=by
 have k1:=tN [lkA,lkO,lkA] (by decide)
 rw [aVz]at k1
 have k1:= λ(id:Nat)=>Tri.oslB (id:=id) (rows:=[aPt false,aPt true,aPt false]) k1 (by repeat' (first|exact trivial|exact rfl|refine And.intro ?_ ?_))
 have k2:=tN [rfA] (by decide)
 rw [aVy]at k2
 have k2:= λ(id:Nat)=>Tri.oslB (id:=id) (rows:=[aUt]) k2 (by repeat' (first|exact trivial|exact rfl|refine And.intro ?_ ?_))
 have k3:=aDe [lkO] lkA (λx hx=>by simp at hx;subst hx;exact pG (by kernel_rfl))
 rw [aW5]at k3
 have k3:=Tri.weakD (ps:=[.d (hZ [lkO]), .d (.agg (aPt false))]) k3 (by repeat' (first|exact trivial|exact rfl|refine And.intro ?_ ?_))
 have k4:=yV [lkO] [lkO]
 rw [aW1]at k4
 have k5:=aD2 [lkO] [0,0] (by decide)
 rw [aW2]at k5
 have k5:= λ(id:Nat)=>Tri.oslB2 (id:=id) (rows:=[[.int .i64 0],[.int .i64 0]]) k5 (by repeat' (first|exact trivial|exact rfl|refine And.intro ?_ ?_))
 have k6:=eN [lkA,lkA]
 rw [aW8]at k6
 have k7:=eN [lkO]
 rw [ok2]at k7
 refine aC0 100 false [1,3,5,9,11] hty Tryz.func17 rfl (kp [0,1,2,3,4,6,7,8,9,10,12]) [] _ _ _ (by simp [Tryz.f17]) (by decide) ?_
 ((conv=>whnf);repeat ((first|(intro hq;try simp only [lnS]at hq)|refine sI ?_|refine .intro _ (.intro rfl ?_));(conv=>whnf)))
 refine aD NG (k1 _) ⟨rfl,rfl,trivial⟩ (λr hs=> ?_)
 subst hs
 ((conv=>whnf);repeat ((first|(intro hq;try simp only [lnS]at hq)|refine sI ?_|refine .intro _ (.intro rfl ?_));(conv=>whnf)))
 refine aD NG (k2 _) ⟨rfl,rfl,trivial⟩ (λr hs=> ?_)
 subst hs
 ((conv=>whnf);repeat ((first|(intro hq;try simp only [lnS]at hq)|refine sI ?_|refine .intro _ (.intro rfl ?_));(conv=>whnf)))
 refine aD NG k3 ⟨rfl,rfl,trivial⟩ (λr hs=> ?_)
 subst hs
 ((conv=>whnf);repeat ((first|(intro hq;try simp only [lnS]at hq)|refine sI ?_|refine .intro _ (.intro rfl ?_));(conv=>whnf)))
 refine aD NG k4 ⟨rfl,rfl,trivial⟩ (λr hs=> ?_)
 subst hs
 ((conv=>whnf);repeat ((first|(intro hq;try simp only [lnS]at hq)|refine sI ?_|refine .intro _ (.intro rfl ?_));(conv=>whnf)))
 refine aD NG (k5 _) ⟨rfl,rfl,trivial⟩ (λr hs=> ?_)
 subst hs
 ((conv=>whnf);repeat ((first|(intro hq;try simp only [lnS]at hq)|refine sI ?_|refine .intro _ (.intro rfl ?_));(conv=>whnf)))
 ((conv=>whnf);repeat' ((first|(intro hq;(try simp only [lnS]at hq);(try rewrite [List.length_map]))|refine sJ ?_|refine .intro _ (.intro rfl ?_)|refine exL (k:= ?_)|(refine aD NG (Tri.aggB k6 rfl (by repeat' (first|exact trivial|exact rfl|refine And.intro ?_ ?_))) ⟨rfl,rfl,trivial⟩ (λr hs=> ?_);subst hs)|(refine aD NG k7 ⟨rfl,rfl,trivial⟩ (λr hs=> ?_);subst hs)|refine dwR ?_|((first|refine aB ?_ ?_|refine aC ?_ ?_)<;>intro hb<;>(first|exact ddX hb|try simp only [lnS]at hb))|(refine aA ?_ ?_<;>intro hb<;>try exact dsX hb))<;>(conv=>whnf)))
 rfl
end Go.Proofs.YtfhoddcminbffaaGreatDoor
namespace Go.Proofs.YtfhoddcminbffaaGreatDoor
open Go.Proofs
set_option maxRecDepth 10000
theorem Tri.oslH {P:Program}{f:FuncId}{id z:Nat}{rows:List (List D)}{hp:Hp}{post:SV->Prop}(h:Tri P f [.d (.sl z rows)] hp post):Tri P f [.osl id z rows] hp post:=by
 unfold Tri at h |-
 intro w ρ vs a b c
 refine h w ρ vs a ⟨b.1,λj s v hs hv=> ?_⟩ c
 match j,hs with
 | 0,hs=>
  injection hs with hs;subst hs
  exact .d _ _ (b.2 0 _ v rfl hv).osl_inv.1
attribute [local irreducible] aM aJ Tri aH YVC dI bI
theorem aMo (l:List Ax): ∀x∈(lE l).1,SmA x:=by
 intro x hx
 by_cases h:(lE l).2=0
 ·obtain⟨_,hB,_⟩:=aQq h
  exact pG (cP (by rw [hB.tidy x hx]))
 ·rw [aMp h]at hx;cases hx
end Go.Proofs.YtfhoddcminbffaaGreatDoor
namespace Go.Proofs.YtfhoddcminbffaaGreatDoor
open Go.Proofs
def kO (x:Ax) (b:List Ax):Option Ax:=b.find? λy=>decide (aQ y x=0)
theorem aKa {x:Ax}{b:List Ax}:kO x b=none↔ ∀y∈b,aQ y x≠0:=by
 unfold kO;rw [List.find?_eq_none];simp
theorem yO {x:Ax}: ∀{b:List Ax},xA b->aMb x (kQ x b)=kO x b
 | [],_=>rfl
 |y::r,h=>by
  obtain⟨h1,h2⟩:=List.pairwise_cons.1 h
  by_cases hy:aQ y x < 0
  ·rw [kQ,if_pos hy,yO h2]
   unfold kO
   rw [List.find?_cons_of_neg (by simp;omega)]
  ·rw [kQ,if_neg hy]
   show (if aQ y x=0 then some y else none)=_
   by_cases h0:aQ y x=0
   ·rw [if_pos h0]
    unfold kO
    rw [List.find?_cons_of_pos (by simpa using h0)]
   ·rw [if_neg h0]
    refine(aKa.2 λz hz=> ?_).symm
    rcases List.mem_cons.1 hz with rfl|hz
    ·exact h0
    ·intro e
     have h3:=h1 z hz
     have h4:aQ y x < 0:=by rw [<-gZ rfl (bO.1 e)];exact h3
     exact hy h4
theorem zJ {x x':Ax}(h:aQ x x' < 0): ∀(b:List Ax),kO x' (kQ x b)=kO x' b
 | []=>rfl
 |y::r=>by
  rw [kQ]
  split
  ·rename_i hy
   rw [zJ h r]
   unfold kO
   have:=lL hy h
   rw [List.find?_cons_of_neg (by simp;omega)]
  ·rfl
theorem aDj {x:Ax}: ∀{b:List Ax},xA b->xA (kQ x b)
 | [],h=>h
 |y::r,h=>by
  rw [kQ]
  split
  ·exact aDj (List.pairwise_cons.1 h).2
  ·exact h
theorem aBj (kf:Ax->Option Ax->Ax×Bool): ∀{a b:List Ax},xA a->xA b->mV kf a b=a.flatMap λx=>pU (kf x (kO x b))
 | [],b,_,_=>rfl
 |x::a,b,ha,hb=>by
  obtain⟨h1,h2⟩:=List.pairwise_cons.1 ha
  rw [mV,yO hb,aBj kf h2 (aDj hb),List.flatMap_cons]
  congr 1
  have: ∀x'∈a,pU (kf x' (kO x' (kQ x b)))=pU (kf x' (kO x' b)):= λx' hx'=>by rw [zJ (h1 x' hx')]
  have key: ∀l:List Ax,(∀x'∈l,pU (kf x' (kO x' (kQ x b)))=pU (kf x' (kO x' b)))->l.flatMap (λx'=>pU (kf x' (kO x' (kQ x b))))=l.flatMap λx'=>pU (kf x' (kO x' b)):=by
   intro l
   induction l with
   |nil=>intro _;rfl
   |cons z r ih=>
    intro h
    rw [List.flatMap_cons,List.flatMap_cons,h z (by simp),ih λy hy=>h y (List.mem_cons_of_mem _ hy)]
  exact key a this
theorem BaseOk.sub {l m:List Ax}(h:BaseOk l) (hm: ∀x∈m,x∈l) (hs:xA m) (hl:m.length<=1024):BaseOk m where
 tidy:= λx hx=>h.tidy x (hm x hx)
 str:=hs
 few:=hl
 open_:= λx hx=>h.open_ x (hm x hx)
 circ:= λhc=>h.circ (aSf (λx hx=>⟨x,hm x hx,dA x⟩) hc)
theorem BaseOk.sublist {l m:List Ax}(h:BaseOk l) (hm:m.Sublist l):BaseOk m:=
 h.sub (λx hx=>hm.subset hx) (h.str.sublist hm) (Nat.le_trans hm.length_le h.few)
theorem BaseOk.zero {l:List Ax}(h:BaseOk l):aY l=0:=(cJ l).2 h
end Go.Proofs.YtfhoddcminbffaaGreatDoor
namespace Go.Proofs.YtfhoddcminbffaaGreatDoor
open Go.Proofs
set_option maxRecDepth 10000
attribute [local irreducible] aM aJ Tri aH YVC dI bI
theorem zK {l:List Ax}(h:aBv [l]=true):l.length<=14/\ ∀x∈l,SmA x:=by
 unfold aBv at h
 simp only [List.all_cons,List.all_nil,Bool.and_true,Bool.and_eq_true,decide_eq_true_eq,List.all_eq_true]at h
 refine⟨by omega,λx hx=> ?_⟩
 obtain⟨h1,h2,h3⟩:=aNl (h.2 x hx)
 exact⟨by omega,by omega,by omega⟩
theorem aTg:BaseOk []:=⟨by simp, .nil,by simp,by simp,aMn⟩
theorem aPo (l:List Ax):aY (lE l).1=0:=by
 by_cases h:(lE l).2=0
 ·exact(aQq h).2.1.zero
 ·rw [aMp h];exact aTg.zero
theorem aCp (l:List Ax) (hsz: ∀x∈l,SzAx x):Tri Tryz.prog 4 [.d (.sl 16 (l.map axR))] NG (λr=>r= .d (.bool true)):=by
 have cf:=wP [l] (λm hm=>by simp at hm;subst hm;exact hsz)
 have cf:= λ(id:Nat)=>Tri.osl (id:=id) cf
 have hfl:=zK (l:=l)
 generalize aBv [l]=few at *
 refine aF false [3,5,7] hty Tryz.func4 rfl (kp [0,2,3,4,5,6,7,9,13]) [] _ _ _ (by simp [Tryz.f4]) (by decide) ?_
 ((conv=>whnf);repeat ((first|(intro hq;try simp only [lnS]at hq)|refine sI ?_|refine .intro _ (.intro rfl ?_));(conv=>whnf)))
 refine aD NG rR ⟨rfl,rfl,trivial⟩ (λr hs=> ?_)
 subst hs
 ((conv=>whnf);repeat ((first|(intro hq;try simp only [lnS]at hq)|refine sI ?_|refine .intro _ (.intro rfl ?_));(conv=>whnf)))
 refine aD [] (cf _) trivial (λr hs=> ?_)
 subst hs
 cases few
 ·((conv=>whnf);repeat' ((first|(intro hq;(try simp only [lnS]at hq);(try rewrite [List.length_map]))|refine sJ ?_|refine .intro _ (.intro rfl ?_)|refine exL (k:= ?_)|refine dwR ?_|((first|refine aB ?_ ?_|refine aC ?_ ?_)<;>intro hb<;>(first|exact ddX hb|try simp only [lnS]at hb))|(refine aA ?_ ?_<;>intro hb<;>try exact dsX hb))<;>(conv=>whnf)))
  rfl
 obtain⟨hl,hs⟩:=hfl rfl
 clear cf hfl
 have c1:=tN l (by omega)
 have c2:=yJ l hs (by omega)
 have cS:=eJ (lE l).1 (lE l).1 (aMo l) (aMo l)
 rw [lH.2 rfl]at cS
 have c3:=eN l
 have c4:=gX l hs (by omega)
 have c5:=eN (lE l).1
 rw [aPo]at c5
 generalize (lE l).1=b1 at *
 generalize (lE l).2=e1 at *
 generalize aY l=e2 at *
 ((conv=>whnf);repeat ((first|(refine aD NG c1 ⟨rfl,rfl,trivial⟩ (λr hs=> ?_);subst hs)|(refine aD [] c2 trivial (λr hs=> ?_);subst hs)|(intro hq;try simp only [lnS]at hq)|refine sI ?_|refine .intro _ (.intro rfl ?_));(conv=>whnf)))
 refine dwR ?_
 ((conv=>whnf);repeat ((first|(refine⟨.d (.bool _),_,[],rfl,trivial,cS, ?_⟩)|(intro hq;try simp only [lnS]at hq)|refine sI ?_|refine .intro _ (.intro rfl ?_));(conv=>whnf)))
 ((conv=>whnf);repeat' ((first|(intro hq;(try simp only [lnS]at hq);(try rewrite [List.length_map]))|refine sJ ?_|refine .intro _ (.intro rfl ?_)|refine exL (k:= ?_)|(refine⟨.d (.int .i64 _),_,NG,rfl,⟨rfl,rfl,trivial⟩,c3, ?_⟩)|(refine⟨.d (.int .i64 _),_,[],rfl,trivial,c4, ?_⟩)|(refine⟨.d (.int .i64 _),_,NG,rfl,⟨rfl,rfl,trivial⟩,c5, ?_⟩)|refine dwR ?_|((first|refine aB ?_ ?_|refine aC ?_ ?_)<;>intro hb<;>(first|exact ddX hb|try simp only [lnS]at hb))|(refine aA ?_ ?_<;>intro hb<;>try exact dsX hb))<;>(conv=>whnf)))
 all_goals first|rfl|exact absurd rfl (by assumption)|(refine aX ?_;simp)
end Go.Proofs.YtfhoddcminbffaaGreatDoor
