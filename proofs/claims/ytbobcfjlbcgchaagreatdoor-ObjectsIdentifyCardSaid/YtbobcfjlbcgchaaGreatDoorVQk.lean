/-
  The library's stable sort at rows that may be written: merging in place. slices.BinarySearch over strings. The keys of a map, collected and sorted: maps.Keys, slices.AppendSeq, slices.Collect, slices.Sorted.
  Conditions: none.
-/
import Derived.Test.YtbobcfjlbcgchaaGreatDoorVQs
import Derived.Test.YtbobcfjlbcgchaaGreatDoorVQf
import Derived.Test.YtbobcfjlbcgchaaGreatDoorVOf
import Derived.Test.YtbobcfjlbcgchaaGreatDoorVAp
set_option linter.unnecessarySimpa false
set_option linter.unusedSectionVars false
set_option linter.unusedSimpArgs false
set_option linter.unusedVariables false
set_option maxHeartbeats 16000000
namespace Go.Proofs.YtbobcfjlbcgchaaGreatDoor
open Go.Proofs
set_option maxRecDepth 10000
attribute [local irreducible] aJ aF Tri aG YVC bS aQ
theorem aYm (i j:Nat):Int.fdiv (IntKind.u64.wrap ((i:Int)+(j:Int))) (2 ^ min (Int.toNat 1) IntKind.u64.bits)=((i+j) / 2:Nat)\/18446744073709551616<=i+j:=by
 by_cases h:i+j < 18446744073709551616
 ·left
  have e:IntKind.u64.wrap ((i:Int)+(j:Int))=((i+j:Nat):Int):=by
   rw [IntKind.wrap_u64];omega
  rw [e]
  show Int.fdiv ((i+j:Nat):Int) 2=_
  rw [Int.fdiv_eq_ediv_of_nonneg _ (by omega)]
  omega
 ·right;omega
theorem aDa {i j:Nat}(h:i+j<=4000000):IntKind.i64.wrap (Int.fdiv (IntKind.u64.wrap ((i:Int)+(j:Int))) (2 ^ min (Int.toNat 1) IntKind.u64.bits))=(((i+j) / 2:Nat):Int):=by
 rw [(aYm i j).resolve_right (by omega),IntKind.wrap_i64];omega
theorem aGl {Pr A R L:List SAx}(hL:L=Pr++(A++R)) {k:Nat}{x:SAx}(hx:A[k]? =some x) {i:Nat}(hi:i=Pr.length+k):(L.map saR)[i]? =some (saR x):=by
 subst hL;subst hi
 rw [List.getElem?_map,List.getElem?_append_right (by omega),show Pr.length+k - Pr.length=k by omega,List.getElem?_append_left (List.getElem?_eq_some_iff.1 hx).1,hx];rfl
theorem aJe {g:FuncId}{cf:SAx->SAx->Int}(G:CmpG g cf) (Pr:List SAx) (x:SAx) (B Q:List SAx) (hB:Srt cf B) {L:List SAx}(hL:L=Pr++(x::(B++Q))) (hl:L.length<=1000000) {n:Nat}{a m b:Int}(hn:n=L.length) (ha:a=(Pr.length:Nat)) (hm:m=(Pr.length+1:Nat)) (hb:b=(Pr.length+1+B.length:Nat)) (cap:Nat) (rest:Hp) {pin:Pin}{fr:Fr}{K:SV->Hp->Prop}
  (fin: ∀S,S.Perm (x::B)->Srt cf S->K (cU []) ((70, .mrow 48 16 cap ((Pr++(S++Q)).map saR))::rest)):
  aF Tryz.prog pin fr ((70, .mrow 48 16 cap (L.map saR))::rest) 128 [.mw 70 16 n, .d (.int .i64 a), .d (.int .i64 m), .d (.int .i64 b), .fn g [] []] K:=by
 subst hn;subst ha;subst hb;subst hm
 have hlen:L.length=Pr.length+(1+(B.length+Q.length)):=by rw [hL];simp only [List.length_append,List.length_cons];omega
 have hrx:(L.map saR)[((Pr.length:Nat):Int).toNat]? =some (saR x):=fU hL (by omega)
 have hMl:(L.map saR).length=L.length:=List.length_map ..
 have hrB: ∀(k:Nat) (y:SAx),B[k]? =some y-> ∀i:Nat,i=Pr.length+1+k->(L.map saR)[((i:Nat):Int).toNat]? =some (saR y):= λk y hy i hi=>
  aGl (Pr:=Pr++[x]) (A:=B) (R:=Q) (by rw [hL];simp) hy (by rw [Int.toNat_natCast,hi];simp)
 generalize hN:L.length=N at *
 refine dR hty Tryz.func128 rfl (kp [0,1,2,3,4,10,11,12,13,14,15,16,17,18,19,20,21,22,23,24,28,33,50,58,80,85,103,110,140,151,171,185,199,213]) 500 (by simp [Tryz.f128]) ?_
 ((conv=>whnf);repeat ((first|(intro hq;try simp only [lnS]at hq)|refine sI ?_|refine .intro _ (.intro rfl ?_));(conv=>whnf)))
 refine aA (λh1=> ?_) (λh1=> ?_)
 ·((conv=>whnf);repeat ((first|(intro hq;try simp only [lnS]at hq)|refine sI ?_|refine .intro _ (.intro rfl ?_));(conv=>whnf)))
  refine cX hty (λy:Nat×Nat=>([(0, .mw 70 16 N),(1, .d (.int .i64 (Pr.length:Nat))),(2, .d (.int .i64 (Pr.length+1:Nat))),(3, .d (.int .i64 (Pr.length+1+B.length:Nat))),(4, .fn g [] []),(10, .d (.int .i64 (y.1:Nat))),(11, .d (.int .i64 (y.2:Nat)))],(70, .mrow 48 16 cap (L.map saR))::rest))
   (λy => (Pr.length + 1 <= y.1 /\ y.1 <= y.2 /\ y.2 <= Pr.length + 1 + B.length) /\ (∀ z, Pr.length + 1 < y.1 -> B[y.1 - 1 - (Pr.length + 1)]? = some z -> cf z x < 0) /\ (∀ z, B[y.2 - (Pr.length + 1)]? = some z -> ¬ cf z x < 0)) (λy => y.2 - y.1) (Pr.length + 1, Pr.length + 1 + B.length) ⟨by dsimp only; omega, λz h => absurd h (by dsimp only; omega), λz h => by
    dsimp only at h
    rw [show Pr.length+1+B.length - (Pr.length+1)=B.length by omega,List.getElem?_eq_none (Nat.le_refl _)]at h
    cases h⟩ (by repeat' (first|exact trivial|exact rfl|exact eH (by(try dsimp only);omega)|refine And.intro ?_ ?_)) rfl ?_
  rintro⟨i,j⟩ ⟨⟨q1,q2,q3⟩,q4,q5⟩
  dsimp only at q1 q2 q3 q4 q5 |-
  have hh2:=aDa (i:=i) (j:=j) (by omega)
  ((conv=>whnf);repeat ((first|(intro hq;try simp only [lnS]at hq)|refine sI ?_|refine .intro _ (.intro rfl ?_));(conv=>whnf)))
  refine aA (λhij=> ?_) (λhij=> ?_)
  ·obtain⟨h,hh⟩: ∃h,h=(i+j) / 2:=⟨_,rfl⟩
   have hb1:i<=h/\h < j:=by omega
   obtain⟨z,hz⟩: ∃z,B[h - (Pr.length+1)]? =some z:=⟨_,List.getElem?_eq_getElem (by omega)⟩
   have hrz:=hrB _ z hz h (by omega)
   have htr:=G.tri z x
   generalize hc:cf z x=c at htr
   ((conv=>whnf);repeat ((first|(intro hq;try simp only [lnS]at hq)|refine sI ?_|refine .intro _ (.intro rfl ?_));(conv=>whnf)))
   rw [hh2,<-hh]
   ((conv=>whnf);repeat ((first|(intro hq;try simp only [lnS]at hq)|refine sI ?_|refine .intro _ (.intro rfl ?_));(conv=>whnf)))
   refine dwR ?_
   ((conv=>whnf);repeat ((first|(refine And.intro hMl.symm ?_)|(refine⟨_,hrx, ?_⟩)|(refine⟨_,hrz, ?_⟩)|(refine⟨G.call, .d (.int .i64 _),_,[],rfl,trivial,htr, ?_⟩)|(intro hq;try simp only [lnS]at hq)|refine sI ?_|refine .intro _ (.intro rfl ?_));(conv=>whnf)))
   refine aA (λh3=> ?_) (λh3=> ?_)
   ·((conv=>whnf);repeat' ((first|(intro hq;(try simp only [lnS]at hq);(try rewrite [List.length_map]))|refine sJ ?_|refine .intro _ (.intro rfl ?_)|refine exL (k:= ?_)|refine dwR ?_|((first|refine aA ?_ ?_|refine aC ?_ ?_)<;>intro hb<;>(first|exact ddX hb|try simp only [lnS]at hb))|(refine aB ?_ ?_<;>intro hb<;>try exact dsX hb))<;>(conv=>whnf)))
    refine⟨(h+1,j),⟨by dsimp only;omega,λw _ hw=> ?_,q5⟩,by dsimp only;omega,(by repeat' (first|exact trivial|exact rfl|exact eH (by(try dsimp only);omega)|refine And.intro ?_ ?_)),rfl⟩
    dsimp only at hw
    rw [show h+1 - 1 - (Pr.length+1)=h - (Pr.length+1)by omega,hz]at hw
    injection hw with hw
    subst hw
    rw [hc];exact h3
   ·((conv=>whnf);repeat' ((first|(intro hq;(try simp only [lnS]at hq);(try rewrite [List.length_map]))|refine sJ ?_|refine .intro _ (.intro rfl ?_)|refine exL (k:= ?_)|refine dwR ?_|((first|refine aA ?_ ?_|refine aC ?_ ?_)<;>intro hb<;>(first|exact ddX hb|try simp only [lnS]at hb))|(refine aB ?_ ?_<;>intro hb<;>try exact dsX hb))<;>(conv=>whnf)))
    refine⟨(i,h),⟨by dsimp only;omega,q4,λw hw=> ?_⟩,by dsimp only;omega,(by repeat' (first|exact trivial|exact rfl|exact eH (by(try dsimp only);omega)|refine And.intro ?_ ?_)),rfl⟩
    dsimp only at hw
    rw [hz]at hw
    injection hw with hw
    subst hw
    rw [hc];exact h3
  ·obtain rfl:i=j:=by omega
   obtain⟨p,hp⟩: ∃p,p=i - (Pr.length+1):=⟨_,rfl⟩
   have hip:i=Pr.length+1+p:=by omega
   subst hip
   clear hp
   have hpl:p<=B.length:=by omega
   have hfin := fin (B.take p ++ x :: B.drop p) (List.perm_middle.trans (by rw [List.take_append_drop])) (by
    have hBB:Srt cf (B.take p++B.drop p):=by rw [List.take_append_drop];exact hB
    obtain⟨a1,a2,a3⟩:=Srt.app.1 hBB
    refine Srt.app.2 ⟨a1,List.pairwise_cons.2 ⟨λy hy=> ?_,a2⟩,λu hu y hy=> ?_⟩
    ·obtain⟨k,hk,e⟩:=pN hy
     obtain⟨z,hz⟩: ∃z,B[p]? =some z:=⟨_,List.getElem?_eq_getElem (by have:=(List.getElem?_eq_some_iff.1 e).1;omega)⟩
     exact G.ord.tr _ _ _ (q5 z (by rw [show Pr.length+1+p - (Pr.length+1)=p by omega];exact hz)) (hB.le_at G.ord hk hz e)
    ·have hux:¬ cf x u < 0:=by
      obtain⟨k,hk,e⟩:=pM hu
      obtain⟨z,hz⟩: ∃z,B[p - 1]? =some z:=⟨_,List.getElem?_eq_getElem (by omega)⟩
      exact G.ord.tr _ _ _ (hB.le_at G.ord (show k<=p - 1 by omega) e hz) (G.ord.asym _ _ (q4 z (by omega) (by rw [show Pr.length+1+p - 1 - (Pr.length+1)=p - 1 by omega];exact hz)))
     rcases List.mem_cons.1 hy with rfl|hy
     ·exact hux
     ·exact a3 u hu y hy)
   clear fin q4 q5 hrx hrB hh2
   ((conv=>whnf);repeat ((first|(intro hq;try simp only [lnS]at hq)|refine sI ?_|refine .intro _ (.intro rfl ?_));(conv=>whnf)))
   refine cX hty (λt:Nat=>([(0, .mw 70 16 N),(1, .d (.int .i64 (Pr.length:Nat))),(4, .fn g [] []),(10, .d (.int .i64 (Pr.length+1+p:Nat))),(13, .d (.int .i64 (Pr.length+t:Nat)))],(70, .mrow 48 16 cap (((Pr++B.take t)++x::(B.drop t++Q)).map saR))::rest)) (λt=>t<=p) (λt=>p - t) 0 (Nat.zero_le _) (by repeat' (first|exact trivial|exact rfl|exact eH (by(try dsimp only);omega)|refine And.intro ?_ ?_)) (by rw [hL];simp) ?_
   intro t ht
   dsimp only
   ((conv=>whnf);repeat ((first|(intro hq;try simp only [lnS]at hq)|refine sI ?_|refine .intro _ (.intro rfl ?_));(conv=>whnf)))
   refine aA (λh2=> ?_) (λh2=> ?_)
   ·have htB:t < B.length:=by omega
    obtain⟨y,hy⟩: ∃y,y=B[t]:=⟨_,rfl⟩
    have hdB:B.drop t=y::B.drop (t+1):=by rw [hy];exact List.drop_eq_getElem_cons htB
    have htk:B.take (t+1)=B.take t++[y]:=by rw [hy];exact List.take_succ_eq_append_getElem htB
    have hUl:(Pr++B.take t).length=Pr.length+t:=by rw [List.length_append,List.length_take];omega
    have hl1:(Pr++B.take t)++x::(B.drop t++Q)=(Pr++B.take t)++x::([]++y::(B.drop (t+1)++Q)):=by rw [hdB];rfl
    have r1:(((Pr++B.take t)++x::(B.drop t++Q)).map saR)[((Pr.length+t:Nat):Int).toNat]? =some (saR x):=fU hl1 (by rw [hUl];omega)
    have r2:(((Pr++B.take t)++x::(B.drop t++Q)).map saR)[(((Pr.length+t:Nat):Int)+1).toNat]? =some (saR y):=fU (U:=(Pr++B.take t)++[x]) (W:=B.drop (t+1)++Q) (by rw [hl1];simp) (by rw [List.length_append,hUl];simp;omega)
    have hsw: ∀p q,p=((Pr.length+t:Nat):Int).toNat->q=(((Pr.length+t:Nat):Int)+1).toNat->((((Pr++B.take t)++x::(B.drop t++Q)).map saR).set p (saR y)).set q (saR x)=((Pr++B.take (t+1))++x::(B.drop (t+1)++Q)).map saR:= λp q hp hq=>by
     rw [aH9 (x:=x) (y:=y) (i:=p) (j:=q) hl1 (by rw [hUl];omega) (by rw [hUl];simp;omega),htk]
     simp
    have hML:(((Pr++B.take t)++x::(B.drop t++Q)).map saR).length=N:=by
     simp only [List.length_map,List.length_append,List.length_cons,List.length_take,List.length_drop]
     omega
    generalize List.map saR ((Pr++B.take t)++x::(B.drop t++Q))=M0 at r1 r2 hsw hML |-
    have r3:(M0.set ((Pr.length+t:Nat):Int).toNat (saR y))[(((Pr.length+t:Nat):Int)+1).toNat]? =some (saR y):=by
     rw [List.getElem?_set_ne (by omega)];exact r2
    (conv=>whnf)
    refine fV hty [0,1,2,3,4,5,6,7,8,9,10,11,12,13,14,15,16,17] (by kernel_rfl) (by kernel_rfl) ?_
    ((conv=>whnf);repeat' ((first|(intro hq;(try simp only [lnS]at hq);(try rewrite [List.length_map]))|refine sJ ?_|refine .intro _ (.intro rfl ?_)|refine exL (k:= ?_)|(refine And.intro hML.symm ?_)|(refine And.intro ((List.length_set ..).trans hML).symm ?_)|(refine⟨_,r1, ?_⟩)|(refine⟨_,r2, ?_⟩)|(refine⟨_,r3, ?_⟩)|(refine And.intro (rE rfl) ?_)|refine dwR ?_|((first|refine aA ?_ ?_|refine aC ?_ ?_)<;>intro hb<;>(first|exact ddX hb|try simp only [lnS]at hb))|(refine aB ?_ ?_<;>intro hb<;>try exact dsX hb))<;>(conv=>whnf)))
    refine⟨t+1,by dsimp only;omega,by dsimp only;omega,(by repeat' (first|exact trivial|exact rfl|exact eH (by(try dsimp only);omega)|refine And.intro ?_ ?_)), ?_⟩
    have:=hsw _ _ rfl rfl
    show (70,HObj.mrow _ 16 cap ((M0.set ((Pr.length+t:Nat):Int).toNat (saR y)).set (((Pr.length+t:Nat):Int)+1).toNat (saR x)))::rest=_
    rw [this]
   ·have hte:t=p:=by omega
    subst hte
    ((conv=>whnf);repeat' ((first|(intro hq;(try simp only [lnS]at hq);(try rewrite [List.length_map]))|refine sJ ?_|refine .intro _ (.intro rfl ?_)|refine exL (k:= ?_)|refine dwR ?_|((first|refine aA ?_ ?_|refine aC ?_ ?_)<;>intro hb<;>(first|exact ddX hb|try simp only [lnS]at hb))|(refine aB ?_ ?_<;>intro hb<;>try exact dsX hb))<;>(conv=>whnf)))
    have e:(Pr++B.take t)++x::(B.drop t++Q)=Pr++((B.take t++x::B.drop t)++Q):=by simp
    rw [e]
    exact hfin
 ·exfalso;omega
theorem aF8 {g:FuncId}{cf:SAx->SAx->Int}(G:CmpG g cf) (Pr A:List SAx) (y:SAx) (Q:List SAx) (hA:Srt cf A) (hA1:A.length≠1) {L:List SAx}(hL:L=Pr++(A++(y::Q))) (hl:L.length<=1000000) {n:Nat}{a m b:Int}(hn:n=L.length) (ha:a=(Pr.length:Nat)) (hm:m=(Pr.length+A.length:Nat)) (hb:b=(Pr.length+A.length+1:Nat)) (cap:Nat) (rest:Hp) {pin:Pin}{fr:Fr}{K:SV->Hp->Prop}
  (fin: ∀S,S.Perm (A++[y])->Srt cf S->K (cU []) ((70, .mrow 48 16 cap ((Pr++(S++Q)).map saR))::rest)):
  aF Tryz.prog pin fr ((70, .mrow 48 16 cap (L.map saR))::rest) 128 [.mw 70 16 n, .d (.int .i64 a), .d (.int .i64 m), .d (.int .i64 b), .fn g [] []] K:=by
 subst hn;subst ha;subst hb;subst hm
 have hlen:L.length=Pr.length+(A.length+(1+Q.length)):=by rw [hL];simp only [List.length_append,List.length_cons];omega
 have hry:(L.map saR)[((Pr.length+A.length:Nat):Int).toNat]? =some (saR y):=fU (U:=Pr++A) (W:=Q) (by rw [hL];simp) (by rw [Int.toNat_natCast];simp)
 have hMl:(L.map saR).length=L.length:=List.length_map ..
 have hrA: ∀(k:Nat) (x:SAx),A[k]? =some x-> ∀i:Nat,i=Pr.length+k->(L.map saR)[((i:Nat):Int).toNat]? =some (saR x):= λk x hx i hi=>
  aGl (Pr:=Pr) (A:=A) (R:=y::Q) hL hx (by rw [Int.toNat_natCast,hi])
 generalize hN:L.length=N at *
 refine dR hty Tryz.func128 rfl (kp [0,1,2,3,4,10,11,12,13,14,15,16,17,18,19,20,21,22,23,24,28,33,50,58,80,85,103,110,140,151,171,185,199,213]) 500 (by simp [Tryz.f128]) ?_
 ((conv=>whnf);repeat ((first|(intro hq;try simp only [lnS]at hq)|refine sI ?_|refine .intro _ (.intro rfl ?_));(conv=>whnf)))
 refine aA (λh1=> ?_) (λh1=> ?_)
 ·exfalso;omega
 ((conv=>whnf);repeat ((first|(intro hq;try simp only [lnS]at hq)|refine sI ?_|refine .intro _ (.intro rfl ?_));(conv=>whnf)))
 refine aA (λh1=> ?_) (λh1=> ?_)
 ·((conv=>whnf);repeat ((first|(intro hq;try simp only [lnS]at hq)|refine sI ?_|refine .intro _ (.intro rfl ?_));(conv=>whnf)))
  refine cX hty (λz:Nat×Nat=>([(0, .mw 70 16 N),(1, .d (.int .i64 (Pr.length:Nat))),(2, .d (.int .i64 (Pr.length+A.length:Nat))),(3, .d (.int .i64 (Pr.length+A.length+1:Nat))),(4, .fn g [] []),(14, .d (.int .i64 (z.1:Nat))),(15, .d (.int .i64 (z.2:Nat)))],(70, .mrow 48 16 cap (L.map saR))::rest))
   (λz => (Pr.length <= z.1 /\ z.1 <= z.2 /\ z.2 <= Pr.length + A.length) /\ (∀ x, Pr.length < z.1 -> A[z.1 - 1 - Pr.length]? = some x -> ¬ cf y x < 0) /\ (∀ x, A[z.2 - Pr.length]? = some x -> cf y x < 0)) (λz => z.2 - z.1) (Pr.length, Pr.length + A.length) ⟨by dsimp only; omega, λz h => absurd h (by dsimp only; omega), λz h => by
    dsimp only at h
    rw [show Pr.length+A.length - Pr.length=A.length by omega,List.getElem?_eq_none (Nat.le_refl _)]at h
    cases h⟩ (by repeat' (first|exact trivial|exact rfl|exact eH (by(try dsimp only);omega)|refine And.intro ?_ ?_)) rfl ?_
  rintro⟨i,j⟩ ⟨⟨q1,q2,q3⟩,q4,q5⟩
  dsimp only at q1 q2 q3 q4 q5 |-
  have hh2:=aDa (i:=i) (j:=j) (by omega)
  ((conv=>whnf);repeat ((first|(intro hq;try simp only [lnS]at hq)|refine sI ?_|refine .intro _ (.intro rfl ?_));(conv=>whnf)))
  refine aA (λhij=> ?_) (λhij=> ?_)
  ·obtain⟨h,hh⟩: ∃h,h=(i+j) / 2:=⟨_,rfl⟩
   have hb1:i<=h/\h < j:=by omega
   obtain⟨z,hz⟩: ∃z,A[h - Pr.length]? =some z:=⟨_,List.getElem?_eq_getElem (by omega)⟩
   have hrz:=hrA _ z hz h (by omega)
   have htr:=G.tri y z
   generalize hc:cf y z=c at htr
   ((conv=>whnf);repeat ((first|(intro hq;try simp only [lnS]at hq)|refine sI ?_|refine .intro _ (.intro rfl ?_));(conv=>whnf)))
   rw [hh2,<-hh]
   ((conv=>whnf);repeat ((first|(intro hq;try simp only [lnS]at hq)|refine sI ?_|refine .intro _ (.intro rfl ?_));(conv=>whnf)))
   refine dwR ?_
   ((conv=>whnf);repeat ((first|(refine And.intro hMl.symm ?_)|(refine⟨_,hry, ?_⟩)|(refine⟨_,hrz, ?_⟩)|(refine⟨G.call, .d (.int .i64 _),_,[],rfl,trivial,htr, ?_⟩)|(intro hq;try simp only [lnS]at hq)|refine sI ?_|refine .intro _ (.intro rfl ?_));(conv=>whnf)))
   refine aC (λh3=> ?_) (λh3=> ?_)
   ·((conv=>whnf);repeat' ((first|(intro hq;(try simp only [lnS]at hq);(try rewrite [List.length_map]))|refine sJ ?_|refine .intro _ (.intro rfl ?_)|refine exL (k:= ?_)|refine dwR ?_|((first|refine aA ?_ ?_|refine aC ?_ ?_)<;>intro hb<;>(first|exact ddX hb|try simp only [lnS]at hb))|(refine aB ?_ ?_<;>intro hb<;>try exact dsX hb))<;>(conv=>whnf)))
    refine⟨(h+1,j),⟨by dsimp only;omega,λw _ hw=> ?_,q5⟩,by dsimp only;omega,(by repeat' (first|exact trivial|exact rfl|exact eH (by(try dsimp only);omega)|refine And.intro ?_ ?_)),rfl⟩
    dsimp only at hw
    rw [show h+1 - 1 - Pr.length=h - Pr.length by omega,hz]at hw
    injection hw with hw
    subst hw
    rw [hc];exact h3
   ·((conv=>whnf);repeat' ((first|(intro hq;(try simp only [lnS]at hq);(try rewrite [List.length_map]))|refine sJ ?_|refine .intro _ (.intro rfl ?_)|refine exL (k:= ?_)|refine dwR ?_|((first|refine aA ?_ ?_|refine aC ?_ ?_)<;>intro hb<;>(first|exact ddX hb|try simp only [lnS]at hb))|(refine aB ?_ ?_<;>intro hb<;>try exact dsX hb))<;>(conv=>whnf)))
    refine⟨(i,h),⟨by dsimp only;omega,q4,λw hw=> ?_⟩,by dsimp only;omega,(by repeat' (first|exact trivial|exact rfl|exact eH (by(try dsimp only);omega)|refine And.intro ?_ ?_)),rfl⟩
    dsimp only at hw
    rw [hz]at hw
    injection hw with hw
    subst hw
    rw [hc];exact h3
  ·obtain rfl:i=j:=by omega
   obtain⟨p,hp⟩: ∃p,p=i - Pr.length:=⟨_,rfl⟩
   have hip:i=Pr.length+p:=by omega
   subst hip
   clear hp
   have hpl:p<=A.length:=by omega
   have hfin := fin (A.take p ++ y :: A.drop p) (by
    refine List.perm_middle.trans ?_
    rw [List.take_append_drop]
    exact(List.perm_append_singleton y A).symm) (by
    have hAA:Srt cf (A.take p++A.drop p):=by rw [List.take_append_drop];exact hA
    obtain⟨a1,a2,a3⟩:=Srt.app.1 hAA
    refine Srt.app.2 ⟨a1,List.pairwise_cons.2 ⟨λu hu=> ?_,a2⟩,λu hu w hw=> ?_⟩
    ·obtain⟨k,hk,e⟩:=pN hu
     obtain⟨z,hz⟩: ∃z,A[p]? =some z:=⟨_,List.getElem?_eq_getElem (by have:=(List.getElem?_eq_some_iff.1 e).1;omega)⟩
     exact G.ord.tr _ _ _ (G.ord.asym _ _ (q5 z (by rw [show Pr.length+p - Pr.length=p by omega];exact hz))) (hA.le_at G.ord hk hz e)
    ·have hux:¬ cf y u < 0:=by
      obtain⟨k,hk,e⟩:=pM hu
      obtain⟨z,hz⟩: ∃z,A[p - 1]? =some z:=⟨_,List.getElem?_eq_getElem (by omega)⟩
      exact G.ord.tr _ _ _ (hA.le_at G.ord (show k<=p - 1 by omega) e hz) (q4 z (by omega) (by rw [show Pr.length+p - 1 - Pr.length=p - 1 by omega];exact hz))
     rcases List.mem_cons.1 hw with rfl|hw
     ·exact hux
     ·exact a3 u hu w hw)
   clear fin q4 q5 hry hrA hh2
   ((conv=>whnf);repeat ((first|(intro hq;try simp only [lnS]at hq)|refine sI ?_|refine .intro _ (.intro rfl ?_));(conv=>whnf)))
   refine cX hty (λt:Nat=>([(0, .mw 70 16 N),(1, .d (.int .i64 (Pr.length:Nat))),(4, .fn g [] []),(14, .d (.int .i64 (Pr.length+p:Nat))),(17, .d (.int .i64 (Pr.length+t:Nat)))],(70, .mrow 48 16 cap (((Pr++A.take t)++y::(A.drop t++Q)).map saR))::rest)) (λt=>p<=t/\t<=A.length) (λt=>t) A.length ⟨hpl,Nat.le_refl _⟩ (by repeat' (first|exact trivial|exact rfl|exact eH (by(try dsimp only);omega)|refine And.intro ?_ ?_)) (by rw [hL,List.take_length,List.drop_length];simp) ?_
   rintro t ⟨ht,htA⟩
   dsimp only
   ((conv=>whnf);repeat ((first|(intro hq;try simp only [lnS]at hq)|refine sI ?_|refine .intro _ (.intro rfl ?_));(conv=>whnf)))
   refine aA (λh2=> ?_) (λh2=> ?_)
   ·have htB:t - 1 < A.length:=by omega
    obtain⟨t,rfl⟩: ∃t',t=t'+1:=⟨t - 1,by omega⟩
    rw [Nat.add_sub_cancel]at htB
    obtain⟨x,hx⟩: ∃x,x=A[t]:=⟨_,rfl⟩
    have hdB:A.drop t=x::A.drop (t+1):=by rw [hx];exact List.drop_eq_getElem_cons htB
    have htk:A.take (t+1)=A.take t++[x]:=by rw [hx];exact List.take_succ_eq_append_getElem htB
    have hUl:(Pr++A.take t).length=Pr.length+t:=by rw [List.length_append,List.length_take];omega
    have hl1:(Pr++A.take (t+1))++y::(A.drop (t+1)++Q)=(Pr++A.take t)++x::([]++y::(A.drop (t+1)++Q)):=by rw [htk];simp
    have r1:(((Pr++A.take (t+1))++y::(A.drop (t+1)++Q)).map saR)[((Pr.length+(t+1):Nat):Int).toNat]? =some (saR y):=fU (U:=Pr++A.take (t+1)) (W:=A.drop (t+1)++Q) rfl (by rw [List.length_append,List.length_take];omega)
    have r2:(((Pr++A.take (t+1))++y::(A.drop (t+1)++Q)).map saR)[(((Pr.length+(t+1):Nat):Int) - 1).toNat]? =some (saR x):=fU hl1 (by rw [hUl];omega)
    have hsw: ∀p q,p=((Pr.length+(t+1):Nat):Int).toNat->q=(((Pr.length+(t+1):Nat):Int) - 1).toNat->((((Pr++A.take (t+1))++y::(A.drop (t+1)++Q)).map saR).set p (saR x)).set q (saR y)=((Pr++A.take t)++y::(A.drop t++Q)).map saR:= λp q hp hq=>by
     rw [aD0 (x:=x) (y:=y) (i:=q) (j:=p) hl1 (by rw [hUl];omega) (by rw [hUl];simp;omega),hdB]
     rfl
    have hML:(((Pr++A.take (t+1))++y::(A.drop (t+1)++Q)).map saR).length=N:=by
     simp only [List.length_map,List.length_append,List.length_cons,List.length_take,List.length_drop]
     omega
    generalize List.map saR ((Pr++A.take (t+1))++y::(A.drop (t+1)++Q))=M0 at r1 r2 hsw hML |-
    have r3:(M0.set ((Pr.length+(t+1):Nat):Int).toNat (saR x))[(((Pr.length+(t+1):Nat):Int) - 1).toNat]? =some (saR x):=by
     rw [List.getElem?_set_ne (by omega)];exact r2
    (conv=>whnf)
    refine fV hty [0,1,2,3,4,5,6,7,8,9,10,11,12,13,14,15,16,17] (by kernel_rfl) (by kernel_rfl) ?_
    ((conv=>whnf);repeat' ((first|(intro hq;(try simp only [lnS]at hq);(try rewrite [List.length_map]))|refine sJ ?_|refine .intro _ (.intro rfl ?_)|refine exL (k:= ?_)|(refine And.intro hML.symm ?_)|(refine And.intro ((List.length_set ..).trans hML).symm ?_)|(refine⟨_,r1, ?_⟩)|(refine⟨_,r2, ?_⟩)|(refine⟨_,r3, ?_⟩)|(refine And.intro (rE rfl) ?_)|refine dwR ?_|((first|refine aA ?_ ?_|refine aC ?_ ?_)<;>intro hb<;>(first|exact ddX hb|try simp only [lnS]at hb))|(refine aB ?_ ?_<;>intro hb<;>try exact dsX hb))<;>(conv=>whnf)))
    refine⟨t,by dsimp only;omega,by dsimp only;omega,(by repeat' (first|exact trivial|exact rfl|exact eH (by(try dsimp only);omega)|refine And.intro ?_ ?_)), ?_⟩
    have:=hsw _ _ rfl rfl
    show (70,HObj.mrow _ 16 cap ((M0.set ((Pr.length+(t+1):Nat):Int).toNat (saR x)).set (((Pr.length+(t+1):Nat):Int) - 1).toNat (saR y)))::rest=_
    rw [this]
   ·have hte:t=p:=by omega
    subst hte
    ((conv=>whnf);repeat' ((first|(intro hq;(try simp only [lnS]at hq);(try rewrite [List.length_map]))|refine sJ ?_|refine .intro _ (.intro rfl ?_)|refine exL (k:= ?_)|refine dwR ?_|((first|refine aA ?_ ?_|refine aC ?_ ?_)<;>intro hb<;>(first|exact ddX hb|try simp only [lnS]at hb))|(refine aB ?_ ?_<;>intro hb<;>try exact dsX hb))<;>(conv=>whnf)))
    have e:(Pr++A.take t)++y::(A.drop t++Q)=Pr++((A.take t++y::A.drop t)++Q):=by simp
    rw [e]
    exact hfin
 ·exfalso;omega
end Go.Proofs.YtbobcfjlbcgchaaGreatDoor
namespace Go.Proofs.YtbobcfjlbcgchaaGreatDoor
open Go.Proofs
set_option maxRecDepth 10000
attribute [local irreducible] aJ aF Tri aG YVC bS aQ
theorem wR (a:List UInt8):Tri Tryz.prog 208 [.d (.str a)] [] (λr=>r= .d (.bool false)):=by
 refine aP hty Tryz.func208 rfl (kp [0,2]) [] _ _ _ (by simp [Tryz.f208]) (by simp) ?_
 ((conv=>whnf);repeat' ((first|(intro hq;(try simp only [lnS]at hq);(try rewrite [List.length_map]))|refine sJ ?_|refine .intro _ (.intro rfl ?_)|refine exL (k:= ?_)|refine dwR ?_|((first|refine aA ?_ ?_|refine aC ?_ ?_)<;>intro hb<;>(first|exact ddX hb|try simp only [lnS]at hb))|(refine aB ?_ ?_<;>intro hb<;>try exact dsX hb))<;>(conv=>whnf)))
 all_goals first|rfl|(exact bQ (by simp))
theorem aJk (a b:List UInt8):Tri Tryz.prog 207 [.d (.str a), .d (.str b)] [] (λr=>r= .d (.bool (Op.bytesLess a b))):=by
 refine aP hty Tryz.func207 rfl (kp [0,1,4]) [] _ _ _ (by simp [Tryz.f207]) (by simp) ?_
 ((conv=>whnf);repeat' ((first|(intro hq;(try simp only [lnS]at hq);(try rewrite [List.length_map]))|refine sJ ?_|refine .intro _ (.intro rfl ?_)|refine exL (k:= ?_)|(refine aD [] (wQ _) trivial (λr hs=> ?_);subst hs)|refine dwR ?_|((first|refine aA ?_ ?_|refine aC ?_ ?_)<;>intro hb<;>(first|exact ddX hb|try simp only [lnS]at hb))|(refine aB ?_ ?_<;>intro hb<;>try exact dsX hb))<;>(conv=>whnf)))
 all_goals rfl
theorem aVx (a:List UInt8):Op.bytesLess a a=false:=by
 rw [bytesLess_eq,(dZ a a).2 rfl];rfl
theorem aVw {a b c:List UInt8}(h1:Op.bytesLess a b=true) (h2:Op.bytesLess b c=true):Op.bytesLess a c=true:=by
 rw [bytesLess_eq,decide_eq_true_eq]at *
 exact(LCk.str.t3 a b c).1 h1 h2
structure BsP (R:List (List UInt8)) (s:List UInt8) (r:SV):Prop where
 ex: ∃(n:Nat) (b:Bool),r= .tup [.d (.int .i64 n), .d (.bool b)]/\(b=true->R[n]? =some s)/\(b=false->s∉R)
theorem aDz (R:List (List UInt8)) (s:List UInt8) (hR:R.Pairwise λx y=>Op.bytesLess x y=true) (hl:R.length<=1000000):Tri Tryz.prog 164 [.d (.sl 1 (R.map eO)), .d (.str s)] [] (BsP R s):=by
 have hp:=List.pairwise_iff_getElem.1 hR
 refine aH false [] hty Tryz.func164 rfl (kp [0,1,4,5,6,7,8,9,15,27]) [] _ _ _ (by simp [Tryz.f164]) (by simp) ?_
 ((conv=>whnf);repeat ((first|(intro hq;try simp only [lnS]at hq)|refine sI ?_|refine .intro _ (.intro rfl ?_));(conv=>whnf)))
 rw [List.length_map]
 refine aK hty (λy:Nat×Nat=>([(0, .d (.sl 1 (R.map eO))),(1, .d (.str s)),(6, .d (.int .i64 R.length)),(7, .d (.int .i64 y.1)),(8, .d (.int .i64 y.2))],[])) (λy=>(y.1<=y.2/\y.2<=R.length)/\(∀(k:Nat) (h:k < R.length),k < y.1->Op.bytesLess R[k] s=true)/\(∀(k:Nat) (h:k < R.length),y.2<=k->Op.bytesLess R[k] s=false)) (λy=>y.2 - y.1) (0,R.length) ⟨by dsimp only;omega,λk h h'=>by dsimp only at h';omega,λk h h'=>by dsimp only at h';omega⟩ ⟨by repeat' (first|exact trivial|exact rfl|refine And.intro ?_ ?_),by repeat' (first|exact trivial|exact rfl|refine And.intro ?_ ?_)⟩ ?_
 rintro⟨i,j⟩ ⟨⟨q1,q2⟩,q3,q4⟩
 dsimp only at q1 q2 q3 q4 |-
 have hh2:=aDa (i:=i) (j:=j) (by omega)
 ((conv=>whnf);repeat ((first|(intro hq;try simp only [lnS]at hq)|refine sI ?_|refine .intro _ (.intro rfl ?_));(conv=>whnf)))
 refine aA (λh1=> ?_) (λh1=> ?_)
 ·obtain⟨h,hh⟩: ∃h,h=(i+j) / 2:=⟨_,rfl⟩
  have hhl:h < R.length:=by omega
  have hrow:=kO hhl
  have c:=aJk R[h] s
  have up:Op.bytesLess R[h] s=true-> ∀(k:Nat) (hk:k < R.length),k < h+1->Op.bytesLess R[k] s=true:= λe k hk hlt=>by
   by_cases hkh:k=h
   ·subst hkh;exact e
   ·exact aVw (hp k h hk hhl (by omega)) e
  have dn:Op.bytesLess R[h] s=false-> ∀(k:Nat) (hk:k < R.length),h<=k->Op.bytesLess R[k] s=false:= λe k hk hle=>by
   by_cases hkh:k=h
   ·subst hkh;exact e
   ·rw [Bool.eq_false_iff]
    intro e2
    rw [aVw (hp h k hhl hk (by omega)) e2]at e
    cases e
  generalize Op.bytesLess R[h] s=b at *
  ((conv=>whnf);repeat ((first|(intro hq;try simp only [lnS]at hq)|refine sI ?_|refine .intro _ (.intro rfl ?_));(conv=>whnf)))
  rw [hh2,<-hh]
  ((conv=>whnf);repeat ((first|(refine⟨_,hrow, ?_⟩)|(refine aD [] c trivial (λr hs=> ?_);subst hs)|(intro hq;try simp only [lnS]at hq)|refine sI ?_|refine .intro _ (.intro rfl ?_));(conv=>whnf)))
  cases b
  ·((conv=>whnf);repeat' ((first|(intro hq;(try simp only [lnS]at hq);(try rewrite [List.length_map]))|refine sJ ?_|refine .intro _ (.intro rfl ?_)|refine exL (k:= ?_)|refine dwR ?_|((first|refine aA ?_ ?_|refine aC ?_ ?_)<;>intro hb<;>(first|exact ddX hb|try simp only [lnS]at hb))|(refine aB ?_ ?_<;>intro hb<;>try exact dsX hb))<;>(conv=>whnf)))
   exact⟨(i,h),⟨by dsimp only;omega,q3,dn rfl⟩,by dsimp only;omega,⟨by repeat' (first|exact trivial|exact rfl|refine And.intro ?_ ?_),by repeat' (first|exact trivial|exact rfl|refine And.intro ?_ ?_)⟩⟩
  ·((conv=>whnf);repeat' ((first|(intro hq;(try simp only [lnS]at hq);(try rewrite [List.length_map]))|refine sJ ?_|refine .intro _ (.intro rfl ?_)|refine exL (k:= ?_)|refine dwR ?_|((first|refine aA ?_ ?_|refine aC ?_ ?_)<;>intro hb<;>(first|exact ddX hb|try simp only [lnS]at hb))|(refine aB ?_ ?_<;>intro hb<;>try exact dsX hb))<;>(conv=>whnf)))
   exact⟨(h+1,j),⟨by dsimp only;omega,up rfl,q4⟩,by dsimp only;omega,⟨by repeat' (first|exact trivial|exact rfl|refine And.intro ?_ ?_),by repeat' (first|exact trivial|exact rfl|refine And.intro ?_ ?_)⟩⟩
 ·have hij:i=j:=by omega
  subst hij
  have miss:(∀h:i < R.length,R[i]≠s)->s∉R:= λhne hm=>by
   obtain⟨k,hk,rfl⟩:=List.getElem_of_mem hm
   rcases Nat.lt_trichotomy k i with h|h|h
   ·have:=q3 k hk h;rw [aVx]at this;cases this
   ·subst h;exact hne hk rfl
   ·have h2:=q4 i (by omega) (Nat.le_refl _)
    rw [hp i k (by omega) hk h]at h2;cases h2
  by_cases hil:i < R.length
  ·have hrow:=kO hil
   have hat:R[i]? =some R[i]:=List.getElem?_eq_getElem hil
   have c1:=wR R[i]
   have c2:=wR s
   have miss2:R[i]≠s->s∉R:= λh=>miss λ_=>h
   clear miss
   generalize R[i]=x at *
   ((conv=>whnf);repeat' ((first|(intro hq;(try simp only [lnS]at hq);(try rewrite [List.length_map]))|refine sJ ?_|refine .intro _ (.intro rfl ?_)|refine exL (k:= ?_)|(refine⟨_,hrow, ?_⟩)|(refine aD [] c1 trivial (λr hs=> ?_);subst hs)|(refine aD [] c2 trivial (λr hs=> ?_);subst hs)|refine dwR ?_|((first|refine aA ?_ ?_|refine aC ?_ ?_)<;>intro hb<;>(first|exact ddX hb|try simp only [lnS]at hb))|(refine aB ?_ ?_<;>intro hb<;>try exact dsX hb))<;>(conv=>whnf)))
   all_goals first
    |(exact⟨i,true,rfl,λ_=>(by rw [hat];simp_all),λh=>(by cases h)⟩)
    |(exact⟨i,false,rfl,λh=>(by cases h),λ_=>miss2 (by assumption)⟩)
  ·((conv=>whnf);repeat' ((first|(intro hq;(try simp only [lnS]at hq);(try rewrite [List.length_map]))|refine sJ ?_|refine .intro _ (.intro rfl ?_)|refine exL (k:= ?_)|refine dwR ?_|((first|refine aA ?_ ?_|refine aC ?_ ?_)<;>intro hb<;>(first|exact ddX hb|try simp only [lnS]at hb))|(refine aB ?_ ?_<;>intro hb<;>try exact dsX hb))<;>(conv=>whnf)))
   all_goals exact⟨i,false,rfl,(λh=>by cases h),λ_=>miss (λh=>absurd h hil)⟩
end Go.Proofs.YtbobcfjlbcgchaaGreatDoor
namespace Go.Proofs.YtbobcfjlbcgchaaGreatDoor
open Go.Proofs
set_option maxRecDepth 10000
attribute [local irreducible] aJ aF Tri aG YVC bS aQ
def yB (ents:List (Byt×SV)) (i:Nat):Byt:=(ents.map (·.1)).getD i []
theorem aNa {ents:List (Byt×SV)}{i:Nat}{p:Byt×SV}(h:ents[i]? =some p):i < ents.length/\yB ents i=p.1:=by
 refine⟨(List.getElem?_eq_some_iff.1 h).1, ?_⟩
 rw [yB,List.getD,List.getElem?_map,h];rfl
structure FreeM (pin:Pin) (fr:Fr) (hp:Hp) (c d:Nat):Prop where
 p: ∀k,100<=k->k < 200->k∉pin
 f: ∀k,100<=k->k < 200->k∉eQ fr
 h: ∀k,100<=k->k < 200->k∉fG hp
 d1: ∀k,100<=k->k < 200->k≠d
 s: ∀o,jK hp ((c,o)::hp)
theorem FreeM.key {pin:Pin}{fr:Fr}{hp:Hp}{c d:Nat}(F:FreeM pin fr hp c d) {k:Nat}(h1:100<=k) (h2:k < 200) {x:Hp}(hs:jK hp x) {o:HObj}:jK hp ((k,o)::x):=
 fA hs λ_ hp e=>F.h k h1 h2 (e ▸ mM hp)
theorem aR8 (ents:List (Byt×SV)) (g:List Nat×Nat) (hlen:ents.length<=1000000) (d:Nat) (hp0:Hp) (hg:aN hp0 d=some (.ext (yJ aCa ents g.1 g.2))) {pin:Pin}{fr:Fr}{K:SV->Hp->Prop}(F:FreeM pin fr hp0 51 d) (hcd:51≠d)
  (hk: ∀(ks':List Byt) (cap:Nat),ks'.Perm (ents.map (·.1))->K (.mw 145 1 ks'.length) ((145, .mrow 9 1 cap (ks'.map eO))::(51, .cells 160 [.xv d nK])::hp0)):
  aF Tryz.prog pin fr ((51, .cells 160 [.xv d nK])::hp0) 223 [.d .nil, .fn 205 [] [.ptr 51 0]] K:=by
 have d1:=F.d1 141 (by omega) (by omega)
 have d2:=F.d1 145 (by omega) (by omega)
 have d3:=F.d1 147 (by omega) (by omega)
 have d4:=F.d1 149 (by omega) (by omega)
 have d5:=F.d1 170 (by omega) (by omega)
 have hp1:=F.p
 have hf:=F.f
 have hh:=F.h
 refine aF.weak ?_
 refine aI false [] hty Tryz.func223 rfl (kp [0,1,2,4,5,6,7]) 139 (by simp [Tryz.f223]) ?_
 ((conv=>whnf);repeat ((first|(refine And.intro (by refine⟨?_, ?_, ?_⟩<;>simp [aZ,aU,fD,bO,cT,SV.ids,SV.idsL,cV,fW,fN,fX,fY,bX,dU,hp1,hf,hh,d1,d2,d3,d4,d5]) ?_)|(refine And.intro (by simp [SV.ids,SV.idsL]) ?_)|(intro hq;try simp only [lnS]at hq)|refine sI ?_|refine .intro _ (.intro rfl ?_));(conv=>whnf)))
 refine aJ.mownC 141 145 46 9 1 0 rfl rfl (by refine⟨?_, ?_, ?_⟩<;>simp [aZ,aU,fD,bO,cT,SV.ids,SV.idsL,cV,fW,fN,fX,fY,bX,dU,hp1,hf,hh,d1,d2,d3,d4,d5]) ?_
 refine nI 149 (by refine⟨?_, ?_, ?_⟩<;>simp [aZ,aU,fD,bO,cT,SV.ids,SV.idsL,cV,fW,fN,fX,fY,bX,dU,hp1,hf,hh,d1,d2,d3,d4,d5]) trivial ?_
 ((conv=>whnf);repeat ((first|(intro hq;try simp only [lnS]at hq)|refine sI ?_|refine .intro _ (.intro rfl ?_));(conv=>whnf)))
 refine aI false [] hty Tryz.func205 rfl (kp [0,1,3,5,7,13]) 150 (by simp [Tryz.f205]) ?_
 ((conv=>whnf);repeat ((first|(refine aCj (id:=d) (ents:=ents) (bs:=g.1) (clock:=g.2) rfl rfl rfl (aO (aO (aO (aO hg hcd) d1) d2) d4) 147 (by refine⟨?_, ?_, ?_⟩<;>simp [aZ,aU,fD,bO,cT,SV.ids,SV.idsL,cV,fW,fN,fX,fY,bX,dU,hp1,hf,hh,d1,d2,d3,d4,d5]) ?_)|(intro hq;try simp only [lnS]at hq)|refine sI ?_|refine .intro _ (.intro rfl ?_));(conv=>whnf)))
 refine cX hty (λy:List Nat×Nat=>([(0, .yld 149),(5, .xv 147 aFc)],(147, .ext (aBh d g.1 g.2 y.1))::(149,_)::(145, .mrow 9 1 y.2 ((y.1.map (yB ents)).map eO))::(141, .cells 46 [.mw 145 1 y.1.length])::(51, .cells 160 [.xv d nK])::hp0)) (λy=>y.1.Nodup/\ ∀i∈y.1,i < ents.length) (λy=>ents.length - y.1.length) ([],0) ⟨.nil,by simp⟩ (by repeat' (first|exact trivial|exact rfl|refine And.intro ?_ ?_)) rfl ?_
 rintro⟨vis,cap⟩ ⟨hvn,hvl⟩
 dsimp only at hvn hvl
 have hvle:=aAi hvn hvl
 ((conv=>whnf);repeat ((first|(intro hq;try simp only [lnS]at hq)|refine sI ?_|refine .intro _ (.intro rfl ?_));(conv=>whnf)))
 refine aH0 (id:=d) (it:=147) (ents:=ents) (bs:=g.1) (clock:=g.2) (vis:=vis) (kD:=aCa) rfl rfl rfl (aO (aO (aO (aO (aO hg hcd) d1) d2) d4) d3) (λha=> ?_) (λi p hp hni=> ?_)
 ·have hperm:=aGt (l:=ents.map (·.1)) hvn (by simpa using hvl) (λi hi=>ha i (by simpa using hi)) (yB ents) (λi h=>by rw [yB,List.getD,List.getElem?_eq_getElem h];rfl)
  have hend:=hk (vis.map (yB ents)) cap hperm
  rw [List.length_map]at hend
  ((conv=>whnf);repeat ((first|(intro hq;try simp only [lnS]at hq)|refine sI ?_|refine .intro _ (.intro rfl ?_));(conv=>whnf)))
  refine aBm (hh _ (by decide) (by decide)) ?_
  ((conv=>whnf);repeat ((first|(intro hq;try simp only [lnS]at hq)|refine sI ?_|refine .intro _ (.intro rfl ?_));(conv=>whnf)))
  refine⟨_, ?_,hend⟩
  refine⟨rfl,rfl,F.key (by decide) (by decide) (F.key (by decide) (by decide) (F.key (by decide) (by decide) (F.s _)))⟩
 ·obtain⟨hil,hki⟩:=aNa hp
  have hvl2:vis.length+1<=ents.length:=by
   have h1:(vis++[i]).Nodup:=by
    rw [List.nodup_append]
    exact⟨hvn,by simp,λa ha b hb=>by simp at hb;subst hb;exact λe=>hni (e ▸ ha)⟩
   have:=aAi h1 (λj hj=>by rcases List.mem_append.1 hj with h|h;exact hvl j h;simp at h;subst h;exact hil)
   simpa using this
  have hrl:((vis.map (yB ents)).map eO).length=vis.length:=by rw [List.length_map,List.length_map]
  have hb63:((vis.map (yB ents)).map eO).length+1<=9223372036854775807:=by rw [hrl];omega
  have hb48:(((vis.map (yB ents)).map eO).length+1)* 16<=140737488355328:=by rw [hrl];omega
  ((conv=>whnf);repeat ((first|(refine aDj (id:=d) (it:=147) (i:=i) (ents:=ents) (bs:=g.1) (clock:=g.2) (vis:=vis) (kD:=aCa) rfl rfl rfl (aO (aO (aO (aO (aO hg hcd) d1) d2) d4) d3) hp ?_)|(intro hq;try simp only [lnS]at hq)|refine sI ?_|refine .intro _ (.intro rfl ?_));(conv=>whnf)))
  refine YVC.weak ?_
  refine iU [] hty (kp [0,1,2,4,5,6,7]) 160 rfl rfl ?_
  ((conv=>whnf);repeat ((first|(refine And.intro (by refine⟨?_, ?_, ?_⟩<;>simp [aZ,aU,fD,bO,cT,SV.ids,SV.idsL,cV,fW,fN,fX,fY,bX,dU,hp1,hf,hh,d1,d2,d3,d4,d5]) ?_)|(refine And.intro hrl.symm ?_)|(refine And.intro hb63 ?_)|(refine And.intro hb48 ?_)|(intro hq;try simp only [lnS]at hq)|refine sI ?_|refine .intro _ (.intro rfl ?_));(conv=>whnf)))
  rename_i cap'
  refine xH ⟨rfl,rfl,rfl,rfl,rfl,F.key (Nat.le_of_ble_eq_true rfl) (Nat.le_of_ble_eq_true rfl) (F.key (by decide) (by decide) (F.key (by decide) (by decide) (F.key (by decide) (by decide) (F.key (by decide) (by decide) (F.s _)))))⟩ ?_
  ((conv=>whnf);repeat ((first|(intro hq;try simp only [lnS]at hq)|refine sI ?_|refine .intro _ (.intro rfl ?_));(conv=>whnf)))
  have hrows:((vis++[i]).map (yB ents)).map eO=(vis.map (yB ents)).map eO++[[.str p.1]]:=by
   rw [List.map_append,List.map_append,<-hki];rfl
  have hmw:SV.mw 145 1 (vis++[i]).length=SV.mw 145 1 (((vis.map (yB ents)).map eO).length+1):=by rw [hrl,List.length_append];rfl
  refine⟨(vis++[i],cap'),⟨?_, ?_⟩, ?_,by repeat' (first|exact trivial|exact rfl|refine And.intro ?_ ?_), ?_⟩
  ·dsimp only
   rw [List.nodup_append]
   exact⟨hvn,by simp,λa ha b hb=>by simp at hb;subst hb;exact λe=>hni (e ▸ ha)⟩
  ·intro j hj
   rcases List.mem_append.1 hj with h|h
   ·exact hvl j h
   ·simp at h;subst h;exact hil
  ·dsimp only;rw [List.length_append];simp;omega
  ·dsimp only
   rw [hrows,hmw]
   rfl
theorem aPc (ents:List (Byt×SV)) (g:List Nat×Nat) (hlen:ents.length<=1000000) (d:Nat) (hp0:Hp) (hg:aN hp0 d=some (.ext (yJ aCa ents g.1 g.2))) {pin:Pin}{fr:Fr}{K:SV->Hp->Prop}(F:FreeM pin fr hp0 51 d) (hcd:51≠d)
  (hk:K (.d (.sl 1 ((jG (ents.map (·.1))).map eO))) hp0):
  aF Tryz.prog pin fr ((51, .cells 160 [.xv d nK])::hp0) 161 [.fn 205 [] [.ptr 51 0]] K:=by
 have d1:=F.d1 141 (by omega) (by omega)
 have hp1:=F.p
 have hf:=F.f
 have hh:=F.h
 refine aF.frozR ?_
 refine aI false [] hty Tryz.func161 rfl (kp [0,2,3]) 110 (by simp [Tryz.f161]) ?_
 ((conv=>whnf);repeat ((first|(intro hq;try simp only [lnS]at hq)|refine sI ?_|refine .intro _ (.intro rfl ?_));(conv=>whnf)))
 refine aI false [] hty Tryz.func204 rfl (kp [0,2]) 120 (by simp [Tryz.f204]) ?_
 ((conv=>whnf);repeat ((first|(intro hq;try simp only [lnS]at hq)|refine sI ?_|refine .intro _ (.intro rfl ?_));(conv=>whnf)))
 refine aR8 ents g hlen d hp0 hg ⟨λk hk h2=>by simp [aZ,aU,SV.ids,SV.idsL,bX,hp1 k hk h2,hf k hk h2];omega,λk hk h2=>by simp [aZ,aU,SV.ids,SV.idsL,cT,bX];omega,hh,F.d1,F.s⟩ hcd (λks' cap hperm=> ?_)
 have hpl:=hperm.length_eq
 rw [List.length_map]at hpl
 ((conv=>whnf);repeat ((first|(intro hq;try simp only [lnS]at hq)|refine sI ?_|refine .intro _ (.intro rfl ?_));(conv=>whnf)))
 refine tD Tryz.sortStr ks' rfl rfl (by omega) ?_
 have hso:(ks'.mergeSort λx y=>decide (x<=y))=jG (ents.map (·.1)):=mergeSort_of_perm hperm
 rw [hso]
 have hsl:(jG (ents.map (·.1))).length=ents.length:=by
  have:=(List.mergeSort_perm (ents.map (·.1)) λx y=>decide (x<=y)).length_eq
  rw [List.length_map]at this
  exact this
 ((conv=>whnf);repeat ((first|(intro hq;try simp only [lnS]at hq)|refine sI ?_|refine .intro _ (.intro rfl ?_));(conv=>whnf)))
 refine⟨145,_,1,cap,ks'.length,_,hp0,rfl,rfl,by rw [List.length_map,hsl];exact hpl,F.key (by decide) (by decide) (F.s _),wX (hh _ (by decide) (by decide)),hk⟩
theorem aR7 (ents:List (Byt×SV)) (g:List Nat×Nat) (hlen:ents.length<=1000000) (d:Nat) (hp0:Hp) (hg:aN hp0 d=some (.ext (yJ aCa ents g.1 g.2))) {pin:Pin}{fr:Fr}{K:SV->Hp->Prop}(F:FreeM pin fr hp0 53 d) (hcd:53≠d)
  (hk: ∀(ks':List Byt) (cap:Nat),ks'.Perm (ents.map (·.1))->K (.mw 145 1 ks'.length) ((145, .mrow 9 1 cap (ks'.map eO))::(53, .cells 209 [.xv d nK])::hp0)):
  aF Tryz.prog pin fr ((53, .cells 209 [.xv d nK])::hp0) 223 [.d .nil, .fn 206 [] [.ptr 53 0]] K:=by
 have d1:=F.d1 141 (by omega) (by omega)
 have d2:=F.d1 145 (by omega) (by omega)
 have d3:=F.d1 147 (by omega) (by omega)
 have d4:=F.d1 149 (by omega) (by omega)
 have d5:=F.d1 170 (by omega) (by omega)
 have hp1:=F.p
 have hf:=F.f
 have hh:=F.h
 refine aF.weak ?_
 refine aI false [] hty Tryz.func223 rfl (kp [0,1,2,4,5,6,7]) 139 (by simp [Tryz.f223]) ?_
 ((conv=>whnf);repeat ((first|(refine And.intro (by refine⟨?_, ?_, ?_⟩<;>simp [aZ,aU,fD,bO,cT,SV.ids,SV.idsL,cV,fW,fN,fX,fY,bX,dU,hp1,hf,hh,d1,d2,d3,d4,d5]) ?_)|(refine And.intro (by simp [SV.ids,SV.idsL]) ?_)|(intro hq;try simp only [lnS]at hq)|refine sI ?_|refine .intro _ (.intro rfl ?_));(conv=>whnf)))
 refine aJ.mownC 141 145 46 9 1 0 rfl rfl (by refine⟨?_, ?_, ?_⟩<;>simp [aZ,aU,fD,bO,cT,SV.ids,SV.idsL,cV,fW,fN,fX,fY,bX,dU,hp1,hf,hh,d1,d2,d3,d4,d5]) ?_
 refine nI 149 (by refine⟨?_, ?_, ?_⟩<;>simp [aZ,aU,fD,bO,cT,SV.ids,SV.idsL,cV,fW,fN,fX,fY,bX,dU,hp1,hf,hh,d1,d2,d3,d4,d5]) trivial ?_
 ((conv=>whnf);repeat ((first|(intro hq;try simp only [lnS]at hq)|refine sI ?_|refine .intro _ (.intro rfl ?_));(conv=>whnf)))
 refine aI false [] hty Tryz.func206 rfl (kp [0,1,3,5,7,13]) 150 (by simp [Tryz.f206]) ?_
 ((conv=>whnf);repeat ((first|(refine aCj (id:=d) (ents:=ents) (bs:=g.1) (clock:=g.2) rfl rfl rfl (aO (aO (aO (aO hg hcd) d1) d2) d4) 147 (by refine⟨?_, ?_, ?_⟩<;>simp [aZ,aU,fD,bO,cT,SV.ids,SV.idsL,cV,fW,fN,fX,fY,bX,dU,hp1,hf,hh,d1,d2,d3,d4,d5]) ?_)|(intro hq;try simp only [lnS]at hq)|refine sI ?_|refine .intro _ (.intro rfl ?_));(conv=>whnf)))
 refine cX hty (λy:List Nat×Nat=>([(0, .yld 149),(5, .xv 147 aFc)],(147, .ext (aBh d g.1 g.2 y.1))::(149,_)::(145, .mrow 9 1 y.2 ((y.1.map (yB ents)).map eO))::(141, .cells 46 [.mw 145 1 y.1.length])::(53, .cells 209 [.xv d nK])::hp0)) (λy=>y.1.Nodup/\ ∀i∈y.1,i < ents.length) (λy=>ents.length - y.1.length) ([],0) ⟨.nil,by simp⟩ (by repeat' (first|exact trivial|exact rfl|refine And.intro ?_ ?_)) rfl ?_
 rintro⟨vis,cap⟩ ⟨hvn,hvl⟩
 dsimp only at hvn hvl
 have hvle:=aAi hvn hvl
 ((conv=>whnf);repeat ((first|(intro hq;try simp only [lnS]at hq)|refine sI ?_|refine .intro _ (.intro rfl ?_));(conv=>whnf)))
 refine aH0 (id:=d) (it:=147) (ents:=ents) (bs:=g.1) (clock:=g.2) (vis:=vis) (kD:=aCa) rfl rfl rfl (aO (aO (aO (aO (aO hg hcd) d1) d2) d4) d3) (λha=> ?_) (λi p hp hni=> ?_)
 ·have hperm:=aGt (l:=ents.map (·.1)) hvn (by simpa using hvl) (λi hi=>ha i (by simpa using hi)) (yB ents) (λi h=>by rw [yB,List.getD,List.getElem?_eq_getElem h];rfl)
  have hend:=hk (vis.map (yB ents)) cap hperm
  rw [List.length_map]at hend
  ((conv=>whnf);repeat ((first|(intro hq;try simp only [lnS]at hq)|refine sI ?_|refine .intro _ (.intro rfl ?_));(conv=>whnf)))
  refine aBm (hh _ (by decide) (by decide)) ?_
  ((conv=>whnf);repeat ((first|(intro hq;try simp only [lnS]at hq)|refine sI ?_|refine .intro _ (.intro rfl ?_));(conv=>whnf)))
  refine⟨_, ?_,hend⟩
  refine⟨rfl,rfl,F.key (by decide) (by decide) (F.key (by decide) (by decide) (F.key (by decide) (by decide) (F.s _)))⟩
 ·obtain⟨hil,hki⟩:=aNa hp
  have hvl2:vis.length+1<=ents.length:=by
   have h1:(vis++[i]).Nodup:=by
    rw [List.nodup_append]
    exact⟨hvn,by simp,λa ha b hb=>by simp at hb;subst hb;exact λe=>hni (e ▸ ha)⟩
   have:=aAi h1 (λj hj=>by rcases List.mem_append.1 hj with h|h;exact hvl j h;simp at h;subst h;exact hil)
   simpa using this
  have hrl:((vis.map (yB ents)).map eO).length=vis.length:=by rw [List.length_map,List.length_map]
  have hb63:((vis.map (yB ents)).map eO).length+1<=9223372036854775807:=by rw [hrl];omega
  have hb48:(((vis.map (yB ents)).map eO).length+1)* 16<=140737488355328:=by rw [hrl];omega
  ((conv=>whnf);repeat ((first|(refine aDj (id:=d) (it:=147) (i:=i) (ents:=ents) (bs:=g.1) (clock:=g.2) (vis:=vis) (kD:=aCa) rfl rfl rfl (aO (aO (aO (aO (aO hg hcd) d1) d2) d4) d3) hp ?_)|(intro hq;try simp only [lnS]at hq)|refine sI ?_|refine .intro _ (.intro rfl ?_));(conv=>whnf)))
  refine YVC.weak ?_
  refine iU [] hty (kp [0,1,2,4,5,6,7]) 160 rfl rfl ?_
  ((conv=>whnf);repeat ((first|(refine And.intro (by refine⟨?_, ?_, ?_⟩<;>simp [aZ,aU,fD,bO,cT,SV.ids,SV.idsL,cV,fW,fN,fX,fY,bX,dU,hp1,hf,hh,d1,d2,d3,d4,d5]) ?_)|(refine And.intro hrl.symm ?_)|(refine And.intro hb63 ?_)|(refine And.intro hb48 ?_)|(intro hq;try simp only [lnS]at hq)|refine sI ?_|refine .intro _ (.intro rfl ?_));(conv=>whnf)))
  rename_i cap'
  refine xH ⟨rfl,rfl,rfl,rfl,rfl,F.key (Nat.le_of_ble_eq_true rfl) (Nat.le_of_ble_eq_true rfl) (F.key (by decide) (by decide) (F.key (by decide) (by decide) (F.key (by decide) (by decide) (F.key (by decide) (by decide) (F.s _)))))⟩ ?_
  ((conv=>whnf);repeat ((first|(intro hq;try simp only [lnS]at hq)|refine sI ?_|refine .intro _ (.intro rfl ?_));(conv=>whnf)))
  have hrows:((vis++[i]).map (yB ents)).map eO=(vis.map (yB ents)).map eO++[[.str p.1]]:=by
   rw [List.map_append,List.map_append,<-hki];rfl
  have hmw:SV.mw 145 1 (vis++[i]).length=SV.mw 145 1 (((vis.map (yB ents)).map eO).length+1):=by rw [hrl,List.length_append];rfl
  refine⟨(vis++[i],cap'),⟨?_, ?_⟩, ?_,by repeat' (first|exact trivial|exact rfl|refine And.intro ?_ ?_), ?_⟩
  ·dsimp only
   rw [List.nodup_append]
   exact⟨hvn,by simp,λa ha b hb=>by simp at hb;subst hb;exact λe=>hni (e ▸ ha)⟩
  ·intro j hj
   rcases List.mem_append.1 hj with h|h
   ·exact hvl j h
   ·simp at h;subst h;exact hil
  ·dsimp only;rw [List.length_append];simp;omega
  ·dsimp only
   rw [hrows,hmw]
   rfl
theorem aPb (ents:List (Byt×SV)) (g:List Nat×Nat) (hlen:ents.length<=1000000) (d:Nat) (hp0:Hp) (hg:aN hp0 d=some (.ext (yJ aCa ents g.1 g.2))) {pin:Pin}{fr:Fr}{K:SV->Hp->Prop}(F:FreeM pin fr hp0 53 d) (hcd:53≠d)
  (hk:K (.d (.sl 1 ((jG (ents.map (·.1))).map eO))) hp0):
  aF Tryz.prog pin fr ((53, .cells 209 [.xv d nK])::hp0) 161 [.fn 206 [] [.ptr 53 0]] K:=by
 have d1:=F.d1 141 (by omega) (by omega)
 have hp1:=F.p
 have hf:=F.f
 have hh:=F.h
 refine aF.frozR ?_
 refine aI false [] hty Tryz.func161 rfl (kp [0,2,3]) 110 (by simp [Tryz.f161]) ?_
 ((conv=>whnf);repeat ((first|(intro hq;try simp only [lnS]at hq)|refine sI ?_|refine .intro _ (.intro rfl ?_));(conv=>whnf)))
 refine aI false [] hty Tryz.func204 rfl (kp [0,2]) 120 (by simp [Tryz.f204]) ?_
 ((conv=>whnf);repeat ((first|(intro hq;try simp only [lnS]at hq)|refine sI ?_|refine .intro _ (.intro rfl ?_));(conv=>whnf)))
 refine aR7 ents g hlen d hp0 hg ⟨λk hk h2=>by simp [aZ,aU,SV.ids,SV.idsL,bX,hp1 k hk h2,hf k hk h2];omega,λk hk h2=>by simp [aZ,aU,SV.ids,SV.idsL,cT,bX];omega,hh,F.d1,F.s⟩ hcd (λks' cap hperm=> ?_)
 have hpl:=hperm.length_eq
 rw [List.length_map]at hpl
 ((conv=>whnf);repeat ((first|(intro hq;try simp only [lnS]at hq)|refine sI ?_|refine .intro _ (.intro rfl ?_));(conv=>whnf)))
 refine tD Tryz.sortStr ks' rfl rfl (by omega) ?_
 have hso:(ks'.mergeSort λx y=>decide (x<=y))=jG (ents.map (·.1)):=mergeSort_of_perm hperm
 rw [hso]
 have hsl:(jG (ents.map (·.1))).length=ents.length:=by
  have:=(List.mergeSort_perm (ents.map (·.1)) λx y=>decide (x<=y)).length_eq
  rw [List.length_map]at this
  exact this
 ((conv=>whnf);repeat ((first|(intro hq;try simp only [lnS]at hq)|refine sI ?_|refine .intro _ (.intro rfl ?_));(conv=>whnf)))
 refine⟨145,_,1,cap,ks'.length,_,hp0,rfl,rfl,by rw [List.length_map,hsl];exact hpl,F.key (by decide) (by decide) (F.s _),wX (hh _ (by decide) (by decide)),hk⟩
end Go.Proofs.YtbobcfjlbcgchaaGreatDoor
