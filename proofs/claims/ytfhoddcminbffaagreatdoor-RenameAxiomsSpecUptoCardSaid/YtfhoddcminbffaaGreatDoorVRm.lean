/-
  The library's stable sort at rows that may be written: insertion, swaps, rotation. The library's stable sort at rows that may be written: merging in place.
  Conditions: none.
-/
import Derived.Test.YtfhoddcminbffaaGreatDoorVTcr
import Derived.Test.YtfhoddcminbffaaGreatDoorVAm
import Derived.Test.YtfhoddcminbffaaGreatDoorVSw
set_option linter.unnecessarySimpa false
set_option linter.unusedSectionVars false
set_option linter.unusedSimpArgs false
set_option linter.unusedVariables false
set_option maxHeartbeats 16000000
namespace Go.Proofs.YtfhoddcminbffaaGreatDoor
open Go.Proofs
set_option maxRecDepth 10000
attribute [local irreducible] aV aM Tri aI YVC dQ bN
structure CmpG (g:FuncId) (cf:Rn->Rn->Int):Prop where
 call:cY Tryz.prog g=true
 ord:OrdC cf
 tri: ∀x y,Tri Tryz.prog g [.d (.agg (rnR x)), .d (.agg (rnR y))] [] (λr=>r= .d (.int .i64 (cf x y)))
theorem fL {l:List Rn}{U:List Rn}{x:Rn}{W:List Rn}(h:l=U++x::W) {i:Nat}(hi:i=U.length):(l.map rnR)[i]? =some (rnR x):=by
 subst h;subst hi
 rw [List.getElem?_map,aKw];rfl
theorem aB0 {l U V W:List Rn}{x y:Rn}{i j:Nat}(h:l=U++x::(V++y::W)) (hi:i=U.length) (hj:j=U.length+1+V.length):
  (((l.map rnR).set i (rnR y)).set j (rnR x))=(U++y::(V++x::W)).map rnR:=by
 subst h;subst hi;subst hj
 rw [<-List.map_set,<-List.map_set,aJ8]
theorem xO {l U V W:List Rn}{x y:Rn}{i j:Nat}(h:l=U++x::(V++y::W)) (hi:i=U.length) (hj:j=U.length+1+V.length):
  (((l.map rnR).set j (rnR x)).set i (rnR y))=(U++y::(V++x::W)).map rnR:=by
 subst h;subst hi;subst hj
 rw [<-List.map_set,<-List.map_set,aEa]
theorem eH {a b:Int}(h:a=b):Wk (.d (.int .i64 a)) (.d (.int .i64 b)):=by subst h;exact rfl
theorem qW (l:List Rn):l=[]\/ ∃S v,l=S++[v]:=by
 rcases List.eq_nil_or_concat l with h|⟨S,v,h⟩
 ·exact .inl h
 ·exact .inr ⟨S,v,by rw [h,List.concat_eq_append]⟩
theorem zS {S1 S2:List Rn}{x:Rn}{T:List Rn}(h:(S1++S2).Perm T):(S1++x::S2).Perm (T++[x]):=
 (List.perm_middle.trans (h.cons x)).trans (List.perm_append_singleton x T).symm
theorem aBx {cf:Rn->Rn->Int}(hO:OrdC cf) {S1 S2:List Rn}{x:Rn}(h:Srt cf (S1++S2)) (h2: ∀y∈S2,cf x y < 0) (h1: ∀u S,S1=S++[u]->¬ cf x u < 0):Srt cf (S1++x::S2):=by
 obtain⟨a1,a2,a3⟩:=Srt.app.1 h
 refine Srt.app.2 ⟨a1,List.pairwise_cons.2 ⟨λy hy=>hO.asym _ _ (h2 y hy),a2⟩,λu hu y hy=> ?_⟩
 have hux:¬ cf x u < 0:=by
  obtain⟨S,v,rfl⟩: ∃S v,S1=S++[v]:=by
   rcases qW S1 with rfl|⟨S,v,rfl⟩
   ·simp at hu
   ·exact⟨S,v,rfl⟩
  have hv:=h1 v S rfl
  rcases List.mem_append.1 hu with hu|hu
  ·exact hO.tr _ _ _ ((Srt.app.1 a1).2.2 u hu v (by simp)) hv
  ·simp at hu;subst hu;exact hv
 rcases List.mem_cons.1 hy with rfl|hy
 ·exact hux
 ·exact a3 u hu y hy
theorem oQ {g:FuncId}{cf:Rn->Rn->Int}(G:CmpG g cf) (Pr A Q:List Rn) {L:List Rn}(hL:L=Pr++(A++Q)) (hl:L.length<=1000000) {n:Nat}{a b:Int}(hn:n=L.length) (ha:a=(Pr.length:Nat)) (hb:b=(Pr.length+A.length:Nat)) (cap:Nat) (rest:Hp) {pin:List Nat}{fr:Fr}{K:SV->Hp->Prop}
  (fin: ∀S,S.Perm A->Srt cf S->K (cL []) ((70, .mrow 68 3 cap ((Pr++(S++Q)).map rnR))::rest)):
  aM Tryz.prog pin fr ((70, .mrow 68 3 cap (L.map rnR))::rest) 184 [.mw 70 3 n, .d (.int .i64 a), .d (.int .i64 b), .fn g [] []] K:=by
 subst hL;subst hn;subst ha;subst hb
 have hlen:(Pr++(A++Q)).length=Pr.length+(A.length+Q.length):=by rw [List.length_append,List.length_append]
 generalize hN:(Pr++(A++Q)).length=N at *
 refine dL hty Tryz.func184 rfl (kp [0,1,2,3,8,9,14,34]) 500 (by simp [Tryz.f184]) ?_
 ((conv=>whnf);repeat ((first|(intro hq;try simp only [lnS]at hq)|refine sI ?_|refine .intro _ (.intro rfl ?_));(conv=>whnf)))
 refine dE hty (λy:Nat×List Rn=>([(0, .mw 70 3 N),(1, .d (.int .i64 (Pr.length:Nat))),(2, .d (.int .i64 (Pr.length+A.length:Nat))),(3, .fn g [] []),(8, .d (.int .i64 (Pr.length+y.1:Nat)))],(70, .mrow 68 3 cap ((Pr++(y.2++(A.drop y.1++Q))).map rnR))::rest)) (λy=>(1<=y.1/\y.1<=A.length+1)/\y.2.Perm (A.take y.1)/\Srt cf y.2) (λy=>A.length+1 - y.1) (1,A.take 1) ⟨by dsimp only;omega, .refl _, ?_⟩ (by repeat' (first|exact trivial|exact rfl|exact eH (by dsimp only;omega)|refine And.intro ?_ ?_)) ?_ ?_
 ·dsimp only
  cases A with
  |nil=>exact .nil
  |cons x r=>exact List.pairwise_cons.2 ⟨by simp, .nil⟩
 ·dsimp only
  rw [<-List.append_assoc (A.take 1),List.take_append_drop]
 rintro⟨k,S⟩ ⟨⟨hk1,hk2⟩,hp,hs⟩
 dsimp only at hk1 hk2 hp hs
 have hSl:S.length=min k A.length:=by rw [hp.length_eq,List.length_take]
 ((conv=>whnf);repeat ((first|(intro hq;try simp only [lnS]at hq)|refine sI ?_|refine .intro _ (.intro rfl ?_));(conv=>whnf)))
 refine aD (λh1=> ?_) (λh1=> ?_)
 ·have hkl:k < A.length:=by omega
  obtain⟨x,hx⟩: ∃x,x=A[k]:=⟨_,rfl⟩
  have hdr:A.drop k=x::A.drop (k+1):=by rw [hx];exact List.drop_eq_getElem_cons hkl
  have htk:A.take (k+1)=A.take k++[x]:=by rw [hx];exact List.take_succ_eq_append_getElem hkl
  have hSk:S.length=k:=by omega
  rw [hdr]
  ((conv=>whnf);repeat ((first|(intro hq;try simp only [lnS]at hq)|refine sI ?_|refine .intro _ (.intro rfl ?_));(conv=>whnf)))
  refine dE hty (λz:List Rn×List Rn=>([(0, .mw 70 3 N),(1, .d (.int .i64 (Pr.length:Nat))),(2, .d (.int .i64 (Pr.length+A.length:Nat))),(3, .fn g [] []),(8, .d (.int .i64 (Pr.length+k:Nat))),(9, .d (.int .i64 (Pr.length+z.1.length:Nat)))],(70, .mrow 68 3 cap (((Pr++z.1)++x::(z.2++(A.drop (k+1)++Q))).map rnR))::rest)) (λz=>(z.1++z.2).Perm (A.take k)/\Srt cf (z.1++z.2)/\ ∀y∈z.2,cf x y < 0) (λz=>z.1.length) (S,[]) ⟨by simpa using hp,by simpa using hs,by simp⟩ (by repeat' (first|exact trivial|exact rfl|exact eH (by dsimp only;omega)|refine And.intro ?_ ?_)) ?_ ?_
  ·dsimp only
   rw [List.append_assoc Pr S]
   rfl
  rintro⟨S1,S2⟩ ⟨zp,zs,zx⟩
  dsimp only at zp zs zx
  have hzl:S1.length+S2.length=k:=by
   have:=zp.length_eq
   rw [List.length_append,List.length_take]at this
   omega
  have done:(∀u S,S1=S++[u]->¬ cf x u < 0)->(S1++x::S2).Perm (A.take (k+1))/\Srt cf (S1++x::S2):= λh=>⟨by rw [htk];exact zS zp,aBx G.ord zs zx h⟩
  rcases qW S1 with rfl|⟨S1',u,rfl⟩
  ·obtain⟨d1,d2⟩:=done (by intro u S e;simp at e)
   ((conv=>whnf);repeat' ((first|(intro hq;(try simp only [lnS]at hq);(try rewrite [List.length_map]))|refine sJ ?_|refine .intro _ (.intro rfl ?_)|refine exL (k:= ?_)|refine dwR ?_|((first|refine aD ?_ ?_|refine aF ?_ ?_)<;>intro hb<;>(first|exact ddX hb|try simp only [lnS]at hb))|(refine aC ?_ ?_<;>intro hb<;>try exact dsX hb))<;>(conv=>whnf)))
   refine⟨(k+1,x::S2),⟨by dsimp only;omega,d1,d2⟩,by dsimp only;omega,(by repeat' (first|exact trivial|exact rfl|exact eH (by dsimp only;omega)|refine And.intro ?_ ?_)), ?_⟩
   dsimp only
   rw [List.append_nil]
   rfl
  ·have hux:=G.tri x u
   obtain⟨J,hJ⟩: ∃J,J=Pr.length+(S1'++[u]).length:=⟨_,rfl⟩
   have hJ2:(S1'++[u]).length=S1'.length+1:=by simp
   have hl1:(Pr++(S1'++[u]))++x::(S2++(A.drop (k+1)++Q))=(Pr++S1')++u::([]++x::(S2++(A.drop (k+1)++Q))):=by simp
   have hl2:(Pr++S1').length=J - 1:=by rw [List.length_append];omega
   have hrx:(((Pr++(S1'++[u]))++x::(S2++(A.drop (k+1)++Q))).map rnR)[((J:Nat):Int).toNat]? =some (rnR x):=fL rfl (by rw [Int.toNat_natCast,hJ];simp)
   have hru:(((Pr++(S1'++[u]))++x::(S2++(A.drop (k+1)++Q))).map rnR)[(((J:Nat):Int) - 1).toNat]? =some (rnR u):=fL hl1 (by rw [hl2];omega)
   have hsw: ∀a b,a=((J:Nat):Int).toNat->b=(((J:Nat):Int) - 1).toNat->((((Pr++(S1'++[u]))++x::(S2++(A.drop (k+1)++Q))).map rnR).set a (rnR u)).set b (rnR x)=((Pr++S1')++x::((u::S2)++(A.drop (k+1)++Q))).map rnR:= λa b ha hb=>by
    have:=xO (x:=u) (y:=x) (i:=b) (j:=a) hl1 (by rw [hl2];omega) (by rw [hl2];simp;omega)
    rw [this];rfl
   have hML:(((Pr++(S1'++[u]))++x::(S2++(A.drop (k+1)++Q))).map rnR).length=N:=by
    have:(A.drop (k+1)).length=A.length - (k+1):=List.length_drop
    rw [hJ2]at hzl
    simp only [List.length_map,List.length_append,List.length_cons,List.length_nil]
    omega
   dsimp only
   rw [<-hJ]
   generalize hM:List.map rnR ((Pr++(S1'++[u]))++x::(S2++(A.drop (k+1)++Q)))=M at hrx hru hsw hML |-
   generalize hc:cf x u=c at hux
   ((conv=>whnf);repeat ((first|(intro hq;try simp only [lnS]at hq)|refine sI ?_|refine .intro _ (.intro rfl ?_));(conv=>whnf)))
   refine dwR ?_
   ((conv=>whnf);repeat ((first|(intro hq;try simp only [lnS]at hq)|refine sI ?_|refine .intro _ (.intro rfl ?_));(conv=>whnf)))
   refine aD (λh2=> ?_) (λh2=> ?_)
   ·((conv=>whnf);repeat ((first|(refine And.intro hML.symm ?_)|(refine⟨_,hrx, ?_⟩)|(refine⟨_,hru, ?_⟩)|(refine⟨G.call, .d (.int .i64 _),_,[],rfl,trivial,hux, ?_⟩)|(intro hq;try simp only [lnS]at hq)|refine sI ?_|refine .intro _ (.intro rfl ?_));(conv=>whnf)))
    refine aD (λh3=> ?_) (λh3=> ?_)
    ·(conv=>whnf)
     refine pM hty [0,1,2,3,4,5,6,7,8,9,10,11,12,13,14,15,16,17] (by kernel_rfl) (by kernel_rfl) ?_
     have hru2:(M.set ((J:Nat):Int).toNat (rnR u))[(((J:Nat):Int) - 1).toNat]? =some (rnR u):=by
      rw [List.getElem?_set_ne (by omega)];exact hru
     ((conv=>whnf);repeat' ((first|(intro hq;(try simp only [lnS]at hq);(try rewrite [List.length_map]))|refine sJ ?_|refine .intro _ (.intro rfl ?_)|refine exL (k:= ?_)|(refine And.intro hML.symm ?_)|(refine And.intro ((List.length_set ..).trans hML).symm ?_)|(refine⟨_,hrx, ?_⟩)|(refine⟨_,hru, ?_⟩)|(refine⟨_,hru2, ?_⟩)|(refine And.intro (kT rfl) ?_)|refine dwR ?_|((first|refine aD ?_ ?_|refine aF ?_ ?_)<;>intro hb<;>(first|exact ddX hb|try simp only [lnS]at hb))|(refine aC ?_ ?_<;>intro hb<;>try exact dsX hb))<;>(conv=>whnf)))
     refine⟨(S1',u::S2),⟨?_, ?_, ?_⟩,by dsimp only;omega,(by repeat' (first|exact trivial|exact rfl|exact eH (by dsimp only;omega)|refine And.intro ?_ ?_)), ?_⟩
     ·have e:S1'++u::S2=S1'++[u]++S2:=by simp
      dsimp only;rw [e];exact zp
     ·have e:S1'++u::S2=S1'++[u]++S2:=by simp
      dsimp only;rw [e];exact zs
     ·intro y hy
      rcases List.mem_cons.1 hy with rfl|hy
      ·rw [hc];exact h3
      ·exact zx y hy
     ·have:=hsw _ _ rfl rfl
      show (70,HObj.mrow _ 3 cap ((M.set ((J:Nat):Int).toNat (rnR u)).set (((J:Nat):Int) - 1).toNat (rnR x)))::rest=_
      rw [this]
    ·obtain ⟨d1, d2⟩ := done (by
      intro v S e
      have:=List.append_inj' e rfl
      have h4:u=v:=by simpa using this.2
      subst h4
      rw [hc];exact h3)
     ((conv=>whnf);repeat' ((first|(intro hq;(try simp only [lnS]at hq);(try rewrite [List.length_map]))|refine sJ ?_|refine .intro _ (.intro rfl ?_)|refine exL (k:= ?_)|refine dwR ?_|((first|refine aD ?_ ?_|refine aF ?_ ?_)<;>intro hb<;>(first|exact ddX hb|try simp only [lnS]at hb))|(refine aC ?_ ?_<;>intro hb<;>try exact dsX hb))<;>(conv=>whnf)))
     refine⟨(k+1,S1'++[u]++x::S2),⟨by dsimp only;omega,d1,d2⟩,by dsimp only;omega,(by repeat' (first|exact trivial|exact rfl|exact eH (by dsimp only;omega)|refine And.intro ?_ ?_)), ?_⟩
     dsimp only
     rw [<-hM]
     congr 4
     simp
   ·exfalso;omega
 ·have hkl:A.length<=k:=by omega
  have hd:A.drop k=[]:=List.drop_eq_nil_of_le hkl
  rw [List.take_of_length_le hkl]at hp
  rw [hd]
  ((conv=>whnf);repeat' ((first|(intro hq;(try simp only [lnS]at hq);(try rewrite [List.length_map]))|refine sJ ?_|refine .intro _ (.intro rfl ?_)|refine exL (k:= ?_)|refine dwR ?_|((first|refine aD ?_ ?_|refine aF ?_ ?_)<;>intro hb<;>(first|exact ddX hb|try simp only [lnS]at hb))|(refine aC ?_ ?_<;>intro hb<;>try exact dsX hb))<;>(conv=>whnf)))
  exact fin S hp hs
theorem qF {g:FuncId}(Pr X M Y Q:List Rn) (hXY:Y.length=X.length) {L:List Rn}(hL:L=Pr++(X++(M++(Y++Q)))) (hl:L.length<=1000000) {n:Nat}{a b k:Int}(hn:n=L.length) (ha:a=(Pr.length:Nat)) (hb:b=(Pr.length+X.length+M.length:Nat)) (hk:k=(X.length:Nat)) (cap:Nat) (rest:Hp) {pin:List Nat}{fr:Fr}{K:SV->Hp->Prop}
  (fin:K (cL []) ((70, .mrow 68 3 cap ((Pr++(Y++(M++(X++Q)))).map rnR))::rest)):
  aM Tryz.prog pin fr ((70, .mrow 68 3 cap (L.map rnR))::rest) 215 [.mw 70 3 n, .d (.int .i64 a), .d (.int .i64 b), .d (.int .i64 k), .fn g [] []] K:=by
 subst hL;subst hn;subst ha;subst hb;subst hk
 have hlen:(Pr++(X++(M++(Y++Q)))).length=Pr.length+(X.length+(M.length+(X.length+Q.length))):=by simp only [List.length_append,hXY]
 generalize hN:(Pr++(X++(M++(Y++Q)))).length=N at *
 refine dL hty Tryz.func215 rfl (kp [0,1,2,3,10,13]) 500 (by simp [Tryz.f215]) ?_
 ((conv=>whnf);repeat ((first|(intro hq;try simp only [lnS]at hq)|refine sI ?_|refine .intro _ (.intro rfl ?_));(conv=>whnf)))
 refine dE hty (λi:Nat=>([(0, .mw 70 3 N),(1, .d (.int .i64 (Pr.length:Nat))),(2, .d (.int .i64 (Pr.length+X.length+M.length:Nat))),(3, .d (.int .i64 (X.length:Nat))),(10, .d (.int .i64 (i:Nat)))],(70, .mrow 68 3 cap (((Pr++Y.take i)++(X.drop i++((M++X.take i)++(Y.drop i++Q)))).map rnR))::rest)) (λi=>i<=X.length) (λi=>X.length - i) 0 (Nat.zero_le _) (by repeat' (first|exact trivial|exact rfl|exact eH (by dsimp only;omega)|refine And.intro ?_ ?_)) (by simp) ?_
 intro i hi
 ((conv=>whnf);repeat ((first|(intro hq;try simp only [lnS]at hq)|refine sI ?_|refine .intro _ (.intro rfl ?_));(conv=>whnf)))
 refine aD (λh1=> ?_) (λh1=> ?_)
 ·have hiX:i < X.length:=by omega
  have hiY:i < Y.length:=by omega
  obtain⟨x,hx⟩: ∃x,x=X[i]:=⟨_,rfl⟩
  obtain⟨y,hy⟩: ∃y,y=Y[i]:=⟨_,rfl⟩
  have hdX:X.drop i=x::X.drop (i+1):=by rw [hx];exact List.drop_eq_getElem_cons hiX
  have hdY:Y.drop i=y::Y.drop (i+1):=by rw [hy];exact List.drop_eq_getElem_cons hiY
  have htX:X.take (i+1)=X.take i++[x]:=by rw [hx];exact List.take_succ_eq_append_getElem hiX
  have htY:Y.take (i+1)=Y.take i++[y]:=by rw [hy];exact List.take_succ_eq_append_getElem hiY
  have hl1:(Pr++Y.take i)++(X.drop i++((M++X.take i)++(Y.drop i++Q)))=(Pr++Y.take i)++x::((X.drop (i+1)++(M++X.take i))++y::(Y.drop (i+1)++Q)):=by rw [hdX,hdY];simp
  have hUl:(Pr++Y.take i).length=Pr.length+i:=by rw [List.length_append,List.length_take];omega
  have hVl:(X.drop (i+1)++(M++X.take i)).length=X.length+M.length - 1:=by simp only [List.length_append,List.length_take,List.length_drop];omega
  have hrx:(((Pr++Y.take i)++(X.drop i++((M++X.take i)++(Y.drop i++Q)))).map rnR)[(((Pr.length:Nat):Int)+(i:Nat)).toNat]? =some (rnR x):=fL hl1 (by rw [hUl];omega)
  have hry:(((Pr++Y.take i)++(X.drop i++((M++X.take i)++(Y.drop i++Q)))).map rnR)[(((Pr.length+X.length+M.length:Nat):Int)+(i:Nat)).toNat]? =some (rnR y):=fL (U:=(Pr++Y.take i)++x::(X.drop (i+1)++(M++X.take i))) (W:=Y.drop (i+1)++Q) (by rw [hl1];simp) (by rw [List.length_append,List.length_cons,hUl,hVl];omega)
  have hsw: ∀p q,p=(((Pr.length:Nat):Int)+(i:Nat)).toNat->q=(((Pr.length+X.length+M.length:Nat):Int)+(i:Nat)).toNat->((((Pr++Y.take i)++(X.drop i++((M++X.take i)++(Y.drop i++Q)))).map rnR).set p (rnR y)).set q (rnR x)=((Pr++Y.take (i+1))++(X.drop (i+1)++((M++X.take (i+1))++(Y.drop (i+1)++Q)))).map rnR:= λp q hp hq=>by
   rw [aB0 (x:=x) (y:=y) (i:=p) (j:=q) hl1 (by rw [hUl];omega) (by rw [hUl,hVl];omega),htX,htY]
   simp
  have hML:(((Pr++Y.take i)++(X.drop i++((M++X.take i)++(Y.drop i++Q)))).map rnR).length=N:=by
   rw [hl1]
   simp only [List.length_map,List.length_append,List.length_cons,List.length_take,List.length_drop]
   omega
  generalize List.map rnR ((Pr++Y.take i)++(X.drop i++((M++X.take i)++(Y.drop i++Q))))=M0 at hrx hry hsw hML |-
  have hry2:(M0.set (((Pr.length:Nat):Int)+(i:Nat)).toNat (rnR y))[(((Pr.length+X.length+M.length:Nat):Int)+(i:Nat)).toNat]? =some (rnR y):=by
   rw [List.getElem?_set_ne (by omega)];exact hry
  (conv=>whnf)
  refine pM hty [0,1,2,3,4,5,6,7,8,9,10,11,12,13,14,15,16,17,18,19,20,21,22,23] (by kernel_rfl) (by kernel_rfl) ?_
  ((conv=>whnf);repeat' ((first|(intro hq;(try simp only [lnS]at hq);(try rewrite [List.length_map]))|refine sJ ?_|refine .intro _ (.intro rfl ?_)|refine exL (k:= ?_)|(refine And.intro hML.symm ?_)|(refine And.intro ((List.length_set ..).trans hML).symm ?_)|(refine⟨_,hrx, ?_⟩)|(refine⟨_,hry, ?_⟩)|(refine⟨_,hry2, ?_⟩)|(refine And.intro (kT rfl) ?_)|refine dwR ?_|((first|refine aD ?_ ?_|refine aF ?_ ?_)<;>intro hb<;>(first|exact ddX hb|try simp only [lnS]at hb))|(refine aC ?_ ?_<;>intro hb<;>try exact dsX hb))<;>(conv=>whnf)))
  refine⟨i+1,by dsimp only;omega,by dsimp only;omega,(by repeat' (first|exact trivial|exact rfl|exact eH (by dsimp only;omega)|refine And.intro ?_ ?_)), ?_⟩
  have:=hsw _ _ rfl rfl
  show (70,HObj.mrow _ 3 cap ((M0.set (((Pr.length:Nat):Int)+(i:Nat)).toNat (rnR y)).set (((Pr.length+X.length+M.length:Nat):Int)+(i:Nat)).toNat (rnR x)))::rest=_
  rw [this]
 ·have hie:i=X.length:=by omega
  subst hie
  rw [List.drop_length,List.take_length,<-hXY,List.drop_length,List.take_length]
  ((conv=>whnf);repeat' ((first|(intro hq;(try simp only [lnS]at hq);(try rewrite [List.length_map]))|refine sJ ?_|refine .intro _ (.intro rfl ?_)|refine exL (k:= ?_)|refine dwR ?_|((first|refine aD ?_ ?_|refine aF ?_ ?_)<;>intro hb<;>(first|exact ddX hb|try simp only [lnS]at hb))|(refine aC ?_ ?_<;>intro hb<;>try exact dsX hb))<;>(conv=>whnf)))
  have e:(Pr++Y)++([]++((M++X)++([]++Q)))=Pr++(Y++(M++(X++Q))):=by simp
  rw [e]
  exact fin
theorem zK {g:FuncId}(Pr A B Q:List Rn) (hA:A≠[]) (hB:B≠[]) {L:List Rn}(hL:L=Pr++(A++(B++Q))) (hl:L.length<=1000000) {n:Nat}{a m b:Int}(hn:n=L.length) (ha:a=(Pr.length:Nat)) (hm:m=(Pr.length+A.length:Nat)) (hb:b=(Pr.length+A.length+B.length:Nat)) (cap:Nat) (rest:Hp) {pin:List Nat}{fr:Fr}{K:SV->Hp->Prop}
  (fin:K (cL []) ((70, .mrow 68 3 cap ((Pr++(B++(A++Q))).map rnR))::rest)):
  aM Tryz.prog pin fr ((70, .mrow 68 3 cap (L.map rnR))::rest) 195 [.mw 70 3 n, .d (.int .i64 a), .d (.int .i64 m), .d (.int .i64 b), .fn g [] []] K:=by
 subst hL;subst hn;subst ha;subst hb;subst hm
 have hlen:(Pr++(A++(B++Q))).length=Pr.length+(A.length+(B.length+Q.length)):=by simp only [List.length_append]
 generalize hN:(Pr++(A++(B++Q))).length=N at *
 have hA0:=List.length_pos_iff.2 hA
 have hB0:=List.length_pos_iff.2 hB
 refine dL hty Tryz.func195 rfl (kp [0,1,2,3,4,10,11,20,23]) 500 (by simp [Tryz.f195]) ?_
 ((conv=>whnf);repeat ((first|(intro hq;try simp only [lnS]at hq)|refine sI ?_|refine .intro _ (.intro rfl ?_));(conv=>whnf)))
 refine dE hty (λy:List Rn×List Rn×List Rn×List Rn=>([(0, .mw 70 3 N),(2, .d (.int .i64 (Pr.length+A.length:Nat))),(4, .fn g [] []),(10, .d (.int .i64 (y.2.1.length:Nat))),(11, .d (.int .i64 (y.2.2.1.length:Nat)))],(70, .mrow 68 3 cap ((y.1++(y.2.1++(y.2.2.1++y.2.2.2))).map rnR))::rest))
  (λy=>(0 < y.2.1.length/\0 < y.2.2.1.length)/\y.1.length+y.2.1.length=Pr.length+A.length/\y.1++(y.2.2.1++(y.2.1++y.2.2.2))=Pr++(B++(A++Q))) (λy=>y.2.1.length+y.2.2.1.length) (Pr,A,B,Q) ⟨⟨hA0,hB0⟩,rfl,rfl⟩ (by repeat' (first|exact trivial|exact rfl|exact eH (by dsimp only;omega)|refine And.intro ?_ ?_)) rfl ?_
 rintro⟨P',U,V,Q'⟩ ⟨⟨hU0,hV0⟩,hm,ht⟩
 dsimp only at hU0 hV0 hm ht
 have hlen2:(P'++(U++(V++Q'))).length=N:=by
  have e1:=congrArg List.length ht
  simp only [List.length_append]at e1 |-
  omega
 ((conv=>whnf);repeat ((first|(intro hq;try simp only [lnS]at hq)|refine sI ?_|refine .intro _ (.intro rfl ?_));(conv=>whnf)))
 refine aF (λh1=> ?_) (λh1=> ?_)
 ·dsimp only at h1
  ((conv=>whnf);repeat ((first|(intro hq;try simp only [lnS]at hq)|refine sI ?_|refine .intro _ (.intro rfl ?_));(conv=>whnf)))
  refine aD (λh2=> ?_) (λh2=> ?_)<;>dsimp only at h2
  ·have hUV:V.length < U.length:=by omega
   have eU:U=U.take V.length++U.drop V.length:=(List.take_append_drop _ _).symm
   have l1:(U.take V.length).length=V.length:=by rw [List.length_take];omega
   have l2:(U.drop V.length).length=U.length - V.length:=List.length_drop
   generalize U.take V.length=U1 at eU l1
   generalize U.drop V.length=U2 at eU l2
   subst eU
   rw [List.length_append]at l2 hm hUV
   ((conv=>whnf);repeat ((first|(intro hq;try simp only [lnS]at hq)|refine sI ?_|refine .intro _ (.intro rfl ?_));(conv=>whnf)))
   refine qF P' U1 U2 V Q' l1.symm (by simp) (by rw [hlen2];omega) hlen2.symm (by(try dsimp only);rw [List.length_append];omega) (by(try dsimp only);omega) (by first|rfl|((try dsimp only);omega)) cap rest ?_
   ((conv=>whnf);repeat ((first|(intro hq;try simp only [lnS]at hq)|refine sI ?_|refine .intro _ (.intro rfl ?_));(conv=>whnf)))
   refine⟨(P'++V,U2,U1,Q'),⟨⟨by dsimp only;omega,by dsimp only;omega⟩,by dsimp only;rw [List.length_append];omega, ?_⟩,by dsimp only;rw [List.length_append];omega,(by repeat' (first|exact trivial|exact rfl|exact eH (by dsimp only;(try rw [List.length_append]);omega)|refine And.intro ?_ ?_)), ?_⟩
   ·dsimp only
    rw [<-ht];simp
   ·dsimp only
    simp
  ·have hUV:U.length < V.length:=by omega
   have eV:V=V.take (V.length - U.length)++V.drop (V.length - U.length):=(List.take_append_drop _ _).symm
   have l1:(V.take (V.length - U.length)).length=V.length - U.length:=by rw [List.length_take];omega
   have l2:(V.drop (V.length - U.length)).length=U.length:=by rw [List.length_drop];omega
   generalize hk:V.length - U.length=k at eV l1 l2
   generalize V.take k=V1 at eV l1
   generalize V.drop k=V2 at eV l2
   subst eV
   rw [List.length_append]at hUV hk
   ((conv=>whnf);repeat ((first|(intro hq;try simp only [lnS]at hq)|refine sI ?_|refine .intro _ (.intro rfl ?_));(conv=>whnf)))
   refine qF P' U V1 V2 Q' l2 (by simp) (by rw [hlen2];omega) hlen2.symm (by first|rfl|((try dsimp only);omega)) (by(try dsimp only);rw [List.length_append];omega) (by first|rfl|((try dsimp only);omega)) cap rest ?_
   ((conv=>whnf);repeat ((first|(intro hq;try simp only [lnS]at hq)|refine sI ?_|refine .intro _ (.intro rfl ?_));(conv=>whnf)))
   refine⟨(P',V2,V1,U++Q'),⟨⟨by dsimp only;omega,by dsimp only;omega⟩,by dsimp only;omega, ?_⟩,by dsimp only;rw [List.length_append];omega,(by repeat' (first|exact trivial|exact rfl|exact eH (by dsimp only;(try rw [List.length_append]);omega)|refine And.intro ?_ ?_)), ?_⟩
   ·dsimp only
    rw [<-ht];simp
   ·dsimp only
 ·dsimp only at h1
  have hUV:U.length=V.length:=by omega
  ((conv=>whnf);repeat ((first|(intro hq;try simp only [lnS]at hq)|refine sI ?_|refine .intro _ (.intro rfl ?_));(conv=>whnf)))
  refine qF P' U [] V Q' hUV.symm (by simp) (by rw [hlen2];omega) hlen2.symm (by first|rfl|((try dsimp only);omega)) (by(try dsimp only);rw [List.length_nil];omega) (by first|rfl|((try dsimp only);omega)) cap rest ?_
  ((conv=>whnf);repeat ((first|(intro hq;try simp only [lnS]at hq)|refine sI ?_|refine .intro _ (.intro rfl ?_));(conv=>whnf)))
  have e:P'++(V++([]++(U++Q')))=Pr++(B++(A++Q)):=by rw [<-ht];simp
  rw [e]
  exact fin
end Go.Proofs.YtfhoddcminbffaaGreatDoor
namespace Go.Proofs.YtfhoddcminbffaaGreatDoor
open Go.Proofs
set_option maxRecDepth 10000
attribute [local irreducible] aV aM Tri aI YVC dQ bN
theorem aMw (i j:Nat):Int.fdiv (IntKind.u64.wrap ((i:Int)+(j:Int))) (2 ^ min (Int.toNat 1) IntKind.u64.bits)=((i+j) / 2:Nat)\/18446744073709551616<=i+j:=by
 by_cases h:i+j < 18446744073709551616
 ·left
  have e:IntKind.u64.wrap ((i:Int)+(j:Int))=((i+j:Nat):Int):=by
   rw [IntKind.wrap_u64];omega
  rw [e]
  show Int.fdiv ((i+j:Nat):Int) 2=_
  rw [Int.fdiv_eq_ediv_of_nonneg _ (by omega)]
  omega
 ·right;omega
theorem aB6 {i j:Nat}(h:i+j<=4000000):IntKind.i64.wrap (Int.fdiv (IntKind.u64.wrap ((i:Int)+(j:Int))) (2 ^ min (Int.toNat 1) IntKind.u64.bits))=(((i+j) / 2:Nat):Int):=by
 rw [(aMw i j).resolve_right (by omega),IntKind.wrap_i64];omega
theorem aAo {Pr A R L:List Rn}(hL:L=Pr++(A++R)) {k:Nat}{x:Rn}(hx:A[k]? =some x) {i:Nat}(hi:i=Pr.length+k):(L.map rnR)[i]? =some (rnR x):=by
 subst hL;subst hi
 rw [List.getElem?_map,List.getElem?_append_right (by omega),show Pr.length+k - Pr.length=k by omega,List.getElem?_append_left (List.getElem?_eq_some_iff.1 hx).1,hx];rfl
theorem aCo {g:FuncId}{cf:Rn->Rn->Int}(G:CmpG g cf) (Pr:List Rn) (x:Rn) (B Q:List Rn) (hB:Srt cf B) {L:List Rn}(hL:L=Pr++(x::(B++Q))) (hl:L.length<=1000000) {n:Nat}{a m b:Int}(hn:n=L.length) (ha:a=(Pr.length:Nat)) (hm:m=(Pr.length+1:Nat)) (hb:b=(Pr.length+1+B.length:Nat)) (cap:Nat) (rest:Hp) {pin:List Nat}{fr:Fr}{K:SV->Hp->Prop}
  (fin: ∀S,S.Perm (x::B)->Srt cf S->K (cL []) ((70, .mrow 68 3 cap ((Pr++(S++Q)).map rnR))::rest)):
  aM Tryz.prog pin fr ((70, .mrow 68 3 cap (L.map rnR))::rest) 185 [.mw 70 3 n, .d (.int .i64 a), .d (.int .i64 m), .d (.int .i64 b), .fn g [] []] K:=by
 subst hn;subst ha;subst hb;subst hm
 have hlen:L.length=Pr.length+(1+(B.length+Q.length)):=by rw [hL];simp only [List.length_append,List.length_cons];omega
 have hrx:(L.map rnR)[((Pr.length:Nat):Int).toNat]? =some (rnR x):=fL hL (by omega)
 have hMl:(L.map rnR).length=L.length:=List.length_map ..
 have hrB: ∀(k:Nat) (y:Rn),B[k]? =some y-> ∀i:Nat,i=Pr.length+1+k->(L.map rnR)[((i:Nat):Int).toNat]? =some (rnR y):= λk y hy i hi=>
  aAo (Pr:=Pr++[x]) (A:=B) (R:=Q) (by rw [hL];simp) hy (by rw [Int.toNat_natCast,hi];simp)
 generalize hN:L.length=N at *
 refine dL hty Tryz.func185 rfl (kp [0,1,2,3,4,10,11,12,13,14,15,16,17,18,19,20,21,22,23,24,28,33,50,58,80,85,103,110,140,151,171,185,199,213]) 500 (by simp [Tryz.f185]) ?_
 ((conv=>whnf);repeat ((first|(intro hq;try simp only [lnS]at hq)|refine sI ?_|refine .intro _ (.intro rfl ?_));(conv=>whnf)))
 refine aD (λh1=> ?_) (λh1=> ?_)
 ·((conv=>whnf);repeat ((first|(intro hq;try simp only [lnS]at hq)|refine sI ?_|refine .intro _ (.intro rfl ?_));(conv=>whnf)))
  refine dE hty (λy:Nat×Nat=>([(0, .mw 70 3 N),(1, .d (.int .i64 (Pr.length:Nat))),(2, .d (.int .i64 (Pr.length+1:Nat))),(3, .d (.int .i64 (Pr.length+1+B.length:Nat))),(4, .fn g [] []),(10, .d (.int .i64 (y.1:Nat))),(11, .d (.int .i64 (y.2:Nat)))],(70, .mrow 68 3 cap (L.map rnR))::rest))
   (λy => (Pr.length + 1 <= y.1 /\ y.1 <= y.2 /\ y.2 <= Pr.length + 1 + B.length) /\ (∀ z, Pr.length + 1 < y.1 -> B[y.1 - 1 - (Pr.length + 1)]? = some z -> cf z x < 0) /\ (∀ z, B[y.2 - (Pr.length + 1)]? = some z -> ¬ cf z x < 0)) (λy => y.2 - y.1) (Pr.length + 1, Pr.length + 1 + B.length) ⟨by dsimp only; omega, λz h => absurd h (by dsimp only; omega), λz h => by
    dsimp only at h
    rw [show Pr.length+1+B.length - (Pr.length+1)=B.length by omega,List.getElem?_eq_none (Nat.le_refl _)]at h
    cases h⟩ (by repeat' (first|exact trivial|exact rfl|exact eH (by(try dsimp only);omega)|refine And.intro ?_ ?_)) rfl ?_
  rintro⟨i,j⟩ ⟨⟨q1,q2,q3⟩,q4,q5⟩
  dsimp only at q1 q2 q3 q4 q5 |-
  have hh2:=aB6 (i:=i) (j:=j) (by omega)
  ((conv=>whnf);repeat ((first|(intro hq;try simp only [lnS]at hq)|refine sI ?_|refine .intro _ (.intro rfl ?_));(conv=>whnf)))
  refine aD (λhij=> ?_) (λhij=> ?_)
  ·obtain⟨h,hh⟩: ∃h,h=(i+j) / 2:=⟨_,rfl⟩
   have hb1:i<=h/\h < j:=by omega
   obtain⟨z,hz⟩: ∃z,B[h - (Pr.length+1)]? =some z:=⟨_,List.getElem?_eq_getElem (by omega)⟩
   have hrz:=hrB _ z hz h (by omega)
   have htr:=G.tri z x
   generalize hc:cf z x=c at htr
   ((conv=>whnf);repeat ((first|(intro hq;try simp only [lnS]at hq)|refine sI ?_|refine .intro _ (.intro rfl ?_));(conv=>whnf)))
   rw [hh2,<-hh]
   ((conv=>whnf);repeat ((first|(intro hq;try simp only [lnS]at hq)|refine sI ?_|refine .intro _ (.intro rfl ?_));(conv=>whnf)))
   refine dwR ?_
   ((conv=>whnf);repeat ((first|(refine And.intro hMl.symm ?_)|(refine⟨_,hrx, ?_⟩)|(refine⟨_,hrz, ?_⟩)|(refine⟨G.call, .d (.int .i64 _),_,[],rfl,trivial,htr, ?_⟩)|(intro hq;try simp only [lnS]at hq)|refine sI ?_|refine .intro _ (.intro rfl ?_));(conv=>whnf)))
   refine aD (λh3=> ?_) (λh3=> ?_)
   ·((conv=>whnf);repeat' ((first|(intro hq;(try simp only [lnS]at hq);(try rewrite [List.length_map]))|refine sJ ?_|refine .intro _ (.intro rfl ?_)|refine exL (k:= ?_)|refine dwR ?_|((first|refine aD ?_ ?_|refine aF ?_ ?_)<;>intro hb<;>(first|exact ddX hb|try simp only [lnS]at hb))|(refine aC ?_ ?_<;>intro hb<;>try exact dsX hb))<;>(conv=>whnf)))
    refine⟨(h+1,j),⟨by dsimp only;omega,λw _ hw=> ?_,q5⟩,by dsimp only;omega,(by repeat' (first|exact trivial|exact rfl|exact eH (by(try dsimp only);omega)|refine And.intro ?_ ?_)),rfl⟩
    dsimp only at hw
    rw [show h+1 - 1 - (Pr.length+1)=h - (Pr.length+1)by omega,hz]at hw
    injection hw with hw
    subst hw
    rw [hc];exact h3
   ·((conv=>whnf);repeat' ((first|(intro hq;(try simp only [lnS]at hq);(try rewrite [List.length_map]))|refine sJ ?_|refine .intro _ (.intro rfl ?_)|refine exL (k:= ?_)|refine dwR ?_|((first|refine aD ?_ ?_|refine aF ?_ ?_)<;>intro hb<;>(first|exact ddX hb|try simp only [lnS]at hb))|(refine aC ?_ ?_<;>intro hb<;>try exact dsX hb))<;>(conv=>whnf)))
    refine⟨(i,h),⟨by dsimp only;omega,q4,λw hw=> ?_⟩,by dsimp only;omega,(by repeat' (first|exact trivial|exact rfl|exact eH (by(try dsimp only);omega)|refine And.intro ?_ ?_)),rfl⟩
    dsimp only at hw
    rw [hz]at hw
    injection hw with hw
    subst hw
    rw [hc];exact h3
  ·obtain rfl:i=j:=by omega
   obtain⟨p,hp⟩: ∃p,p=i - (Pr.length+1):=⟨_,rfl⟩
   have hip:i=Pr.length+1+p:=by omega
   subst hip
   clear hp
   have hpl:p<=B.length:=by omega
   have hfin := fin (B.take p ++ x :: B.drop p) (List.perm_middle.trans (by rw [List.take_append_drop])) (by
    have hBB:Srt cf (B.take p++B.drop p):=by rw [List.take_append_drop];exact hB
    obtain⟨a1,a2,a3⟩:=Srt.app.1 hBB
    refine Srt.app.2 ⟨a1,List.pairwise_cons.2 ⟨λy hy=> ?_,a2⟩,λu hu y hy=> ?_⟩
    ·obtain⟨k,hk,e⟩:=lM hy
     obtain⟨z,hz⟩: ∃z,B[p]? =some z:=⟨_,List.getElem?_eq_getElem (by have:=(List.getElem?_eq_some_iff.1 e).1;omega)⟩
     exact G.ord.tr _ _ _ (q5 z (by rw [show Pr.length+1+p - (Pr.length+1)=p by omega];exact hz)) (hB.le_at G.ord hk hz e)
    ·have hux:¬ cf x u < 0:=by
      obtain⟨k,hk,e⟩:=lL hu
      obtain⟨z,hz⟩: ∃z,B[p - 1]? =some z:=⟨_,List.getElem?_eq_getElem (by omega)⟩
      exact G.ord.tr _ _ _ (hB.le_at G.ord (show k<=p - 1 by omega) e hz) (G.ord.asym _ _ (q4 z (by omega) (by rw [show Pr.length+1+p - 1 - (Pr.length+1)=p - 1 by omega];exact hz)))
     rcases List.mem_cons.1 hy with rfl|hy
     ·exact hux
     ·exact a3 u hu y hy)
   clear fin q4 q5 hrx hrB hh2
   ((conv=>whnf);repeat ((first|(intro hq;try simp only [lnS]at hq)|refine sI ?_|refine .intro _ (.intro rfl ?_));(conv=>whnf)))
   refine dE hty (λt:Nat=>([(0, .mw 70 3 N),(1, .d (.int .i64 (Pr.length:Nat))),(4, .fn g [] []),(10, .d (.int .i64 (Pr.length+1+p:Nat))),(13, .d (.int .i64 (Pr.length+t:Nat)))],(70, .mrow 68 3 cap (((Pr++B.take t)++x::(B.drop t++Q)).map rnR))::rest)) (λt=>t<=p) (λt=>p - t) 0 (Nat.zero_le _) (by repeat' (first|exact trivial|exact rfl|exact eH (by(try dsimp only);omega)|refine And.intro ?_ ?_)) (by rw [hL];simp) ?_
   intro t ht
   dsimp only
   ((conv=>whnf);repeat ((first|(intro hq;try simp only [lnS]at hq)|refine sI ?_|refine .intro _ (.intro rfl ?_));(conv=>whnf)))
   refine aD (λh2=> ?_) (λh2=> ?_)
   ·have htB:t < B.length:=by omega
    obtain⟨y,hy⟩: ∃y,y=B[t]:=⟨_,rfl⟩
    have hdB:B.drop t=y::B.drop (t+1):=by rw [hy];exact List.drop_eq_getElem_cons htB
    have htk:B.take (t+1)=B.take t++[y]:=by rw [hy];exact List.take_succ_eq_append_getElem htB
    have hUl:(Pr++B.take t).length=Pr.length+t:=by rw [List.length_append,List.length_take];omega
    have hl1:(Pr++B.take t)++x::(B.drop t++Q)=(Pr++B.take t)++x::([]++y::(B.drop (t+1)++Q)):=by rw [hdB];rfl
    have r1:(((Pr++B.take t)++x::(B.drop t++Q)).map rnR)[((Pr.length+t:Nat):Int).toNat]? =some (rnR x):=fL hl1 (by rw [hUl];omega)
    have r2:(((Pr++B.take t)++x::(B.drop t++Q)).map rnR)[(((Pr.length+t:Nat):Int)+1).toNat]? =some (rnR y):=fL (U:=(Pr++B.take t)++[x]) (W:=B.drop (t+1)++Q) (by rw [hl1];simp) (by rw [List.length_append,hUl];simp;omega)
    have hsw: ∀p q,p=((Pr.length+t:Nat):Int).toNat->q=(((Pr.length+t:Nat):Int)+1).toNat->((((Pr++B.take t)++x::(B.drop t++Q)).map rnR).set p (rnR y)).set q (rnR x)=((Pr++B.take (t+1))++x::(B.drop (t+1)++Q)).map rnR:= λp q hp hq=>by
     rw [aB0 (x:=x) (y:=y) (i:=p) (j:=q) hl1 (by rw [hUl];omega) (by rw [hUl];simp;omega),htk]
     simp
    have hML:(((Pr++B.take t)++x::(B.drop t++Q)).map rnR).length=N:=by
     simp only [List.length_map,List.length_append,List.length_cons,List.length_take,List.length_drop]
     omega
    generalize List.map rnR ((Pr++B.take t)++x::(B.drop t++Q))=M0 at r1 r2 hsw hML |-
    have r3:(M0.set ((Pr.length+t:Nat):Int).toNat (rnR y))[(((Pr.length+t:Nat):Int)+1).toNat]? =some (rnR y):=by
     rw [List.getElem?_set_ne (by omega)];exact r2
    (conv=>whnf)
    refine pM hty [0,1,2,3,4,5,6,7,8,9,10,11,12,13,14,15,16,17] (by kernel_rfl) (by kernel_rfl) ?_
    ((conv=>whnf);repeat' ((first|(intro hq;(try simp only [lnS]at hq);(try rewrite [List.length_map]))|refine sJ ?_|refine .intro _ (.intro rfl ?_)|refine exL (k:= ?_)|(refine And.intro hML.symm ?_)|(refine And.intro ((List.length_set ..).trans hML).symm ?_)|(refine⟨_,r1, ?_⟩)|(refine⟨_,r2, ?_⟩)|(refine⟨_,r3, ?_⟩)|(refine And.intro (kT rfl) ?_)|refine dwR ?_|((first|refine aD ?_ ?_|refine aF ?_ ?_)<;>intro hb<;>(first|exact ddX hb|try simp only [lnS]at hb))|(refine aC ?_ ?_<;>intro hb<;>try exact dsX hb))<;>(conv=>whnf)))
    refine⟨t+1,by dsimp only;omega,by dsimp only;omega,(by repeat' (first|exact trivial|exact rfl|exact eH (by(try dsimp only);omega)|refine And.intro ?_ ?_)), ?_⟩
    have:=hsw _ _ rfl rfl
    show (70,HObj.mrow _ 3 cap ((M0.set ((Pr.length+t:Nat):Int).toNat (rnR y)).set (((Pr.length+t:Nat):Int)+1).toNat (rnR x)))::rest=_
    rw [this]
   ·have hte:t=p:=by omega
    subst hte
    ((conv=>whnf);repeat' ((first|(intro hq;(try simp only [lnS]at hq);(try rewrite [List.length_map]))|refine sJ ?_|refine .intro _ (.intro rfl ?_)|refine exL (k:= ?_)|refine dwR ?_|((first|refine aD ?_ ?_|refine aF ?_ ?_)<;>intro hb<;>(first|exact ddX hb|try simp only [lnS]at hb))|(refine aC ?_ ?_<;>intro hb<;>try exact dsX hb))<;>(conv=>whnf)))
    have e:(Pr++B.take t)++x::(B.drop t++Q)=Pr++((B.take t++x::B.drop t)++Q):=by simp
    rw [e]
    exact hfin
 ·exfalso;omega
theorem zX {g:FuncId}{cf:Rn->Rn->Int}(G:CmpG g cf) (Pr A:List Rn) (y:Rn) (Q:List Rn) (hA:Srt cf A) (hA1:A.length≠1) {L:List Rn}(hL:L=Pr++(A++(y::Q))) (hl:L.length<=1000000) {n:Nat}{a m b:Int}(hn:n=L.length) (ha:a=(Pr.length:Nat)) (hm:m=(Pr.length+A.length:Nat)) (hb:b=(Pr.length+A.length+1:Nat)) (cap:Nat) (rest:Hp) {pin:List Nat}{fr:Fr}{K:SV->Hp->Prop}
  (fin: ∀S,S.Perm (A++[y])->Srt cf S->K (cL []) ((70, .mrow 68 3 cap ((Pr++(S++Q)).map rnR))::rest)):
  aM Tryz.prog pin fr ((70, .mrow 68 3 cap (L.map rnR))::rest) 185 [.mw 70 3 n, .d (.int .i64 a), .d (.int .i64 m), .d (.int .i64 b), .fn g [] []] K:=by
 subst hn;subst ha;subst hb;subst hm
 have hlen:L.length=Pr.length+(A.length+(1+Q.length)):=by rw [hL];simp only [List.length_append,List.length_cons];omega
 have hry:(L.map rnR)[((Pr.length+A.length:Nat):Int).toNat]? =some (rnR y):=fL (U:=Pr++A) (W:=Q) (by rw [hL];simp) (by rw [Int.toNat_natCast];simp)
 have hMl:(L.map rnR).length=L.length:=List.length_map ..
 have hrA: ∀(k:Nat) (x:Rn),A[k]? =some x-> ∀i:Nat,i=Pr.length+k->(L.map rnR)[((i:Nat):Int).toNat]? =some (rnR x):= λk x hx i hi=>
  aAo (Pr:=Pr) (A:=A) (R:=y::Q) hL hx (by rw [Int.toNat_natCast,hi])
 generalize hN:L.length=N at *
 refine dL hty Tryz.func185 rfl (kp [0,1,2,3,4,10,11,12,13,14,15,16,17,18,19,20,21,22,23,24,28,33,50,58,80,85,103,110,140,151,171,185,199,213]) 500 (by simp [Tryz.f185]) ?_
 ((conv=>whnf);repeat ((first|(intro hq;try simp only [lnS]at hq)|refine sI ?_|refine .intro _ (.intro rfl ?_));(conv=>whnf)))
 refine aD (λh1=> ?_) (λh1=> ?_)
 ·exfalso;omega
 ((conv=>whnf);repeat ((first|(intro hq;try simp only [lnS]at hq)|refine sI ?_|refine .intro _ (.intro rfl ?_));(conv=>whnf)))
 refine aD (λh1=> ?_) (λh1=> ?_)
 ·((conv=>whnf);repeat ((first|(intro hq;try simp only [lnS]at hq)|refine sI ?_|refine .intro _ (.intro rfl ?_));(conv=>whnf)))
  refine dE hty (λz:Nat×Nat=>([(0, .mw 70 3 N),(1, .d (.int .i64 (Pr.length:Nat))),(2, .d (.int .i64 (Pr.length+A.length:Nat))),(3, .d (.int .i64 (Pr.length+A.length+1:Nat))),(4, .fn g [] []),(14, .d (.int .i64 (z.1:Nat))),(15, .d (.int .i64 (z.2:Nat)))],(70, .mrow 68 3 cap (L.map rnR))::rest))
   (λz => (Pr.length <= z.1 /\ z.1 <= z.2 /\ z.2 <= Pr.length + A.length) /\ (∀ x, Pr.length < z.1 -> A[z.1 - 1 - Pr.length]? = some x -> ¬ cf y x < 0) /\ (∀ x, A[z.2 - Pr.length]? = some x -> cf y x < 0)) (λz => z.2 - z.1) (Pr.length, Pr.length + A.length) ⟨by dsimp only; omega, λz h => absurd h (by dsimp only; omega), λz h => by
    dsimp only at h
    rw [show Pr.length+A.length - Pr.length=A.length by omega,List.getElem?_eq_none (Nat.le_refl _)]at h
    cases h⟩ (by repeat' (first|exact trivial|exact rfl|exact eH (by(try dsimp only);omega)|refine And.intro ?_ ?_)) rfl ?_
  rintro⟨i,j⟩ ⟨⟨q1,q2,q3⟩,q4,q5⟩
  dsimp only at q1 q2 q3 q4 q5 |-
  have hh2:=aB6 (i:=i) (j:=j) (by omega)
  ((conv=>whnf);repeat ((first|(intro hq;try simp only [lnS]at hq)|refine sI ?_|refine .intro _ (.intro rfl ?_));(conv=>whnf)))
  refine aD (λhij=> ?_) (λhij=> ?_)
  ·obtain⟨h,hh⟩: ∃h,h=(i+j) / 2:=⟨_,rfl⟩
   have hb1:i<=h/\h < j:=by omega
   obtain⟨z,hz⟩: ∃z,A[h - Pr.length]? =some z:=⟨_,List.getElem?_eq_getElem (by omega)⟩
   have hrz:=hrA _ z hz h (by omega)
   have htr:=G.tri y z
   generalize hc:cf y z=c at htr
   ((conv=>whnf);repeat ((first|(intro hq;try simp only [lnS]at hq)|refine sI ?_|refine .intro _ (.intro rfl ?_));(conv=>whnf)))
   rw [hh2,<-hh]
   ((conv=>whnf);repeat ((first|(intro hq;try simp only [lnS]at hq)|refine sI ?_|refine .intro _ (.intro rfl ?_));(conv=>whnf)))
   refine dwR ?_
   ((conv=>whnf);repeat ((first|(refine And.intro hMl.symm ?_)|(refine⟨_,hry, ?_⟩)|(refine⟨_,hrz, ?_⟩)|(refine⟨G.call, .d (.int .i64 _),_,[],rfl,trivial,htr, ?_⟩)|(intro hq;try simp only [lnS]at hq)|refine sI ?_|refine .intro _ (.intro rfl ?_));(conv=>whnf)))
   refine aF (λh3=> ?_) (λh3=> ?_)
   ·((conv=>whnf);repeat' ((first|(intro hq;(try simp only [lnS]at hq);(try rewrite [List.length_map]))|refine sJ ?_|refine .intro _ (.intro rfl ?_)|refine exL (k:= ?_)|refine dwR ?_|((first|refine aD ?_ ?_|refine aF ?_ ?_)<;>intro hb<;>(first|exact ddX hb|try simp only [lnS]at hb))|(refine aC ?_ ?_<;>intro hb<;>try exact dsX hb))<;>(conv=>whnf)))
    refine⟨(h+1,j),⟨by dsimp only;omega,λw _ hw=> ?_,q5⟩,by dsimp only;omega,(by repeat' (first|exact trivial|exact rfl|exact eH (by(try dsimp only);omega)|refine And.intro ?_ ?_)),rfl⟩
    dsimp only at hw
    rw [show h+1 - 1 - Pr.length=h - Pr.length by omega,hz]at hw
    injection hw with hw
    subst hw
    rw [hc];exact h3
   ·((conv=>whnf);repeat' ((first|(intro hq;(try simp only [lnS]at hq);(try rewrite [List.length_map]))|refine sJ ?_|refine .intro _ (.intro rfl ?_)|refine exL (k:= ?_)|refine dwR ?_|((first|refine aD ?_ ?_|refine aF ?_ ?_)<;>intro hb<;>(first|exact ddX hb|try simp only [lnS]at hb))|(refine aC ?_ ?_<;>intro hb<;>try exact dsX hb))<;>(conv=>whnf)))
    refine⟨(i,h),⟨by dsimp only;omega,q4,λw hw=> ?_⟩,by dsimp only;omega,(by repeat' (first|exact trivial|exact rfl|exact eH (by(try dsimp only);omega)|refine And.intro ?_ ?_)),rfl⟩
    dsimp only at hw
    rw [hz]at hw
    injection hw with hw
    subst hw
    rw [hc];exact h3
  ·obtain rfl:i=j:=by omega
   obtain⟨p,hp⟩: ∃p,p=i - Pr.length:=⟨_,rfl⟩
   have hip:i=Pr.length+p:=by omega
   subst hip
   clear hp
   have hpl:p<=A.length:=by omega
   have hfin := fin (A.take p ++ y :: A.drop p) (by
    refine List.perm_middle.trans ?_
    rw [List.take_append_drop]
    exact(List.perm_append_singleton y A).symm) (by
    have hAA:Srt cf (A.take p++A.drop p):=by rw [List.take_append_drop];exact hA
    obtain⟨a1,a2,a3⟩:=Srt.app.1 hAA
    refine Srt.app.2 ⟨a1,List.pairwise_cons.2 ⟨λu hu=> ?_,a2⟩,λu hu w hw=> ?_⟩
    ·obtain⟨k,hk,e⟩:=lM hu
     obtain⟨z,hz⟩: ∃z,A[p]? =some z:=⟨_,List.getElem?_eq_getElem (by have:=(List.getElem?_eq_some_iff.1 e).1;omega)⟩
     exact G.ord.tr _ _ _ (G.ord.asym _ _ (q5 z (by rw [show Pr.length+p - Pr.length=p by omega];exact hz))) (hA.le_at G.ord hk hz e)
    ·have hux:¬ cf y u < 0:=by
      obtain⟨k,hk,e⟩:=lL hu
      obtain⟨z,hz⟩: ∃z,A[p - 1]? =some z:=⟨_,List.getElem?_eq_getElem (by omega)⟩
      exact G.ord.tr _ _ _ (hA.le_at G.ord (show k<=p - 1 by omega) e hz) (q4 z (by omega) (by rw [show Pr.length+p - 1 - Pr.length=p - 1 by omega];exact hz))
     rcases List.mem_cons.1 hw with rfl|hw
     ·exact hux
     ·exact a3 u hu w hw)
   clear fin q4 q5 hry hrA hh2
   ((conv=>whnf);repeat ((first|(intro hq;try simp only [lnS]at hq)|refine sI ?_|refine .intro _ (.intro rfl ?_));(conv=>whnf)))
   refine dE hty (λt:Nat=>([(0, .mw 70 3 N),(1, .d (.int .i64 (Pr.length:Nat))),(4, .fn g [] []),(14, .d (.int .i64 (Pr.length+p:Nat))),(17, .d (.int .i64 (Pr.length+t:Nat)))],(70, .mrow 68 3 cap (((Pr++A.take t)++y::(A.drop t++Q)).map rnR))::rest)) (λt=>p<=t/\t<=A.length) (λt=>t) A.length ⟨hpl,Nat.le_refl _⟩ (by repeat' (first|exact trivial|exact rfl|exact eH (by(try dsimp only);omega)|refine And.intro ?_ ?_)) (by rw [hL,List.take_length,List.drop_length];simp) ?_
   rintro t ⟨ht,htA⟩
   dsimp only
   ((conv=>whnf);repeat ((first|(intro hq;try simp only [lnS]at hq)|refine sI ?_|refine .intro _ (.intro rfl ?_));(conv=>whnf)))
   refine aD (λh2=> ?_) (λh2=> ?_)
   ·have htB:t - 1 < A.length:=by omega
    obtain⟨t,rfl⟩: ∃t',t=t'+1:=⟨t - 1,by omega⟩
    rw [Nat.add_sub_cancel]at htB
    obtain⟨x,hx⟩: ∃x,x=A[t]:=⟨_,rfl⟩
    have hdB:A.drop t=x::A.drop (t+1):=by rw [hx];exact List.drop_eq_getElem_cons htB
    have htk:A.take (t+1)=A.take t++[x]:=by rw [hx];exact List.take_succ_eq_append_getElem htB
    have hUl:(Pr++A.take t).length=Pr.length+t:=by rw [List.length_append,List.length_take];omega
    have hl1:(Pr++A.take (t+1))++y::(A.drop (t+1)++Q)=(Pr++A.take t)++x::([]++y::(A.drop (t+1)++Q)):=by rw [htk];simp
    have r1:(((Pr++A.take (t+1))++y::(A.drop (t+1)++Q)).map rnR)[((Pr.length+(t+1):Nat):Int).toNat]? =some (rnR y):=fL (U:=Pr++A.take (t+1)) (W:=A.drop (t+1)++Q) rfl (by rw [List.length_append,List.length_take];omega)
    have r2:(((Pr++A.take (t+1))++y::(A.drop (t+1)++Q)).map rnR)[(((Pr.length+(t+1):Nat):Int) - 1).toNat]? =some (rnR x):=fL hl1 (by rw [hUl];omega)
    have hsw: ∀p q,p=((Pr.length+(t+1):Nat):Int).toNat->q=(((Pr.length+(t+1):Nat):Int) - 1).toNat->((((Pr++A.take (t+1))++y::(A.drop (t+1)++Q)).map rnR).set p (rnR x)).set q (rnR y)=((Pr++A.take t)++y::(A.drop t++Q)).map rnR:= λp q hp hq=>by
     rw [xO (x:=x) (y:=y) (i:=q) (j:=p) hl1 (by rw [hUl];omega) (by rw [hUl];simp;omega),hdB]
     rfl
    have hML:(((Pr++A.take (t+1))++y::(A.drop (t+1)++Q)).map rnR).length=N:=by
     simp only [List.length_map,List.length_append,List.length_cons,List.length_take,List.length_drop]
     omega
    generalize List.map rnR ((Pr++A.take (t+1))++y::(A.drop (t+1)++Q))=M0 at r1 r2 hsw hML |-
    have r3:(M0.set ((Pr.length+(t+1):Nat):Int).toNat (rnR x))[(((Pr.length+(t+1):Nat):Int) - 1).toNat]? =some (rnR x):=by
     rw [List.getElem?_set_ne (by omega)];exact r2
    (conv=>whnf)
    refine pM hty [0,1,2,3,4,5,6,7,8,9,10,11,12,13,14,15,16,17] (by kernel_rfl) (by kernel_rfl) ?_
    ((conv=>whnf);repeat' ((first|(intro hq;(try simp only [lnS]at hq);(try rewrite [List.length_map]))|refine sJ ?_|refine .intro _ (.intro rfl ?_)|refine exL (k:= ?_)|(refine And.intro hML.symm ?_)|(refine And.intro ((List.length_set ..).trans hML).symm ?_)|(refine⟨_,r1, ?_⟩)|(refine⟨_,r2, ?_⟩)|(refine⟨_,r3, ?_⟩)|(refine And.intro (kT rfl) ?_)|refine dwR ?_|((first|refine aD ?_ ?_|refine aF ?_ ?_)<;>intro hb<;>(first|exact ddX hb|try simp only [lnS]at hb))|(refine aC ?_ ?_<;>intro hb<;>try exact dsX hb))<;>(conv=>whnf)))
    refine⟨t,by dsimp only;omega,by dsimp only;omega,(by repeat' (first|exact trivial|exact rfl|exact eH (by(try dsimp only);omega)|refine And.intro ?_ ?_)), ?_⟩
    have:=hsw _ _ rfl rfl
    show (70,HObj.mrow _ 3 cap ((M0.set ((Pr.length+(t+1):Nat):Int).toNat (rnR x)).set (((Pr.length+(t+1):Nat):Int) - 1).toNat (rnR y)))::rest=_
    rw [this]
   ·have hte:t=p:=by omega
    subst hte
    ((conv=>whnf);repeat' ((first|(intro hq;(try simp only [lnS]at hq);(try rewrite [List.length_map]))|refine sJ ?_|refine .intro _ (.intro rfl ?_)|refine exL (k:= ?_)|refine dwR ?_|((first|refine aD ?_ ?_|refine aF ?_ ?_)<;>intro hb<;>(first|exact ddX hb|try simp only [lnS]at hb))|(refine aC ?_ ?_<;>intro hb<;>try exact dsX hb))<;>(conv=>whnf)))
    have e:(Pr++A.take t)++y::(A.drop t++Q)=Pr++((A.take t++y::A.drop t)++Q):=by simp
    rw [e]
    exact hfin
 ·exfalso;omega
end Go.Proofs.YtfhoddcminbffaaGreatDoor
