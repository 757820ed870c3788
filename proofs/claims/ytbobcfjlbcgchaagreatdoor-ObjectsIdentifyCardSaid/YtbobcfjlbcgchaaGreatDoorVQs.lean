/-
  Merging in place, plainly: what a symmetric merge does to a list, and when its two halves may be merged alone. Rename: renamings, plainly: what is valid, what a name becomes, what two renamings are together, what undoes one. Axioms that are small enough to be compared, as elements to be sorted. The library's stable sort at rows that may be written: insertion, swaps, rotation.
  Conditions: none.
-/
import Derived.WalkKit
import Derived.Test.YtbobcfjlbcgchaaGreatDoorVBp
import Derived.Test.YtbobcfjlbcgchaaGreatDoorVBq
import Derived.Test.YtbobcfjlbcgchaaGreatDoorVSng
import Derived.Test.YtbobcfjlbcgchaaGreatDoorVSna
set_option linter.unnecessarySimpa false
set_option linter.unusedSectionVars false
set_option linter.unusedSimpArgs false
set_option linter.unusedVariables false
set_option maxHeartbeats 8000000
namespace Go.Proofs.YtbobcfjlbcgchaaGreatDoor
section
variable {α:Type}
structure OrdC (cf:α->α->Int):Prop where
 asym: ∀x y,cf x y < 0->¬ cf y x < 0
 tr: ∀x y z,¬ cf y x < 0->¬ cf z y < 0->¬ cf z x < 0
def Srt (cf:α->α->Int) (l:List α):Prop:=l.Pairwise λx y=>¬ cf y x < 0
theorem OrdC.refl {cf:α->α->Int}(h:OrdC cf) (x:α):¬ cf x x < 0:= λq=>h.asym x x q q
theorem Srt.app {cf:α->α->Int}{l m:List α}:Srt cf (l++m)↔Srt cf l/\Srt cf m/\ ∀x∈l,∀y∈m,¬ cf y x < 0:=List.pairwise_append
theorem Srt.le_at {cf:α->α->Int}(hO:OrdC cf) {l:List α}(h:Srt cf l) {i j:Nat}{x y:α}(hij:i<=j) (hx:l[i]? =some x) (hy:l[j]? =some y):¬ cf y x < 0:=by
 rcases Nat.lt_or_eq_of_le hij with hlt|rfl
 ·obtain⟨h1,e1⟩:=List.getElem?_eq_some_iff.1 hx
  obtain⟨h2,e2⟩:=List.getElem?_eq_some_iff.1 hy
  subst e1;subst e2
  exact List.pairwise_iff_getElem.1 h i j h1 h2 hlt
 ·rw [hx]at hy
  injection hy with e
  subst e
  exact hO.refl x
theorem pM {l:List α}{n:Nat}{x:α}(h:x∈l.take n): ∃i,i < n/\l[i]? =some x:=by
 obtain⟨i,hi,e⟩:=List.getElem_of_mem h
 rw [List.length_take]at hi
 rw [List.getElem_take]at e
 exact⟨i,by omega,by rw [<-e];exact List.getElem?_eq_getElem (by omega)⟩
theorem pN {l:List α}{n:Nat}{x:α}(h:x∈l.drop n): ∃i,n<=i/\l[i]? =some x:=by
 obtain⟨i,hi,e⟩:=List.getElem_of_mem h
 rw [List.length_drop]at hi
 rw [List.getElem_drop]at e
 exact⟨n+i,by omega,by rw [<-e];exact List.getElem?_eq_getElem (by omega)⟩
theorem aLk {cf:α->α->Int}(hO:OrdC cf) {A B:List α}(hA:Srt cf A) (hB:Srt cf B) {s t:Nat}(hs:s<=A.length) (ht:t<=B.length)
  (h1: ∀x y,A[s]? =some x->0 < t->B[t - 1]? =some y->¬ cf x y < 0) (h2: ∀x y,0 < s->A[s - 1]? =some x->B[t]? =some y->¬ cf y x < 0):
  ∀x∈A.take s++B.take t,∀y∈A.drop s++B.drop t,¬ cf y x < 0:=by
 intro x hx y hy
 rcases List.mem_append.1 hx with hx|hx<;>rcases List.mem_append.1 hy with hy|hy<;>obtain⟨i,hi,hx⟩:=pM hx<;>obtain⟨j,hj,hy⟩:=pN hy
 ·exact hA.le_at hO (by omega) hx hy
 ·have hm:=(List.getElem?_eq_some_iff.1 hy).1
  have a:=hA.le_at hO (show i<=s - 1 by omega) hx (List.getElem?_eq_getElem (show s - 1 < A.length by omega))
  have b:=h2 _ _ (by omega) (List.getElem?_eq_getElem (show s - 1 < A.length by omega)) (List.getElem?_eq_getElem (show t < B.length by omega))
  have c:=hB.le_at hO hj (List.getElem?_eq_getElem (show t < B.length by omega)) hy
  exact hO.tr _ _ _ a (hO.tr _ _ _ b c)
 ·have hm:=(List.getElem?_eq_some_iff.1 hy).1
  have a:=hB.le_at hO (show i<=t - 1 by omega) hx (List.getElem?_eq_getElem (show t - 1 < B.length by omega))
  have b:=h1 _ _ (List.getElem?_eq_getElem (show s < A.length by omega)) (by omega) (List.getElem?_eq_getElem (show t - 1 < B.length by omega))
  have c:=hA.le_at hO hj (List.getElem?_eq_getElem (show s < A.length by omega)) hy
  exact hO.tr _ _ _ a (hO.tr _ _ _ b c)
 ·exact hB.le_at hO (by omega) hx hy
theorem aVg (U:List α) (x:α) (W:List α):(U++x::W)[U.length]? =some x:=by
 rw [List.getElem?_append_right (Nat.le_refl _),Nat.sub_self];rfl
theorem aLz (U:List α) (x z:α) (W:List α):(U++x::W).set U.length z=U++z::W:=by
 rw [List.set_append_right _ _ (Nat.le_refl _),Nat.sub_self];rfl
theorem aLy (U:List α) (x:α) (V:List α) (y z:α) (W:List α):(U++x::(V++y::W)).set (U.length+1+V.length) z=U++x::(V++z::W):=by
 have:=aLz (U++x::V) y z W
 rw [List.append_assoc,List.append_assoc,List.cons_append,List.cons_append]at this
 rw [<-this]
 congr 1
 simp only [List.length_append,List.length_cons];omega
theorem aSe (U:List α) (x:α) (V:List α) (y:α) (W:List α):((U++x::(V++y::W)).set U.length y).set (U.length+1+V.length) x=U++y::(V++x::W):=by
 rw [aLz,aLy]
theorem aLl (U:List α) (x:α) (V:List α) (y:α) (W:List α):((U++x::(V++y::W)).set (U.length+1+V.length) x).set U.length y=U++y::(V++x::W):=by
 rw [aLy,aLz]
def Blk (cf:α->α->Int) (bs:Nat) (l:List α):Prop:= ∀k,Srt cf ((l.drop (k * bs)).take bs)
theorem Blk.app {cf:α->α->Int}{bs k:Nat}{U S:List α}(hU:Blk cf bs U) (hk:U.length=k * bs) (hS:Srt cf S) (hl:S.length<=bs):Blk cf bs (U++S):=by
 intro i
 rcases Nat.lt_trichotomy i k with h|h|h
 ·have h1:(i+1)* bs<=k * bs:=Nat.mul_le_mul_right _ h
  rw [Nat.add_mul,Nat.one_mul]at h1
  rw [List.drop_append_of_le_length (by omega),List.take_append_of_le_length (by rw [List.length_drop];omega)]
  exact hU i
 ·subst h
  rw [<-hk,List.drop_left,List.take_of_length_le hl]
  exact hS
 ·have h1:(k+1)* bs<=i * bs:=Nat.mul_le_mul_right _ h
  rw [Nat.add_mul,Nat.one_mul]at h1
  rw [List.drop_eq_nil_of_le (by rw [List.length_append];omega)]
  simp [Srt]
theorem Blk.first {cf:α->α->Int}{bs:Nat}{l:List α}(h:Blk cf bs l):Srt cf (l.take bs):=by
 have:=h 0
 rwa [Nat.zero_mul,List.drop_zero]at this
theorem Blk.rest {cf:α->α->Int}{bs:Nat}{l:List α}(h:Blk cf bs l):Blk cf bs (l.drop bs):=by
 intro k
 have:=h (k+1)
 rw [Nat.add_mul,Nat.one_mul,Nat.add_comm]at this
 rwa [List.drop_drop]
theorem Blk.nil {cf:α->α->Int}{bs:Nat}:Blk cf bs []:= λk=>by
 simp [Srt]
theorem Blk.all {cf:α->α->Int}{bs:Nat}{l:List α}(h:Blk cf bs l) (hl:l.length<=bs):Srt cf l:=by
 have:=h.first
 rwa [List.take_of_length_le hl]at this
end
end Go.Proofs.YtbobcfjlbcgchaaGreatDoor
namespace Go.Proofs.YtbobcfjlbcgchaaGreatDoor
open Go.Proofs
structure Rn where
 kind:Int
 old:List UInt8
 new:List UInt8
theorem Rn.ext' {a b:Rn}(h1:a.kind=b.kind) (h2:a.old=b.old) (h3:a.new=b.new):a=b:=by
 cases a;cases b;simp_all
def rnN (s:List UInt8):Bool:=fH s && !decide (s.head?=some 95)
def rnV (r:Rn):Bool:=decide (1<=r.kind) && (decide (r.kind<=4) && (rnN r.old && (rnN r.new && !decide (r.old=r.new))))
def aRq (a b:Rn):Int:=orF [xR a.kind b.kind,iP a.old b.old]
abbrev Ky:=Int×List UInt8
def aYc (r:Rn):Ky:=(r.kind,r.new)
def aEa (r:Rn):Ky:=(r.kind,r.old)
theorem aDw {a b:Rn}:aRq a b=0↔aEa a=aEa b:=by
 unfold aRq aEa
 simp only [iX,eE,rO,dZ,Prod.mk.injEq]
 simp [orF]
theorem LCk.ord {α:Type}{c:α->α->Int}(h:LCk c):OrdC c where
 asym:= λx y a=>by have:=h.anti x y;omega
 tr:= λx y z a b=>by
  have h1:=h.t3 x y z
  have r1:=h.rng x y
  have r2:=h.rng y z
  have a1:=h.anti x y
  have a2:=h.anti y z
  have a3:=h.anti x z
  unfold yC at h1
  have:=h1.1
  have:=h1.2.1
  have:=h1.2.2
  omega
structure Good (l:List Rn):Prop where
 val: ∀r∈l,rnV r=true
 str:l.Pairwise λa b=>aRq a b < 0
 nod:(l.map aYc).Nodup
theorem aCk {α:Type}{R:α->α->Prop}(irr: ∀x,¬ R x x) (tr: ∀x y z,R x y->R y z->R x z): ∀{l m:List α},l.Pairwise R->m.Pairwise R->(∀x,x∈l↔x∈m)->l=m
 | [],[],_,_,_=>rfl
 | [],y::m,_,_,h=>absurd ((h y).2 (by simp)) (by simp)
 |x::l,[],_,_,h=>absurd ((h x).1 (by simp)) (by simp)
 |x::l,y::m,h1,h2,h=>by
  have a1:=List.pairwise_cons.1 h1
  have a2:=List.pairwise_cons.1 h2
  have hxy:x=y:=by
   rcases List.mem_cons.1 ((h x).1 (by simp))with e|hx
   ·exact e
   ·rcases List.mem_cons.1 ((h y).2 (by simp))with e|hy
    ·exact e.symm
    ·exact absurd (tr _ _ _ (a2.1 x hx) (a1.1 y hy)) (irr y)
  subst hxy
  have key: ∀z,z∈l↔z∈m:= λz=>by
   constructor
   ·intro hz
    rcases List.mem_cons.1 ((h z).1 (List.mem_cons_of_mem _ hz))with e|hz'
    ·exact absurd (a1.1 z hz) (e ▸ irr z)
    ·exact hz'
   ·intro hz
    rcases List.mem_cons.1 ((h z).2 (List.mem_cons_of_mem _ hz))with e|hz'
    ·exact absurd (a2.1 z hz) (e ▸ irr z)
    ·exact hz'
  rw [aCk irr tr a1.2 a2.2 key]
theorem aSh {l:List Rn}(h:l.Pairwise λa b=>aRq a b < 0) {a b:Rn}(ha:a∈l) (hb:b∈l) (e:aEa a=aEa b):a=b:=by
 induction l with
 |nil=>simp at ha
 |cons x r ih=>
  have h1:=List.pairwise_cons.1 h
  rcases List.mem_cons.1 ha with e1|ha1<;>rcases List.mem_cons.1 hb with e2|hb1
  ·rw [e1,e2]
  ·have:=h1.1 b hb1;rw [<-e1,aDw.2 e]at this;omega
  ·have:=h1.1 a ha1;rw [<-e2,aDw.2 e.symm]at this;omega
  ·exact ih h1.2 ha1 hb1
def mI (l:List Rn) (k:Int) (s:List UInt8):List UInt8:=
 match l.find? (λr=>decide (r.kind=k) && decide (r.old=s))with
 |some r=>r.new
 |none=>s
theorem aCu {l:List Rn}(h:l.Pairwise λa b=>aRq a b < 0) {r:Rn}(hr:r∈l):mI l r.kind r.old=r.new:=by
 unfold mI
 split
 ·rename_i q hq
  have h1:=List.mem_of_find?_eq_some hq
  have h2:=List.find?_some hq
  simp only [Bool.and_eq_true,decide_eq_true_eq]at h2
  rw [aSh h h1 hr (by unfold aEa;rw [h2.1,h2.2])]
 ·rename_i hq
  have:=List.find?_eq_none.1 hq r hr
  simp at this
theorem zU {l:List Rn}{k:Int}{s:List UInt8}(h: ∀r∈l,aEa r≠(k,s)):mI l k s=s:=by
 unfold mI
 split
 ·rename_i q hq
  have h1:=List.mem_of_find?_eq_some hq
  have h2:=List.find?_some hq
  simp only [Bool.and_eq_true,decide_eq_true_eq]at h2
  exact absurd (by unfold aEa;rw [h2.1,h2.2]) (h q h1)
 ·rfl
theorem wJ {l:List Rn}(h:l.Pairwise λa b=>aRq a b < 0) (k:Int) (s:List UInt8):(∃r∈l,aEa r=(k,s)/\mI l k s=r.new)\/((∀r∈l,aEa r≠(k,s))/\mI l k s=s):=by
 by_cases he: ∃r∈l,aEa r=(k,s)
 ·obtain⟨r,hr,e⟩:=he
  have:=aCu h hr
  have e':r.kind=k/\r.old=s:=by simpa [aEa]using e
  rw [e'.1,e'.2]at this
  exact .inl ⟨r,hr,e,this⟩
 ·have he: ∀r∈l,aEa r≠(k,s):= λr hr e=>he ⟨r,hr,e⟩
  exact .inr ⟨he,zU he⟩
structure Comp (l m x:List Rn):Prop where
 str:x.Pairwise λa b=>aRq a b < 0
 mem: ∀r,r∈x↔r.new=mI m r.kind (mI l r.kind r.old)/\r.new≠r.old
theorem Comp.name {l m x:List Rn}(h:Comp l m x) (k:Int) (s:List UInt8):mI x k s=mI m k (mI l k s):=by
 rcases wJ h.str k s with⟨r,hr,e,e2⟩|⟨hn,e2⟩
 ·have e':r.kind=k/\r.old=s:=by simpa [aEa]using e
  have:=((h.mem r).1 hr).1
  rw [e2,this,e'.1,e'.2]
 ·rw [e2]
  by_cases hs:mI m k (mI l k s)=s
  ·exact hs.symm
  ·exact absurd rfl (hn ⟨k,s,mI m k (mI l k s)⟩ ((h.mem _).2 ⟨rfl,hs⟩))
def aVc (r:Rn):Rn:=⟨r.kind,r.new,r.old⟩
theorem aQl (r:Rn):aVc (aVc r)=r:=rfl
structure Inv (l x:List Rn):Prop where
 str:x.Pairwise λa b=>aRq a b < 0
 mem: ∀r,r∈x↔aVc r∈l
theorem Inv.name {l x:List Rn}(hl:Good l) (h:Inv l x) {k:Int}{s:List UInt8}(hn:(∃r∈l,aEa r=(k,s))\/ ∀r∈l,aYc r≠(k,s)):mI x k (mI l k s)=s:=by
 rcases wJ hl.str k s with⟨r,hr,e,e2⟩|⟨h1,e2⟩
 ·have e':r.kind=k/\r.old=s:=by simpa [aEa]using e
  have:=aCu h.str ((h.mem (aVc r)).2 (by rw [aQl];exact hr))
  rw [e2,<-e'.1,<-e'.2]
  exact this
 ·rw [e2]
  refine zU λr hr e=> ?_
  have hr':=(h.mem r).1 hr
  rcases hn with⟨q,hq,e3⟩|hn
  ·exact h1 q hq e3
  ·exact hn (aVc r) hr' e
end Go.Proofs.YtbobcfjlbcgchaaGreatDoor
namespace Go.Proofs.YtbobcfjlbcgchaaGreatDoor
open Go.Proofs
def SmA (x:Ax):Prop:=bB x.left<=1000000/\bB x.right<=1000000/\x.roles.length<=1000000
abbrev SAx:={x:Ax // SmA x}
def saR (x:SAx):List D:=axR x.1
def aYo (x y:SAx):Int:=cS x.1 y.1
theorem aTq:LCk aYo:=kX.of Subtype.val
theorem aGk: ∀(l:List Ax) (h: ∀x∈l,SmA x),(l.pmap Subtype.mk h).map saR=l.map axR
 | [],_=>rfl
 |x::r,h=>by
  rw [List.pmap_cons,List.map_cons,List.map_cons,aGk r]
  rfl
theorem aSm (l:List SAx):l.map saR=(l.map Subtype.val).map axR:=by
 rw [List.map_map];rfl
end Go.Proofs.YtbobcfjlbcgchaaGreatDoor
namespace Go.Proofs.YtbobcfjlbcgchaaGreatDoor
open Go.Proofs
set_option maxRecDepth 10000
attribute [local irreducible] aJ aF Tri aG YVC bS aQ
structure CmpG (g:FuncId) (cf:SAx->SAx->Int):Prop where
 call:dA Tryz.prog g=true
 ord:OrdC cf
 tri: ∀x y,Tri Tryz.prog g [.d (.agg (saR x)), .d (.agg (saR y))] [] (λr=>r= .d (.int .i64 (cf x y)))
theorem fU {l:List SAx}{U:List SAx}{x:SAx}{W:List SAx}(h:l=U++x::W) {i:Nat}(hi:i=U.length):(l.map saR)[i]? =some (saR x):=by
 subst h;subst hi
 rw [List.getElem?_map,aVg];rfl
theorem aH9 {l U V W:List SAx}{x y:SAx}{i j:Nat}(h:l=U++x::(V++y::W)) (hi:i=U.length) (hj:j=U.length+1+V.length):
  (((l.map saR).set i (saR y)).set j (saR x))=(U++y::(V++x::W)).map saR:=by
 subst h;subst hi;subst hj
 rw [<-List.map_set,<-List.map_set,aSe]
theorem aD0 {l U V W:List SAx}{x y:SAx}{i j:Nat}(h:l=U++x::(V++y::W)) (hi:i=U.length) (hj:j=U.length+1+V.length):
  (((l.map saR).set j (saR x)).set i (saR y))=(U++y::(V++x::W)).map saR:=by
 subst h;subst hi;subst hj
 rw [<-List.map_set,<-List.map_set,aLl]
theorem eH {a b:Int}(h:a=b):Wk (.d (.int .i64 a)) (.d (.int .i64 b)):=by subst h;exact rfl
theorem wG (l:List SAx):l=[]\/ ∃S v,l=S++[v]:=by
 rcases List.eq_nil_or_concat l with h|⟨S,v,h⟩
 ·exact .inl h
 ·exact .inr ⟨S,v,by rw [h,List.concat_eq_append]⟩
theorem aF3 {S1 S2:List SAx}{x:SAx}{T:List SAx}(h:(S1++S2).Perm T):(S1++x::S2).Perm (T++[x]):=
 (List.perm_middle.trans (h.cons x)).trans (List.perm_append_singleton x T).symm
theorem aIm {cf:SAx->SAx->Int}(hO:OrdC cf) {S1 S2:List SAx}{x:SAx}(h:Srt cf (S1++S2)) (h2: ∀y∈S2,cf x y < 0) (h1: ∀u S,S1=S++[u]->¬ cf x u < 0):Srt cf (S1++x::S2):=by
 obtain⟨a1,a2,a3⟩:=Srt.app.1 h
 refine Srt.app.2 ⟨a1,List.pairwise_cons.2 ⟨λy hy=>hO.asym _ _ (h2 y hy),a2⟩,λu hu y hy=> ?_⟩
 have hux:¬ cf x u < 0:=by
  obtain⟨S,v,rfl⟩: ∃S v,S1=S++[v]:=by
   rcases wG S1 with rfl|⟨S,v,rfl⟩
   ·simp at hu
   ·exact⟨S,v,rfl⟩
  have hv:=h1 v S rfl
  rcases List.mem_append.1 hu with hu|hu
  ·exact hO.tr _ _ _ ((Srt.app.1 a1).2.2 u hu v (by simp)) hv
  ·simp at hu;subst hu;exact hv
 rcases List.mem_cons.1 hy with rfl|hy
 ·exact hux
 ·exact a3 u hu y hy
theorem tM {g:FuncId}{cf:SAx->SAx->Int}(G:CmpG g cf) (Pr A Q:List SAx) {L:List SAx}(hL:L=Pr++(A++Q)) (hl:L.length<=1000000) {n:Nat}{a b:Int}(hn:n=L.length) (ha:a=(Pr.length:Nat)) (hb:b=(Pr.length+A.length:Nat)) (cap:Nat) (rest:Hp) {pin:Pin}{fr:Fr}{K:SV->Hp->Prop}
  (fin: ∀S,S.Perm A->Srt cf S->K (cU []) ((70, .mrow 48 16 cap ((Pr++(S++Q)).map saR))::rest)):
  aF Tryz.prog pin fr ((70, .mrow 48 16 cap (L.map saR))::rest) 127 [.mw 70 16 n, .d (.int .i64 a), .d (.int .i64 b), .fn g [] []] K:=by
 subst hL;subst hn;subst ha;subst hb
 have hlen:(Pr++(A++Q)).length=Pr.length+(A.length+Q.length):=by rw [List.length_append,List.length_append]
 generalize hN:(Pr++(A++Q)).length=N at *
 refine dR hty Tryz.func127 rfl (kp [0,1,2,3,8,9,14,34]) 500 (by simp [Tryz.f127]) ?_
 ((conv=>whnf);repeat ((first|(intro hq;try simp only [lnS]at hq)|refine sI ?_|refine .intro _ (.intro rfl ?_));(conv=>whnf)))
 refine cX hty (λy:Nat×List SAx=>([(0, .mw 70 16 N),(1, .d (.int .i64 (Pr.length:Nat))),(2, .d (.int .i64 (Pr.length+A.length:Nat))),(3, .fn g [] []),(8, .d (.int .i64 (Pr.length+y.1:Nat)))],(70, .mrow 48 16 cap ((Pr++(y.2++(A.drop y.1++Q))).map saR))::rest)) (λy=>(1<=y.1/\y.1<=A.length+1)/\y.2.Perm (A.take y.1)/\Srt cf y.2) (λy=>A.length+1 - y.1) (1,A.take 1) ⟨by dsimp only;omega, .refl _, ?_⟩ (by repeat' (first|exact trivial|exact rfl|exact eH (by dsimp only;omega)|refine And.intro ?_ ?_)) ?_ ?_
 ·dsimp only
  cases A with
  |nil=>exact .nil
  |cons x r=>exact List.pairwise_cons.2 ⟨by simp, .nil⟩
 ·dsimp only
  rw [<-List.append_assoc (A.take 1),List.take_append_drop]
 rintro⟨k,S⟩ ⟨⟨hk1,hk2⟩,hp,hs⟩
 dsimp only at hk1 hk2 hp hs
 have hSl:S.length=min k A.length:=by rw [hp.length_eq,List.length_take]
 ((conv=>whnf);repeat ((first|(intro hq;try simp only [lnS]at hq)|refine sI ?_|refine .intro _ (.intro rfl ?_));(conv=>whnf)))
 refine aA (λh1=> ?_) (λh1=> ?_)
 ·have hkl:k < A.length:=by omega
  obtain⟨x,hx⟩: ∃x,x=A[k]:=⟨_,rfl⟩
  have hdr:A.drop k=x::A.drop (k+1):=by rw [hx];exact List.drop_eq_getElem_cons hkl
  have htk:A.take (k+1)=A.take k++[x]:=by rw [hx];exact List.take_succ_eq_append_getElem hkl
  have hSk:S.length=k:=by omega
  rw [hdr]
  ((conv=>whnf);repeat ((first|(intro hq;try simp only [lnS]at hq)|refine sI ?_|refine .intro _ (.intro rfl ?_));(conv=>whnf)))
  refine cX hty (λz:List SAx×List SAx=>([(0, .mw 70 16 N),(1, .d (.int .i64 (Pr.length:Nat))),(2, .d (.int .i64 (Pr.length+A.length:Nat))),(3, .fn g [] []),(8, .d (.int .i64 (Pr.length+k:Nat))),(9, .d (.int .i64 (Pr.length+z.1.length:Nat)))],(70, .mrow 48 16 cap (((Pr++z.1)++x::(z.2++(A.drop (k+1)++Q))).map saR))::rest)) (λz=>(z.1++z.2).Perm (A.take k)/\Srt cf (z.1++z.2)/\ ∀y∈z.2,cf x y < 0) (λz=>z.1.length) (S,[]) ⟨by simpa using hp,by simpa using hs,by simp⟩ (by repeat' (first|exact trivial|exact rfl|exact eH (by dsimp only;omega)|refine And.intro ?_ ?_)) ?_ ?_
  ·dsimp only
   rw [List.append_assoc Pr S]
   rfl
  rintro⟨S1,S2⟩ ⟨zp,zs,zx⟩
  dsimp only at zp zs zx
  have hzl:S1.length+S2.length=k:=by
   have:=zp.length_eq
   rw [List.length_append,List.length_take]at this
   omega
  have done:(∀u S,S1=S++[u]->¬ cf x u < 0)->(S1++x::S2).Perm (A.take (k+1))/\Srt cf (S1++x::S2):= λh=>⟨by rw [htk];exact aF3 zp,aIm G.ord zs zx h⟩
  rcases wG S1 with rfl|⟨S1',u,rfl⟩
  ·obtain⟨d1,d2⟩:=done (by intro u S e;simp at e)
   ((conv=>whnf);repeat' ((first|(intro hq;(try simp only [lnS]at hq);(try rewrite [List.length_map]))|refine sJ ?_|refine .intro _ (.intro rfl ?_)|refine exL (k:= ?_)|refine dwR ?_|((first|refine aA ?_ ?_|refine aC ?_ ?_)<;>intro hb<;>(first|exact ddX hb|try simp only [lnS]at hb))|(refine aB ?_ ?_<;>intro hb<;>try exact dsX hb))<;>(conv=>whnf)))
   refine⟨(k+1,x::S2),⟨by dsimp only;omega,d1,d2⟩,by dsimp only;omega,(by repeat' (first|exact trivial|exact rfl|exact eH (by dsimp only;omega)|refine And.intro ?_ ?_)), ?_⟩
   dsimp only
   rw [List.append_nil]
   rfl
  ·have hux:=G.tri x u
   obtain⟨J,hJ⟩: ∃J,J=Pr.length+(S1'++[u]).length:=⟨_,rfl⟩
   have hJ2:(S1'++[u]).length=S1'.length+1:=by simp
   have hl1:(Pr++(S1'++[u]))++x::(S2++(A.drop (k+1)++Q))=(Pr++S1')++u::([]++x::(S2++(A.drop (k+1)++Q))):=by simp
   have hl2:(Pr++S1').length=J - 1:=by rw [List.length_append];omega
   have hrx:(((Pr++(S1'++[u]))++x::(S2++(A.drop (k+1)++Q))).map saR)[((J:Nat):Int).toNat]? =some (saR x):=fU rfl (by rw [Int.toNat_natCast,hJ];simp)
   have hru:(((Pr++(S1'++[u]))++x::(S2++(A.drop (k+1)++Q))).map saR)[(((J:Nat):Int) - 1).toNat]? =some (saR u):=fU hl1 (by rw [hl2];omega)
   have hsw: ∀a b,a=((J:Nat):Int).toNat->b=(((J:Nat):Int) - 1).toNat->((((Pr++(S1'++[u]))++x::(S2++(A.drop (k+1)++Q))).map saR).set a (saR u)).set b (saR x)=((Pr++S1')++x::((u::S2)++(A.drop (k+1)++Q))).map saR:= λa b ha hb=>by
    have:=aD0 (x:=u) (y:=x) (i:=b) (j:=a) hl1 (by rw [hl2];omega) (by rw [hl2];simp;omega)
    rw [this];rfl
   have hML:(((Pr++(S1'++[u]))++x::(S2++(A.drop (k+1)++Q))).map saR).length=N:=by
    have:(A.drop (k+1)).length=A.length - (k+1):=List.length_drop
    rw [hJ2]at hzl
    simp only [List.length_map,List.length_append,List.length_cons,List.length_nil]
    omega
   dsimp only
   rw [<-hJ]
   generalize hM:List.map saR ((Pr++(S1'++[u]))++x::(S2++(A.drop (k+1)++Q)))=M at hrx hru hsw hML |-
   generalize hc:cf x u=c at hux
   ((conv=>whnf);repeat ((first|(intro hq;try simp only [lnS]at hq)|refine sI ?_|refine .intro _ (.intro rfl ?_));(conv=>whnf)))
   refine dwR ?_
   ((conv=>whnf);repeat ((first|(intro hq;try simp only [lnS]at hq)|refine sI ?_|refine .intro _ (.intro rfl ?_));(conv=>whnf)))
   refine aA (λh2=> ?_) (λh2=> ?_)
   ·((conv=>whnf);repeat ((first|(refine And.intro hML.symm ?_)|(refine⟨_,hrx, ?_⟩)|(refine⟨_,hru, ?_⟩)|(refine⟨G.call, .d (.int .i64 _),_,[],rfl,trivial,hux, ?_⟩)|(intro hq;try simp only [lnS]at hq)|refine sI ?_|refine .intro _ (.intro rfl ?_));(conv=>whnf)))
    refine aA (λh3=> ?_) (λh3=> ?_)
    ·(conv=>whnf)
     refine fV hty [0,1,2,3,4,5,6,7,8,9,10,11,12,13,14,15,16,17] (by kernel_rfl) (by kernel_rfl) ?_
     have hru2:(M.set ((J:Nat):Int).toNat (saR u))[(((J:Nat):Int) - 1).toNat]? =some (saR u):=by
      rw [List.getElem?_set_ne (by omega)];exact hru
     ((conv=>whnf);repeat' ((first|(intro hq;(try simp only [lnS]at hq);(try rewrite [List.length_map]))|refine sJ ?_|refine .intro _ (.intro rfl ?_)|refine exL (k:= ?_)|(refine And.intro hML.symm ?_)|(refine And.intro ((List.length_set ..).trans hML).symm ?_)|(refine⟨_,hrx, ?_⟩)|(refine⟨_,hru, ?_⟩)|(refine⟨_,hru2, ?_⟩)|(refine And.intro (rE rfl) ?_)|refine dwR ?_|((first|refine aA ?_ ?_|refine aC ?_ ?_)<;>intro hb<;>(first|exact ddX hb|try simp only [lnS]at hb))|(refine aB ?_ ?_<;>intro hb<;>try exact dsX hb))<;>(conv=>whnf)))
     refine⟨(S1',u::S2),⟨?_, ?_, ?_⟩,by dsimp only;omega,(by repeat' (first|exact trivial|exact rfl|exact eH (by dsimp only;omega)|refine And.intro ?_ ?_)), ?_⟩
     ·have e:S1'++u::S2=S1'++[u]++S2:=by simp
      dsimp only;rw [e];exact zp
     ·have e:S1'++u::S2=S1'++[u]++S2:=by simp
      dsimp only;rw [e];exact zs
     ·intro y hy
      rcases List.mem_cons.1 hy with rfl|hy
      ·rw [hc];exact h3
      ·exact zx y hy
     ·have:=hsw _ _ rfl rfl
      show (70,HObj.mrow _ 16 cap ((M.set ((J:Nat):Int).toNat (saR u)).set (((J:Nat):Int) - 1).toNat (saR x)))::rest=_
      rw [this]
    ·obtain ⟨d1, d2⟩ := done (by
      intro v S e
      have:=List.append_inj' e rfl
      have h4:u=v:=by simpa using this.2
      subst h4
      rw [hc];exact h3)
     ((conv=>whnf);repeat' ((first|(intro hq;(try simp only [lnS]at hq);(try rewrite [List.length_map]))|refine sJ ?_|refine .intro _ (.intro rfl ?_)|refine exL (k:= ?_)|refine dwR ?_|((first|refine aA ?_ ?_|refine aC ?_ ?_)<;>intro hb<;>(first|exact ddX hb|try simp only [lnS]at hb))|(refine aB ?_ ?_<;>intro hb<;>try exact dsX hb))<;>(conv=>whnf)))
     refine⟨(k+1,S1'++[u]++x::S2),⟨by dsimp only;omega,d1,d2⟩,by dsimp only;omega,(by repeat' (first|exact trivial|exact rfl|exact eH (by dsimp only;omega)|refine And.intro ?_ ?_)), ?_⟩
     dsimp only
     rw [<-hM]
     congr 4
     simp
   ·exfalso;omega
 ·have hkl:A.length<=k:=by omega
  have hd:A.drop k=[]:=List.drop_eq_nil_of_le hkl
  rw [List.take_of_length_le hkl]at hp
  rw [hd]
  ((conv=>whnf);repeat' ((first|(intro hq;(try simp only [lnS]at hq);(try rewrite [List.length_map]))|refine sJ ?_|refine .intro _ (.intro rfl ?_)|refine exL (k:= ?_)|refine dwR ?_|((first|refine aA ?_ ?_|refine aC ?_ ?_)<;>intro hb<;>(first|exact ddX hb|try simp only [lnS]at hb))|(refine aB ?_ ?_<;>intro hb<;>try exact dsX hb))<;>(conv=>whnf)))
  exact fin S hp hs
theorem vI {g:FuncId}(Pr X M Y Q:List SAx) (hXY:Y.length=X.length) {L:List SAx}(hL:L=Pr++(X++(M++(Y++Q)))) (hl:L.length<=1000000) {n:Nat}{a b k:Int}(hn:n=L.length) (ha:a=(Pr.length:Nat)) (hb:b=(Pr.length+X.length+M.length:Nat)) (hk:k=(X.length:Nat)) (cap:Nat) (rest:Hp) {pin:Pin}{fr:Fr}{K:SV->Hp->Prop}
  (fin:K (cU []) ((70, .mrow 48 16 cap ((Pr++(Y++(M++(X++Q)))).map saR))::rest)):
  aF Tryz.prog pin fr ((70, .mrow 48 16 cap (L.map saR))::rest) 212 [.mw 70 16 n, .d (.int .i64 a), .d (.int .i64 b), .d (.int .i64 k), .fn g [] []] K:=by
 subst hL;subst hn;subst ha;subst hb;subst hk
 have hlen:(Pr++(X++(M++(Y++Q)))).length=Pr.length+(X.length+(M.length+(X.length+Q.length))):=by simp only [List.length_append,hXY]
 generalize hN:(Pr++(X++(M++(Y++Q)))).length=N at *
 refine dR hty Tryz.func212 rfl (kp [0,1,2,3,10,13]) 500 (by simp [Tryz.f212]) ?_
 ((conv=>whnf);repeat ((first|(intro hq;try simp only [lnS]at hq)|refine sI ?_|refine .intro _ (.intro rfl ?_));(conv=>whnf)))
 refine cX hty (λi:Nat=>([(0, .mw 70 16 N),(1, .d (.int .i64 (Pr.length:Nat))),(2, .d (.int .i64 (Pr.length+X.length+M.length:Nat))),(3, .d (.int .i64 (X.length:Nat))),(10, .d (.int .i64 (i:Nat)))],(70, .mrow 48 16 cap (((Pr++Y.take i)++(X.drop i++((M++X.take i)++(Y.drop i++Q)))).map saR))::rest)) (λi=>i<=X.length) (λi=>X.length - i) 0 (Nat.zero_le _) (by repeat' (first|exact trivial|exact rfl|exact eH (by dsimp only;omega)|refine And.intro ?_ ?_)) (by simp) ?_
 intro i hi
 ((conv=>whnf);repeat ((first|(intro hq;try simp only [lnS]at hq)|refine sI ?_|refine .intro _ (.intro rfl ?_));(conv=>whnf)))
 refine aA (λh1=> ?_) (λh1=> ?_)
 ·have hiX:i < X.length:=by omega
  have hiY:i < Y.length:=by omega
  obtain⟨x,hx⟩: ∃x,x=X[i]:=⟨_,rfl⟩
  obtain⟨y,hy⟩: ∃y,y=Y[i]:=⟨_,rfl⟩
  have hdX:X.drop i=x::X.drop (i+1):=by rw [hx];exact List.drop_eq_getElem_cons hiX
  have hdY:Y.drop i=y::Y.drop (i+1):=by rw [hy];exact List.drop_eq_getElem_cons hiY
  have htX:X.take (i+1)=X.take i++[x]:=by rw [hx];exact List.take_succ_eq_append_getElem hiX
  have htY:Y.take (i+1)=Y.take i++[y]:=by rw [hy];exact List.take_succ_eq_append_getElem hiY
  have hl1:(Pr++Y.take i)++(X.drop i++((M++X.take i)++(Y.drop i++Q)))=(Pr++Y.take i)++x::((X.drop (i+1)++(M++X.take i))++y::(Y.drop (i+1)++Q)):=by rw [hdX,hdY];simp
  have hUl:(Pr++Y.take i).length=Pr.length+i:=by rw [List.length_append,List.length_take];omega
  have hVl:(X.drop (i+1)++(M++X.take i)).length=X.length+M.length - 1:=by simp only [List.length_append,List.length_take,List.length_drop];omega
  have hrx:(((Pr++Y.take i)++(X.drop i++((M++X.take i)++(Y.drop i++Q)))).map saR)[(((Pr.length:Nat):Int)+(i:Nat)).toNat]? =some (saR x):=fU hl1 (by rw [hUl];omega)
  have hry:(((Pr++Y.take i)++(X.drop i++((M++X.take i)++(Y.drop i++Q)))).map saR)[(((Pr.length+X.length+M.length:Nat):Int)+(i:Nat)).toNat]? =some (saR y):=fU (U:=(Pr++Y.take i)++x::(X.drop (i+1)++(M++X.take i))) (W:=Y.drop (i+1)++Q) (by rw [hl1];simp) (by rw [List.length_append,List.length_cons,hUl,hVl];omega)
  have hsw: ∀p q,p=(((Pr.length:Nat):Int)+(i:Nat)).toNat->q=(((Pr.length+X.length+M.length:Nat):Int)+(i:Nat)).toNat->((((Pr++Y.take i)++(X.drop i++((M++X.take i)++(Y.drop i++Q)))).map saR).set p (saR y)).set q (saR x)=((Pr++Y.take (i+1))++(X.drop (i+1)++((M++X.take (i+1))++(Y.drop (i+1)++Q)))).map saR:= λp q hp hq=>by
   rw [aH9 (x:=x) (y:=y) (i:=p) (j:=q) hl1 (by rw [hUl];omega) (by rw [hUl,hVl];omega),htX,htY]
   simp
  have hML:(((Pr++Y.take i)++(X.drop i++((M++X.take i)++(Y.drop i++Q)))).map saR).length=N:=by
   rw [hl1]
   simp only [List.length_map,List.length_append,List.length_cons,List.length_take,List.length_drop]
   omega
  generalize List.map saR ((Pr++Y.take i)++(X.drop i++((M++X.take i)++(Y.drop i++Q))))=M0 at hrx hry hsw hML |-
  have hry2:(M0.set (((Pr.length:Nat):Int)+(i:Nat)).toNat (saR y))[(((Pr.length+X.length+M.length:Nat):Int)+(i:Nat)).toNat]? =some (saR y):=by
   rw [List.getElem?_set_ne (by omega)];exact hry
  (conv=>whnf)
  refine fV hty [0,1,2,3,4,5,6,7,8,9,10,11,12,13,14,15,16,17,18,19,20,21,22,23] (by kernel_rfl) (by kernel_rfl) ?_
  ((conv=>whnf);repeat' ((first|(intro hq;(try simp only [lnS]at hq);(try rewrite [List.length_map]))|refine sJ ?_|refine .intro _ (.intro rfl ?_)|refine exL (k:= ?_)|(refine And.intro hML.symm ?_)|(refine And.intro ((List.length_set ..).trans hML).symm ?_)|(refine⟨_,hrx, ?_⟩)|(refine⟨_,hry, ?_⟩)|(refine⟨_,hry2, ?_⟩)|(refine And.intro (rE rfl) ?_)|refine dwR ?_|((first|refine aA ?_ ?_|refine aC ?_ ?_)<;>intro hb<;>(first|exact ddX hb|try simp only [lnS]at hb))|(refine aB ?_ ?_<;>intro hb<;>try exact dsX hb))<;>(conv=>whnf)))
  refine⟨i+1,by dsimp only;omega,by dsimp only;omega,(by repeat' (first|exact trivial|exact rfl|exact eH (by dsimp only;omega)|refine And.intro ?_ ?_)), ?_⟩
  have:=hsw _ _ rfl rfl
  show (70,HObj.mrow _ 16 cap ((M0.set (((Pr.length:Nat):Int)+(i:Nat)).toNat (saR y)).set (((Pr.length+X.length+M.length:Nat):Int)+(i:Nat)).toNat (saR x)))::rest=_
  rw [this]
 ·have hie:i=X.length:=by omega
  subst hie
  rw [List.drop_length,List.take_length,<-hXY,List.drop_length,List.take_length]
  ((conv=>whnf);repeat' ((first|(intro hq;(try simp only [lnS]at hq);(try rewrite [List.length_map]))|refine sJ ?_|refine .intro _ (.intro rfl ?_)|refine exL (k:= ?_)|refine dwR ?_|((first|refine aA ?_ ?_|refine aC ?_ ?_)<;>intro hb<;>(first|exact ddX hb|try simp only [lnS]at hb))|(refine aB ?_ ?_<;>intro hb<;>try exact dsX hb))<;>(conv=>whnf)))
  have e:(Pr++Y)++([]++((M++X)++([]++Q)))=Pr++(Y++(M++(X++Q))):=by simp
  rw [e]
  exact fin
theorem aEv {g:FuncId}(Pr A B Q:List SAx) (hA:A≠[]) (hB:B≠[]) {L:List SAx}(hL:L=Pr++(A++(B++Q))) (hl:L.length<=1000000) {n:Nat}{a m b:Int}(hn:n=L.length) (ha:a=(Pr.length:Nat)) (hm:m=(Pr.length+A.length:Nat)) (hb:b=(Pr.length+A.length+B.length:Nat)) (cap:Nat) (rest:Hp) {pin:Pin}{fr:Fr}{K:SV->Hp->Prop}
  (fin:K (cU []) ((70, .mrow 48 16 cap ((Pr++(B++(A++Q))).map saR))::rest)):
  aF Tryz.prog pin fr ((70, .mrow 48 16 cap (L.map saR))::rest) 178 [.mw 70 16 n, .d (.int .i64 a), .d (.int .i64 m), .d (.int .i64 b), .fn g [] []] K:=by
 subst hL;subst hn;subst ha;subst hb;subst hm
 have hlen:(Pr++(A++(B++Q))).length=Pr.length+(A.length+(B.length+Q.length)):=by simp only [List.length_append]
 generalize hN:(Pr++(A++(B++Q))).length=N at *
 have hA0:=List.length_pos_iff.2 hA
 have hB0:=List.length_pos_iff.2 hB
 refine dR hty Tryz.func178 rfl (kp [0,1,2,3,4,10,11,20,23]) 500 (by simp [Tryz.f178]) ?_
 ((conv=>whnf);repeat ((first|(intro hq;try simp only [lnS]at hq)|refine sI ?_|refine .intro _ (.intro rfl ?_));(conv=>whnf)))
 refine cX hty (λy:List SAx×List SAx×List SAx×List SAx=>([(0, .mw 70 16 N),(2, .d (.int .i64 (Pr.length+A.length:Nat))),(4, .fn g [] []),(10, .d (.int .i64 (y.2.1.length:Nat))),(11, .d (.int .i64 (y.2.2.1.length:Nat)))],(70, .mrow 48 16 cap ((y.1++(y.2.1++(y.2.2.1++y.2.2.2))).map saR))::rest))
  (λy=>(0 < y.2.1.length/\0 < y.2.2.1.length)/\y.1.length+y.2.1.length=Pr.length+A.length/\y.1++(y.2.2.1++(y.2.1++y.2.2.2))=Pr++(B++(A++Q))) (λy=>y.2.1.length+y.2.2.1.length) (Pr,A,B,Q) ⟨⟨hA0,hB0⟩,rfl,rfl⟩ (by repeat' (first|exact trivial|exact rfl|exact eH (by dsimp only;omega)|refine And.intro ?_ ?_)) rfl ?_
 rintro⟨P',U,V,Q'⟩ ⟨⟨hU0,hV0⟩,hm,ht⟩
 dsimp only at hU0 hV0 hm ht
 have hlen2:(P'++(U++(V++Q'))).length=N:=by
  have e1:=congrArg List.length ht
  simp only [List.length_append]at e1 |-
  omega
 ((conv=>whnf);repeat ((first|(intro hq;try simp only [lnS]at hq)|refine sI ?_|refine .intro _ (.intro rfl ?_));(conv=>whnf)))
 refine aC (λh1=> ?_) (λh1=> ?_)
 ·dsimp only at h1
  ((conv=>whnf);repeat ((first|(intro hq;try simp only [lnS]at hq)|refine sI ?_|refine .intro _ (.intro rfl ?_));(conv=>whnf)))
  refine aA (λh2=> ?_) (λh2=> ?_)<;>dsimp only at h2
  ·have hUV:V.length < U.length:=by omega
   have eU:U=U.take V.length++U.drop V.length:=(List.take_append_drop _ _).symm
   have l1:(U.take V.length).length=V.length:=by rw [List.length_take];omega
   have l2:(U.drop V.length).length=U.length - V.length:=List.length_drop
   generalize U.take V.length=U1 at eU l1
   generalize U.drop V.length=U2 at eU l2
   subst eU
   rw [List.length_append]at l2 hm hUV
   ((conv=>whnf);repeat ((first|(intro hq;try simp only [lnS]at hq)|refine sI ?_|refine .intro _ (.intro rfl ?_));(conv=>whnf)))
   refine vI P' U1 U2 V Q' l1.symm (by simp) (by rw [hlen2];omega) hlen2.symm (by(try dsimp only);rw [List.length_append];omega) (by(try dsimp only);omega) (by first|rfl|((try dsimp only);omega)) cap rest ?_
   ((conv=>whnf);repeat ((first|(intro hq;try simp only [lnS]at hq)|refine sI ?_|refine .intro _ (.intro rfl ?_));(conv=>whnf)))
   refine⟨(P'++V,U2,U1,Q'),⟨⟨by dsimp only;omega,by dsimp only;omega⟩,by dsimp only;rw [List.length_append];omega, ?_⟩,by dsimp only;rw [List.length_append];omega,(by repeat' (first|exact trivial|exact rfl|exact eH (by dsimp only;(try rw [List.length_append]);omega)|refine And.intro ?_ ?_)), ?_⟩
   ·dsimp only
    rw [<-ht];simp
   ·dsimp only
    simp
  ·have hUV:U.length < V.length:=by omega
   have eV:V=V.take (V.length - U.length)++V.drop (V.length - U.length):=(List.take_append_drop _ _).symm
   have l1:(V.take (V.length - U.length)).length=V.length - U.length:=by rw [List.length_take];omega
   have l2:(V.drop (V.length - U.length)).length=U.length:=by rw [List.length_drop];omega
   generalize hk:V.length - U.length=k at eV l1 l2
   generalize V.take k=V1 at eV l1
   generalize V.drop k=V2 at eV l2
   subst eV
   rw [List.length_append]at hUV hk
   ((conv=>whnf);repeat ((first|(intro hq;try simp only [lnS]at hq)|refine sI ?_|refine .intro _ (.intro rfl ?_));(conv=>whnf)))
   refine vI P' U V1 V2 Q' l2 (by simp) (by rw [hlen2];omega) hlen2.symm (by first|rfl|((try dsimp only);omega)) (by(try dsimp only);rw [List.length_append];omega) (by first|rfl|((try dsimp only);omega)) cap rest ?_
   ((conv=>whnf);repeat ((first|(intro hq;try simp only [lnS]at hq)|refine sI ?_|refine .intro _ (.intro rfl ?_));(conv=>whnf)))
   refine⟨(P',V2,V1,U++Q'),⟨⟨by dsimp only;omega,by dsimp only;omega⟩,by dsimp only;omega, ?_⟩,by dsimp only;rw [List.length_append];omega,(by repeat' (first|exact trivial|exact rfl|exact eH (by dsimp only;(try rw [List.length_append]);omega)|refine And.intro ?_ ?_)), ?_⟩
   ·dsimp only
    rw [<-ht];simp
   ·dsimp only
 ·dsimp only at h1
  have hUV:U.length=V.length:=by omega
  ((conv=>whnf);repeat ((first|(intro hq;try simp only [lnS]at hq)|refine sI ?_|refine .intro _ (.intro rfl ?_));(conv=>whnf)))
  refine vI P' U [] V Q' hUV.symm (by simp) (by rw [hlen2];omega) hlen2.symm (by first|rfl|((try dsimp only);omega)) (by(try dsimp only);rw [List.length_nil];omega) (by first|rfl|((try dsimp only);omega)) cap rest ?_
  ((conv=>whnf);repeat ((first|(intro hq;try simp only [lnS]at hq)|refine sI ?_|refine .intro _ (.intro rfl ?_));(conv=>whnf)))
  have e:P'++(V++([]++(U++Q')))=Pr++(B++(A++Q)):=by rw [<-ht];simp
  rw [e]
  exact fin
end Go.Proofs.YtbobcfjlbcgchaaGreatDoor
