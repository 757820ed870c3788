/-
  Merging in place, plainly: what a symmetric merge does to a list, and when its two halves may be merged alone. Rename: renamings, plainly: what is valid, what a name becomes, what two renamings are together, what undoes one. Axioms that are small enough to be compared, as elements to be sorted. Rename: other names in concepts and axioms, plainly. Terms: the vocabulary, plainly: whose names it holds. Terms: tidying keeps a concept valid and adds no names. Terms: what a valid concept and a valid axiom are; tidying keeps axioms valid.
  Conditions: none.
-/
import Derived.WalkKit
import Derived.Test.YtfhoddcminbffaaGreatDoorMBp
import Derived.Test.YtfhoddcminbffaaGreatDoorMBq
import Derived.Test.YtfhoddcminbffaaGreatDoorMA8
import Derived.Test.YtfhoddcminbffaaGreatDoorMQp
set_option linter.unnecessarySimpa false
set_option linter.unusedSectionVars false
set_option linter.unusedSimpArgs false
set_option linter.unusedVariables false
namespace Go.Proofs.YtfhoddcminbffaaGreatDoor
section
variable {α:Type}
structure OrdC (cf:α->α->Int):Prop where
 asym: ∀x y,cf x y < 0->¬ cf y x < 0
 tr: ∀x y z,¬ cf y x < 0->¬ cf z y < 0->¬ cf z x < 0
def Srt (cf:α->α->Int) (l:List α):Prop:=l.Pairwise λx y=>¬ cf y x < 0
theorem OrdC.refl {cf:α->α->Int}(h:OrdC cf) (x:α):¬ cf x x < 0:= λq=>h.asym x x q q
theorem Srt.app {cf:α->α->Int}{l m:List α}:Srt cf (l++m)↔Srt cf l/\Srt cf m/\ ∀x∈l,∀y∈m,¬ cf y x < 0:=List.pairwise_append
theorem Srt.le_at {cf:α->α->Int}(hO:OrdC cf) {l:List α}(h:Srt cf l) {i j:Nat}{x y:α}(hij:i<=j) (hx:l[i]? =some x) (hy:l[j]? =some y):¬ cf y x < 0:=by
 rcases Nat.lt_or_eq_of_le hij with hlt|rfl
 ·obtain⟨h1,e1⟩:=List.getElem?_eq_some_iff.1 hx
  obtain⟨h2,e2⟩:=List.getElem?_eq_some_iff.1 hy
  subst e1;subst e2
  exact List.pairwise_iff_getElem.1 h i j h1 h2 hlt
 ·rw [hx]at hy
  injection hy with e
  subst e
  exact hO.refl x
theorem oN {l:List α}{n:Nat}{x:α}(h:x∈l.take n): ∃i,i < n/\l[i]? =some x:=by
 obtain⟨i,hi,e⟩:=List.getElem_of_mem h
 rw [List.length_take]at hi
 rw [List.getElem_take]at e
 exact⟨i,by omega,by rw [<-e];exact List.getElem?_eq_getElem (by omega)⟩
theorem oO {l:List α}{n:Nat}{x:α}(h:x∈l.drop n): ∃i,n<=i/\l[i]? =some x:=by
 obtain⟨i,hi,e⟩:=List.getElem_of_mem h
 rw [List.length_drop]at hi
 rw [List.getElem_drop]at e
 exact⟨n+i,by omega,by rw [<-e];exact List.getElem?_eq_getElem (by omega)⟩
theorem aLe {cf:α->α->Int}(hO:OrdC cf) {A B:List α}(hA:Srt cf A) (hB:Srt cf B) {s t:Nat}(hs:s<=A.length) (ht:t<=B.length)
  (h1: ∀x y,A[s]? =some x->0 < t->B[t - 1]? =some y->¬ cf x y < 0) (h2: ∀x y,0 < s->A[s - 1]? =some x->B[t]? =some y->¬ cf y x < 0):
  ∀x∈A.take s++B.take t,∀y∈A.drop s++B.drop t,¬ cf y x < 0:=by
 intro x hx y hy
 rcases List.mem_append.1 hx with hx|hx<;>rcases List.mem_append.1 hy with hy|hy<;>obtain⟨i,hi,hx⟩:=oN hx<;>obtain⟨j,hj,hy⟩:=oO hy
 ·exact hA.le_at hO (by omega) hx hy
 ·have hm:=(List.getElem?_eq_some_iff.1 hy).1
  have a:=hA.le_at hO (show i<=s - 1 by omega) hx (List.getElem?_eq_getElem (show s - 1 < A.length by omega))
  have b:=h2 _ _ (by omega) (List.getElem?_eq_getElem (show s - 1 < A.length by omega)) (List.getElem?_eq_getElem (show t < B.length by omega))
  have c:=hB.le_at hO hj (List.getElem?_eq_getElem (show t < B.length by omega)) hy
  exact hO.tr _ _ _ a (hO.tr _ _ _ b c)
 ·have hm:=(List.getElem?_eq_some_iff.1 hy).1
  have a:=hB.le_at hO (show i<=t - 1 by omega) hx (List.getElem?_eq_getElem (show t - 1 < B.length by omega))
  have b:=h1 _ _ (List.getElem?_eq_getElem (show s < A.length by omega)) (by omega) (List.getElem?_eq_getElem (show t - 1 < B.length by omega))
  have c:=hA.le_at hO hj (List.getElem?_eq_getElem (show s < A.length by omega)) hy
  exact hO.tr _ _ _ a (hO.tr _ _ _ b c)
 ·exact hB.le_at hO (by omega) hx hy
theorem aTm (U:List α) (x:α) (W:List α):(U++x::W)[U.length]? =some x:=by
 rw [List.getElem?_append_right (Nat.le_refl _),Nat.sub_self];rfl
theorem aLt (U:List α) (x z:α) (W:List α):(U++x::W).set U.length z=U++z::W:=by
 rw [List.set_append_right _ _ (Nat.le_refl _),Nat.sub_self];rfl
theorem aLs (U:List α) (x:α) (V:List α) (y z:α) (W:List α):(U++x::(V++y::W)).set (U.length+1+V.length) z=U++x::(V++z::W):=by
 have:=aLt (U++x::V) y z W
 rw [List.append_assoc,List.append_assoc,List.cons_append,List.cons_append]at this
 rw [<-this]
 congr 1
 simp only [List.length_append,List.length_cons];omega
theorem aRf (U:List α) (x:α) (V:List α) (y:α) (W:List α):((U++x::(V++y::W)).set U.length y).set (U.length+1+V.length) x=U++y::(V++x::W):=by
 rw [aLt,aLs]
theorem aLf (U:List α) (x:α) (V:List α) (y:α) (W:List α):((U++x::(V++y::W)).set (U.length+1+V.length) x).set U.length y=U++y::(V++x::W):=by
 rw [aLs,aLt]
def Blk (cf:α->α->Int) (bs:Nat) (l:List α):Prop:= ∀k,Srt cf ((l.drop (k * bs)).take bs)
theorem Blk.app {cf:α->α->Int}{bs k:Nat}{U S:List α}(hU:Blk cf bs U) (hk:U.length=k * bs) (hS:Srt cf S) (hl:S.length<=bs):Blk cf bs (U++S):=by
 intro i
 rcases Nat.lt_trichotomy i k with h|h|h
 ·have h1:(i+1)* bs<=k * bs:=Nat.mul_le_mul_right _ h
  rw [Nat.add_mul,Nat.one_mul]at h1
  rw [List.drop_append_of_le_length (by omega),List.take_append_of_le_length (by rw [List.length_drop];omega)]
  exact hU i
 ·subst h
  rw [<-hk,List.drop_left,List.take_of_length_le hl]
  exact hS
 ·have h1:(k+1)* bs<=i * bs:=Nat.mul_le_mul_right _ h
  rw [Nat.add_mul,Nat.one_mul]at h1
  rw [List.drop_eq_nil_of_le (by rw [List.length_append];omega)]
  simp [Srt]
theorem Blk.first {cf:α->α->Int}{bs:Nat}{l:List α}(h:Blk cf bs l):Srt cf (l.take bs):=by
 have:=h 0
 rwa [Nat.zero_mul,List.drop_zero]at this
theorem Blk.rest {cf:α->α->Int}{bs:Nat}{l:List α}(h:Blk cf bs l):Blk cf bs (l.drop bs):=by
 intro k
 have:=h (k+1)
 rw [Nat.add_mul,Nat.one_mul,Nat.add_comm]at this
 rwa [List.drop_drop]
theorem Blk.nil {cf:α->α->Int}{bs:Nat}:Blk cf bs []:= λk=>by
 simp [Srt]
theorem Blk.all {cf:α->α->Int}{bs:Nat}{l:List α}(h:Blk cf bs l) (hl:l.length<=bs):Srt cf l:=by
 have:=h.first
 rwa [List.take_of_length_le hl]at this
end
end Go.Proofs.YtfhoddcminbffaaGreatDoor
namespace Go.Proofs.YtfhoddcminbffaaGreatDoor
open Go.Proofs
structure Rn where
 kind:Int
 old:List UInt8
 new:List UInt8
theorem Rn.ext' {a b:Rn}(h1:a.kind=b.kind) (h2:a.old=b.old) (h3:a.new=b.new):a=b:=by
 cases a;cases b;simp_all
def rnN (s:List UInt8):Bool:=iB s && !decide (s.head?=some 95)
def rnV (r:Rn):Bool:=decide (1<=r.kind) && (decide (r.kind<=4) && (rnN r.old && (rnN r.new && !decide (r.old=r.new))))
def aR0 (a b:Rn):Int:=orF [lQ a.kind b.kind,gB a.old b.old]
abbrev Ky:=Int×List UInt8
def aVr (r:Rn):Ky:=(r.kind,r.new)
def aEb (r:Rn):Ky:=(r.kind,r.old)
theorem aDv {a b:Rn}:aR0 a b=0↔aEb a=aEb b:=by
 unfold aR0 aEb
 simp only [jL,eQ,qI,dZ,Prod.mk.injEq]
 simp [orF]
theorem LCk.ord {α:Type}{c:α->α->Int}(h:LCk c):OrdC c where
 asym:= λx y a=>by have:=h.anti x y;omega
 tr:= λx y z a b=>by
  have h1:=h.t3 x y z
  have r1:=h.rng x y
  have r2:=h.rng y z
  have a1:=h.anti x y
  have a2:=h.anti y z
  have a3:=h.anti x z
  unfold xB at h1
  have:=h1.1
  have:=h1.2.1
  have:=h1.2.2
  omega
structure Good (l:List Rn):Prop where
 val: ∀r∈l,rnV r=true
 str:l.Pairwise λa b=>aR0 a b < 0
 nod:(l.map aVr).Nodup
theorem aCi {α:Type}{R:α->α->Prop}(irr: ∀x,¬ R x x) (tr: ∀x y z,R x y->R y z->R x z): ∀{l m:List α},l.Pairwise R->m.Pairwise R->(∀x,x∈l↔x∈m)->l=m
 | [],[],_,_,_=>rfl
 | [],y::m,_,_,h=>absurd ((h y).2 (by simp)) (by simp)
 |x::l,[],_,_,h=>absurd ((h x).1 (by simp)) (by simp)
 |x::l,y::m,h1,h2,h=>by
  have a1:=List.pairwise_cons.1 h1
  have a2:=List.pairwise_cons.1 h2
  have hxy:x=y:=by
   rcases List.mem_cons.1 ((h x).1 (by simp))with e|hx
   ·exact e
   ·rcases List.mem_cons.1 ((h y).2 (by simp))with e|hy
    ·exact e.symm
    ·exact absurd (tr _ _ _ (a2.1 x hx) (a1.1 y hy)) (irr y)
  subst hxy
  have key: ∀z,z∈l↔z∈m:= λz=>by
   constructor
   ·intro hz
    rcases List.mem_cons.1 ((h z).1 (List.mem_cons_of_mem _ hz))with e|hz'
    ·exact absurd (a1.1 z hz) (e ▸ irr z)
    ·exact hz'
   ·intro hz
    rcases List.mem_cons.1 ((h z).2 (List.mem_cons_of_mem _ hz))with e|hz'
    ·exact absurd (a2.1 z hz) (e ▸ irr z)
    ·exact hz'
  rw [aCi irr tr a1.2 a2.2 key]
theorem aRi {l:List Rn}(h:l.Pairwise λa b=>aR0 a b < 0) {a b:Rn}(ha:a∈l) (hb:b∈l) (e:aEb a=aEb b):a=b:=by
 induction l with
 |nil=>simp at ha
 |cons x r ih=>
  have h1:=List.pairwise_cons.1 h
  rcases List.mem_cons.1 ha with e1|ha1<;>rcases List.mem_cons.1 hb with e2|hb1
  ·rw [e1,e2]
  ·have:=h1.1 b hb1;rw [<-e1,aDv.2 e]at this;omega
  ·have:=h1.1 a ha1;rw [<-e2,aDv.2 e.symm]at this;omega
  ·exact ih h1.2 ha1 hb1
def mJ (l:List Rn) (k:Int) (s:List UInt8):List UInt8:=
 match l.find? (λr=>decide (r.kind=k) && decide (r.old=s))with
 |some r=>r.new
 |none=>s
theorem aCq {l:List Rn}(h:l.Pairwise λa b=>aR0 a b < 0) {r:Rn}(hr:r∈l):mJ l r.kind r.old=r.new:=by
 unfold mJ
 split
 ·rename_i q hq
  have h1:=List.mem_of_find?_eq_some hq
  have h2:=List.find?_some hq
  simp only [Bool.and_eq_true,decide_eq_true_eq]at h2
  rw [aRi h h1 hr (by unfold aEb;rw [h2.1,h2.2])]
 ·rename_i hq
  have:=List.find?_eq_none.1 hq r hr
  simp at this
theorem yU {l:List Rn}{k:Int}{s:List UInt8}(h: ∀r∈l,aEb r≠(k,s)):mJ l k s=s:=by
 unfold mJ
 split
 ·rename_i q hq
  have h1:=List.mem_of_find?_eq_some hq
  have h2:=List.find?_some hq
  simp only [Bool.and_eq_true,decide_eq_true_eq]at h2
  exact absurd (by unfold aEb;rw [h2.1,h2.2]) (h q h1)
 ·rfl
theorem vA {l:List Rn}(h:l.Pairwise λa b=>aR0 a b < 0) (k:Int) (s:List UInt8):(∃r∈l,aEb r=(k,s)/\mJ l k s=r.new)\/((∀r∈l,aEb r≠(k,s))/\mJ l k s=s):=by
 by_cases he: ∃r∈l,aEb r=(k,s)
 ·obtain⟨r,hr,e⟩:=he
  have:=aCq h hr
  have e':r.kind=k/\r.old=s:=by simpa [aEb]using e
  rw [e'.1,e'.2]at this
  exact .inl ⟨r,hr,e,this⟩
 ·have he: ∀r∈l,aEb r≠(k,s):= λr hr e=>he ⟨r,hr,e⟩
  exact .inr ⟨he,yU he⟩
structure Comp (l m x:List Rn):Prop where
 str:x.Pairwise λa b=>aR0 a b < 0
 mem: ∀r,r∈x↔r.new=mJ m r.kind (mJ l r.kind r.old)/\r.new≠r.old
theorem Comp.name {l m x:List Rn}(h:Comp l m x) (k:Int) (s:List UInt8):mJ x k s=mJ m k (mJ l k s):=by
 rcases vA h.str k s with⟨r,hr,e,e2⟩|⟨hn,e2⟩
 ·have e':r.kind=k/\r.old=s:=by simpa [aEb]using e
  have:=((h.mem r).1 hr).1
  rw [e2,this,e'.1,e'.2]
 ·rw [e2]
  by_cases hs:mJ m k (mJ l k s)=s
  ·exact hs.symm
  ·exact absurd rfl (hn ⟨k,s,mJ m k (mJ l k s)⟩ ((h.mem _).2 ⟨rfl,hs⟩))
def aTj (r:Rn):Rn:=⟨r.kind,r.new,r.old⟩
theorem aPx (r:Rn):aTj (aTj r)=r:=rfl
structure Inv (l x:List Rn):Prop where
 str:x.Pairwise λa b=>aR0 a b < 0
 mem: ∀r,r∈x↔aTj r∈l
theorem Inv.name {l x:List Rn}(hl:Good l) (h:Inv l x) {k:Int}{s:List UInt8}(hn:(∃r∈l,aEb r=(k,s))\/ ∀r∈l,aVr r≠(k,s)):mJ x k (mJ l k s)=s:=by
 rcases vA hl.str k s with⟨r,hr,e,e2⟩|⟨h1,e2⟩
 ·have e':r.kind=k/\r.old=s:=by simpa [aEb]using e
  have:=aCq h.str ((h.mem (aTj r)).2 (by rw [aPx];exact hr))
  rw [e2,<-e'.1,<-e'.2]
  exact this
 ·rw [e2]
  refine yU λr hr e=> ?_
  have hr':=(h.mem r).1 hr
  rcases hn with⟨q,hq,e3⟩|hn
  ·exact h1 q hq e3
  ·exact hn (aTj r) hr' e
end Go.Proofs.YtfhoddcminbffaaGreatDoor
namespace Go.Proofs.YtfhoddcminbffaaGreatDoor
open Go.Proofs
def SmA (x:Ax):Prop:=aN x.left<=1000000/\aN x.right<=1000000/\x.roles.length<=1000000
abbrev SAx:={x:Ax // SmA x}
def saR (x:SAx):List D:=axR x.1
def aW6 (x y:SAx):Int:=aQ x.1 y.1
theorem aSe:LCk aW6:=gV.of Subtype.val
theorem aGp: ∀(l:List Ax) (h: ∀x∈l,SmA x),(l.pmap Subtype.mk h).map saR=l.map axR
 | [],_=>rfl
 |x::r,h=>by
  rw [List.pmap_cons,List.map_cons,List.map_cons,aGp r]
  rfl
theorem aRo (l:List SAx):l.map saR=(l.map Subtype.val).map axR:=by
 rw [List.map_map];rfl
end Go.Proofs.YtfhoddcminbffaaGreatDoor
namespace Go.Proofs.YtfhoddcminbffaaGreatDoor
open Go.Proofs
def aOd (g:Int->List UInt8->List UInt8) (k:Int) (n:List UInt8):List UInt8:=
 if k=3 then g 1 n else if k=6 then g 2 n else if k=7 then g 3 n else if k=4 then g 4 n else n
mutual
def cH (g:Int->List UInt8->List UInt8):Cn->Cn
 | .mk k n lo hi ps=> .mk k (aOd g k n) lo hi (aUd g ps)
def aUd (g:Int->List UInt8->List UInt8):List Cn->List Cn
 | []=>[]
 |c::r=>cH g c::aUd g r
end
theorem aGr (g:Int->List UInt8->List UInt8): ∀l,aUd g l=l.map (cH g)
 | []=>rfl
 |c::r=>by rw [aUd,aGr g r];rfl
theorem jT (g:Int->List UInt8->List UInt8) (c:Cn):cH g c= .mk c.kind (aOd g c.kind c.name) c.lo c.hi (c.parts.map (cH g)):=by
 cases c;rw [cH,aGr];rfl
theorem cK (g:Int->List UInt8->List UInt8) (c:Cn):(cH g c).kind=c.kind:=by rw [jT];rfl
theorem cO (g:Int->List UInt8->List UInt8) (c:Cn):(cH g c).parts=c.parts.map (cH g):=by rw [jT];rfl
theorem aM7 (g:Int->List UInt8->List UInt8) (c:Cn):(cH g c).name=aOd g c.kind c.name:=by rw [jT];rfl
def wW (g:Int->List UInt8->List UInt8) (x:Ax):Ax:={ x with left:=cH g x.left,right:=cH g x.right,roles:=x.roles.map (g 2),role:=g 2 x.role,a:=g 4 x.a,b:=g 4 x.b }
end Go.Proofs.YtfhoddcminbffaaGreatDoor
namespace Go.Proofs.YtfhoddcminbffaaGreatDoor
open Go.Proofs
def nZ (k:Int) (c:Cn) (s:List UInt8):Prop:= ∃n∈fT c,n.kind=k/\n.name=s
def axA (x:Ax) (s:List UInt8):Prop:=nZ 3 x.left s\/nZ 3 x.right s
def axB (x:Ax) (s:List UInt8):Prop:=nZ 6 x.left s\/nZ 6 x.right s\/s∈x.roles\/x.role=s
def axC (x:Ax) (s:List UInt8):Prop:=nZ 7 x.left s\/nZ 7 x.right s
def axD (x:Ax) (s:List UInt8):Prop:=nZ 4 x.left s\/nZ 4 x.right s\/x.a=s\/x.b=s
end Go.Proofs.YtfhoddcminbffaaGreatDoor
namespace Go.Proofs.YtfhoddcminbffaaGreatDoor
open Go.Proofs
def Okn (c:Cn):Prop:= ∀x∈fT c,bM x=0
theorem kJ {x:Cn}: ∀{l:List Cn},x∈aZ l↔ ∃p∈l,x∈fT p
 | []=>by simp [aZ]
 |c::r=>by rw [aZ,List.mem_append,kJ];simp
theorem fB (c:Cn):Okn c↔bM c=0/\ ∀p∈c.parts,Okn p:=by
 unfold Okn
 rw [fS]
 constructor
 ·intro h
  exact⟨h c (by simp),λp hp x hx=>h x (List.mem_cons_of_mem _ (kJ.2 ⟨p,hp,hx⟩))⟩
 ·rintro⟨h1,h2⟩ x hx
  rcases List.mem_cons.1 hx with rfl|hx
  ·exact h1
  ·obtain⟨p,hp,hx⟩:=kJ.1 hx
   exact h2 p hp x hx
theorem dT (k:Int) (c:Cn) (s:List UInt8):nZ k c s↔(c.kind=k/\c.name=s)\/ ∃p∈c.parts,nZ k p s:=by
 unfold nZ
 rw [fS]
 constructor
 ·rintro⟨n,hn,h⟩
  rcases List.mem_cons.1 hn with rfl|hn
  ·exact .inl h
  ·obtain⟨p,hp,hx⟩:=kJ.1 hn
   exact .inr ⟨p,hp,n,hx,h⟩
 ·rintro(h|⟨p,hp,n,hn,h⟩)
  ·exact⟨c,by simp,h⟩
  ·exact⟨n,List.mem_cons_of_mem _ (kJ.2 ⟨p,hp,hn⟩),h⟩
theorem nS {p:Cn}: ∀{l:List Cn},p∈l->cI p+1<=cU l
 |c::r,h=>by
  rw [cU]
  rcases List.mem_cons.1 h with rfl|h
  ·omega
  ·have:=nS h;omega
theorem aDk {n:Nat}: ∀{l:List Cn},(∀p∈l,cI p+1<=n)->cU l<=n
 | [],_=>by simp [cU]
 |c::r,h=>by
  rw [cU]
  have h1:=h c (by simp)
  have h2:=aDk λp hp=>h p (List.mem_cons_of_mem _ hp)
  omega
theorem kT: ∀(l:List Cn),nB l=true↔ ∃p∈l,bU p=true
 | []=>by simp [nB]
 |c::r=>by
  rw [nB]
  have:=kT r
  split<;>simp_all
theorem jE (c:Cn):bU c=if c.kind=4 then true else if c.kind=5 then nB c.parts else false:=by cases c;rw [bU];rfl
def jY (t c:Cn):Prop:= ∀k s,k≠1->k≠5->nZ k t s->nZ k c s
structure Keep (c t:Cn):Prop where
 ok:Okn t
 dep:cI t<=cI c
 nam:jY t c
 bare:bU t=true->bU c=true
theorem aKc:bM aKn=0:=by decide
theorem aFx {s:List Cn}(h1:2<=s.length) (h2:s.length<=8):bM (.mk 5 [] 0 0 s)=0:=by
 unfold bM
 rw [if_neg (by simp [Cn.kind])]
 show iC ⟨0,2,8,false⟩ (.mk 5 [] 0 0 s)=0
 unfold iC aFh
 simp [Cn.parts,Cn.name,Cn.lo,Cn.hi]
 omega
structure Part (c m:Cn):Prop where
 ok:Okn m
 dep:cI m+1<=cI c
 nam:jY m c
 bare:bU m=true->bU c=true
theorem Part.keep {c m:Cn}(h:Part c m):Keep c m:=⟨h.ok,by have:=h.dep;omega,h.nam,h.bare⟩
theorem aKg {c:Cn}{s:List Cn}(h: ∀m∈s,Part c m) (h0:(eE s).2=0) (hk:c.kind=5):Keep c (eE s).1:=by
 unfold eE at h0 |-
 split
 ·rename_i t ht
  exact(h t (List.mem_of_find?_eq_some ht)).keep
 ·rename_i hn
  rw [hn]at h0
  simp only at h0
  split
  ·refine⟨(fB _).2 ⟨aKc,λp hp=>by simp [aKn,Cn.parts]at hp⟩,by rw [jD];simp [aKn,Cn.parts,cU],λk s h1 h2 hh=> ?_,λhb=> ?_⟩
   ·rw [dT]at hh
    rcases hh with⟨e,_⟩|⟨p,hp,_⟩
    ·exact absurd e.symm h1
    ·simp [aKn,Cn.parts]at hp
   ·rw [jE]at hb;simp [aKn,Cn.kind]at hb
  ·rename_i e0
   rw [if_neg e0]at h0
   split
   ·rename_i e1
    match s,e1 with
    | [x],_=>exact(h x (by simp)).keep
   ·rename_i e1
    rw [if_neg e1]at h0
    split
    ·rename_i e2;rw [if_pos e2]at h0;simp at h0
    ·rename_i e2
     refine⟨(fB _).2 ⟨aFx (by omega) (by omega),λp hp=>(h p hp).ok⟩, ?_,λk n h1 h2 hh=> ?_,λhb=> ?_⟩
     ·show cI (.mk 5 [] 0 0 s)<=_
      rw [cI];exact aDk λp hp=>(h p hp).dep
     ·rw [dT]at hh
      rcases hh with⟨e,_⟩|⟨p,hp,hh⟩
      ·exact absurd e.symm h2
      ·exact(h p hp).nam k n h1 h2 hh
     ·rw [jE]at hb
      simp only [Cn.kind,Cn.parts]at hb
      have hb:nB s=true:=by simpa using hb
      obtain⟨p,hp,hb⟩:=(kT _).1 hb
      exact(h p hp).bare hb
theorem gY {n:Need}{c:Cn}(hn:n.nums=false):iC n c=0↔(n.least<=c.parts.length/\(c.parts.length:Int)<=n.most/\(n.name=0->c.name=[]))/\(c.lo=0/\c.hi=0)/\aFh n c.name=0:=by
 unfold iC
 split
 ·rename_i h
  constructor
  ·intro h;exact absurd h (by decide)
  ·rintro⟨⟨h1,h2,h3⟩,_⟩
   rcases h with h|h|⟨h,h'⟩
   ·omega
   ·omega
   ·exact absurd (h3 h) h'
 ·rename_i h
  rw [if_neg (by rw [hn];decide)]
  have h1:n.least<=c.parts.length/\(c.parts.length:Int)<=n.most/\(n.name=0->c.name=[]):=by
   refine⟨by omega,by omega,λh0=> ?_⟩
   by_cases h2:c.name=[]
   ·exact h2
   ·exact absurd (.inr (.inr ⟨h0,h2⟩)) h
  split
  ·rename_i h2
   constructor
   ·intro h;exact absurd h (by decide)
   ·rintro⟨_,⟨h3,h4⟩,_⟩
    omega
  ·rename_i h2
   exact⟨λh=>⟨h1,by omega,h⟩,λh=>h.2.2⟩
theorem kP {c:Cn}{k:Int}(hk:c.kind=k) (h:1<=k/\k<=7):bM c=iC (fH k) c:=by
 unfold bM
 rw [if_neg (by omega),hk]
theorem aFw {c r:Cn}(hk:c.kind=6) (h:bM c=0):bM (.mk 6 c.name 0 0 [r])=0:=by
 rw [kP hk (by decide),gY rfl]at h
 rw [kP (k:=6) rfl (by decide),gY rfl]
 exact⟨⟨show (1:Int)<=((1:Nat):Int)by decide,show ((1:Nat):Int)<=1 by decide,λh0=>absurd h0 (by decide)⟩,⟨rfl,rfl⟩,h.2.2⟩
theorem kC: ∀c:Cn,Okn c->(aI c).2=0->Keep c (aI c).1:=by
 refine Cn.ind ?_
 intro c ih hok h0
 obtain⟨hf,hp⟩:=(fB c).1 hok
 have self:Keep c c:=⟨hok,Nat.le_refl _,λ_ _ _ _ h=>h,id⟩
 rw [eF]at h0 |-
 split
 ·rename_i h6
  rw [if_pos h6]at h0
  cases hps:c.parts with
  |nil=>
   exfalso
   rw [kP h6 (by decide),gY rfl,hps]at hf
   have h1:(1:Int)<=([]:List Cn).length:=hf.1.1
   simp at h1
  |cons p r=>
   rw [hps]at h0
   simp only [List.map_cons,pE]at h0 |-
   have hpm:p∈c.parts:=by rw [hps];simp
   have hd:cI p+1<=cI c:=by rw [jD c];exact nS hpm
   have hnm:jY p c:= λk s _ _ h=>(dT k c s).2 (.inr ⟨p,hpm,h⟩)
   split
   ·rename_i hb
    rw [if_pos hb]at h0
    have hk:=ih p hpm (hp p hpm) h0
    have h2:(aI p).1.kind=2:=by rcases hb with hb|hb;exact absurd h0 hb;exact hb
    exact⟨hk.ok,by have:=hk.dep;omega,λk s h1 h2 hh=>hnm k s h1 h2 (hk.nam k s h1 h2 hh),λhb=>by rw [jE,h2]at hb;simp at hb⟩
   ·rename_i hb
    have hk:=ih p hpm (hp p hpm) (by omega)
    refine⟨(fB _).2 ⟨?_,λq hq=> ?_⟩, ?_,λk s h1 h2 hh=> ?_,λhb=> ?_⟩
    ·exact aFw h6 hf
    ·simp [Cn.parts]at hq;subst hq;exact hk.ok
    ·rw [cI,cU,cU]
     have:=hk.dep;omega
    ·rw [dT]at hh
     rcases hh with⟨e1,e2⟩|⟨q,hq,hh⟩
     ·exact(dT k c s).2 (.inl ⟨h6.trans e1,e2⟩)
     ·simp [Cn.parts]at hq;subst hq
      exact hnm k s h1 h2 (hk.nam k s h1 h2 hh)
    ·rw [jE]at hb;simp [Cn.kind]at hb
 ·rename_i h6
  rw [if_neg h6]at h0
  split
  ·rename_i h5
   rw [if_pos h5]at h0
   unfold iZ at h0 |-
   split
   ·rename_i r hr
    rw [hr]at h0
    have:=List.find?_some hr
    simp at this h0
    exact absurd h0 this
   ·rename_i hn
    rw [hn]at h0
    simp only at h0
    have hz: ∀p∈c.parts,(aI p).2=0:= λp hp=>by
     have:=List.find?_eq_none.1 hn (aI p) (List.mem_map_of_mem hp)
     simpa using this
    refine aKg (λm hm=> ?_) h0 h5
    rw [dH,List.mem_flatMap]at hm
    obtain⟨r,hr,hm⟩:=hm
    obtain⟨p,hpm,rfl⟩:=List.mem_map.1 hr
    have hk:=ih p hpm (hp p hpm) (hz p hpm)
    have hd:cI p+1<=cI c:=by rw [jD c];exact nS hpm
    have hnm:jY p c:= λk s _ _ h=>(dT k c s).2 (.inr ⟨p,hpm,h⟩)
    have hbr:bU p=true->bU c=true:= λh=>by
     rw [jE,if_neg (by omega),if_pos h5]
     exact(kT _).2 ⟨p,hpm,h⟩
    unfold bP at hm
    split at hm
    ·simp at hm
    ·split at hm
     ·rename_i k5
      have hokm:=((fB _).1 hk.ok).2 m hm
      have hdm:cI m+1<=cI (aI p).1:=by rw [jD (aI p).1];exact nS hm
      refine⟨hokm,by have:=hk.dep;omega,λk s h1 h2 hh=>hnm k s h1 h2 (hk.nam k s h1 h2 ((dT _ _ _).2 (.inr ⟨m,hm,hh⟩))),λhb=>hbr (hk.bare ?_)⟩
      rw [jE,if_neg (by omega),if_pos k5]
      exact(kT _).2 ⟨m,hm,hb⟩
     ·simp at hm;subst hm
      exact⟨hk.ok,by have:=hk.dep;omega,λk s h1 h2 hh=>hnm k s h1 h2 (hk.nam k s h1 h2 hh),λhb=>hbr (hk.bare hb)⟩
  ·exact self
end Go.Proofs.YtfhoddcminbffaaGreatDoor
namespace Go.Proofs.YtfhoddcminbffaaGreatDoor
open Go.Proofs
theorem aK9: ∀(l:List Cn),dL l=0↔ ∀x∈l,bM x=0:= λl=>
 ⟨λh=>oP h,λh=>by have:=lG l [] h;rw [List.append_nil]at this;rw [this];rfl⟩
mutual
theorem aDb: ∀(c:Cn) (d n:Int),((fF c d n).1=true↔d+cI c<=8/\n+aN c<=64)
 | .mk k s lo hi ps,d,n=>by
  have e:aN (.mk k s lo hi ps)=gM ps+1:=cR _
  rw [fF,cI,e]
  split
  ·rename_i h
   simp only [Bool.false_eq_true,false_iff]
   omega
  ·rename_i h
   rw [aDa ps d (n+1) (by omega) (by omega)]
   omega
theorem aDa: ∀(l:List Cn) (d n:Int),d<=8->n<=64->((gH l d n).1=true↔d+cU l<=8/\n+gM l<=64)
 | [],d,n,hd,hn=>by
  rw [gH,cU,jI]
  simp only [true_iff]
  omega
 |c::r,d,n,hd,hn=>by
  have h1:=aDb c (d+1) n
  have h2:=rH c (d+1) n
  rw [gH,cU,bL]
  split
  ·rename_i hb
   rw [hb]at h1
   have h1:=h1.1 rfl
   rw [h2 hb,aDa r d _ hd (by omega)]
   omega
  ·rename_i hb
   have h1:¬ (d+1+cI c<=8/\n+aN c<=64):= λh=>hb (h1.2 h)
   simp only [Bool.false_eq_true,false_iff]
   omega
end
theorem dN (c:Cn):bH c=0↔cI c<=8/\aN c<=64/\Okn c:=by
 have h:=aDb c 0 0
 unfold bH
 split
 ·rename_i hf
  rw [hf]at h
  constructor
  ·intro h;exact absurd h (by decide)
  ·rintro⟨h1,h2,_⟩
   exact absurd (h.2 ⟨by omega,by omega⟩) (by decide)
 ·rename_i hf
  have hf:(fF c 0 0).1=true:=by simpa using hf
  have h1:=h.1 hf
  rw [aK9]
  exact⟨λh=>⟨by omega,by omega,h⟩,λh=>h.2.2⟩
theorem aDr {c:Cn}(h:bH c=0) (h0:(aI c).2=0):bH (aI c).1=0/\jY (aI c).1 c/\(bU (aI c).1=true->bU c=true):=by
 obtain⟨h1,h2,h3⟩:=(dN c).1 h
 have hk:=kC c h3 h0
 have hs:=gC c
 exact⟨(dN _).2 ⟨by have:=hk.dep;omega,by omega,hk.ok⟩,hk.nam,hk.bare⟩
theorem aBg {c:Cn}(h:eZ c=true):c=c0:=by
 obtain⟨k,n,lo,hi,ps⟩:=c
 have h:(decide (k=0) && (decide (n=[]) && (decide (lo=0) && (decide (hi=0) && decide (ps=[])))))=true:=h
 simp only [Bool.and_eq_true,decide_eq_true_eq]at h
 obtain⟨rfl,rfl,rfl,rfl,rfl⟩:=h
 rfl
end Go.Proofs.YtfhoddcminbffaaGreatDoor
