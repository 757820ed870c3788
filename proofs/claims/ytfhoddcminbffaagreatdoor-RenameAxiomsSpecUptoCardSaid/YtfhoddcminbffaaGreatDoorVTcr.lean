/-
  Terms: the order of concepts is total; sorted sets of concepts. Merging in place, plainly: what a symmetric merge does to a list, and when its two halves may be merged alone. Rename: renamings, plainly: what is valid, what a name becomes, what two renamings are together, what undoes one. Rename: the types that come in.
  Conditions: none.
-/
import Derived.Test.YtfhoddcminbffaaGreatDoorVTca
import Derived.WalkKit
set_option linter.unnecessarySimpa false
set_option linter.unusedSectionVars false
set_option linter.unusedSimpArgs false
set_option linter.unusedVariables false
namespace Go.Proofs.YtfhoddcminbffaaGreatDoor
open Go.Proofs
def sK {α:Type}(c:α->α->Int) (a b d:α):Prop:=
 (c a b < 0->c b d < 0->c a d < 0)/\(c a b=0->c a d=c b d)/\(c b d=0->c a b=c a d)
structure LCk {α:Type} (c:α->α->Int):Prop where
 rng: ∀a b,c a b= -1\/c a b=0\/c a b=1
 anti: ∀a b,c b a= - c a b
 t3: ∀a b d,sK c a b d
def lex (x y:Int):Int:=if x≠0 then x else y
theorem LCk.lex {α:Type}{c1 c2:α->α->Int}(h1:LCk c1) (h2:LCk c2):LCk (λa b=>lex (c1 a b) (c2 a b)):=by
 refine⟨λa b=> ?_,λa b=> ?_,λa b d=> ?_⟩
 ·have:=h1.rng a b
  have:=h2.rng a b
  unfold Proofs.YtfhoddcminbffaaGreatDoor.lex
  split<;>omega
 ·have:=h1.anti a b
  have:=h2.anti a b
  unfold Proofs.YtfhoddcminbffaaGreatDoor.lex
  split<;>split<;>omega
 ·have a1:=h1.t3 a b d
  have a2:=h1.t3 b d a
  have a3:=h1.t3 d a b
  have b1:=h2.t3 a b d
  have r1:=h1.rng a b
  have r2:=h1.rng b d
  have r3:=h1.rng a d
  have n1:=h1.anti a b
  have n2:=h1.anti b d
  have n3:=h1.anti a d
  unfold sK at *
  unfold Proofs.YtfhoddcminbffaaGreatDoor.lex
  dsimp only
  refine⟨?_, ?_, ?_⟩<;>(split<;>split<;>split<;>omega)
theorem LCk.of {α β:Type}{c:β->β->Int}(h:LCk c) (k:α->β):LCk (λa b=>c (k a) (k b)):=
 ⟨λa b=>h.rng _ _,λa b=>h.anti _ _,λa b d=>h.t3 _ _ _⟩
theorem LCk.int:LCk iV:=by
 refine⟨λa b=> ?_,λa b=> ?_,λa b d=> ?_⟩
 ·unfold iV;split<;>(try split)<;>simp
 ·unfold iV;split<;>split<;>(try split)<;>omega
 ·unfold sK iV
  refine⟨?_, ?_, ?_⟩<;>(split<;>(try split)<;>split<;>(try split)<;>(try split)<;>(try split)<;>omega)
theorem iQ {a b:Int}:iV a b=0↔a=b:=by
 unfold iV;split<;>(try split)<;>omega
theorem LCk.str:LCk fR:=by
 refine⟨oB,yG,λa b d=>⟨uN a b d,λh=> ?_,λh=> ?_⟩⟩
 ·rw [(dU a b).1 h]
 ·rw [(dU b d).1 h]
theorem eM (x:Int) (l:List Int):orF (x::l)=lex x (orF l):=rfl
theorem LCk.zero {α:Type}:LCk (λ_ _:α=>(0:Int)):=⟨λ_ _=>by simp,λ_ _=>by simp,λ_ _ _=>by simp [sK]⟩
theorem eX:LCk mU:=by
 have h:=(LCk.int.of (λc:Cn=>(aQ c:Int))).lex ((LCk.int.of Cn.kind).lex ((LCk.str.of Cn.name).lex ((LCk.int.of Cn.lo).lex ((LCk.int.of Cn.hi).lex LCk.zero))))
 exact h
theorem dO {x y:Int}:lex x y=0↔x=0/\y=0:=by unfold lex;split<;>omega
theorem aD2 {a b:Cn}(h:mU a b=0):a.kind=b.kind/\a.name=b.name/\a.lo=b.lo/\a.hi=b.hi:=by
 unfold mU at h
 simp only [eM,dO,iQ,dU]at h
 exact⟨h.2.1,h.2.2.1,h.2.2.2.1,h.2.2.2.2.1⟩
theorem jG (a b:Cn):fX a b=lex (mU a b) (fO a.parts b.parts):=by rw [aAc];rfl
mutual
theorem pX: ∀(a b:Cn),fX a b= -1\/fX a b=0\/fX a b=1
 | .mk k n lo hi ps,b=>by
  have h1:=eX.rng (.mk k n lo hi ps) b
  have h2:=aBh ps b.parts
  rw [jG,show (Cn.mk k n lo hi ps).parts=ps from rfl]
  unfold lex;split<;>omega
theorem aBh: ∀(l m:List Cn),fO l m= -1\/fO l m=0\/fO l m=1
 | [],[]=>by simp [fO]
 | [],_::_=>by simp [fO]
 |_::_,[]=>by simp [fO]
 |a::l,b::m=>by
  have h1:=pX a b
  have h2:=aBh l m
  rw [fO];split<;>omega
end
mutual
theorem dK: ∀(a b:Cn),fX b a= - fX a b
 | .mk k n lo hi ps,b=>by
  have h1:=eX.anti (.mk k n lo hi ps) b
  have h2:=yF ps b.parts
  rw [jG,jG,h1]
  show lex _ (fO b.parts ps)= - lex _ (fO ps b.parts)
  rw [h2]
  unfold lex;split<;>split<;>omega
theorem yF: ∀(l m:List Cn),fO m l= - fO l m
 | [],[]=>by simp [fO]
 | [],_::_=>by simp [fO]
 |_::_,[]=>by simp [fO]
 |a::l,b::m=>by
  have h1:=dK a b
  have h2:=yF l m
  rw [fO,fO,h1,h2];split<;>split<;>omega
end
mutual
theorem lR: ∀(a b d:Cn),sK fX a b d
 | .mk k n lo hi ps,b,d=>by
  have a1:=eX.t3 (.mk k n lo hi ps) b d
  have a2:=eX.t3 b d (.mk k n lo hi ps)
  have a3:=eX.t3 d (.mk k n lo hi ps) b
  have n1:=eX.anti (.mk k n lo hi ps) b
  have n2:=eX.anti b d
  have n3:=eX.anti (.mk k n lo hi ps) d
  have r1:=eX.rng (.mk k n lo hi ps) b
  have r2:=eX.rng b d
  have r3:=eX.rng (.mk k n lo hi ps) d
  have b1:=aFv ps b.parts d.parts
  unfold sK at *
  rw [jG,jG,jG]
  rw [show (Cn.mk k n lo hi ps).parts=ps from rfl]
  generalize mU (.mk k n lo hi ps) b=x1 at *
  generalize mU (.mk k n lo hi ps) d=x2 at *
  generalize mU b d=x3 at *
  generalize mU b (.mk k n lo hi ps)=x4 at *
  generalize mU d (.mk k n lo hi ps)=x5 at *
  generalize mU d b=x6 at *
  generalize fO ps b.parts=y1 at *
  generalize fO ps d.parts=y2 at *
  generalize fO b.parts d.parts=y3 at *
  unfold lex
  refine⟨?_, ?_, ?_⟩<;>(split<;>split<;>split<;>omega)
theorem aFv: ∀(l m n:List Cn),sK fO l m n
 | [],m,n=>by
  cases m<;>cases n<;>simp [sK,fO]
 |a::l,[],n=>by
  cases n<;>simp [sK,fO]
 |a::l,b::m,[]=>by
  simp only [sK,fO]
  refine⟨by omega,λh=> ?_,λh=>by omega⟩
  first|rfl|trivial|(simp_all)
 |a::l,b::m,d::n=>by
  have a1:=lR a b d
  have b1:=aFv l m n
  have r1:=pX a b
  have r2:=pX b d
  have r3:=pX a d
  have n2:=dK b d
  unfold sK at *
  rw [fO,fO,fO]
  generalize fX a b=x1 at *
  generalize fX a d=x2 at *
  generalize fX b d=x3 at *
  generalize fO l m=y1 at *
  generalize fO l n=y2 at *
  generalize fO m n=y3 at *
  refine⟨?_, ?_, ?_⟩<;>(split<;>split<;>split<;>omega)
end
mutual
theorem aBj: ∀(a b:Cn),fX a b=0->a=b
 | .mk k n lo hi ps, .mk k' n' lo' hi' ps',h=>by
  rw [jG,dO]at h
  obtain⟨h1,h2⟩:=h
  obtain⟨e1,e2,e3,e4⟩:=aD2 h1
  have e5:=aBi ps ps' h2
  simp only [Cn.kind,Cn.name,Cn.lo,Cn.hi]at e1 e2 e3 e4
  rw [e1,e2,e3,e4,e5]
theorem aBi: ∀(l m:List Cn),fO l m=0->l=m
 | [],[],_=>rfl
 | [],_::_,h=>by simp [fO]at h
 |_::_,[],h=>by simp [fO]at h
 |a::l,b::m,h=>by
  rw [fO]at h
  have h:lex (fX a b) (fO l m)=0:=h
  rw [dO]at h
  rw [aBj a b h.1,aBi l m h.2]
end
theorem nI (a:Cn):fX a a=0:=by have:=dK a a;omega
theorem nH {a b:Cn}:fX a b=0↔a=b:=⟨aBj a b,λh=>h ▸ nI a⟩
def pT (c:Cn):List Cn->List Cn
 | []=>[c]
 |d::r=>if fX c d < 0 then c::d::r else if fX c d=0 then d::r else d::pT c r
def sM:List Cn->List Cn
 | []=>[]
 |c::r=>pT c (sM r)
abbrev aDl (l:List Cn):Prop:=l.Pairwise (λa b=>fX a b < 0)
theorem pP {c x:Cn}: ∀{l:List Cn},x∈pT c l↔x=c\/x∈l
 | []=>by simp [pT]
 |d::r=>by
  rw [pT]
  split
  ·simp
  ·split
   ·rename_i h
    have:=nH.1 h
    subst this
    simp
   ·simp only [List.mem_cons,pP (l:=r)]
    constructor
    ·rintro(h|h|h)<;>simp [h]
    ·rintro(h|h|h)<;>simp [h]
theorem pO {x:Cn}: ∀{l:List Cn},x∈sM l↔x∈l
 | []=>by simp [sM]
 |c::r=>by rw [sM,pP,pO,List.mem_cons]
theorem vA {c:Cn}: ∀{l:List Cn},aDl l->aDl (pT c l)
 | [],_=>by simp [pT,aDl]
 |d::r,h=>by
  rw [pT]
  have h1:=List.pairwise_cons.1 h
  split
  ·rename_i hlt
   refine List.pairwise_cons.2 ⟨λx hx=> ?_,h⟩
   rcases List.mem_cons.1 hx with rfl|hx
   ·exact hlt
   ·exact(lR c d x).1 hlt (h1.1 x hx)
  ·split
   ·exact h
   ·rename_i h2 h3
    refine List.pairwise_cons.2 ⟨λx hx=> ?_,vA h1.2⟩
    rcases pP.1 hx with rfl|hx
    ·have:=dK x d;omega
    ·exact h1.1 x hx
theorem aAl: ∀(l:List Cn),aDl (sM l)
 | []=> .nil
 |c::r=>vA (aAl r)
theorem tC: ∀{l m:List Cn},aDl l->aDl m->(∀x,x∈l↔x∈m)->l=m
 | [],[],_,_,_=>rfl
 | [],b::m,_,_,h=>by have:=(h b).2 (by simp);simp at this
 |a::l,[],_,_,h=>by have:=(h a).1 (by simp);simp at this
 |a::l,b::m,h1,h2,h=>by
  have p1:=List.pairwise_cons.1 h1
  have p2:=List.pairwise_cons.1 h2
  have hab:a=b:=by
   rcases List.mem_cons.1 ((h a).1 (by simp))with e|e
   ·exact e
   ·rcases List.mem_cons.1 ((h b).2 (by simp))with e'|e'
    ·exact e'.symm
    ·have q1:=p1.1 b e'
     have q2:=p2.1 a e
     have:=dK a b
     omega
  subst hab
  rw [tC p1.2 p2.2 λx=> ?_]
  have hx:=h x
  simp only [List.mem_cons]at hx
  have d1: ∀x∈l,x≠a:= λx hx e=>by have:=p1.1 x hx;rw [e,nI]at this;omega
  have d2: ∀x∈m,x≠a:= λx hx e=>by have:=p2.1 x hx;rw [e,nI]at this;omega
  constructor
  ·intro hl
   rcases hx.1 (.inr hl)with e|e
   ·exact absurd e (d1 x hl)
   ·exact e
  ·intro hm
   rcases hx.2 (.inr hm)with e|e
   ·exact absurd e (d2 x hm)
   ·exact e
theorem aEj {l m:List Cn}(h1:aDl m) (h: ∀x,x∈m↔x∈l):m=sM l:=tC h1 (aAl l) λx=>by rw [pO,h]
def pW {α:Type}(eq:α->α->Bool):α->List α->List α
 |_,[]=>[]
 |p,b::r=>if eq b p then pW eq b r else b::pW eq b r
def oV {α:Type}(eq:α->α->Bool):List α->List α
 | []=>[]
 |a::r=>a::pW eq a r
def uF (a b:Cn):Bool:=decide (fX a b=0)
theorem yB: ∀(p:Cn) (l:List Cn),(p::l).Pairwise (λa b=>¬ fX b a < 0)->aDl (p::pW uF p l)/\ ∀x,x∈p::pW uF p l↔x∈p::l
 |p,[],_=>⟨by simp [pW,aDl],λx=>by simp [pW]⟩
 |p,b::r,h=>by
  have h1:=List.pairwise_cons.1 h
  obtain⟨i1,i2⟩:=yB b r h1.2
  rw [pW]
  by_cases he:fX b p=0
  ·have hb:b=p:=nH.1 he
   subst hb
   rw [if_pos (by simp [uF,he])]
   exact⟨i1,λx=>by rw [i2];simp⟩
  ·rw [if_neg (by simp [uF,he])]
   have hlt:fX p b < 0:=by
    have:=h1.1 b (by simp)
    have:=dK p b
    omega
   refine⟨List.pairwise_cons.2 ⟨λx hx=> ?_,i1⟩,λx=> ?_⟩
   ·rcases List.mem_cons.1 hx with rfl|hx
    ·exact hlt
    ·exact(lR p b x).1 hlt ((List.pairwise_cons.1 i1).1 x hx)
   ·rw [List.mem_cons,i2,List.mem_cons (a:=x) (b:=p)]
theorem aAa {l l':List Cn}(hp:l'.Perm l) (hs:l'.Pairwise (λa b=>¬ fX b a < 0)):oV uF l'=sM l:=by
 cases l' with
 |nil=>
  have:=hp.symm.eq_nil
  subst this
  rfl
 |cons a r=>
  obtain⟨h1,h2⟩:=yB a r hs
  exact aEj h1 λx=>(h2 x).trans hp.mem_iff
end Go.Proofs.YtfhoddcminbffaaGreatDoor
namespace Go.Proofs.YtfhoddcminbffaaGreatDoor
section
variable {α:Type}
structure OrdC (cf:α->α->Int):Prop where
 asym: ∀x y,cf x y < 0->¬ cf y x < 0
 tr: ∀x y z,¬ cf y x < 0->¬ cf z y < 0->¬ cf z x < 0
def Srt (cf:α->α->Int) (l:List α):Prop:=l.Pairwise λx y=>¬ cf y x < 0
theorem OrdC.refl {cf:α->α->Int}(h:OrdC cf) (x:α):¬ cf x x < 0:= λq=>h.asym x x q q
theorem Srt.app {cf:α->α->Int}{l m:List α}:Srt cf (l++m)↔Srt cf l/\Srt cf m/\ ∀x∈l,∀y∈m,¬ cf y x < 0:=List.pairwise_append
theorem Srt.le_at {cf:α->α->Int}(hO:OrdC cf) {l:List α}(h:Srt cf l) {i j:Nat}{x y:α}(hij:i<=j) (hx:l[i]? =some x) (hy:l[j]? =some y):¬ cf y x < 0:=by
 rcases Nat.lt_or_eq_of_le hij with hlt|rfl
 ·obtain⟨h1,e1⟩:=List.getElem?_eq_some_iff.1 hx
  obtain⟨h2,e2⟩:=List.getElem?_eq_some_iff.1 hy
  subst e1;subst e2
  exact List.pairwise_iff_getElem.1 h i j h1 h2 hlt
 ·rw [hx]at hy
  injection hy with e
  subst e
  exact hO.refl x
theorem lL {l:List α}{n:Nat}{x:α}(h:x∈l.take n): ∃i,i < n/\l[i]? =some x:=by
 obtain⟨i,hi,e⟩:=List.getElem_of_mem h
 rw [List.length_take]at hi
 rw [List.getElem_take]at e
 exact⟨i,by omega,by rw [<-e];exact List.getElem?_eq_getElem (by omega)⟩
theorem lM {l:List α}{n:Nat}{x:α}(h:x∈l.drop n): ∃i,n<=i/\l[i]? =some x:=by
 obtain⟨i,hi,e⟩:=List.getElem_of_mem h
 rw [List.length_drop]at hi
 rw [List.getElem_drop]at e
 exact⟨n+i,by omega,by rw [<-e];exact List.getElem?_eq_getElem (by omega)⟩
theorem aE9 {cf:α->α->Int}(hO:OrdC cf) {A B:List α}(hA:Srt cf A) (hB:Srt cf B) {s t:Nat}(hs:s<=A.length) (ht:t<=B.length)
  (h1: ∀x y,A[s]? =some x->0 < t->B[t - 1]? =some y->¬ cf x y < 0) (h2: ∀x y,0 < s->A[s - 1]? =some x->B[t]? =some y->¬ cf y x < 0):
  ∀x∈A.take s++B.take t,∀y∈A.drop s++B.drop t,¬ cf y x < 0:=by
 intro x hx y hy
 rcases List.mem_append.1 hx with hx|hx<;>rcases List.mem_append.1 hy with hy|hy<;>obtain⟨i,hi,hx⟩:=lL hx<;>obtain⟨j,hj,hy⟩:=lM hy
 ·exact hA.le_at hO (by omega) hx hy
 ·have hm:=(List.getElem?_eq_some_iff.1 hy).1
  have a:=hA.le_at hO (show i<=s - 1 by omega) hx (List.getElem?_eq_getElem (show s - 1 < A.length by omega))
  have b:=h2 _ _ (by omega) (List.getElem?_eq_getElem (show s - 1 < A.length by omega)) (List.getElem?_eq_getElem (show t < B.length by omega))
  have c:=hB.le_at hO hj (List.getElem?_eq_getElem (show t < B.length by omega)) hy
  exact hO.tr _ _ _ a (hO.tr _ _ _ b c)
 ·have hm:=(List.getElem?_eq_some_iff.1 hy).1
  have a:=hB.le_at hO (show i<=t - 1 by omega) hx (List.getElem?_eq_getElem (show t - 1 < B.length by omega))
  have b:=h1 _ _ (List.getElem?_eq_getElem (show s < A.length by omega)) (by omega) (List.getElem?_eq_getElem (show t - 1 < B.length by omega))
  have c:=hA.le_at hO hj (List.getElem?_eq_getElem (show s < A.length by omega)) hy
  exact hO.tr _ _ _ a (hO.tr _ _ _ b c)
 ·exact hB.le_at hO (by omega) hx hy
theorem aKw (U:List α) (x:α) (W:List α):(U++x::W)[U.length]? =some x:=by
 rw [List.getElem?_append_right (Nat.le_refl _),Nat.sub_self];rfl
theorem aEi (U:List α) (x z:α) (W:List α):(U++x::W).set U.length z=U++z::W:=by
 rw [List.set_append_right _ _ (Nat.le_refl _),Nat.sub_self];rfl
theorem aEh (U:List α) (x:α) (V:List α) (y z:α) (W:List α):(U++x::(V++y::W)).set (U.length+1+V.length) z=U++x::(V++z::W):=by
 have:=aEi (U++x::V) y z W
 rw [List.append_assoc,List.append_assoc,List.cons_append,List.cons_append]at this
 rw [<-this]
 congr 1
 simp only [List.length_append,List.length_cons];omega
theorem aJ8 (U:List α) (x:α) (V:List α) (y:α) (W:List α):((U++x::(V++y::W)).set U.length y).set (U.length+1+V.length) x=U++y::(V++x::W):=by
 rw [aEi,aEh]
theorem aEa (U:List α) (x:α) (V:List α) (y:α) (W:List α):((U++x::(V++y::W)).set (U.length+1+V.length) x).set U.length y=U++y::(V++x::W):=by
 rw [aEh,aEi]
def Blk (cf:α->α->Int) (bs:Nat) (l:List α):Prop:= ∀k,Srt cf ((l.drop (k * bs)).take bs)
theorem Blk.app {cf:α->α->Int}{bs k:Nat}{U S:List α}(hU:Blk cf bs U) (hk:U.length=k * bs) (hS:Srt cf S) (hl:S.length<=bs):Blk cf bs (U++S):=by
 intro i
 rcases Nat.lt_trichotomy i k with h|h|h
 ·have h1:(i+1)* bs<=k * bs:=Nat.mul_le_mul_right _ h
  rw [Nat.add_mul,Nat.one_mul]at h1
  rw [List.drop_append_of_le_length (by omega),List.take_append_of_le_length (by rw [List.length_drop];omega)]
  exact hU i
 ·subst h
  rw [<-hk,List.drop_left,List.take_of_length_le hl]
  exact hS
 ·have h1:(k+1)* bs<=i * bs:=Nat.mul_le_mul_right _ h
  rw [Nat.add_mul,Nat.one_mul]at h1
  rw [List.drop_eq_nil_of_le (by rw [List.length_append];omega)]
  simp [Srt]
theorem Blk.first {cf:α->α->Int}{bs:Nat}{l:List α}(h:Blk cf bs l):Srt cf (l.take bs):=by
 have:=h 0
 rwa [Nat.zero_mul,List.drop_zero]at this
theorem Blk.rest {cf:α->α->Int}{bs:Nat}{l:List α}(h:Blk cf bs l):Blk cf bs (l.drop bs):=by
 intro k
 have:=h (k+1)
 rw [Nat.add_mul,Nat.one_mul,Nat.add_comm]at this
 rwa [List.drop_drop]
theorem Blk.nil {cf:α->α->Int}{bs:Nat}:Blk cf bs []:= λk=>by
 simp [Srt]
theorem Blk.all {cf:α->α->Int}{bs:Nat}{l:List α}(h:Blk cf bs l) (hl:l.length<=bs):Srt cf l:=by
 have:=h.first
 rwa [List.take_of_length_le hl]at this
end
end Go.Proofs.YtfhoddcminbffaaGreatDoor
namespace Go.Proofs.YtfhoddcminbffaaGreatDoor
open Go.Proofs
structure Rn where
 kind:Int
 old:List UInt8
 new:List UInt8
theorem Rn.ext' {a b:Rn}(h1:a.kind=b.kind) (h2:a.old=b.old) (h3:a.new=b.new):a=b:=by
 cases a;cases b;simp_all
def rnR (r:Rn):List D:=[.int .i64 r.kind, .str r.old, .str r.new]
def rnL (l:List Rn):D:= .sl 3 (l.map rnR)
def rnN (s:List UInt8):Bool:=gZ s && !decide (s.head?=some 95)
def rnV (r:Rn):Bool:=decide (1<=r.kind) && (decide (r.kind<=4) && (rnN r.old && (rnN r.new && !decide (r.old=r.new))))
def dT (a b:Rn):Int:=orF [iV a.kind b.kind,fR a.old b.old]
abbrev Ky:=Int×List UInt8
def jZ (r:Rn):Ky:=(r.kind,r.new)
def gN (r:Rn):Ky:=(r.kind,r.old)
theorem wB:LCk dT:=by
 have h:=(LCk.int.of Rn.kind).lex ((LCk.str.of Rn.old).lex LCk.zero)
 exact h
theorem iP {a b:Rn}:dT a b=0↔gN a=gN b:=by
 unfold dT gN
 simp only [eM,dO,iQ,dU,Prod.mk.injEq]
 simp [orF]
theorem aI9 (a:Rn):¬ dT a a < 0:=by rw [iP.2 rfl];omega
theorem rV {a b d:Rn}(h1:dT a b < 0) (h2:dT b d < 0):dT a d < 0:=(wB.t3 a b d).1 h1 h2
theorem LCk.ord {α:Type}{c:α->α->Int}(h:LCk c):OrdC c where
 asym:= λx y a=>by have:=h.anti x y;omega
 tr:= λx y z a b=>by
  have h1:=h.t3 x y z
  have r1:=h.rng x y
  have r2:=h.rng y z
  have a1:=h.anti x y
  have a2:=h.anti y z
  have a3:=h.anti x z
  unfold sK at h1
  have:=h1.1
  have:=h1.2.1
  have:=h1.2.2
  omega
structure Good (l:List Rn):Prop where
 val: ∀r∈l,rnV r=true
 str:l.Pairwise λa b=>dT a b < 0
 nod:(l.map jZ).Nodup
def okP:Option Rn->Rn->Bool
 |none,_=>true
 |some q,r=>decide (dT q r < 0)
def goB:List Ky->Option Rn->List Rn->Bool
 |_,_,[]=>true
 |used,p,r::t=>rnV r && (okP p r && (!decide (jZ r∈used) && goB (used++[jZ r]) (some r) t))
theorem aB8 (used:List Ky) (p:Option Rn) (r:Rn) (t:List Rn):goB used p (r::t)=(rnV r && (okP p r && (!decide (jZ r∈used) && goB (used++[jZ r]) (some r) t))):=rfl
def cD (l:List Rn):Int:=if 1024 < l.length then 2 else if goB [] none l=true then 0 else 330
theorem aFc: ∀(l:List Rn) (used:List Ky) (p:Option Rn),goB used p l=true↔Good l/\(∀q,p=some q-> ∀r∈l,dT q r < 0)/\ ∀r∈l,jZ r∉used
 | [],used,p=>by simp [goB];exact⟨by simp, .nil,by simp⟩
 |r::t,used,p=>by
  have ih:=aFc t (used++[jZ r]) (some r)
  rw [aB8,Bool.and_eq_true,Bool.and_eq_true,Bool.and_eq_true,ih]
  constructor
  ·rintro⟨h1,h2,h3,g,g1,g2⟩
   have g1:=g1 r rfl
   have h3:jZ r∉used:=by simpa using h3
   refine⟨⟨?_,List.pairwise_cons.2 ⟨g1,g.str⟩, ?_⟩, ?_, ?_⟩
   ·intro x hx
    rcases List.mem_cons.1 hx with rfl|hx
    ·exact h1
    ·exact g.val x hx
   ·rw [List.map_cons,List.nodup_cons]
    refine⟨λhm=> ?_,g.nod⟩
    obtain⟨x,hx,e⟩:=List.mem_map.1 hm
    exact g2 x hx (by rw [e];simp)
   ·rintro q rfl x hx
    have h2:dT q r < 0:=by simpa [okP]using h2
    rcases List.mem_cons.1 hx with rfl|hx
    ·exact h2
    ·exact rV h2 (g1 x hx)
   ·intro x hx
    rcases List.mem_cons.1 hx with rfl|hx
    ·exact h3
    ·exact λhm=>g2 x hx (by simp [hm])
  ·rintro⟨g,g1,g2⟩
   have gs:=List.pairwise_cons.1 g.str
   have gn:=g.nod
   rw [List.map_cons,List.nodup_cons]at gn
   refine⟨g.val r (by simp), ?_,by simpa using g2 r (by simp),⟨λx hx=>g.val x (by simp [hx]),gs.2,gn.2⟩, ?_, ?_⟩
   ·cases p with
    |none=>rfl
    |some q=>simpa [okP]using g1 q rfl r (by simp)
   ·rintro q hq x hx
    injection hq with hq
    subst hq
    exact gs.1 x hx
   ·intro x hx hm
    rcases List.mem_append.1 hm with hm|hm
    ·exact g2 x (by simp [hx]) hm
    ·simp only [List.mem_singleton]at hm
     exact gn.1 (List.mem_map.2 ⟨x,hx,hm⟩)
theorem vY (l:List Rn):goB [] none l=true↔Good l:=by
 rw [aFc]
 exact⟨λh=>h.1,λh=>⟨h,by simp,by simp⟩⟩
theorem aAd {l:List Rn}(h:l.length<=1024):cD l=0↔Good l:=by
 rw [cD,if_neg (by omega),<-vY]
 split<;>simp_all
theorem aDc {l:List Rn}(h:l.length<=1024) (hg:¬ Good l):cD l=330:=by
 rw [cD,if_neg (by omega),if_neg (λe=>hg ((vY l).1 e))]
theorem nJ {l:List Rn}(h:cD l=0):Good l/\l.length<=1024:=by
 unfold cD at h
 split at h
 ·cases h
 ·split at h
  ·rename_i h1 h2;exact⟨(vY l).1 h2,by omega⟩
  ·cases h
theorem xC {α:Type}{R:α->α->Prop}(irr: ∀x,¬ R x x) (tr: ∀x y z,R x y->R y z->R x z): ∀{l m:List α},l.Pairwise R->m.Pairwise R->(∀x,x∈l↔x∈m)->l=m
 | [],[],_,_,_=>rfl
 | [],y::m,_,_,h=>absurd ((h y).2 (by simp)) (by simp)
 |x::l,[],_,_,h=>absurd ((h x).1 (by simp)) (by simp)
 |x::l,y::m,h1,h2,h=>by
  have a1:=List.pairwise_cons.1 h1
  have a2:=List.pairwise_cons.1 h2
  have hxy:x=y:=by
   rcases List.mem_cons.1 ((h x).1 (by simp))with e|hx
   ·exact e
   ·rcases List.mem_cons.1 ((h y).2 (by simp))with e|hy
    ·exact e.symm
    ·exact absurd (tr _ _ _ (a2.1 x hx) (a1.1 y hy)) (irr y)
  subst hxy
  have key: ∀z,z∈l↔z∈m:= λz=>by
   constructor
   ·intro hz
    rcases List.mem_cons.1 ((h z).1 (List.mem_cons_of_mem _ hz))with e|hz'
    ·exact absurd (a1.1 z hz) (e ▸ irr z)
    ·exact hz'
   ·intro hz
    rcases List.mem_cons.1 ((h z).2 (List.mem_cons_of_mem _ hz))with e|hz'
    ·exact absurd (a2.1 z hz) (e ▸ irr z)
    ·exact hz'
  rw [xC irr tr a1.2 a2.2 key]
theorem wT {l m:List Rn}(h1:l.Pairwise λa b=>dT a b < 0) (h2:m.Pairwise λa b=>dT a b < 0) (h: ∀x,x∈l↔x∈m):l=m:=
 xC (R:= λa b=>dT a b < 0) (λa=>aI9 a) (λa b d h1 h2=>rV h1 h2) h1 h2 h
theorem aJa {l:List Rn}(h:l.Pairwise λa b=>dT a b < 0) {a b:Rn}(ha:a∈l) (hb:b∈l) (e:gN a=gN b):a=b:=by
 induction l with
 |nil=>simp at ha
 |cons x r ih=>
  have h1:=List.pairwise_cons.1 h
  rcases List.mem_cons.1 ha with e1|ha1<;>rcases List.mem_cons.1 hb with e2|hb1
  ·rw [e1,e2]
  ·have:=h1.1 b hb1;rw [<-e1,iP.2 e]at this;omega
  ·have:=h1.1 a ha1;rw [<-e2,iP.2 e.symm]at this;omega
  ·exact ih h1.2 ha1 hb1
def aO (l:List Rn) (k:Int) (s:List UInt8):List UInt8:=
 match l.find? (λr=>decide (r.kind=k) && decide (r.old=s))with
 |some r=>r.new
 |none=>s
theorem xI {l:List Rn}(h:l.Pairwise λa b=>dT a b < 0) {r:Rn}(hr:r∈l):aO l r.kind r.old=r.new:=by
 unfold aO
 split
 ·rename_i q hq
  have h1:=List.mem_of_find?_eq_some hq
  have h2:=List.find?_some hq
  simp only [Bool.and_eq_true,decide_eq_true_eq]at h2
  rw [aJa h h1 hr (by unfold gN;rw [h2.1,h2.2])]
 ·rename_i hq
  have:=List.find?_eq_none.1 hq r hr
  simp at this
theorem tW {l:List Rn}{k:Int}{s:List UInt8}(h: ∀r∈l,gN r≠(k,s)):aO l k s=s:=by
 unfold aO
 split
 ·rename_i q hq
  have h1:=List.mem_of_find?_eq_some hq
  have h2:=List.find?_some hq
  simp only [Bool.and_eq_true,decide_eq_true_eq]at h2
  exact absurd (by unfold gN;rw [h2.1,h2.2]) (h q h1)
 ·rfl
theorem jC {l:List Rn}(h:l.Pairwise λa b=>dT a b < 0) (k:Int) (s:List UInt8):(∃r∈l,gN r=(k,s)/\aO l k s=r.new)\/((∀r∈l,gN r≠(k,s))/\aO l k s=s):=by
 by_cases he: ∃r∈l,gN r=(k,s)
 ·obtain⟨r,hr,e⟩:=he
  have:=xI h hr
  have e':r.kind=k/\r.old=s:=by simpa [gN]using e
  rw [e'.1,e'.2]at this
  exact .inl ⟨r,hr,e,this⟩
 ·have he: ∀r∈l,gN r≠(k,s):= λr hr e=>he ⟨r,hr,e⟩
  exact .inr ⟨he,tW he⟩
structure Comp (l m x:List Rn):Prop where
 str:x.Pairwise λa b=>dT a b < 0
 mem: ∀r,r∈x↔r.new=aO m r.kind (aO l r.kind r.old)/\r.new≠r.old
theorem Comp.uniq {l m x y:List Rn}(h1:Comp l m x) (h2:Comp l m y):x=y:=wT h1.str h2.str λr=>by rw [h1.mem,h2.mem]
theorem Comp.name {l m x:List Rn}(h:Comp l m x) (k:Int) (s:List UInt8):aO x k s=aO m k (aO l k s):=by
 rcases jC h.str k s with⟨r,hr,e,e2⟩|⟨hn,e2⟩
 ·have e':r.kind=k/\r.old=s:=by simpa [gN]using e
  have:=((h.mem r).1 hr).1
  rw [e2,this,e'.1,e'.2]
 ·rw [e2]
  by_cases hs:aO m k (aO l k s)=s
  ·exact hs.symm
  ·exact absurd rfl (hn ⟨k,s,aO m k (aO l k s)⟩ ((h.mem _).2 ⟨rfl,hs⟩))
theorem aI5 {l m:List Rn}(hl:l.Pairwise λa b=>dT a b < 0) (hm:m.Pairwise λa b=>dT a b < 0) {k:Int}{s:List UInt8}(h:aO m k (aO l k s)≠s): ∃r∈l++m,gN r=(k,s):=by
 rcases jC hl k s with⟨r,hr,e,_⟩|⟨_,e⟩
 ·exact⟨r,by simp [hr],e⟩
 ·rw [e]at h
  rcases jC hm k s with⟨r,hr,e,_⟩|⟨_,e⟩
  ·exact⟨r,by simp [hr],e⟩
  ·exact absurd e h
def aKt (r:Rn):Rn:=⟨r.kind,r.new,r.old⟩
theorem aHv (r:Rn):aKt (aKt r)=r:=rfl
structure Inv (l x:List Rn):Prop where
 str:x.Pairwise λa b=>dT a b < 0
 mem: ∀r,r∈x↔aKt r∈l
theorem Inv.uniq {l x y:List Rn}(h1:Inv l x) (h2:Inv l y):x=y:=wT h1.str h2.str λr=>by rw [h1.mem,h2.mem]
theorem Inv.name {l x:List Rn}(hl:Good l) (h:Inv l x) {k:Int}{s:List UInt8}(hn:(∃r∈l,gN r=(k,s))\/ ∀r∈l,jZ r≠(k,s)):aO x k (aO l k s)=s:=by
 rcases jC hl.str k s with⟨r,hr,e,e2⟩|⟨h1,e2⟩
 ·have e':r.kind=k/\r.old=s:=by simpa [gN]using e
  have:=xI h.str ((h.mem (aKt r)).2 (by rw [aHv];exact hr))
  rw [e2,<-e'.1,<-e'.2]
  exact this
 ·rw [e2]
  refine tW λr hr e=> ?_
  have hr':=(h.mem r).1 hr
  rcases hn with⟨q,hq,e3⟩|hn
  ·exact h1 q hq e3
  ·exact hn (aKt r) hr' e
end Go.Proofs.YtfhoddcminbffaaGreatDoor
namespace Go.Proofs.YtfhoddcminbffaaGreatDoor
open Go.Proofs Go.RowKit
set_option maxRecDepth 100000
theorem aDy:aE2 Tryz.prog 68=some [3,9,9]:=by kernel_rfl
theorem tA:Tryz.prog.underlying 22=some (.slice 68):=by kernel_rfl
theorem aFx:Tryz.prog.cellsOf 68=3:=by kernel_rfl
def TR:List TypeId:=68::22::TT
theorem clR:Cl Tryz.prog (· ∈TR):=aL2 (by kernel_rfl)
theorem aKl {n:Nat}{ds:List D}(h:TyD Tryz.prog n 68 ds): ∃r:Rn,ds=rnR r/\r.old.length<=140737488351232:=by
 obtain⟨m,rfl,a1,b1,rfl,h1,a2,b2,rfl,h2,a3,b3,rfl,h3,rfl⟩:=nQ aDy h
 obtain⟨k,rfl,_⟩:=nR u3 h1
 obtain⟨s1,rfl,q1⟩:=dZ u9 h2
 obtain⟨s2,rfl,_⟩:=dZ u9 h3
 exact⟨⟨k,s1,s2⟩,rfl,q1⟩
theorem aIl {n:Nat}{ds:List D}(h:TyD Tryz.prog n 22 ds): ∃l:List Rn,rZ Tryz.prog 22 ds= .d (rnL l)/\l.length<=140737488351232:=by
 obtain⟨m,rfl,rows,rfl,hn,hr⟩:=lZ tA h
 obtain⟨l,rfl,_⟩:=pL (f:=rnR) (Q:= λr:Rn=>r.old.length<=140737488351232) (λr hr=>aKl hr) rows hr
 exact⟨l,by simp only [rZ,tA,aFx];rfl,by rw [List.length_map]at hn;exact hn⟩
theorem aIm {n:Nat}{ds:List D}(h:TyD Tryz.prog n 3 ds): ∃z,rZ Tryz.prog 3 ds= .d (.int .i64 z):=by
 obtain⟨z,rfl,hz⟩:=nR u3 h
 exact⟨z,by simp only [rZ,u3]⟩
theorem aIk {n:Nat}{ds:List D}(h:TyD Tryz.prog n 9 ds): ∃s:List UInt8,rZ Tryz.prog 9 ds= .d (.str s):=by
 obtain⟨s,rfl,_⟩:=dZ u9 h
 exact⟨s,by simp only [rZ,u9]⟩
end Go.Proofs.YtfhoddcminbffaaGreatDoor
