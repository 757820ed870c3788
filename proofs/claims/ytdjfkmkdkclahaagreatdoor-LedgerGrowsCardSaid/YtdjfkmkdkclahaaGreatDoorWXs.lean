/-
  Terms: the order of concepts is total; sorted sets of concepts. Merging in place, plainly: what a symmetric merge does to a list, and when its two halves may be merged alone. Rename: renamings, plainly: what is valid, what a name becomes, what two renamings are together, what undoes one. The order of atoms and of lists of them; sorting grows with what is sorted; plain. The canonical names of a part: a search that cuts branches finds the least one; plain.
  Conditions: none.
-/
import Derived.Test.YtdjfkmkdkclahaaGreatDoorWSyi
import Derived.WalkKit
import Derived.Test.YtdjfkmkdkclahaaGreatDoorWSyn
set_option linter.unnecessarySimpa false
set_option linter.unusedSectionVars false
set_option linter.unusedSimpArgs false
set_option linter.unusedVariables false
namespace Go.Proofs.YtdjfkmkdkclahaaGreatDoor
open Go.Proofs
def aAl {α:Type}(c:α->α->Int) (a b d:α):Prop:=
 (c a b < 0->c b d < 0->c a d < 0)/\(c a b=0->c a d=c b d)/\(c b d=0->c a b=c a d)
structure LCk {α:Type} (c:α->α->Int):Prop where
 rng: ∀a b,c a b= -1\/c a b=0\/c a b=1
 anti: ∀a b,c b a= - c a b
 t3: ∀a b d,aAl c a b d
def lex (x y:Int):Int:=if x≠0 then x else y
theorem LCk.lex {α:Type}{c1 c2:α->α->Int}(h1:LCk c1) (h2:LCk c2):LCk (λa b=>lex (c1 a b) (c2 a b)):=by
 refine⟨λa b=> ?_,λa b=> ?_,λa b d=> ?_⟩
 ·have:=h1.rng a b
  have:=h2.rng a b
  unfold Proofs.YtdjfkmkdkclahaaGreatDoor.lex
  split<;>omega
 ·have:=h1.anti a b
  have:=h2.anti a b
  unfold Proofs.YtdjfkmkdkclahaaGreatDoor.lex
  split<;>split<;>omega
 ·have a1:=h1.t3 a b d
  have a2:=h1.t3 b d a
  have a3:=h1.t3 d a b
  have b1:=h2.t3 a b d
  have r1:=h1.rng a b
  have r2:=h1.rng b d
  have r3:=h1.rng a d
  have n1:=h1.anti a b
  have n2:=h1.anti b d
  have n3:=h1.anti a d
  unfold aAl at *
  unfold Proofs.YtdjfkmkdkclahaaGreatDoor.lex
  dsimp only
  refine⟨?_, ?_, ?_⟩<;>(split<;>split<;>split<;>omega)
theorem LCk.of {α β:Type}{c:β->β->Int}(h:LCk c) (k:α->β):LCk (λa b=>c (k a) (k b)):=
 ⟨λa b=>h.rng _ _,λa b=>h.anti _ _,λa b d=>h.t3 _ _ _⟩
theorem LCk.int:LCk wE:=by
 refine⟨λa b=> ?_,λa b=> ?_,λa b d=> ?_⟩
 ·unfold wE;split<;>(try split)<;>simp
 ·unfold wE;split<;>split<;>(try split)<;>omega
 ·unfold aAl wE
  refine⟨?_, ?_, ?_⟩<;>(split<;>(try split)<;>split<;>(try split)<;>(try split)<;>(try split)<;>omega)
theorem iN {a b:Int}:wE a b=0↔a=b:=by
 unfold wE;split<;>(try split)<;>omega
theorem LCk.str:LCk eC:=by
 refine⟨nH,yO,λa b d=>⟨uG a b d,λh=> ?_,λh=> ?_⟩⟩
 ·rw [(cF a b).1 h]
 ·rw [(cF b d).1 h]
theorem vL (x:Int) (l:List Int):orF (x::l)=lex x (orF l):=rfl
theorem LCk.zero {α:Type}:LCk (λ_ _:α=>(0:Int)):=⟨λ_ _=>by simp,λ_ _=>by simp,λ_ _ _=>by simp [aAl]⟩
theorem aBd {x y:Int}:lex x y=0↔x=0/\y=0:=by unfold lex;split<;>omega
def tB {α:Type}(eq:α->α->Bool):α->List α->List α
 |_,[]=>[]
 |p,b::r=>if eq b p then tB eq b r else b::tB eq b r
def jO {α:Type}(eq:α->α->Bool):List α->List α
 | []=>[]
 |a::r=>a::tB eq a r
end Go.Proofs.YtdjfkmkdkclahaaGreatDoor
namespace Go.Proofs.YtdjfkmkdkclahaaGreatDoor
section
variable {α:Type}
structure OrdC (cf:α->α->Int):Prop where
 asym: ∀x y,cf x y < 0->¬ cf y x < 0
 tr: ∀x y z,¬ cf y x < 0->¬ cf z y < 0->¬ cf z x < 0
def Srt (cf:α->α->Int) (l:List α):Prop:=l.Pairwise λx y=>¬ cf y x < 0
theorem OrdC.refl {cf:α->α->Int}(h:OrdC cf) (x:α):¬ cf x x < 0:= λq=>h.asym x x q q
def Blk (cf:α->α->Int) (bs:Nat) (l:List α):Prop:= ∀k,Srt cf ((l.drop (k * bs)).take bs)
theorem Blk.first {cf:α->α->Int}{bs:Nat}{l:List α}(h:Blk cf bs l):Srt cf (l.take bs):=by
 have:=h 0
 rwa [Nat.zero_mul,List.drop_zero]at this
theorem Blk.rest {cf:α->α->Int}{bs:Nat}{l:List α}(h:Blk cf bs l):Blk cf bs (l.drop bs):=by
 intro k
 have:=h (k+1)
 rw [Nat.add_mul,Nat.one_mul,Nat.add_comm]at this
 rwa [List.drop_drop]
theorem Blk.nil {cf:α->α->Int}{bs:Nat}:Blk cf bs []:= λk=>by
 simp [Srt]
theorem Blk.all {cf:α->α->Int}{bs:Nat}{l:List α}(h:Blk cf bs l) (hl:l.length<=bs):Srt cf l:=by
 have:=h.first
 rwa [List.take_of_length_le hl]at this
end
end Go.Proofs.YtdjfkmkdkclahaaGreatDoor
namespace Go.Proofs.YtdjfkmkdkclahaaGreatDoor
open Go.Proofs
structure Rn where
 kind:Int
 old:List UInt8
 new:List UInt8
theorem Rn.ext' {a b:Rn}(h1:a.kind=b.kind) (h2:a.old=b.old) (h3:a.new=b.new):a=b:=by
 cases a;cases b;simp_all
def rnN (s:List UInt8):Bool:=fB s && !decide (s.head?=some 95)
def rnV (r:Rn):Bool:=decide (1<=r.kind) && (decide (r.kind<=4) && (rnN r.old && (rnN r.new && !decide (r.old=r.new))))
def yY (a b:Rn):Int:=orF [wE a.kind b.kind,eC a.old b.old]
abbrev Ky:=Int×List UInt8
def aOd (r:Rn):Ky:=(r.kind,r.new)
def yX (r:Rn):Ky:=(r.kind,r.old)
theorem aKb:LCk yY:=by
 have h:=(LCk.int.of Rn.kind).lex ((LCk.str.of Rn.old).lex LCk.zero)
 exact h
theorem rV {a b:Rn}:yY a b=0↔yX a=yX b:=by
 unfold yY yX
 simp only [vL,aBd,iN,cF,Prod.mk.injEq]
 simp [orF]
theorem aHn (a:Rn):¬ yY a a < 0:=by rw [rV.2 rfl];omega
theorem aKa {a b d:Rn}(h1:yY a b < 0) (h2:yY b d < 0):yY a d < 0:=(aKb.t3 a b d).1 h1 h2
theorem LCk.ord {α:Type}{c:α->α->Int}(h:LCk c):OrdC c where
 asym:= λx y a=>by have:=h.anti x y;omega
 tr:= λx y z a b=>by
  have h1:=h.t3 x y z
  have r1:=h.rng x y
  have r2:=h.rng y z
  have a1:=h.anti x y
  have a2:=h.anti y z
  have a3:=h.anti x z
  unfold aAl at h1
  have:=h1.1
  have:=h1.2.1
  have:=h1.2.2
  omega
structure Good (l:List Rn):Prop where
 val: ∀r∈l,rnV r=true
 str:l.Pairwise λa b=>yY a b < 0
 nod:(l.map aOd).Nodup
theorem xG {α:Type}{R:α->α->Prop}(irr: ∀x,¬ R x x) (tr: ∀x y z,R x y->R y z->R x z): ∀{l m:List α},l.Pairwise R->m.Pairwise R->(∀x,x∈l↔x∈m)->l=m
 | [],[],_,_,_=>rfl
 | [],y::m,_,_,h=>absurd ((h y).2 (by simp)) (by simp)
 |x::l,[],_,_,h=>absurd ((h x).1 (by simp)) (by simp)
 |x::l,y::m,h1,h2,h=>by
  have a1:=List.pairwise_cons.1 h1
  have a2:=List.pairwise_cons.1 h2
  have hxy:x=y:=by
   rcases List.mem_cons.1 ((h x).1 (by simp))with e|hx
   ·exact e
   ·rcases List.mem_cons.1 ((h y).2 (by simp))with e|hy
    ·exact e.symm
    ·exact absurd (tr _ _ _ (a2.1 x hx) (a1.1 y hy)) (irr y)
  subst hxy
  have key: ∀z,z∈l↔z∈m:= λz=>by
   constructor
   ·intro hz
    rcases List.mem_cons.1 ((h z).1 (List.mem_cons_of_mem _ hz))with e|hz'
    ·exact absurd (a1.1 z hz) (e ▸ irr z)
    ·exact hz'
   ·intro hz
    rcases List.mem_cons.1 ((h z).2 (List.mem_cons_of_mem _ hz))with e|hz'
    ·exact absurd (a2.1 z hz) (e ▸ irr z)
    ·exact hz'
  rw [xG irr tr a1.2 a2.2 key]
theorem pJ {l m:List Rn}(h1:l.Pairwise λa b=>yY a b < 0) (h2:m.Pairwise λa b=>yY a b < 0) (h: ∀x,x∈l↔x∈m):l=m:=
 xG (R:= λa b=>yY a b < 0) (λa=>aHn a) (λa b d h1 h2=>aKa h1 h2) h1 h2 h
theorem aJ8 {l:List Rn}(h:l.Pairwise λa b=>yY a b < 0) {a b:Rn}(ha:a∈l) (hb:b∈l) (e:yX a=yX b):a=b:=by
 induction l with
 |nil=>simp at ha
 |cons x r ih=>
  have h1:=List.pairwise_cons.1 h
  rcases List.mem_cons.1 ha with e1|ha1<;>rcases List.mem_cons.1 hb with e2|hb1
  ·rw [e1,e2]
  ·have:=h1.1 b hb1;rw [<-e1,rV.2 e]at this;omega
  ·have:=h1.1 a ha1;rw [<-e2,rV.2 e.symm]at this;omega
  ·exact ih h1.2 ha1 hb1
def iC (l:List Rn) (k:Int) (s:List UInt8):List UInt8:=
 match l.find? (λr=>decide (r.kind=k) && decide (r.old=s))with
 |some r=>r.new
 |none=>s
theorem xM {l:List Rn}(h:l.Pairwise λa b=>yY a b < 0) {r:Rn}(hr:r∈l):iC l r.kind r.old=r.new:=by
 unfold iC
 split
 ·rename_i q hq
  have h1:=List.mem_of_find?_eq_some hq
  have h2:=List.find?_some hq
  simp only [Bool.and_eq_true,decide_eq_true_eq]at h2
  rw [aJ8 h h1 hr (by unfold yX;rw [h2.1,h2.2])]
 ·rename_i hq
  have:=List.find?_eq_none.1 hq r hr
  simp at this
theorem tY {l:List Rn}{k:Int}{s:List UInt8}(h: ∀r∈l,yX r≠(k,s)):iC l k s=s:=by
 unfold iC
 split
 ·rename_i q hq
  have h1:=List.mem_of_find?_eq_some hq
  have h2:=List.find?_some hq
  simp only [Bool.and_eq_true,decide_eq_true_eq]at h2
  exact absurd (by unfold yX;rw [h2.1,h2.2]) (h q h1)
 ·rfl
theorem pQ {l:List Rn}(h:l.Pairwise λa b=>yY a b < 0) (k:Int) (s:List UInt8):(∃r∈l,yX r=(k,s)/\iC l k s=r.new)\/((∀r∈l,yX r≠(k,s))/\iC l k s=s):=by
 by_cases he: ∃r∈l,yX r=(k,s)
 ·obtain⟨r,hr,e⟩:=he
  have:=xM h hr
  have e':r.kind=k/\r.old=s:=by simpa [yX]using e
  rw [e'.1,e'.2]at this
  exact .inl ⟨r,hr,e,this⟩
 ·have he: ∀r∈l,yX r≠(k,s):= λr hr e=>he ⟨r,hr,e⟩
  exact .inr ⟨he,tY he⟩
structure Comp (l m x:List Rn):Prop where
 str:x.Pairwise λa b=>yY a b < 0
 mem: ∀r,r∈x↔r.new=iC m r.kind (iC l r.kind r.old)/\r.new≠r.old
theorem Comp.uniq {l m x y:List Rn}(h1:Comp l m x) (h2:Comp l m y):x=y:=pJ h1.str h2.str λr=>by rw [h1.mem,h2.mem]
theorem Comp.name {l m x:List Rn}(h:Comp l m x) (k:Int) (s:List UInt8):iC x k s=iC m k (iC l k s):=by
 rcases pQ h.str k s with⟨r,hr,e,e2⟩|⟨hn,e2⟩
 ·have e':r.kind=k/\r.old=s:=by simpa [yX]using e
  have:=((h.mem r).1 hr).1
  rw [e2,this,e'.1,e'.2]
 ·rw [e2]
  by_cases hs:iC m k (iC l k s)=s
  ·exact hs.symm
  ·exact absurd rfl (hn ⟨k,s,iC m k (iC l k s)⟩ ((h.mem _).2 ⟨rfl,hs⟩))
def aLw (r:Rn):Rn:=⟨r.kind,r.new,r.old⟩
theorem aBh (r:Rn):aLw (aLw r)=r:=rfl
structure Inv (l x:List Rn):Prop where
 str:x.Pairwise λa b=>yY a b < 0
 mem: ∀r,r∈x↔aLw r∈l
theorem Inv.uniq {l x y:List Rn}(h1:Inv l x) (h2:Inv l y):x=y:=pJ h1.str h2.str λr=>by rw [h1.mem,h2.mem]
theorem Inv.back {l x y:List Rn}(hl:Good l) (h1:Inv l x) (h2:Inv x y):y=l:=pJ h2.str hl.str λr=>by rw [h2.mem,h1.mem,aBh]
theorem Inv.name {l x:List Rn}(hl:Good l) (h:Inv l x) {k:Int}{s:List UInt8}(hn:(∃r∈l,yX r=(k,s))\/ ∀r∈l,aOd r≠(k,s)):iC x k (iC l k s)=s:=by
 rcases pQ hl.str k s with⟨r,hr,e,e2⟩|⟨h1,e2⟩
 ·have e':r.kind=k/\r.old=s:=by simpa [yX]using e
  have:=xM h.str ((h.mem (aLw r)).2 (by rw [aBh];exact hr))
  rw [e2,<-e'.1,<-e'.2]
  exact this
 ·rw [e2]
  refine tY λr hr e=> ?_
  have hr':=(h.mem r).1 hr
  rcases hn with⟨q,hq,e3⟩|hn
  ·exact h1 q hq e3
  ·exact hn (aLw r) hr' e
end Go.Proofs.YtdjfkmkdkclahaaGreatDoor
namespace Go.Proofs.YtdjfkmkdkclahaaGreatDoor
open Go.Proofs
def bS (a b:At):Int:=orF [wE a.kind b.kind,eC a.name b.name,eC a.x b.x,eC a.y b.y,wE a.lo b.lo,wE a.hi b.hi]
theorem bH:LCk bS:=(LCk.int.of At.kind).lex ((LCk.str.of At.name).lex ((LCk.str.of At.x).lex ((LCk.str.of At.y).lex ((LCk.int.of At.lo).lex ((LCk.int.of At.hi).lex LCk.zero)))))
theorem fZ {a b:At}:bS a b=0↔a=b:=by
 unfold bS
 simp only [vL,aBd,iN,cF]
 cases a;cases b
 simp [orF]
section
variable {α:Type} {c:α->α->Int}
def bN (c:α->α->Int):List α->List α->Int
 | [],[]=>0
 | [],_::_=> -1
 |_::_,[]=>1
 |a::r,b::s=>if c a b≠0 then c a b else bN c r s
theorem yN (h:LCk c): ∀l m,bN c l m= -1\/bN c l m=0\/bN c l m=1
 | [],[]=>by simp [bN]
 | [],_::_=>by simp [bN]
 |_::_,[]=>by simp [bN]
 |a::r,b::s=>by
  rw [bN]
  split
  ·exact h.rng a b
  ·exact yN h r s
theorem jB (h:LCk c): ∀l m,bN c m l= - bN c l m
 | [],[]=>by simp [bN]
 | [],_::_=>by simp [bN]
 |_::_,[]=>by simp [bN]
 |a::r,b::s=>by
  have h1:=h.anti a b
  have h2:=jB h r s
  rw [bN,bN]
  split<;>split<;>omega
theorem aBv (h:LCk c): ∀l m k,aAl (bN c) l m k
 | [],[],[]=>by simp [aAl,bN]
 | [],[],_::_=>by simp [aAl,bN]
 | [],_::_,[]=>by simp [aAl,bN]
 | [],_::_,_::_=>by simp [aAl,bN]
 |_::_,[],[]=>by simp [aAl,bN]
 |_::_,[],_::_=>by simp [aAl,bN]
 |_::_,_::_,[]=>by simp [aAl,bN]
 |a::r,b::s,d::t=>by
  have ih:=aBv h r s t
  have a1:=h.t3 a b d
  have a2:=h.t3 b d a
  have a3:=h.t3 d a b
  have r1:=h.rng a b
  have r2:=h.rng b d
  have r3:=h.rng a d
  have n1:=h.anti a b
  have n2:=h.anti b d
  have n3:=h.anti a d
  unfold aAl at *
  simp only [bN]
  refine⟨?_, ?_, ?_⟩<;>(split<;>split<;>split<;>omega)
theorem eO (h:LCk c):LCk (bN c):=⟨yN h,jB h,aBv h⟩
theorem uF (h: ∀a b,c a b=0↔a=b): ∀l m,bN c l m=0↔l=m
 | [],[]=>by simp [bN]
 | [],_::_=>by simp [bN]
 |_::_,[]=>by simp [bN]
 |a::r,b::s=>by
  have h1:=h a b
  have h2:=uF h r s
  rw [bN,List.cons.injEq]
  split
  ·rename_i h3
   exact⟨λe=>absurd e h3,λe=>absurd (h1.2 e.1) h3⟩
  ·rename_i h3
   rw [h2]
   have h3:c a b=0:=by simpa using h3
   exact⟨λe=>⟨h1.1 h3,e⟩,λe=>e.2⟩
theorem LCk.le_tr (h:LCk c) {x y z:α}(h1:c x y<=0) (h2:c y z<=0):c x z<=0:=by
 have a:=h.t3 x y z
 have r1:=h.rng x y
 have r2:=h.rng y z
 have r3:=h.rng x z
 unfold aAl at a
 obtain⟨a1,a2,a3⟩:=a
 omega
theorem LCk.refl (h:LCk c) (x:α):c x x=0:=by
 have:=h.anti x x
 omega
def aCu (c:α->α->Int) (a:α):List α->List α
 | []=>[a]
 |b::r=>if c a b<=0 then a::b::r else b::aCu c a r
def wZ (c:α->α->Int):List α->List α
 | []=>[]
 |a::r=>aCu c a (wZ c r)
theorem rE (a:α): ∀l,(aCu c a l).Perm (a::l)
 | []=> .refl _
 |b::r=>by
  rw [aCu]
  split
  ·exact .refl _
  ·exact((rE a r).cons b).trans (List.Perm.swap ..)
theorem iV: ∀l,(wZ c l).Perm l
 | []=> .refl _
 |a::r=>(rE a _).trans ((iV r).cons a)
def Sle (c:α->α->Int) (l:List α):Prop:=l.Pairwise λa b=>c a b<=0
theorem rD (h:LCk c) (a:α): ∀{l:List α},Sle c l->Sle c (aCu c a l)
 | [],_=>by simp [aCu,Sle]
 |b::r,hs=>by
  obtain⟨h1,h2⟩:=List.pairwise_cons.1 hs
  rw [aCu]
  split
  ·rename_i hab
   refine List.pairwise_cons.2 ⟨λx hx=> ?_,hs⟩
   rcases List.mem_cons.1 hx with rfl|hx
   ·exact hab
   ·exact h.le_tr hab (h1 x hx)
  ·rename_i hab
   refine List.pairwise_cons.2 ⟨λx hx=> ?_,rD h a h2⟩
   rcases List.mem_cons.1 ((rE a r).mem_iff.1 hx)with rfl|hx
   ·have:=h.anti b x
    omega
   ·exact h1 x hx
theorem dV (h:LCk c): ∀l,Sle c (wZ c l)
 | []=> .nil
 |a::r=>rD h a (dV h r)
theorem uY (h:LCk c) (hz: ∀a b,c a b=0->a=b): ∀{l m:List α},l.Perm m->Sle c l->Sle c m->l=m
 | [],m,hp,_,_=>hp.nil_eq
 |a::r,[],hp,_,_=>absurd hp.length_eq (by simp)
 |a::r,b::s,hp,hl,hm=>by
  obtain⟨l1,l2⟩:=List.pairwise_cons.1 hl
  obtain⟨m1,m2⟩:=List.pairwise_cons.1 hm
  have hab:a=b:=by
   have ha:a∈b::s:=hp.mem_iff.1 List.mem_cons_self
   have hb:b∈a::r:=hp.mem_iff.2 List.mem_cons_self
   rcases List.mem_cons.1 ha with e|ha
   ·exact e
   ·rcases List.mem_cons.1 hb with e|hb
    ·exact e.symm
    ·have h1:=l1 b hb
     have h2:=m1 a ha
     have h3:=h.anti a b
     exact hz a b (by omega)
  subst hab
  rw [uY h hz (List.perm_cons a |>.1 hp) l2 m2]
inductive Ptw (c:α->α->Int):List α->List α->Prop
 |nil:Ptw c [] []
 |cons {a b:α} {l m:List α} (h:c a b<=0) (t:Ptw c l m):Ptw c (a::l) (b::m)
theorem xU (h:LCk c) {a:α}{l:List α}(hs:Sle c (a::l)):aCu c a l=a::l:=by
 cases l with
 |nil=>rfl
 |cons b r=>rw [aCu,if_pos ((List.pairwise_cons.1 hs).1 b List.mem_cons_self)]
theorem oU (h:LCk c): ∀{l m:List α},Ptw c l m->Sle c l->Sle c m-> ∀{a b:α},c a b<=0->Ptw c (aCu c a l) (aCu c b m)
 |_,_, .nil,_,_,a,b,hab=> .cons hab .nil
 |_,_, .cons (a:=s) (b:=t) (l:=S) (m:=T) hst ht,hl,hm,a,b,hab=>by
  obtain⟨_,l2⟩:=List.pairwise_cons.1 hl
  obtain⟨_,m2⟩:=List.pairwise_cons.1 hm
  rw [aCu,aCu]
  split
  ·rename_i h1
   split
   ·exact .cons hab (.cons hst ht)
   ·rename_i h2
    refine .cons (h.le_tr h1 hst) ?_
    rw [<-xU h hl]
    refine oU h ht l2 m2 ?_
    have:=h.anti b t
    exact h.le_tr hst (by omega)
  ·rename_i h1
   split
   ·rename_i h2
    have:=h.anti a s
    refine .cons (h.le_tr (by omega:c s a<=0) hab) ?_
    rw [<-xU h hm]
    exact oU h ht l2 m2 (h.le_tr hab h2)
   ·exact .cons hst (oU h ht l2 m2 hab)
theorem wX (h:LCk c): ∀{l m:List α},Ptw c l m->Ptw c (wZ c l) (wZ c m)
 |_,_, .nil=> .nil
 |_,_, .cons h1 ht=>oU h (wX h ht) (dV h _) (dV h _) h1
theorem aI8 (h:LCk c): ∀{l m:List α},Ptw c l m->bN c l m<=0
 |_,_, .nil=>by simp [bN]
 |_,_, .cons (a:=a) (b:=b) h1 ht=>by
  have ih:=aI8 h ht
  rw [bN]
  split<;>omega
theorem zX {β:Type}{f g:β->α}: ∀(l:List β),(∀x∈l,c (f x) (g x)<=0)->Ptw c (l.map f) (l.map g)
 | [],_=> .nil
 |a::r,h=> .cons (h a List.mem_cons_self) (zX r λx hx=>h x (List.mem_cons_of_mem _ hx))
end
end Go.Proofs.YtdjfkmkdkclahaaGreatDoor
namespace Go.Proofs.YtdjfkmkdkclahaaGreatDoor
open Go.Proofs
abbrev bL:=List UInt8
def nmV (k:Nat):bL:=[63,118,UInt8.ofNat (48+k)]
theorem aIb: ∀j k:Nat,j<=k->k<=9->eC (nmV j) (nmV k)<=0:=by
 have h: ∀j:Fin 10,∀k:Fin 10,j.1<=k.1->eC (nmV j.1) (nmV k.1)<=0:=by decide+kernel
 exact λj k h1 h2=>h ⟨j,by omega⟩ ⟨k,by omega⟩ h1
theorem aJt: ∀j k:Nat,j<=9->k<=9->nmV j=nmV k->j=k:=by
 have h: ∀j:Fin 10,∀k:Fin 10,nmV j.1=nmV k.1->j.1=k.1:=by decide+kernel
 exact λj k h1 h2=>h ⟨j,by omega⟩ ⟨k,by omega⟩
def gV:List bL->List bL->bL->bL
 |v::H,t::T,s=>if s=v then t else gV H T s
 |_,_,s=>s
def rpA (g:bL->bL) (a:At):At:=⟨a.kind,a.name,g a.x,g a.y,a.lo,a.hi⟩
theorem aNo {T T':List bL}(h:Ptw eC T T'): ∀(H:List bL) (s:bL),eC (gV H T s) (gV H T' s)<=0:=by
 induction h with
 |nil=>
  intro H s
  cases H<;>exact Int.le_of_eq ((cF s s).2 rfl)
 |cons h1 ht ih=>
  intro H s
  cases H with
  |nil=>exact Int.le_of_eq ((cF s s).2 rfl)
  |cons v H=>
   rw [gV,gV]
   split
   ·exact h1
   ·exact ih H s
theorem aL9 {g g':bL->bL}(h: ∀s,eC (g s) (g' s)<=0) (a:At):bS (rpA g a) (rpA g' a)<=0:=by
 have h1:=h a.x
 have h2:=h a.y
 unfold bS rpA
 simp only [vL]
 rw [iN.2 rfl,iN.2 rfl,iN.2 rfl,(cF a.name a.name).2 rfl]
 unfold lex
 simp only [ne_eq,not_true_eq_false,if_false]
 split
 ·exact h1
 ·split
  ·exact h2
  ·simp [orF]
abbrev Asg:=List (Option Nat)
def eT (a:Asg) (n:Nat):List bL:=a.map λo=>nmV (o.getD (n+1))
def yOf (P:List At) (H:List bL) (a:Asg) (n:Nat):List At:=wZ bS (P.map (rpA (gV H (eT a n))))
theorem aOj {P:List At}{H:List bL}{a a':Asg}{n n':Nat}(h:Ptw eC (eT a n) (eT a' n')):bN bS (yOf P H a n) (yOf P H a' n')<=0:=
 aI8 bH (wX bH (zX P λx _=>aL9 (aNo h H) x))
theorem wO {n:Nat}(hn:n+2<=9): ∀(a:Asg) (i:Nat),a[i]? =some none->Ptw eC (eT a n) (eT (a.set i (some (n+1))) (n+1))
 | [],i,h=>by simp at h
 |o::r,i,h=>by
  have rest: ∀r:Asg,Ptw eC (eT r n) (eT r (n+1)):= λr=>zX r λo _=>by
   cases o with
   |none=>exact aIb _ _ (by simp) (by simpa using hn)
   |some k=>exact Int.le_of_eq ((cF _ _).2 rfl)
  cases i with
  |zero=>
   have h:o=none:=by simpa using h
   subst h
   exact .cons (Int.le_of_eq ((cF _ _).2 rfl)) (rest r)
  |succ i=>
   refine .cons ?_ (wO hn r i (by simpa using h))
   cases o with
   |none=>exact aIb _ _ (by simp) (by simpa using hn)
   |some k=>exact Int.le_of_eq ((cF _ _).2 rfl)
inductive Compl (N:Nat):Nat->Asg->Asg->Prop
 |done (a:Asg):Compl N N a a
 |step {n:Nat} {a a':Asg} (i:Nat) (hn:n < N) (hi:a[i]? =some none) (h:Compl N (n+1) (a.set i (some (n+1))) a'):Compl N n a a'
theorem aHm {N n:Nat}{a a':Asg}{P:List At}{H:List bL}(hN:N<=8) (h:Compl N n a a'):bN bS (yOf P H a n) (yOf P H a' N)<=0:=by
 induction h with
 |done a=>exact Int.le_of_eq ((eO bH).refl _)
 |step i hn hi h ih=>exact(eO bH).le_tr (aOj (wO (by omega) _ i hi)) ih
section
variable (P:List At) (H:List bL)
def aK8 (y:List At):Option (List At)->Bool
 |some b=>decide (0<=bN bS y b)
 |none=>false
def dfs:Nat->Nat->Asg->Option (List At)->Option (List At)
 | 0,n,a,best=>if aK8 (yOf P H a n) best=true then best else some (yOf P H a n)
 |f+1,n,a,best=>if aK8 (yOf P H a n) best=true then best else (List.range a.length).foldl (λbest i=>if a[i]? =some none then dfs f (n+1) (a.set i (some (n+1))) best else best) best
structure Fnd (L:List At->Prop) (best r:Option (List At)):Prop where
 or:r=best\/ ∃y,L y/\r=some y
 le: ∀y,L y-> ∃b,r=some b/\bN bS b y<=0
 keep: ∀b,best=some b-> ∃b',r=some b'/\bN bS b' b<=0
theorem Fnd.none {L:List At->Prop}{best:Option (List At)}(h: ∀y,¬ L y):Fnd L best best:=⟨.inl rfl,λy hy=>absurd hy (h y),λb hb=>⟨b,hb,Int.le_of_eq ((eO bH).refl _)⟩⟩
theorem Fnd.seq {L L':List At->Prop}{b r r':Option (List At)}(h:Fnd L b r) (h':Fnd L' r r'):Fnd (λy=>L y\/L' y) b r':=by
 refine⟨?_,λy hy=> ?_,λx hx=> ?_⟩
 ·rcases h'.or with e|⟨y,hy,e⟩
  ·rcases h.or with e2|⟨y,hy,e2⟩
   ·exact .inl (e.trans e2)
   ·exact .inr ⟨y, .inl hy,e.trans e2⟩
  ·exact .inr ⟨y, .inr hy,e⟩
 ·rcases hy with hy|hy
  ·obtain⟨b1,e1,l1⟩:=h.le y hy
   obtain⟨b2,e2,l2⟩:=h'.keep b1 e1
   exact⟨b2,e2,(eO bH).le_tr l2 l1⟩
  ·exact h'.le y hy
 ·obtain⟨b1,e1,l1⟩:=h.keep x hx
  obtain⟨b2,e2,l2⟩:=h'.keep b1 e1
  exact⟨b2,e2,(eO bH).le_tr l2 l1⟩
theorem Fnd.iff {L L':List At->Prop}{b r:Option (List At)}(h:Fnd L b r) (e: ∀y,L y↔L' y):Fnd L' b r:=
 ⟨h.or.imp id λ⟨y,hy,e'⟩=>⟨y,(e y).1 hy,e'⟩,λy hy=>h.le y ((e y).2 hy),h.keep⟩
theorem Fnd.cut {L:List At->Prop}{best:Option (List At)}{y:List At}(hc:aK8 y best=true) (hl: ∀z,L z->bN bS y z<=0):Fnd L best best:=by
 cases best with
 |none=>cases hc
 |some b=>
  have hb:0<=bN bS y b:=of_decide_eq_true hc
  have ha:=jB bH y b
  exact⟨.inl rfl,λz hz=>⟨b,rfl,(eO bH).le_tr (by omega) (hl z hz)⟩,λx hx=>⟨x,hx,Int.le_of_eq ((eO bH).refl _)⟩⟩
def xP (N n:Nat) (a:Asg) (y:List At):Prop:= ∃a',Compl N n a a'/\y=yOf P H a' N
theorem aBl {N n:Nat}{a:Asg}{g:Nat->Option (List At)->Option (List At)}(hg: ∀i,a[i]? =some none-> ∀best,Fnd (xP P H N (n+1) (a.set i (some (n+1)))) best (g i best)):
  ∀(l:List Nat) (best:Option (List At)),Fnd (λy=> ∃i∈l,a[i]? =some none/\xP P H N (n+1) (a.set i (some (n+1))) y) best (l.foldl (λbest i=>if a[i]? =some none then g i best else best) best)
 | [],best=> .none λy ⟨i,hi,_⟩=>by cases hi
 |i::r,best=>by
  have ih:= λb=>aBl hg r b
  rw [List.foldl_cons]
  by_cases h:a[i]? =some none
  ·rw [if_pos h]
   refine(Fnd.seq (hg i h best) (ih _)).iff λy=> ?_
   constructor
   ·rintro(h1|⟨j,hj,h1⟩)
    ·exact⟨i,List.mem_cons_self,h,h1⟩
    ·exact⟨j,List.mem_cons_of_mem _ hj,h1⟩
   ·rintro⟨j,hj,h1,h2⟩
    rcases List.mem_cons.1 hj with rfl|hj
    ·exact .inl h2
    ·exact .inr ⟨j,hj,h1,h2⟩
  ·rw [if_neg h]
   refine(ih best).iff λy=> ?_
   constructor
   ·rintro⟨j,hj,h1⟩
    exact⟨j,List.mem_cons_of_mem _ hj,h1⟩
   ·rintro⟨j,hj,h1,h2⟩
    rcases List.mem_cons.1 hj with rfl|hj
    ·exact absurd h1 h
    ·exact⟨j,hj,h1,h2⟩
theorem aF2 {N:Nat}(hN:N<=8): ∀(f n:Nat) (a:Asg) (best:Option (List At)),f+n=N->Fnd (xP P H N n a) best (dfs P H f n a best)
 | 0,n,a,best,hf=>by
  obtain rfl:n=N:=by omega
  have hl: ∀z,xP P H n n a z↔z=yOf P H a n:=by
   intro z
   constructor
   ·rintro⟨a',h,rfl⟩
    cases h with
    |done=>rfl
    |step i hn _ _=>omega
   ·rintro rfl
    exact⟨a, .done a,rfl⟩
  rw [dfs]
  split
  ·rename_i hc
   exact Fnd.cut hc λz hz=>by
    rw [(hl z).1 hz];exact Int.le_of_eq ((eO bH).refl _)
  ·rename_i hc
   refine⟨.inr ⟨_,(hl _).2 rfl,rfl⟩,λz hz=>⟨_,rfl, ?_⟩,λb hb=>⟨_,rfl, ?_⟩⟩
   ·rw [(hl z).1 hz];exact Int.le_of_eq ((eO bH).refl _)
   ·subst hb
    have:¬ 0<=bN bS (yOf P H a n) b:= λh=>hc (decide_eq_true h)
    omega
 |f+1,n,a,best,hf=>by
  rw [dfs]
  split
  ·rename_i hc
   exact Fnd.cut hc λz ⟨a',h,e⟩=>by rw [e];exact aHm hN h
  ·refine(aBl P H (N:=N) (n:=n) (a:=a) (g:= λi b=>dfs P H f (n+1) (a.set i (some (n+1))) b) (λi hi b=>aF2 hN f (n+1) _ b (by omega)) (List.range a.length) best).iff λy=> ?_
   constructor
   ·rintro⟨i,_,hi,a',h,e⟩
    exact⟨a', .step i (by omega) hi h,e⟩
   ·rintro⟨a',h,e⟩
    cases h with
    |done=>omega
    |step i hn hi h=>
     exact⟨i,List.mem_range.2 (List.getElem?_eq_some_iff.1 hi).1,hi,a',h,e⟩
end
end Go.Proofs.YtdjfkmkdkclahaaGreatDoor
