/-
  Terms: the order of concepts is total; sorted sets of concepts. Merging in place, plainly: what a symmetric merge does to a list, and when its two halves may be merged alone. Rename: renamings, plainly: what is valid, what a name becomes, what two renamings are together, what undoes one. The order of atoms and of lists of them; sorting grows with what is sorted; plain. The canonical names of a part: a search that cuts branches finds the least one; plain.
  Conditions: none.
-/
import Derived.Test.YtdjfkmkdkclahaaGreatDoorWOb
import Derived.WalkKit
import Derived.Test.YtdjfkmkdkclahaaGreatDoorWTcy
set_option linter.unnecessarySimpa false
set_option linter.unusedSectionVars false
set_option linter.unusedSimpArgs false
set_option linter.unusedVariables false
namespace Go.Proofs.YtdjfkmkdkclahaaGreatDoor
section
open Go.Proofs
def aAx {α:Type}(c:α->α->Int) (a b d:α):Prop:=
 (c a b < 0->c b d < 0->c a d < 0)/\(c a b=0->c a d=c b d)/\(c b d=0->c a b=c a d)
structure LCk {α:Type} (c:α->α->Int):Prop where
 rng: ∀a b,c a b= -1\/c a b=0\/c a b=1
 anti: ∀a b,c b a= - c a b
 t3: ∀a b d,aAx c a b d
def lex (x y:Int):Int:=if x≠0 then x else y
theorem LCk.lex {α:Type}{c1 c2:α->α->Int}(h1:LCk c1) (h2:LCk c2):LCk (λa b=>lex (c1 a b) (c2 a b)):=by
 refine⟨λa b=> ?_,λa b=> ?_,λa b d=> ?_⟩
 ·have:=h1.rng a b
  have:=h2.rng a b
  unfold Proofs.YtdjfkmkdkclahaaGreatDoor.lex
  split<;>omega
 ·have:=h1.anti a b
  have:=h2.anti a b
  unfold Proofs.YtdjfkmkdkclahaaGreatDoor.lex
  split<;>split<;>omega
 ·have a1:=h1.t3 a b d
  have a2:=h1.t3 b d a
  have a3:=h1.t3 d a b
  have b1:=h2.t3 a b d
  have r1:=h1.rng a b
  have r2:=h1.rng b d
  have r3:=h1.rng a d
  have n1:=h1.anti a b
  have n2:=h1.anti b d
  have n3:=h1.anti a d
  unfold aAx at *
  unfold Proofs.YtdjfkmkdkclahaaGreatDoor.lex
  dsimp only
  refine⟨?_, ?_, ?_⟩<;>(split<;>split<;>split<;>omega)
theorem LCk.of {α β:Type}{c:β->β->Int}(h:LCk c) (k:α->β):LCk (λa b=>c (k a) (k b)):=
 ⟨λa b=>h.rng _ _,λa b=>h.anti _ _,λa b d=>h.t3 _ _ _⟩
theorem LCk.int:LCk rY:=by
 refine⟨λa b=> ?_,λa b=> ?_,λa b d=> ?_⟩
 ·unfold rY;split<;>(try split)<;>simp
 ·unfold rY;split<;>split<;>(try split)<;>omega
 ·unfold aAx rY
  refine⟨?_, ?_, ?_⟩<;>(split<;>(try split)<;>split<;>(try split)<;>(try split)<;>(try split)<;>omega)
theorem fU {a b:Int}:rY a b=0↔a=b:=by
 unfold rY;split<;>(try split)<;>omega
theorem LCk.str:LCk dX:=by
 refine⟨jR,zD,λa b d=>⟨uG a b d,λh=> ?_,λh=> ?_⟩⟩
 ·rw [(cA a b).1 h]
 ·rw [(cA b d).1 h]
theorem vM (x:Int) (l:List Int):orF (x::l)=lex x (orF l):=rfl
theorem LCk.zero {α:Type}:LCk (λ_ _:α=>(0:Int)):=⟨λ_ _=>by simp,λ_ _=>by simp,λ_ _ _=>by simp [aAx]⟩
theorem aBt {x y:Int}:lex x y=0↔x=0/\y=0:=by unfold lex;split<;>omega
def sX {α:Type}(eq:α->α->Bool):α->List α->List α
 |_,[]=>[]
 |p,b::r=>if eq b p then sX eq b r else b::sX eq b r
def kC {α:Type}(eq:α->α->Bool):List α->List α
 | []=>[]
 |a::r=>a::sX eq a r
end
section
section
variable {α:Type}
structure OrdC (cf:α->α->Int):Prop where
 asym: ∀x y,cf x y < 0->¬ cf y x < 0
 tr: ∀x y z,¬ cf y x < 0->¬ cf z y < 0->¬ cf z x < 0
def Srt (cf:α->α->Int) (l:List α):Prop:=l.Pairwise λx y=>¬ cf y x < 0
theorem OrdC.refl {cf:α->α->Int}(h:OrdC cf) (x:α):¬ cf x x < 0:= λq=>h.asym x x q q
def Blk (cf:α->α->Int) (bs:Nat) (l:List α):Prop:= ∀k,Srt cf ((l.drop (k * bs)).take bs)
theorem Blk.first {cf:α->α->Int}{bs:Nat}{l:List α}(h:Blk cf bs l):Srt cf (l.take bs):=by
 have:=h 0
 rwa [Nat.zero_mul,List.drop_zero]at this
theorem Blk.rest {cf:α->α->Int}{bs:Nat}{l:List α}(h:Blk cf bs l):Blk cf bs (l.drop bs):=by
 intro k
 have:=h (k+1)
 rw [Nat.add_mul,Nat.one_mul,Nat.add_comm]at this
 rwa [List.drop_drop]
theorem Blk.nil {cf:α->α->Int}{bs:Nat}:Blk cf bs []:= λk=>by
 simp [Srt]
theorem Blk.all {cf:α->α->Int}{bs:Nat}{l:List α}(h:Blk cf bs l) (hl:l.length<=bs):Srt cf l:=by
 have:=h.first
 rwa [List.take_of_length_le hl]at this
end
end
section
open Go.Proofs
structure Rn where
 kind:Int
 old:List UInt8
 new:List UInt8
theorem Rn.ext' {a b:Rn}(h1:a.kind=b.kind) (h2:a.old=b.old) (h3:a.new=b.new):a=b:=by
 cases a;cases b;simp_all
def rnN (s:List UInt8):Bool:=cQ s && !decide (s.head?=some 95)
def rnV (r:Rn):Bool:=decide (1<=r.kind) && (decide (r.kind<=4) && (rnN r.old && (rnN r.new && !decide (r.old=r.new))))
def zM (a b:Rn):Int:=orF [rY a.kind b.kind,dX a.old b.old]
abbrev Ky:=Int×List UInt8
def aPr (r:Rn):Ky:=(r.kind,r.new)
def zK (r:Rn):Ky:=(r.kind,r.old)
theorem aM5:LCk zM:=by
 have h:=(LCk.int.of Rn.kind).lex ((LCk.str.of Rn.old).lex LCk.zero)
 exact h
theorem rS {a b:Rn}:zM a b=0↔zK a=zK b:=by
 unfold zM zK
 simp only [vM,aBt,fU,cA,Prod.mk.injEq]
 simp [orF]
theorem aJ7 (a:Rn):¬ zM a a < 0:=by rw [rS.2 rfl];omega
theorem aM4 {a b d:Rn}(h1:zM a b < 0) (h2:zM b d < 0):zM a d < 0:=(aM5.t3 a b d).1 h1 h2
theorem LCk.ord {α:Type}{c:α->α->Int}(h:LCk c):OrdC c where
 asym:= λx y a=>by have:=h.anti x y;omega
 tr:= λx y z a b=>by
  have h1:=h.t3 x y z
  have r1:=h.rng x y
  have r2:=h.rng y z
  have a1:=h.anti x y
  have a2:=h.anti y z
  have a3:=h.anti x z
  unfold aAx at h1
  have:=h1.1
  have:=h1.2.1
  have:=h1.2.2
  omega
structure Good (l:List Rn):Prop where
 val: ∀r∈l,rnV r=true
 str:l.Pairwise λa b=>zM a b < 0
 nod:(l.map aPr).Nodup
theorem xQ {α:Type}{R:α->α->Prop}(irr: ∀x,¬ R x x) (tr: ∀x y z,R x y->R y z->R x z): ∀{l m:List α},l.Pairwise R->m.Pairwise R->(∀x,x∈l↔x∈m)->l=m
 | [],[],_,_,_=>rfl
 | [],y::m,_,_,h=>absurd ((h y).2 (by simp)) (by simp)
 |x::l,[],_,_,h=>absurd ((h x).1 (by simp)) (by simp)
 |x::l,y::m,h1,h2,h=>by
  have a1:=List.pairwise_cons.1 h1
  have a2:=List.pairwise_cons.1 h2
  have hxy:x=y:=by
   rcases List.mem_cons.1 ((h x).1 (by simp))with e|hx
   ·exact e
   ·rcases List.mem_cons.1 ((h y).2 (by simp))with e|hy
    ·exact e.symm
    ·exact absurd (tr _ _ _ (a2.1 x hx) (a1.1 y hy)) (irr y)
  subst hxy
  have key: ∀z,z∈l↔z∈m:= λz=>by
   constructor
   ·intro hz
    rcases List.mem_cons.1 ((h z).1 (List.mem_cons_of_mem _ hz))with e|hz'
    ·exact absurd (a1.1 z hz) (e ▸ irr z)
    ·exact hz'
   ·intro hz
    rcases List.mem_cons.1 ((h z).2 (List.mem_cons_of_mem _ hz))with e|hz'
    ·exact absurd (a2.1 z hz) (e ▸ irr z)
    ·exact hz'
  rw [xQ irr tr a1.2 a2.2 key]
theorem oV {l m:List Rn}(h1:l.Pairwise λa b=>zM a b < 0) (h2:m.Pairwise λa b=>zM a b < 0) (h: ∀x,x∈l↔x∈m):l=m:=
 xQ (R:= λa b=>zM a b < 0) (λa=>aJ7 a) (λa b d h1 h2=>aM4 h1 h2) h1 h2 h
theorem aKx {l:List Rn}(h:l.Pairwise λa b=>zM a b < 0) {a b:Rn}(ha:a∈l) (hb:b∈l) (e:zK a=zK b):a=b:=by
 induction l with
 |nil=>simp at ha
 |cons x r ih=>
  have h1:=List.pairwise_cons.1 h
  rcases List.mem_cons.1 ha with e1|ha1<;>rcases List.mem_cons.1 hb with e2|hb1
  ·rw [e1,e2]
  ·have:=h1.1 b hb1;rw [<-e1,rS.2 e]at this;omega
  ·have:=h1.1 a ha1;rw [<-e2,rS.2 e.symm]at this;omega
  ·exact ih h1.2 ha1 hb1
def iY (l:List Rn) (k:Int) (s:List UInt8):List UInt8:=
 match l.find? (λr=>decide (r.kind=k) && decide (r.old=s))with
 |some r=>r.new
 |none=>s
theorem xY {l:List Rn}(h:l.Pairwise λa b=>zM a b < 0) {r:Rn}(hr:r∈l):iY l r.kind r.old=r.new:=by
 unfold iY
 split
 ·rename_i q hq
  have h1:=List.mem_of_find?_eq_some hq
  have h2:=List.find?_some hq
  simp only [Bool.and_eq_true,decide_eq_true_eq]at h2
  rw [aKx h h1 hr (by unfold zK;rw [h2.1,h2.2])]
 ·rename_i hq
  have:=List.find?_eq_none.1 hq r hr
  simp at this
theorem tY {l:List Rn}{k:Int}{s:List UInt8}(h: ∀r∈l,zK r≠(k,s)):iY l k s=s:=by
 unfold iY
 split
 ·rename_i q hq
  have h1:=List.mem_of_find?_eq_some hq
  have h2:=List.find?_some hq
  simp only [Bool.and_eq_true,decide_eq_true_eq]at h2
  exact absurd (by unfold zK;rw [h2.1,h2.2]) (h q h1)
 ·rfl
theorem pK {l:List Rn}(h:l.Pairwise λa b=>zM a b < 0) (k:Int) (s:List UInt8):(∃r∈l,zK r=(k,s)/\iY l k s=r.new)\/((∀r∈l,zK r≠(k,s))/\iY l k s=s):=by
 by_cases he: ∃r∈l,zK r=(k,s)
 ·obtain⟨r,hr,e⟩:=he
  have:=xY h hr
  have e':r.kind=k/\r.old=s:=by simpa [zK]using e
  rw [e'.1,e'.2]at this
  exact .inl ⟨r,hr,e,this⟩
 ·have he: ∀r∈l,zK r≠(k,s):= λr hr e=>he ⟨r,hr,e⟩
  exact .inr ⟨he,tY he⟩
structure Comp (l m x:List Rn):Prop where
 str:x.Pairwise λa b=>zM a b < 0
 mem: ∀r,r∈x↔r.new=iY m r.kind (iY l r.kind r.old)/\r.new≠r.old
theorem Comp.uniq {l m x y:List Rn}(h1:Comp l m x) (h2:Comp l m y):x=y:=oV h1.str h2.str λr=>by rw [h1.mem,h2.mem]
theorem Comp.name {l m x:List Rn}(h:Comp l m x) (k:Int) (s:List UInt8):iY x k s=iY m k (iY l k s):=by
 rcases pK h.str k s with⟨r,hr,e,e2⟩|⟨hn,e2⟩
 ·have e':r.kind=k/\r.old=s:=by simpa [zK]using e
  have:=((h.mem r).1 hr).1
  rw [e2,this,e'.1,e'.2]
 ·rw [e2]
  by_cases hs:iY m k (iY l k s)=s
  ·exact hs.symm
  ·exact absurd rfl (hn ⟨k,s,iY m k (iY l k s)⟩ ((h.mem _).2 ⟨rfl,hs⟩))
def aNk (r:Rn):Rn:=⟨r.kind,r.new,r.old⟩
theorem aBw (r:Rn):aNk (aNk r)=r:=rfl
structure Inv (l x:List Rn):Prop where
 str:x.Pairwise λa b=>zM a b < 0
 mem: ∀r,r∈x↔aNk r∈l
theorem Inv.uniq {l x y:List Rn}(h1:Inv l x) (h2:Inv l y):x=y:=oV h1.str h2.str λr=>by rw [h1.mem,h2.mem]
theorem Inv.back {l x y:List Rn}(hl:Good l) (h1:Inv l x) (h2:Inv x y):y=l:=oV h2.str hl.str λr=>by rw [h2.mem,h1.mem,aBw]
theorem Inv.name {l x:List Rn}(hl:Good l) (h:Inv l x) {k:Int}{s:List UInt8}(hn:(∃r∈l,zK r=(k,s))\/ ∀r∈l,aPr r≠(k,s)):iY x k (iY l k s)=s:=by
 rcases pK hl.str k s with⟨r,hr,e,e2⟩|⟨h1,e2⟩
 ·have e':r.kind=k/\r.old=s:=by simpa [zK]using e
  have:=xY h.str ((h.mem (aNk r)).2 (by rw [aBw];exact hr))
  rw [e2,<-e'.1,<-e'.2]
  exact this
 ·rw [e2]
  refine tY λr hr e=> ?_
  have hr':=(h.mem r).1 hr
  rcases hn with⟨q,hq,e3⟩|hn
  ·exact h1 q hq e3
  ·exact hn (aNk r) hr' e
end
section
open Go.Proofs
def bE (a b:At):Int:=orF [rY a.kind b.kind,dX a.name b.name,dX a.x b.x,dX a.y b.y,rY a.lo b.lo,rY a.hi b.hi]
theorem bC:LCk bE:=(LCk.int.of At.kind).lex ((LCk.str.of At.name).lex ((LCk.str.of At.x).lex ((LCk.str.of At.y).lex ((LCk.int.of At.lo).lex ((LCk.int.of At.hi).lex LCk.zero)))))
theorem dG {a b:At}:bE a b=0↔a=b:=by
 unfold bE
 simp only [vM,aBt,fU,cA]
 cases a;cases b
 simp [orF]
section
variable {α:Type} {c:α->α->Int}
def bH (c:α->α->Int):List α->List α->Int
 | [],[]=>0
 | [],_::_=> -1
 |_::_,[]=>1
 |a::r,b::s=>if c a b≠0 then c a b else bH c r s
theorem zC (h:LCk c): ∀l m,bH c l m= -1\/bH c l m=0\/bH c l m=1
 | [],[]=>by simp [bH]
 | [],_::_=>by simp [bH]
 |_::_,[]=>by simp [bH]
 |a::r,b::s=>by
  rw [bH]
  split
  ·exact h.rng a b
  ·exact zC h r s
theorem gR (h:LCk c): ∀l m,bH c m l= - bH c l m
 | [],[]=>by simp [bH]
 | [],_::_=>by simp [bH]
 |_::_,[]=>by simp [bH]
 |a::r,b::s=>by
  have h1:=h.anti a b
  have h2:=gR h r s
  rw [bH,bH]
  split<;>split<;>omega
theorem aCa (h:LCk c): ∀l m k,aAx (bH c) l m k
 | [],[],[]=>by simp [aAx,bH]
 | [],[],_::_=>by simp [aAx,bH]
 | [],_::_,[]=>by simp [aAx,bH]
 | [],_::_,_::_=>by simp [aAx,bH]
 |_::_,[],[]=>by simp [aAx,bH]
 |_::_,[],_::_=>by simp [aAx,bH]
 |_::_,_::_,[]=>by simp [aAx,bH]
 |a::r,b::s,d::t=>by
  have ih:=aCa h r s t
  have a1:=h.t3 a b d
  have a2:=h.t3 b d a
  have a3:=h.t3 d a b
  have r1:=h.rng a b
  have r2:=h.rng b d
  have r3:=h.rng a d
  have n1:=h.anti a b
  have n2:=h.anti b d
  have n3:=h.anti a d
  unfold aAx at *
  simp only [bH]
  refine⟨?_, ?_, ?_⟩<;>(split<;>split<;>split<;>omega)
theorem eO (h:LCk c):LCk (bH c):=⟨zC h,gR h,aCa h⟩
theorem uF (h: ∀a b,c a b=0↔a=b): ∀l m,bH c l m=0↔l=m
 | [],[]=>by simp [bH]
 | [],_::_=>by simp [bH]
 |_::_,[]=>by simp [bH]
 |a::r,b::s=>by
  have h1:=h a b
  have h2:=uF h r s
  rw [bH,List.cons.injEq]
  split
  ·rename_i h3
   exact⟨λe=>absurd e h3,λe=>absurd (h1.2 e.1) h3⟩
  ·rename_i h3
   rw [h2]
   have h3:c a b=0:=by simpa using h3
   exact⟨λe=>⟨h1.1 h3,e⟩,λe=>e.2⟩
theorem LCk.le_tr (h:LCk c) {x y z:α}(h1:c x y<=0) (h2:c y z<=0):c x z<=0:=by
 have a:=h.t3 x y z
 have r1:=h.rng x y
 have r2:=h.rng y z
 have r3:=h.rng x z
 unfold aAx at a
 obtain⟨a1,a2,a3⟩:=a
 omega
theorem LCk.refl (h:LCk c) (x:α):c x x=0:=by
 have:=h.anti x x
 omega
def aDi (c:α->α->Int) (a:α):List α->List α
 | []=>[a]
 |b::r=>if c a b<=0 then a::b::r else b::aDi c a r
def xH (c:α->α->Int):List α->List α
 | []=>[]
 |a::r=>aDi c a (xH c r)
theorem qZ (a:α): ∀l,(aDi c a l).Perm (a::l)
 | []=> .refl _
 |b::r=>by
  rw [aDi]
  split
  ·exact .refl _
  ·exact((qZ a r).cons b).trans (List.Perm.swap ..)
theorem jJ: ∀l,(xH c l).Perm l
 | []=> .refl _
 |a::r=>(qZ a _).trans ((jJ r).cons a)
def Sle (c:α->α->Int) (l:List α):Prop:=l.Pairwise λa b=>c a b<=0
theorem qY (h:LCk c) (a:α): ∀{l:List α},Sle c l->Sle c (aDi c a l)
 | [],_=>by simp [aDi,Sle]
 |b::r,hs=>by
  obtain⟨h1,h2⟩:=List.pairwise_cons.1 hs
  rw [aDi]
  split
  ·rename_i hab
   refine List.pairwise_cons.2 ⟨λx hx=> ?_,hs⟩
   rcases List.mem_cons.1 hx with rfl|hx
   ·exact hab
   ·exact h.le_tr hab (h1 x hx)
  ·rename_i hab
   refine List.pairwise_cons.2 ⟨λx hx=> ?_,qY h a h2⟩
   rcases List.mem_cons.1 ((qZ a r).mem_iff.1 hx)with rfl|hx
   ·have:=h.anti b x
    omega
   ·exact h1 x hx
theorem eQ (h:LCk c): ∀l,Sle c (xH c l)
 | []=> .nil
 |a::r=>qY h a (eQ h r)
theorem uZ (h:LCk c) (hz: ∀a b,c a b=0->a=b): ∀{l m:List α},l.Perm m->Sle c l->Sle c m->l=m
 | [],m,hp,_,_=>hp.nil_eq
 |a::r,[],hp,_,_=>absurd hp.length_eq (by simp)
 |a::r,b::s,hp,hl,hm=>by
  obtain⟨l1,l2⟩:=List.pairwise_cons.1 hl
  obtain⟨m1,m2⟩:=List.pairwise_cons.1 hm
  have hab:a=b:=by
   have ha:a∈b::s:=hp.mem_iff.1 List.mem_cons_self
   have hb:b∈a::r:=hp.mem_iff.2 List.mem_cons_self
   rcases List.mem_cons.1 ha with e|ha
   ·exact e
   ·rcases List.mem_cons.1 hb with e|hb
    ·exact e.symm
    ·have h1:=l1 b hb
     have h2:=m1 a ha
     have h3:=h.anti a b
     exact hz a b (by omega)
  subst hab
  rw [uZ h hz (List.perm_cons a |>.1 hp) l2 m2]
inductive Ptw (c:α->α->Int):List α->List α->Prop
 |nil:Ptw c [] []
 |cons {a b:α} {l m:List α} (h:c a b<=0) (t:Ptw c l m):Ptw c (a::l) (b::m)
theorem yK (h:LCk c) {a:α}{l:List α}(hs:Sle c (a::l)):aDi c a l=a::l:=by
 cases l with
 |nil=>rfl
 |cons b r=>rw [aDi,if_pos ((List.pairwise_cons.1 hs).1 b List.mem_cons_self)]
theorem oH (h:LCk c): ∀{l m:List α},Ptw c l m->Sle c l->Sle c m-> ∀{a b:α},c a b<=0->Ptw c (aDi c a l) (aDi c b m)
 |_,_, .nil,_,_,a,b,hab=> .cons hab .nil
 |_,_, .cons (a:=s) (b:=t) (l:=S) (m:=T) hst ht,hl,hm,a,b,hab=>by
  obtain⟨_,l2⟩:=List.pairwise_cons.1 hl
  obtain⟨_,m2⟩:=List.pairwise_cons.1 hm
  rw [aDi,aDi]
  split
  ·rename_i h1
   split
   ·exact .cons hab (.cons hst ht)
   ·rename_i h2
    refine .cons (h.le_tr h1 hst) ?_
    rw [<-yK h hl]
    refine oH h ht l2 m2 ?_
    have:=h.anti b t
    exact h.le_tr hst (by omega)
  ·rename_i h1
   split
   ·rename_i h2
    have:=h.anti a s
    refine .cons (h.le_tr (by omega:c s a<=0) hab) ?_
    rw [<-yK h hm]
    exact oH h ht l2 m2 (h.le_tr hab h2)
   ·exact .cons hst (oH h ht l2 m2 hab)
theorem xG (h:LCk c): ∀{l m:List α},Ptw c l m->Ptw c (xH c l) (xH c m)
 |_,_, .nil=> .nil
 |_,_, .cons h1 ht=>oH h (xG h ht) (eQ h _) (eQ h _) h1
theorem aJt (h:LCk c): ∀{l m:List α},Ptw c l m->bH c l m<=0
 |_,_, .nil=>by simp [bH]
 |_,_, .cons (a:=a) (b:=b) h1 ht=>by
  have ih:=aJt h ht
  rw [bH]
  split<;>omega
theorem aAb {β:Type}{f g:β->α}: ∀(l:List β),(∀x∈l,c (f x) (g x)<=0)->Ptw c (l.map f) (l.map g)
 | [],_=> .nil
 |a::r,h=> .cons (h a List.mem_cons_self) (aAb r λx hx=>h x (List.mem_cons_of_mem _ hx))
end
end
section
open Go.Proofs
abbrev bG:=List UInt8
def nmV (k:Nat):bG:=[63,118,UInt8.ofNat (48+k)]
theorem aJw: ∀j k:Nat,j<=k->k<=9->dX (nmV j) (nmV k)<=0:=by
 have h: ∀j:Fin 10,∀k:Fin 10,j.1<=k.1->dX (nmV j.1) (nmV k.1)<=0:=by decide+kernel
 exact λj k h1 h2=>h ⟨j,by omega⟩ ⟨k,by omega⟩ h1
theorem aLi: ∀j k:Nat,j<=9->k<=9->nmV j=nmV k->j=k:=by
 have h: ∀j:Fin 10,∀k:Fin 10,nmV j.1=nmV k.1->j.1=k.1:=by decide+kernel
 exact λj k h1 h2=>h ⟨j,by omega⟩ ⟨k,by omega⟩
def gV:List bG->List bG->bG->bG
 |v::H,t::T,s=>if s=v then t else gV H T s
 |_,_,s=>s
def rpA (g:bG->bG) (a:At):At:=⟨a.kind,a.name,g a.x,g a.y,a.lo,a.hi⟩
theorem aP4 {T T':List bG}(h:Ptw dX T T'): ∀(H:List bG) (s:bG),dX (gV H T s) (gV H T' s)<=0:=by
 induction h with
 |nil=>
  intro H s
  cases H<;>exact Int.le_of_eq ((cA s s).2 rfl)
 |cons h1 ht ih=>
  intro H s
  cases H with
  |nil=>exact Int.le_of_eq ((cA s s).2 rfl)
  |cons v H=>
   rw [gV,gV]
   split
   ·exact h1
   ·exact ih H s
theorem aN0 {g g':bG->bG}(h: ∀s,dX (g s) (g' s)<=0) (a:At):bE (rpA g a) (rpA g' a)<=0:=by
 have h1:=h a.x
 have h2:=h a.y
 unfold bE rpA
 simp only [vM]
 rw [fU.2 rfl,fU.2 rfl,fU.2 rfl,(cA a.name a.name).2 rfl]
 unfold lex
 simp only [ne_eq,not_true_eq_false,if_false]
 split
 ·exact h1
 ·split
  ·exact h2
  ·simp [orF]
abbrev Asg:=List (Option Nat)
def fI (a:Asg) (n:Nat):List bG:=a.map λo=>nmV (o.getD (n+1))
def yOf (P:List At) (H:List bG) (a:Asg) (n:Nat):List At:=xH bE (P.map (rpA (gV H (fI a n))))
theorem aPw {P:List At}{H:List bG}{a a':Asg}{n n':Nat}(h:Ptw dX (fI a n) (fI a' n')):bH bE (yOf P H a n) (yOf P H a' n')<=0:=
 aJt bC (xG bC (aAb P λx _=>aN0 (aP4 h H) x))
theorem wT {n:Nat}(hn:n+2<=9): ∀(a:Asg) (i:Nat),a[i]? =some none->Ptw dX (fI a n) (fI (a.set i (some (n+1))) (n+1))
 | [],i,h=>by simp at h
 |o::r,i,h=>by
  have rest: ∀r:Asg,Ptw dX (fI r n) (fI r (n+1)):= λr=>aAb r λo _=>by
   cases o with
   |none=>exact aJw _ _ (by simp) (by simpa using hn)
   |some k=>exact Int.le_of_eq ((cA _ _).2 rfl)
  cases i with
  |zero=>
   have h:o=none:=by simpa using h
   subst h
   exact .cons (Int.le_of_eq ((cA _ _).2 rfl)) (rest r)
  |succ i=>
   refine .cons ?_ (wT hn r i (by simpa using h))
   cases o with
   |none=>exact aJw _ _ (by simp) (by simpa using hn)
   |some k=>exact Int.le_of_eq ((cA _ _).2 rfl)
inductive Compl (N:Nat):Nat->Asg->Asg->Prop
 |done (a:Asg):Compl N N a a
 |step {n:Nat} {a a':Asg} (i:Nat) (hn:n < N) (hi:a[i]? =some none) (h:Compl N (n+1) (a.set i (some (n+1))) a'):Compl N n a a'
theorem aJ6 {N n:Nat}{a a':Asg}{P:List At}{H:List bG}(hN:N<=8) (h:Compl N n a a'):bH bE (yOf P H a n) (yOf P H a' N)<=0:=by
 induction h with
 |done a=>exact Int.le_of_eq ((eO bC).refl _)
 |step i hn hi h ih=>exact(eO bC).le_tr (aPw (wT (by omega) _ i hi)) ih
section
variable (P:List At) (H:List bG)
def aM3 (y:List At):Option (List At)->Bool
 |some b=>decide (0<=bH bE y b)
 |none=>false
def dfs:Nat->Nat->Asg->Option (List At)->Option (List At)
 | 0,n,a,best=>if aM3 (yOf P H a n) best=true then best else some (yOf P H a n)
 |f+1,n,a,best=>if aM3 (yOf P H a n) best=true then best else (List.range a.length).foldl (λbest i=>if a[i]? =some none then dfs f (n+1) (a.set i (some (n+1))) best else best) best
structure Fnd (L:List At->Prop) (best r:Option (List At)):Prop where
 or:r=best\/ ∃y,L y/\r=some y
 le: ∀y,L y-> ∃b,r=some b/\bH bE b y<=0
 keep: ∀b,best=some b-> ∃b',r=some b'/\bH bE b' b<=0
theorem Fnd.none {L:List At->Prop}{best:Option (List At)}(h: ∀y,¬ L y):Fnd L best best:=⟨.inl rfl,λy hy=>absurd hy (h y),λb hb=>⟨b,hb,Int.le_of_eq ((eO bC).refl _)⟩⟩
theorem Fnd.seq {L L':List At->Prop}{b r r':Option (List At)}(h:Fnd L b r) (h':Fnd L' r r'):Fnd (λy=>L y\/L' y) b r':=by
 refine⟨?_,λy hy=> ?_,λx hx=> ?_⟩
 ·rcases h'.or with e|⟨y,hy,e⟩
  ·rcases h.or with e2|⟨y,hy,e2⟩
   ·exact .inl (e.trans e2)
   ·exact .inr ⟨y, .inl hy,e.trans e2⟩
  ·exact .inr ⟨y, .inr hy,e⟩
 ·rcases hy with hy|hy
  ·obtain⟨b1,e1,l1⟩:=h.le y hy
   obtain⟨b2,e2,l2⟩:=h'.keep b1 e1
   exact⟨b2,e2,(eO bC).le_tr l2 l1⟩
  ·exact h'.le y hy
 ·obtain⟨b1,e1,l1⟩:=h.keep x hx
  obtain⟨b2,e2,l2⟩:=h'.keep b1 e1
  exact⟨b2,e2,(eO bC).le_tr l2 l1⟩
theorem Fnd.iff {L L':List At->Prop}{b r:Option (List At)}(h:Fnd L b r) (e: ∀y,L y↔L' y):Fnd L' b r:=
 ⟨h.or.imp id λ⟨y,hy,e'⟩=>⟨y,(e y).1 hy,e'⟩,λy hy=>h.le y ((e y).2 hy),h.keep⟩
theorem Fnd.cut {L:List At->Prop}{best:Option (List At)}{y:List At}(hc:aM3 y best=true) (hl: ∀z,L z->bH bE y z<=0):Fnd L best best:=by
 cases best with
 |none=>cases hc
 |some b=>
  have hb:0<=bH bE y b:=of_decide_eq_true hc
  have ha:=gR bC y b
  exact⟨.inl rfl,λz hz=>⟨b,rfl,(eO bC).le_tr (by omega) (hl z hz)⟩,λx hx=>⟨x,hx,Int.le_of_eq ((eO bC).refl _)⟩⟩
def yE (N n:Nat) (a:Asg) (y:List At):Prop:= ∃a',Compl N n a a'/\y=yOf P H a' N
theorem aC1 {N n:Nat}{a:Asg}{g:Nat->Option (List At)->Option (List At)}(hg: ∀i,a[i]? =some none-> ∀best,Fnd (yE P H N (n+1) (a.set i (some (n+1)))) best (g i best)):
  ∀(l:List Nat) (best:Option (List At)),Fnd (λy=> ∃i∈l,a[i]? =some none/\yE P H N (n+1) (a.set i (some (n+1))) y) best (l.foldl (λbest i=>if a[i]? =some none then g i best else best) best)
 | [],best=> .none λy ⟨i,hi,_⟩=>by cases hi
 |i::r,best=>by
  have ih:= λb=>aC1 hg r b
  rw [List.foldl_cons]
  by_cases h:a[i]? =some none
  ·rw [if_pos h]
   refine(Fnd.seq (hg i h best) (ih _)).iff λy=> ?_
   constructor
   ·rintro(h1|⟨j,hj,h1⟩)
    ·exact⟨i,List.mem_cons_self,h,h1⟩
    ·exact⟨j,List.mem_cons_of_mem _ hj,h1⟩
   ·rintro⟨j,hj,h1,h2⟩
    rcases List.mem_cons.1 hj with rfl|hj
    ·exact .inl h2
    ·exact .inr ⟨j,hj,h1,h2⟩
  ·rw [if_neg h]
   refine(ih best).iff λy=> ?_
   constructor
   ·rintro⟨j,hj,h1⟩
    exact⟨j,List.mem_cons_of_mem _ hj,h1⟩
   ·rintro⟨j,hj,h1,h2⟩
    rcases List.mem_cons.1 hj with rfl|hj
    ·exact absurd h1 h
    ·exact⟨j,hj,h1,h2⟩
theorem aGf {N:Nat}(hN:N<=8): ∀(f n:Nat) (a:Asg) (best:Option (List At)),f+n=N->Fnd (yE P H N n a) best (dfs P H f n a best)
 | 0,n,a,best,hf=>by
  obtain rfl:n=N:=by omega
  have hl: ∀z,yE P H n n a z↔z=yOf P H a n:=by
   intro z
   constructor
   ·rintro⟨a',h,rfl⟩
    cases h with
    |done=>rfl
    |step i hn _ _=>omega
   ·rintro rfl
    exact⟨a, .done a,rfl⟩
  rw [dfs]
  split
  ·rename_i hc
   exact Fnd.cut hc λz hz=>by
    rw [(hl z).1 hz];exact Int.le_of_eq ((eO bC).refl _)
  ·rename_i hc
   refine⟨.inr ⟨_,(hl _).2 rfl,rfl⟩,λz hz=>⟨_,rfl, ?_⟩,λb hb=>⟨_,rfl, ?_⟩⟩
   ·rw [(hl z).1 hz];exact Int.le_of_eq ((eO bC).refl _)
   ·subst hb
    have:¬ 0<=bH bE (yOf P H a n) b:= λh=>hc (decide_eq_true h)
    omega
 |f+1,n,a,best,hf=>by
  rw [dfs]
  split
  ·rename_i hc
   exact Fnd.cut hc λz ⟨a',h,e⟩=>by rw [e];exact aJ6 hN h
  ·refine(aC1 P H (N:=N) (n:=n) (a:=a) (g:= λi b=>dfs P H f (n+1) (a.set i (some (n+1))) b) (λi hi b=>aGf hN f (n+1) _ b (by omega)) (List.range a.length) best).iff λy=> ?_
   constructor
   ·rintro⟨i,_,hi,a',h,e⟩
    exact⟨a', .step i (by omega) hi h,e⟩
   ·rintro⟨a',h,e⟩
    cases h with
    |done=>omega
    |step i hn hi h=>
     exact⟨i,List.mem_range.2 (List.getElem?_eq_some_iff.1 hi).1,hi,a',h,e⟩
end
end
end Go.Proofs.YtdjfkmkdkclahaaGreatDoor
