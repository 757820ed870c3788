/-
  Terms: the reference's Depth, shape, named, walk, CheckConcept. Terms: the order of concepts is total; sorted sets of concepts. Terms: the canonical form of a concept, as a plain function; it is not greater.
  Conditions: none.
-/
import Derived.Test.YtleihcnongldbaaGreatDoorVG4
import Derived.Test.YtleihcnongldbaaGreatDoorVSyi
set_option linter.unusedSectionVars false
set_option linter.unusedSimpArgs false
set_option linter.unusedVariables false
namespace Go.Proofs.YtleihcnongldbaaGreatDoor
open Go.Proofs
set_option maxRecDepth 10000
attribute [local irreducible] aO aH Tri aG YVC cL bB
end Go.Proofs.YtleihcnongldbaaGreatDoor
namespace Go.Proofs.YtleihcnongldbaaGreatDoor
open Go.Proofs
def aCd {α:Type}(c:α->α->Int) (a b d:α):Prop:=
 (c a b < 0->c b d < 0->c a d < 0)/\(c a b=0->c a d=c b d)/\(c b d=0->c a b=c a d)
structure LCk {α:Type} (c:α->α->Int):Prop where
 rng: ∀a b,c a b= -1\/c a b=0\/c a b=1
 anti: ∀a b,c b a= - c a b
 t3: ∀a b d,aCd c a b d
def lex (x y:Int):Int:=if x≠0 then x else y
theorem LCk.lex {α:Type}{c1 c2:α->α->Int}(h1:LCk c1) (h2:LCk c2):LCk (λa b=>lex (c1 a b) (c2 a b)):=by
 refine⟨λa b=> ?_,λa b=> ?_,λa b d=> ?_⟩
 ·have:=h1.rng a b
  have:=h2.rng a b
  unfold Proofs.YtleihcnongldbaaGreatDoor.lex
  split<;>omega
 ·have:=h1.anti a b
  have:=h2.anti a b
  unfold Proofs.YtleihcnongldbaaGreatDoor.lex
  split<;>split<;>omega
 ·have a1:=h1.t3 a b d
  have a2:=h1.t3 b d a
  have a3:=h1.t3 d a b
  have b1:=h2.t3 a b d
  have r1:=h1.rng a b
  have r2:=h1.rng b d
  have r3:=h1.rng a d
  have n1:=h1.anti a b
  have n2:=h1.anti b d
  have n3:=h1.anti a d
  unfold aCd at *
  unfold Proofs.YtleihcnongldbaaGreatDoor.lex
  dsimp only
  refine⟨?_, ?_, ?_⟩<;>(split<;>split<;>split<;>omega)
theorem LCk.of {α β:Type}{c:β->β->Int}(h:LCk c) (k:α->β):LCk (λa b=>c (k a) (k b)):=
 ⟨λa b=>h.rng _ _,λa b=>h.anti _ _,λa b d=>h.t3 _ _ _⟩
theorem LCk.int:LCk jX:=by
 refine⟨λa b=> ?_,λa b=> ?_,λa b d=> ?_⟩
 ·unfold jX;split<;>(try split)<;>simp
 ·unfold jX;split<;>split<;>(try split)<;>omega
 ·unfold aCd jX
  refine⟨?_, ?_, ?_⟩<;>(split<;>(try split)<;>split<;>(try split)<;>(try split)<;>(try split)<;>omega)
theorem oX {a b:Int}:jX a b=0↔a=b:=by
 unfold jX;split<;>(try split)<;>omega
theorem LCk.str:LCk fB:=by
 refine⟨pR,zZ,λa b d=>⟨vU a b d,λh=> ?_,λh=> ?_⟩⟩
 ·rw [(dH a b).1 h]
 ·rw [(dH b d).1 h]
theorem gR (x:Int) (l:List Int):orF (x::l)=lex x (orF l):=rfl
theorem LCk.zero {α:Type}:LCk (λ_ _:α=>(0:Int)):=⟨λ_ _=>by simp,λ_ _=>by simp,λ_ _ _=>by simp [aCd]⟩
theorem aI9:LCk aAw:=by
 have h:=(LCk.int.of (λc:Cn=>(bW c:Int))).lex ((LCk.int.of Cn.kind).lex ((LCk.str.of Cn.name).lex ((LCk.int.of Cn.lo).lex ((LCk.int.of Cn.hi).lex LCk.zero))))
 exact h
theorem dB {x y:Int}:lex x y=0↔x=0/\y=0:=by unfold lex;split<;>omega
theorem aDh {a b:Cn}(h:aAw a b=0):a.kind=b.kind/\a.name=b.name/\a.lo=b.lo/\a.hi=b.hi:=by
 unfold aAw at h
 simp only [gR,dB,oX,dH]at h
 exact⟨h.2.1,h.2.2.1,h.2.2.2.1,h.2.2.2.2.1⟩
theorem xW (a b:Cn):tP a b=lex (aAw a b) (pP a.parts b.parts):=by rw [aG0];rfl
mutual
theorem zY: ∀(a b:Cn),tP b a= - tP a b
 | .mk k n lo hi ps,b=>by
  have h1:=aI9.anti (.mk k n lo hi ps) b
  have h2:=zW ps b.parts
  rw [xW,xW,h1]
  show lex _ (pP b.parts ps)= - lex _ (pP ps b.parts)
  rw [h2]
  unfold lex;split<;>split<;>omega
theorem zW: ∀(l m:List Cn),pP m l= - pP l m
 | [],[]=>by simp [pP]
 | [],_::_=>by simp [pP]
 |_::_,[]=>by simp [pP]
 |a::l,b::m=>by
  have h1:=zY a b
  have h2:=zW l m
  rw [pP,pP,h1,h2];split<;>split<;>omega
end
mutual
theorem aC1: ∀(a b:Cn),tP a b=0->a=b
 | .mk k n lo hi ps, .mk k' n' lo' hi' ps',h=>by
  rw [xW,dB]at h
  obtain⟨h1,h2⟩:=h
  obtain⟨e1,e2,e3,e4⟩:=aDh h1
  have e5:=aC0 ps ps' h2
  simp only [Cn.kind,Cn.name,Cn.lo,Cn.hi]at e1 e2 e3 e4
  rw [e1,e2,e3,e4,e5]
theorem aC0: ∀(l m:List Cn),pP l m=0->l=m
 | [],[],_=>rfl
 | [],_::_,h=>by simp [pP]at h
 |_::_,[],h=>by simp [pP]at h
 |a::l,b::m,h=>by
  rw [pP]at h
  have h:lex (tP a b) (pP l m)=0:=h
  rw [dB]at h
  rw [aC1 a b h.1,aC0 l m h.2]
end
theorem aFz (a:Cn):tP a a=0:=by have:=zY a a;omega
theorem zX {a b:Cn}:tP a b=0↔a=b:=⟨aC1 a b,λh=>h ▸ aFz a⟩
def aA7 {α:Type}(eq:α->α->Bool):α->List α->List α
 |_,[]=>[]
 |p,b::r=>if eq b p then aA7 eq b r else b::aA7 eq b r
def uE {α:Type}(eq:α->α->Bool):List α->List α
 | []=>[]
 |a::r=>a::aA7 eq a r
end Go.Proofs.YtleihcnongldbaaGreatDoor
namespace Go.Proofs.YtleihcnongldbaaGreatDoor
open Go.Proofs
def c0:Cn:= .mk 0 [] 0 0 []
def aH8 (l:List Cn):Nat:=(bM l).length
theorem aEk (c:Cn) (l:List Cn):aH8 (c::l)=bW c+aH8 l:=by simp [aH8,bM,bW]
theorem nN (c:Cn):bW c=aH8 c.parts+1:=aBb c
theorem aH7 {c:Cn}{l:List Cn}(h:c∈l):bW c<=aH8 l:=vB h
end Go.Proofs.YtleihcnongldbaaGreatDoor
