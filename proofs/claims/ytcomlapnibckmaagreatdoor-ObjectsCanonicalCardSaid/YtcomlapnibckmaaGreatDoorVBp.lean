/-
  Terms: the reference's Depth, shape, named, walk, CheckConcept. Terms: the order of concepts is total; sorted sets of concepts. Terms: the canonical form of a concept, as a plain function; it is not greater.
  Conditions: none.
-/
import Derived.Test.YtcomlapnibckmaaGreatDoorVG4
import Derived.Test.YtcomlapnibckmaaGreatDoorVSyi
set_option linter.unusedSectionVars false
set_option linter.unusedSimpArgs false
set_option linter.unusedVariables false
namespace Go.Proofs.YtcomlapnibckmaaGreatDoor
open Go.Proofs
set_option maxRecDepth 10000
attribute [local irreducible] aN aH Tri aF YVC cM bB
end Go.Proofs.YtcomlapnibckmaaGreatDoor
namespace Go.Proofs.YtcomlapnibckmaaGreatDoor
open Go.Proofs
def aIz {α:Type}(c:α->α->Int) (a b d:α):Prop:=
 (c a b < 0->c b d < 0->c a d < 0)/\(c a b=0->c a d=c b d)/\(c b d=0->c a b=c a d)
structure LCk {α:Type} (c:α->α->Int):Prop where
 rng: ∀a b,c a b= -1\/c a b=0\/c a b=1
 anti: ∀a b,c b a= - c a b
 t3: ∀a b d,aIz c a b d
theorem LCk.of {α β:Type}{c:β->β->Int}(h:LCk c) (k:α->β):LCk (λa b=>c (k a) (k b)):=
 ⟨λa b=>h.rng _ _,λa b=>h.anti _ _,λa b d=>h.t3 _ _ _⟩
theorem LCk.int:LCk aHt:=by
 refine⟨λa b=> ?_,λa b=> ?_,λa b d=> ?_⟩
 ·unfold aHt;split<;>(try split)<;>simp
 ·unfold aHt;split<;>split<;>(try split)<;>omega
 ·unfold aIz aHt
  refine⟨?_, ?_, ?_⟩<;>(split<;>(try split)<;>split<;>(try split)<;>(try split)<;>(try split)<;>omega)
theorem LCk.str:LCk mI:=by
 refine⟨rG,uQ,λa b d=>⟨rF a b d,λh=> ?_,λh=> ?_⟩⟩
 ·rw [(pI a b).1 h]
 ·rw [(pI b d).1 h]
theorem LCk.zero {α:Type}:LCk (λ_ _:α=>(0:Int)):=⟨λ_ _=>by simp,λ_ _=>by simp,λ_ _ _=>by simp [aIz]⟩
def vC {α:Type}(eq:α->α->Bool):α->List α->List α
 |_,[]=>[]
 |p,b::r=>if eq b p then vC eq b r else b::vC eq b r
def pS {α:Type}(eq:α->α->Bool):List α->List α
 | []=>[]
 |a::r=>a::vC eq a r
end Go.Proofs.YtcomlapnibckmaaGreatDoor
namespace Go.Proofs.YtcomlapnibckmaaGreatDoor
open Go.Proofs
def c0:Cn:= .mk 0 [] 0 0 []
def aF5 (l:List Cn):Nat:=(bZ l).length
theorem aAn (c:Cn) (l:List Cn):aF5 (c::l)=nF c+aF5 l:=by simp [aF5,bZ,nF]
theorem aAs (c:Cn):nF c=aF5 c.parts+1:=aCs c
end Go.Proofs.YtcomlapnibckmaaGreatDoor
