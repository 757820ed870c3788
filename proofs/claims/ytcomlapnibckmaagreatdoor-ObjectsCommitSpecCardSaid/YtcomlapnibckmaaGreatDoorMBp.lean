/-
  Terms: the reference's Depth, shape, named, walk, CheckConcept. Terms: the order of concepts is total; sorted sets of concepts. Terms: the canonical form of a concept, as a plain function; it is not greater.
  Conditions: none.
-/
import Derived.Test.YtcomlapnibckmaaGreatDoorMGr
import Derived.Test.YtcomlapnibckmaaGreatDoorMG4
import Derived.Test.YtcomlapnibckmaaGreatDoorMAk
set_option linter.unusedSectionVars false
set_option linter.unusedSimpArgs false
set_option linter.unusedVariables false
namespace Go.Proofs.YtcomlapnibckmaaGreatDoor
open Go.Proofs
set_option maxRecDepth 10000
attribute [local irreducible] aL aG Tri aD YVC cP bB
end Go.Proofs.YtcomlapnibckmaaGreatDoor
namespace Go.Proofs.YtcomlapnibckmaaGreatDoor
open Go.Proofs
def aI3 {α:Type}(c:α->α->Int) (a b d:α):Prop:=
 (c a b < 0->c b d < 0->c a d < 0)/\(c a b=0->c a d=c b d)/\(c b d=0->c a b=c a d)
structure LCk {α:Type} (c:α->α->Int):Prop where
 rng: ∀a b,c a b= -1\/c a b=0\/c a b=1
 anti: ∀a b,c b a= - c a b
 t3: ∀a b d,aI3 c a b d
theorem LCk.of {α β:Type}{c:β->β->Int}(h:LCk c) (k:α->β):LCk (λa b=>c (k a) (k b)):=
 ⟨λa b=>h.rng _ _,λa b=>h.anti _ _,λa b d=>h.t3 _ _ _⟩
theorem LCk.int:LCk aGx:=by
 refine⟨λa b=> ?_,λa b=> ?_,λa b d=> ?_⟩
 ·unfold aGx;split<;>(try split)<;>simp
 ·unfold aGx;split<;>split<;>(try split)<;>omega
 ·unfold aI3 aGx
  refine⟨?_, ?_, ?_⟩<;>(split<;>(try split)<;>split<;>(try split)<;>(try split)<;>(try split)<;>omega)
theorem LCk.str:LCk lB:=by
 refine⟨pS,sW,λa b d=>⟨pR a b d,λh=> ?_,λh=> ?_⟩⟩
 ·rw [(nY a b).1 h]
 ·rw [(nY b d).1 h]
theorem LCk.zero {α:Type}:LCk (λ_ _:α=>(0:Int)):=⟨λ_ _=>by simp,λ_ _=>by simp,λ_ _ _=>by simp [aI3]⟩
end Go.Proofs.YtcomlapnibckmaaGreatDoor
namespace Go.Proofs.YtcomlapnibckmaaGreatDoor
open Go.Proofs
def c0:Cn:= .mk 0 [] 0 0 []
def aE0 (l:List Cn):Nat:=(bR l).length
theorem zA (c:Cn) (l:List Cn):aE0 (c::l)=lY c+aE0 l:=by simp [aE0,bR,lY]
theorem zD (c:Cn):lY c=aE0 c.parts+1:=aBj c
end Go.Proofs.YtcomlapnibckmaaGreatDoor
