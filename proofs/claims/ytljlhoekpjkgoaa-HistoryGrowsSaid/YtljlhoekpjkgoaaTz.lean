/-
  The rules of the walk at this program.
  Conditions: none.
-/
import Derived.Test.YtljlhoekpjkgoaaTy
import Derived.Test.YtljlhoekpjkgoaaSs
import Derived.Test.YtljlhoekpjkgoaaSz
namespace Go.Proofs.Ytljlhoekpjkgoaa
open Go.Proofs

theorem seqT {pin : List Nat} {nt : Nat} {keep : Nat → Bool} {off : Nat} {rd : Option Nat} {zc : Bool} {x y : Code} {fr : Fr} {hp : Hp} {K : Ex → Fr → Hp → Prop}
    (h : X ⟨Try.prog, ty, pin, nt, keep, off, rd, zc⟩ x fr hp fun e fr hp => match e with | .normal => SemVC ⟨Try.prog, ty, pin, nt, keep, off, rd, zc⟩ y fr hp K | e => K e fr hp) : SemVC ⟨Try.prog, ty, pin, nt, keep, off, rd, zc⟩ (.seq x y) fr hp K := sem_seq hty h

theorem semT {pin : List Nat} {nt : Nat} {keep : Nat → Bool} {off : Nat} {rd : Option Nat} {zc : Bool} {c : Code} {fr : Fr} {hp : Hp} {K : Ex → Fr → Hp → Prop}
    (h : X ⟨Try.prog, ty, pin, nt, keep, off, rd, zc⟩ c fr hp K) : SemVC ⟨Try.prog, ty, pin, nt, keep, off, rd, zc⟩ c fr hp K := sem_of_X hty h

end Go.Proofs.Ytljlhoekpjkgoaa
