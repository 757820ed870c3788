/-
  Sums of ints that may wrap: a walk that knows less of the type int takes them by rules of their own.
  Conditions: none.
-/
import Derived.Test.YtleihcnongldbaaGreatDoorWA8
set_option linter.unnecessarySimpa false
set_option linter.unusedSectionVars false
set_option linter.unusedSimpArgs false
set_option linter.unusedVariables false
namespace Go.Proofs.YtleihcnongldbaaGreatDoor
open Go.RowKit
section
variable {P:Program}
def aPr (ti:TypeId->Option TI) (n:TypeId):TypeId->Option TI:= λt=>if t=n then none else ti t
theorem aM8 {ti:TypeId->Option TI}(h:dT P ti) (n:TypeId):dT P (aPr ti n):=by
 intro t T e
 unfold aPr at e
 split at e
 ·cases e
 ·exact h t T e
theorem aGl {o:Oper}{t t':TypeId}{x y:Operand}(ho:o.op= .binOp .add t x y t') {fr:Fr}{hp:Hp}{K:SV->Prop}{k:IntKind}{a b:Int}(hx:evO fr x=some (.d (.int k a))) (hy:evO fr y=some (.d (.int k b))) (hk:K (.d (.int k (k.wrap (a+b))))):cP P o fr hp K:=by
 intro E ρ c w hm hf
 have h1:=bB hf hx
 have h2:=bB hf hy
 exact⟨_,_,λw' _=>by simp [execOp,ho,h1.int_inv,h2.int_inv,mL,binOp,Op.intArith], .d _ _ (.int _ _),hk⟩
theorem aMw {o:Oper}{t t':TypeId}{x y:Operand}(ho:o.op= .binOp .quo t x y t') {fr:Fr}{hp:Hp}{K:SV->Prop}{k:IntKind}{a b:Int}(hx:evO fr x=some (.d (.int k a))) (hy:evO fr y=some (.d (.int k b))) (hb:b≠0) (hk:K (.d (.int k (k.wrap (a.tdiv b))))):cP P o fr hp K:=by
 intro E ρ c w hm hf
 have h1:=bB hf hx
 have h2:=bB hf hy
 exact⟨_,_,λw' _=>by simp [execOp,ho,h1.int_inv,h2.int_inv,mL,binOp,Op.intDiv,hb], .d _ _ (.int _ _),hk⟩
theorem yU {ti:TypeId->Option TI}(hti:dT P ti) {o:Oper}{op:BinOp}{t t':TypeId}{x y:Operand}(ho:o.op= .binOp op t x y t') {fr:Fr}{hp:Hp}{K:SV->Prop}{s r:SV}(hx:evO fr x=some s) (hy:evO fr y=some r) (h:aTp P ti op t s r K):cP P o fr hp K:=by
 refine aOo hti ho ?_
 unfold ev
 rw [hx]
 simp only
 rw [hy]
 exact h
end
end Go.Proofs.YtleihcnongldbaaGreatDoor
