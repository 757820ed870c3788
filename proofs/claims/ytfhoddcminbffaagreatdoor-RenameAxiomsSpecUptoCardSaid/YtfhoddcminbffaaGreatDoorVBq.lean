/-
  Terms: the order of axioms is total; few concepts are small.
  Conditions: none.
-/
import Derived.Test.YtfhoddcminbffaaGreatDoorVTcu
import Derived.Test.YtfhoddcminbffaaGreatDoorVTca
set_option linter.unusedSectionVars false
set_option linter.unusedSimpArgs false
set_option linter.unusedVariables false
namespace Go.Proofs.YtfhoddcminbffaaGreatDoor
open Go.Proofs
theorem yE: ∀l m,cR l m= -1\/cR l m=0\/cR l m=1
 | [],[]=>by simp [cR]
 | [],_::_=>by simp [cR]
 |_::_,[]=>by simp [cR]
 |a::l,b::m=>by
  rw [cR]
  have:=LCk.str.rng a b
  have:=yE l m
  split<;>omega
theorem uM: ∀l m,cR m l= - cR l m
 | [],[]=>by simp [cR]
 | [],_::_=>by simp [cR]
 |_::_,[]=>by simp [cR]
 |a::l,b::m=>by
  rw [cR,cR]
  have:=LCk.str.anti a b
  have:=uM l m
  split<;>split<;>omega
theorem aBg: ∀l m n,sK cR l m n
 | [],[],[]=>by simp [sK,cR]
 | [],[],_::_=>by simp [sK,cR]
 | [],_::_,[]=>by simp [sK,cR]
 | [],_::_,_::_=>by simp [sK,cR]
 |_::_,[],[]=>by simp [sK,cR]
 |_::_,[],_::_=>by simp [sK,cR]
 |_::_,_::_,[]=>by simp [sK,cR]
 |a::l,b::m,d::n=>by
  have a1:=LCk.str.t3 a b d
  have b1:=aBg l m n
  have r1:=LCk.str.rng a b
  have r2:=LCk.str.rng b d
  have r3:=LCk.str.rng a d
  have a2:=LCk.str.t3 b d a
  have a3:=LCk.str.t3 d a b
  have n1:=LCk.str.anti a b
  have n2:=LCk.str.anti b d
  have n3:=LCk.str.anti a d
  unfold sK at *
  rw [cR,cR,cR]
  refine⟨?_, ?_, ?_⟩<;>(split<;>split<;>split<;>omega)
theorem aI7:LCk cR:=⟨yE,uM,aBg⟩
theorem uL: ∀{l m:List (List UInt8)},cR l m=0↔l=m
 | [],[]=>by simp [cR]
 | [],_::_=>by simp [cR]
 |_::_,[]=>by simp [cR]
 |a::l,b::m=>by
  rw [cR]
  have h1:= @dU a b
  have h2:= @uL l m
  rw [List.cons.injEq]
  split
  ·rename_i h
   exact⟨λe=>absurd e h,λe=>absurd (h1.2 e.1) h⟩
  ·rename_i h
   have h:fR a b=0:=by omega
   exact⟨λe=>⟨h1.1 h,h2.1 e⟩,λe=>h2.2 e.2⟩
theorem aG3:LCk oX:=LCk.lex (LCk.int.of fT) (LCk.lex (LCk.int.of Ax.kind) LCk.zero)
theorem aG2:LCk rY:=LCk.lex (aI7.of Ax.roles) (LCk.lex (LCk.str.of Ax.role) (LCk.lex (LCk.str.of Ax.a) (LCk.lex (LCk.str.of Ax.b) LCk.zero)))
theorem aFw (x y:Ax):aDb x y=lex (oX x y) (lex (fX x.left y.left) (lex (fX x.right y.right) (rY x y))):=rfl
theorem aDa {x y:Ax}:aDb x y=0↔x={ y with isopen:=x.isopen }:=by
 rw [aFw,dO,dO,dO,nH,nH]
 constructor
 ·rintro⟨h1,h2,h3,h4⟩
  unfold oX at h1
  unfold rY at h4
  rw [eM,dO,eM,dO,iQ,iQ]at h1
  rw [eM,dO,eM,dO,eM,dO,eM,dO,uL,dU,dU,dU]at h4
  obtain⟨k,o,l,r,rs,ro,a,b⟩:=x
  obtain⟨k',o',l',r',rs',ro',a',b'⟩:=y
  simp_all
 ·intro e
  have h1:oX x y=oX x x:=by rw [e];rfl
  have h2:rY x y=rY x x:=by rw [e];rfl
  have h3:=aG3.anti x x
  have h4:=aG2.anti x x
  refine⟨by omega,by rw [e],by rw [e],by omega⟩
end Go.Proofs.YtfhoddcminbffaaGreatDoor
