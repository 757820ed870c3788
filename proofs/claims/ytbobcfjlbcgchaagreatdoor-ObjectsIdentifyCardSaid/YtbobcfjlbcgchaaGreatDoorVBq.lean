/-
  Terms: the order of axioms is total; few concepts are small.
  Conditions: none.
-/
import Derived.Test.YtbobcfjlbcgchaaGreatDoorVBp
import Derived.Test.YtbobcfjlbcgchaaGreatDoorVOb
set_option linter.unusedSectionVars false
set_option linter.unusedSimpArgs false
set_option linter.unusedVariables false
namespace Go.Proofs.YtbobcfjlbcgchaaGreatDoor
open Go.Proofs
theorem aDv: ∀l m,dL l m= -1\/dL l m=0\/dL l m=1
 | [],[]=>by simp [dL]
 | [],_::_=>by simp [dL]
 |_::_,[]=>by simp [dL]
 |a::l,b::m=>by
  rw [dL]
  have:=LCk.str.rng a b
  have:=aDv l m
  split<;>omega
theorem aAa: ∀l m,dL m l= - dL l m
 | [],[]=>by simp [dL]
 | [],_::_=>by simp [dL]
 |_::_,[]=>by simp [dL]
 |a::l,b::m=>by
  rw [dL,dL]
  have:=LCk.str.anti a b
  have:=aAa l m
  split<;>split<;>omega
theorem aHt: ∀l m n,yC dL l m n
 | [],[],[]=>by simp [yC,dL]
 | [],[],_::_=>by simp [yC,dL]
 | [],_::_,[]=>by simp [yC,dL]
 | [],_::_,_::_=>by simp [yC,dL]
 |_::_,[],[]=>by simp [yC,dL]
 |_::_,[],_::_=>by simp [yC,dL]
 |_::_,_::_,[]=>by simp [yC,dL]
 |a::l,b::m,d::n=>by
  have a1:=LCk.str.t3 a b d
  have b1:=aHt l m n
  have r1:=LCk.str.rng a b
  have r2:=LCk.str.rng b d
  have r3:=LCk.str.rng a d
  have a2:=LCk.str.t3 b d a
  have a3:=LCk.str.t3 d a b
  have n1:=LCk.str.anti a b
  have n2:=LCk.str.anti b d
  have n3:=LCk.str.anti a d
  unfold yC at *
  rw [dL,dL,dL]
  refine⟨?_, ?_, ?_⟩<;>(split<;>split<;>split<;>omega)
theorem aQu:LCk dL:=⟨aDv,aAa,aHt⟩
theorem aA9: ∀{l m:List (List UInt8)},dL l m=0↔l=m
 | [],[]=>by simp [dL]
 | [],_::_=>by simp [dL]
 |_::_,[]=>by simp [dL]
 |a::l,b::m=>by
  rw [dL]
  have h1:= @dZ a b
  have h2:= @aA9 l m
  rw [List.cons.injEq]
  split
  ·rename_i h
   exact⟨λe=>absurd e h,λe=>absurd (h1.2 e.1) h⟩
  ·rename_i h
   have h:iP a b=0:=by omega
   exact⟨λe=>⟨h1.1 h,h2.1 e⟩,λe=>h2.2 e.2⟩
theorem aE4:LCk tS:=LCk.lex (LCk.int.of vB) (LCk.lex (LCk.int.of Ax.kind) LCk.zero)
theorem aE3:LCk xX:=LCk.lex (aQu.of Ax.roles) (LCk.lex (LCk.str.of Ax.role) (LCk.lex (LCk.str.of Ax.a) (LCk.lex (LCk.str.of Ax.b) LCk.zero)))
theorem aO4 (x y:Ax):cS x y=lex (tS x y) (lex (iT x.left y.left) (lex (iT x.right y.right) (xX x y))):=rfl
theorem kX:LCk cS:=LCk.lex aE4 (LCk.lex (aO2.of Ax.left) (LCk.lex (aO2.of Ax.right) aE3))
theorem aK9 {x y:Ax}:cS x y=0↔x={ y with isopen:=x.isopen }:=by
 rw [aO4,eE,eE,eE,mU,mU]
 constructor
 ·rintro⟨h1,h2,h3,h4⟩
  unfold tS at h1
  unfold xX at h4
  rw [iX,eE,iX,eE,rO,rO]at h1
  rw [iX,eE,iX,eE,iX,eE,iX,eE,aA9,dZ,dZ,dZ]at h4
  obtain⟨k,o,l,r,rs,ro,a,b⟩:=x
  obtain⟨k',o',l',r',rs',ro',a',b'⟩:=y
  simp_all
 ·intro e
  have h1:tS x y=tS x x:=by rw [e];rfl
  have h2:xX x y=xX x x:=by rw [e];rfl
  have h3:=aE4.anti x x
  have h4:=aE3.anti x x
  refine⟨by omega,by rw [e],by rw [e],by omega⟩
end Go.Proofs.YtbobcfjlbcgchaaGreatDoor
