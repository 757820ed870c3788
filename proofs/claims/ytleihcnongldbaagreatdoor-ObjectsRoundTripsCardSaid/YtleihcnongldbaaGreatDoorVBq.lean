/-
  Terms: the order of axioms is total; few concepts are small.
  Conditions: none.
-/
import Derived.Test.YtleihcnongldbaaGreatDoorVBp
import Derived.Test.YtleihcnongldbaaGreatDoorVSyi
set_option linter.unusedSectionVars false
set_option linter.unusedSimpArgs false
set_option linter.unusedVariables false
namespace Go.Proofs.YtleihcnongldbaaGreatDoor
open Go.Proofs
theorem zU: ∀l m,cM l m= -1\/cM l m=0\/cM l m=1
 | [],[]=>by simp [cM]
 | [],_::_=>by simp [cM]
 |_::_,[]=>by simp [cM]
 |a::l,b::m=>by
  rw [cM]
  have:=LCk.str.rng a b
  have:=zU l m
  split<;>omega
theorem vT: ∀l m,cM m l= - cM l m
 | [],[]=>by simp [cM]
 | [],_::_=>by simp [cM]
 |_::_,[]=>by simp [cM]
 |a::l,b::m=>by
  rw [cM,cM]
  have:=LCk.str.anti a b
  have:=vT l m
  split<;>split<;>omega
theorem aBz: ∀l m n,aCd cM l m n
 | [],[],[]=>by simp [aCd,cM]
 | [],[],_::_=>by simp [aCd,cM]
 | [],_::_,[]=>by simp [aCd,cM]
 | [],_::_,_::_=>by simp [aCd,cM]
 |_::_,[],[]=>by simp [aCd,cM]
 |_::_,[],_::_=>by simp [aCd,cM]
 |_::_,_::_,[]=>by simp [aCd,cM]
 |a::l,b::m,d::n=>by
  have a1:=LCk.str.t3 a b d
  have b1:=aBz l m n
  have r1:=LCk.str.rng a b
  have r2:=LCk.str.rng b d
  have r3:=LCk.str.rng a d
  have a2:=LCk.str.t3 b d a
  have a3:=LCk.str.t3 d a b
  have n1:=LCk.str.anti a b
  have n2:=LCk.str.anti b d
  have n3:=LCk.str.anti a d
  unfold aCd at *
  rw [cM,cM,cM]
  refine⟨?_, ?_, ?_⟩<;>(split<;>split<;>split<;>omega)
theorem aIj:LCk cM:=⟨zU,vT,aBz⟩
theorem vS: ∀{l m:List (List UInt8)},cM l m=0↔l=m
 | [],[]=>by simp [cM]
 | [],_::_=>by simp [cM]
 |_::_,[]=>by simp [cM]
 |a::l,b::m=>by
  rw [cM]
  have h1:= @dH a b
  have h2:= @vS l m
  rw [List.cons.injEq]
  split
  ·rename_i h
   exact⟨λe=>absurd e h,λe=>absurd (h1.2 e.1) h⟩
  ·rename_i h
   have h:fB a b=0:=by omega
   exact⟨λe=>⟨h1.1 h,h2.1 e⟩,λe=>h2.2 e.2⟩
theorem aG6:LCk qL:=LCk.lex (LCk.int.of fH) (LCk.lex (LCk.int.of Ax.kind) LCk.zero)
theorem aG5:LCk tU:=LCk.lex (aIj.of Ax.roles) (LCk.lex (LCk.str.of Ax.role) (LCk.lex (LCk.str.of Ax.a) (LCk.lex (LCk.str.of Ax.b) LCk.zero)))
theorem aG1 (x y:Ax):aDn x y=lex (qL x y) (lex (tP x.left y.left) (lex (tP x.right y.right) (tU x y))):=rfl
theorem aDm {x y:Ax}:aDn x y=0↔x={ y with isopen:=x.isopen }:=by
 rw [aG1,dB,dB,dB,zX,zX]
 constructor
 ·rintro⟨h1,h2,h3,h4⟩
  unfold qL at h1
  unfold tU at h4
  rw [gR,dB,gR,dB,oX,oX]at h1
  rw [gR,dB,gR,dB,gR,dB,gR,dB,vS,dH,dH,dH]at h4
  obtain⟨k,o,l,r,rs,ro,a,b⟩:=x
  obtain⟨k',o',l',r',rs',ro',a',b'⟩:=y
  simp_all
 ·intro e
  have h1:qL x y=qL x x:=by rw [e];rfl
  have h2:tU x y=tU x x:=by rw [e];rfl
  have h3:=aG6.anti x x
  have h4:=aG5.anti x x
  refine⟨by omega,by rw [e],by rw [e],by omega⟩
end Go.Proofs.YtleihcnongldbaaGreatDoor
