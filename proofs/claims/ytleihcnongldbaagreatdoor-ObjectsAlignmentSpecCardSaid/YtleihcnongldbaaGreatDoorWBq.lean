/-
  Terms: the order of axioms is total; few concepts are small.
  Conditions: none.
-/
import Derived.Test.YtleihcnongldbaaGreatDoorWSne
import Derived.Test.YtleihcnongldbaaGreatDoorWSyi
set_option linter.unusedSectionVars false
set_option linter.unusedSimpArgs false
set_option linter.unusedVariables false
namespace Go.Proofs.YtleihcnongldbaaGreatDoor
open Go.Proofs
mutual
theorem yO: ∀(c:Cn) (d m:Int),mU c d m<=m->(bH c:Int)<=mU c d m
 | .mk k n lo hi ps,d,m=>by
  have e:bH (.mk k n lo hi ps)=aEc ps+1:=kA _
  rw [mU]
  split
  ·omega
  ·intro h
   have h1:=yN ps (d - 1) m (1+(n.length:Int) / 40) h
   have h2:0<=(n.length:Int) / 40:=by omega
   rw [e];omega
theorem yN: ∀(l:List Cn) (d m t:Int),oH l d m t<=m->t+(aEc l:Nat)<=oH l d m t
 | [],d,m,t=>by rw [oH];intro _;simp [aEc,bD]
 |c::r,d,m,t=>by
  rw [oH]
  split
  ·intro h
   have h1:=yN r d m _ h
   have h2:=yO c d (m - t) (by omega)
   rw [wV];omega
  ·omega
end
theorem aDh {c:Cn}(h:aT1 c=true):bH c<=150:=by
 have h1:mU c 40 150<=150:=of_decide_eq_true h
 have:=yO c 40 150 h1
 omega
theorem aD8: ∀l,0<=sO l
 | []=>by simp [sO]
 |s::r=>by have:=aD8 r;simp only [sO];omega
theorem aKt {x:Ax}(h:aC1 x=true):bH x.left<=150/\bH x.right<=150/\x.roles.length<=60:=by
 unfold aC1 at h
 simp only [Bool.and_eq_true,decide_eq_true_eq]at h
 obtain⟨⟨h1,h2⟩,h3⟩:=h
 have:=aD8 (x.roles.take 100)
 unfold aPx at h1
 exact⟨aDh h2,aDh h3,by omega⟩
theorem aDo: ∀l m,dG l m= -1\/dG l m=0\/dG l m=1
 | [],[]=>by simp [dG]
 | [],_::_=>by simp [dG]
 |_::_,[]=>by simp [dG]
 |a::l,b::m=>by
  rw [dG]
  have:=LCk.str.rng a b
  have:=aDo l m
  split<;>omega
theorem aAr: ∀l m,dG m l= - dG l m
 | [],[]=>by simp [dG]
 | [],_::_=>by simp [dG]
 |_::_,[]=>by simp [dG]
 |a::l,b::m=>by
  rw [dG,dG]
  have:=LCk.str.anti a b
  have:=aAr l m
  split<;>split<;>omega
theorem aGc: ∀l m n,aGp dG l m n
 | [],[],[]=>by simp [aGp,dG]
 | [],[],_::_=>by simp [aGp,dG]
 | [],_::_,[]=>by simp [aGp,dG]
 | [],_::_,_::_=>by simp [aGp,dG]
 |_::_,[],[]=>by simp [aGp,dG]
 |_::_,[],_::_=>by simp [aGp,dG]
 |_::_,_::_,[]=>by simp [aGp,dG]
 |a::l,b::m,d::n=>by
  have a1:=LCk.str.t3 a b d
  have b1:=aGc l m n
  have r1:=LCk.str.rng a b
  have r2:=LCk.str.rng b d
  have r3:=LCk.str.rng a d
  have a2:=LCk.str.t3 b d a
  have a3:=LCk.str.t3 d a b
  have n1:=LCk.str.anti a b
  have n2:=LCk.str.anti b d
  have n3:=LCk.str.anti a d
  unfold aGp at *
  rw [dG,dG,dG]
  refine⟨?_, ?_, ?_⟩<;>(split<;>split<;>split<;>omega)
theorem aO1:LCk dG:=⟨aDo,aAr,aGc⟩
theorem aAq: ∀{l m:List (List UInt8)},dG l m=0↔l=m
 | [],[]=>by simp [dG]
 | [],_::_=>by simp [dG]
 |_::_,[]=>by simp [dG]
 |a::l,b::m=>by
  rw [dG]
  have h1:= @eU a b
  have h2:= @aAq l m
  rw [List.cons.injEq]
  split
  ·rename_i h
   exact⟨λe=>absurd e h,λe=>absurd (h1.2 e.1) h⟩
  ·rename_i h
   have h:gK a b=0:=by omega
   exact⟨λe=>⟨h1.1 h,h2.1 e⟩,λe=>h2.2 e.2⟩
theorem aLi:LCk uZ:=LCk.lex (LCk.int.of gN) (LCk.lex (LCk.int.of Ax.kind) LCk.zero)
theorem aLh:LCk yW:=LCk.lex (aO1.of Ax.roles) (LCk.lex (LCk.str.of Ax.role) (LCk.lex (LCk.str.of Ax.a) (LCk.lex (LCk.str.of Ax.b) LCk.zero)))
theorem aL9 (x y:Ax):aI5 x y=lex (uZ x y) (lex (yR x.left y.left) (lex (yR x.right y.right) (yW x y))):=rfl
theorem aI4 {x y:Ax}:aI5 x y=0↔x={ y with isopen:=x.isopen }:=by
 rw [aL9,eE,eE,eE,aDr,aDr]
 constructor
 ·rintro⟨h1,h2,h3,h4⟩
  unfold uZ at h1
  unfold yW at h4
  rw [jB,eE,jB,eE,tE,tE]at h1
  rw [jB,eE,jB,eE,jB,eE,jB,eE,aAq,eU,eU,eU]at h4
  obtain⟨k,o,l,r,rs,ro,a,b⟩:=x
  obtain⟨k',o',l',r',rs',ro',a',b'⟩:=y
  simp_all
 ·intro e
  have h1:uZ x y=uZ x x:=by rw [e];rfl
  have h2:yW x y=yW x x:=by rw [e];rfl
  have h3:=aLi.anti x x
  have h4:=aLh.anti x x
  refine⟨by omega,by rw [e],by rw [e],by omega⟩
end Go.Proofs.YtleihcnongldbaaGreatDoor
