/-
  Terms: the order of axioms is total; few concepts are small.
  Conditions: none.
-/
import Derived.Test.YtbobcfjlbcgchaaGreatDoorWBp
import Derived.Test.YtbobcfjlbcgchaaGreatDoorWAr
set_option linter.unusedSectionVars false
set_option linter.unusedSimpArgs false
set_option linter.unusedVariables false
namespace Go.Proofs.YtbobcfjlbcgchaaGreatDoor
section
mutual
theorem aBj: ∀(c:Cn) (d m:Int),nO c d m<=m->(aM c:Int)<=nO c d m
 | .mk k n lo hi ps,d,m=>by
  have e:aM (.mk k n lo hi ps)=iA ps+1:=cP _
  rw [nO]
  split
  ·omega
  ·intro h
   have h1:=aBi ps (d - 1) m (1+(n.length:Int) / 40) h
   have h2:0<=(n.length:Int) / 40:=by omega
   rw [e];omega
theorem aBi: ∀(l:List Cn) (d m t:Int),qM l d m t<=m->t+(iA l:Nat)<=qM l d m t
 | [],d,m,t=>by rw [qM];intro _;simp [iA,aX]
 |c::r,d,m,t=>by
  rw [qM]
  split
  ·intro h
   have h1:=aBi r d m _ h
   have h2:=aBj c d (m - t) (by omega)
   rw [bP];omega
  ·omega
end
theorem aIg {c:Cn}(h:bCl c=true):aM c<=150:=by
 have a:nO c 40 150<=150:=of_decide_eq_true h
 have:=aBj c 40 150 a
 omega
theorem aI2: ∀l,0<=vC l
 | []=>by simp [vC]
 |s::r=>by have:=aI2 r;simp only [vC];omega
theorem aTw {x:Ax}(h:aCb x=true):aM x.left<=150/\aM x.right<=150/\x.roles.length<=60:=by
 unfold aCb at h
 simp only [Bool.and_eq_true,decide_eq_true_eq]at h
 obtain⟨⟨b,c⟩,a⟩:=h
 have:=aI2 (x.roles.take 100)
 unfold aZa at b
 exact⟨aIg c,aIg a,by omega⟩
theorem aIw: ∀l m,dA l m= -1\/dA l m=0\/dA l m=1
 | [],[]=>by simp [dA]
 | [],_::_=>by simp [dA]
 |_::_,[]=>by simp [dA]
 |a::l,b::m=>by
  rw [dA]
  have:=LCk.str.rng a b
  have:=aIw l m
  split<;>omega
theorem aE5: ∀l m,dA m l= - dA l m
 | [],[]=>by simp [dA]
 | [],_::_=>by simp [dA]
 |_::_,[]=>by simp [dA]
 |a::l,b::m=>by
  rw [dA,dA]
  have:=LCk.str.anti a b
  have:=aE5 l m
  split<;>split<;>omega
theorem aNc: ∀l m n,aBy dA l m n
 | [],[],[]=>by simp [aBy,dA]
 | [],[],_::_=>by simp [aBy,dA]
 | [],_::_,[]=>by simp [aBy,dA]
 | [],_::_,_::_=>by simp [aBy,dA]
 |_::_,[],[]=>by simp [aBy,dA]
 |_::_,[],_::_=>by simp [aBy,dA]
 |_::_,_::_,[]=>by simp [aBy,dA]
 |a::l,b::m,d::n=>by
  have a1:=LCk.str.t3 a b d
  have b1:=aNc l m n
  have r1:=LCk.str.rng a b
  have r2:=LCk.str.rng b d
  have r3:=LCk.str.rng a d
  have a2:=LCk.str.t3 b d a
  have a3:=LCk.str.t3 d a b
  have n1:=LCk.str.anti a b
  have n2:=LCk.str.anti b d
  have n3:=LCk.str.anti a d
  unfold aBy at *
  rw [dA,dA,dA]
  refine⟨?_, ?_, ?_⟩<;>(split<;>split<;>split<;>omega)
theorem aXo:LCk dA:=⟨aIw,aE5,aNc⟩
theorem aE4: ∀{l m:List (List UInt8)},dA l m=0↔l=m
 | [],[]=>by simp [dA]
 | [],_::_=>by simp [dA]
 |_::_,[]=>by simp [dA]
 |a::l,b::m=>by
  rw [dA]
  have c:= @eT a b
  have d:= @aE4 l m
  rw [List.cons.injEq]
  split
  ·rename_i h
   exact⟨λe=>absurd e h,λe=>absurd (c.2 e.1) h⟩
  ·rename_i h
   have h:hJ a b=0:=by omega
   exact⟨λe=>⟨c.1 h,d.1 e⟩,λe=>d.2 e.2⟩
theorem aJ7:LCk vW:=LCk.lex (LCk.int.of gL) (LCk.lex (LCk.int.of Ax.kind) LCk.zero)
theorem aJ6:LCk xW:=LCk.lex (aXo.of Ax.roles) (LCk.lex (LCk.str.of Ax.role) (LCk.lex (LCk.str.of Ax.a) (LCk.lex (LCk.str.of Ax.b) LCk.zero)))
theorem aUd (x y:Ax):fW x y=lex (vW x y) (lex (iG x.left y.left) (lex (iG x.right y.right) (xW x y))):=rfl
theorem aNh:LCk fW:=LCk.lex aJ7 (LCk.lex (aUc.of Ax.left) (LCk.lex (aUc.of Ax.right) aJ6))
theorem aE7 {x y:Ax}:fW x y=0↔x={ y with isopen:=x.isopen }:=by
 rw [aUd,fL,fL,fL,qP,qP]
 constructor
 ·rintro⟨c,f,g,d⟩
  unfold vW at c
  unfold xW at d
  rw [lE,fL,lE,fL,vQ,vQ]at c
  rw [lE,fL,lE,fL,lE,fL,lE,fL,aE4,eT,eT,eT]at d
  obtain⟨k,o,l,r,rs,ro,a,b⟩:=x
  obtain⟨k',o',l',r',rs',ro',a',b'⟩:=y
  simp_all
 ·intro e
  have c:vW x y=vW x x:=by rw [e];rfl
  have f:xW x y=xW x x:=by rw [e];rfl
  have g:=aJ7.anti x x
  have d:=aJ6.anti x x
  refine⟨by omega,by rw [e],by rw [e],by omega⟩
end
end Go.Proofs.YtbobcfjlbcgchaaGreatDoor
