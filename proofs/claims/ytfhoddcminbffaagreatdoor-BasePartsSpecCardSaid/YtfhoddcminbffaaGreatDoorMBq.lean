/-
  Terms: the order of axioms is total; few concepts are small.
  Conditions: none.
-/
import Derived.Test.YtfhoddcminbffaaGreatDoorMBp
import Derived.Test.YtfhoddcminbffaaGreatDoorMPh
set_option linter.unusedSectionVars false
set_option linter.unusedSimpArgs false
set_option linter.unusedVariables false
namespace Go.Proofs.YtfhoddcminbffaaGreatDoor
open Go.Proofs
mutual
theorem wJ: ∀(c:Cn) (d m:Int),lP c d m<=m->(aN c:Int)<=lP c d m
 | .mk k n lo hi ps,d,m=>by
  have e:aN (.mk k n lo hi ps)=gM ps+1:=cR _
  rw [lP]
  split
  ·omega
  ·intro h
   have h1:=wI ps (d - 1) m (1+(n.length:Int) / 40) h
   have h2:0<=(n.length:Int) / 40:=by omega
   rw [e];omega
theorem wI: ∀(l:List Cn) (d m t:Int),mT l d m t<=m->t+(gM l:Nat)<=mT l d m t
 | [],d,m,t=>by rw [mT];intro _;simp [gM,aZ]
 |c::r,d,m,t=>by
  rw [mT]
  split
  ·intro h
   have h1:=wI r d m _ h
   have h2:=wJ c d (m - t) (by omega)
   rw [bL];omega
  ·omega
end
theorem aDg {c:Cn}(h:aTr c=true):aN c<=150:=by
 have h1:lP c 40 150<=150:=of_decide_eq_true h
 have:=wJ c 40 150 h1
 omega
theorem aCz: ∀l,0<=pS l
 | []=>by simp [pS]
 |s::r=>by have:=aCz r;simp only [pS];omega
theorem aNl {x:Ax}(h:wA x=true):aN x.left<=150/\aN x.right<=150/\x.roles.length<=60:=by
 unfold wA at h
 simp only [Bool.and_eq_true,decide_eq_true_eq]at h
 obtain⟨⟨h1,h2⟩,h3⟩:=h
 have:=aCz (x.roles.take 100)
 unfold aRg at h1
 exact⟨aDg h2,aDg h3,by omega⟩
theorem aDu: ∀l m,cL l m= -1\/cL l m=0\/cL l m=1
 | [],[]=>by simp [cL]
 | [],_::_=>by simp [cL]
 |_::_,[]=>by simp [cL]
 |a::l,b::m=>by
  rw [cL]
  have:=LCk.str.rng a b
  have:=aDu l m
  split<;>omega
theorem zU: ∀l m,cL m l= - cL l m
 | [],[]=>by simp [cL]
 | [],_::_=>by simp [cL]
 |_::_,[]=>by simp [cL]
 |a::l,b::m=>by
  rw [cL,cL]
  have:=LCk.str.anti a b
  have:=zU l m
  split<;>split<;>omega
theorem aI3: ∀l m n,xB cL l m n
 | [],[],[]=>by simp [xB,cL]
 | [],[],_::_=>by simp [xB,cL]
 | [],_::_,[]=>by simp [xB,cL]
 | [],_::_,_::_=>by simp [xB,cL]
 |_::_,[],[]=>by simp [xB,cL]
 |_::_,[],_::_=>by simp [xB,cL]
 |_::_,_::_,[]=>by simp [xB,cL]
 |a::l,b::m,d::n=>by
  have a1:=LCk.str.t3 a b d
  have b1:=aI3 l m n
  have r1:=LCk.str.rng a b
  have r2:=LCk.str.rng b d
  have r3:=LCk.str.rng a d
  have a2:=LCk.str.t3 b d a
  have a3:=LCk.str.t3 d a b
  have n1:=LCk.str.anti a b
  have n2:=LCk.str.anti b d
  have n3:=LCk.str.anti a d
  unfold xB at *
  rw [cL,cL,cL]
  refine⟨?_, ?_, ?_⟩<;>(split<;>split<;>split<;>omega)
theorem aQ8:LCk cL:=⟨aDu,zU,aI3⟩
theorem zT: ∀{l m:List (List UInt8)},cL l m=0↔l=m
 | [],[]=>by simp [cL]
 | [],_::_=>by simp [cL]
 |_::_,[]=>by simp [cL]
 |a::l,b::m=>by
  rw [cL]
  have h1:= @dZ a b
  have h2:= @zT l m
  rw [List.cons.injEq]
  split
  ·rename_i h
   exact⟨λe=>absurd e h,λe=>absurd (h1.2 e.1) h⟩
  ·rename_i h
   have h:gB a b=0:=by omega
   exact⟨λe=>⟨h1.1 h,h2.1 e⟩,λe=>h2.2 e.2⟩
theorem aE3:LCk qP:=LCk.lex (LCk.int.of fN) (LCk.lex (LCk.int.of Ax.kind) LCk.zero)
theorem aE2:LCk sU:=LCk.lex (aQ8.of Ax.roles) (LCk.lex (LCk.str.of Ax.role) (LCk.lex (LCk.str.of Ax.a) (LCk.lex (LCk.str.of Ax.b) LCk.zero)))
theorem aNz (x y:Ax):aQ x y=lex (qP x y) (lex (gJ x.left y.left) (lex (gJ x.right y.right) (sU x y))):=rfl
theorem gV:LCk aQ:=LCk.lex aE3 (LCk.lex (aNy.of Ax.left) (LCk.lex (aNy.of Ax.right) aE2))
theorem aKi {x y:Ax}:aQ x y=0↔x={ y with isopen:=x.isopen }:=by
 rw [aNz,eQ,eQ,eQ,mW,mW]
 constructor
 ·rintro⟨h1,h2,h3,h4⟩
  unfold qP at h1
  unfold sU at h4
  rw [jL,eQ,jL,eQ,qI,qI]at h1
  rw [jL,eQ,jL,eQ,jL,eQ,jL,eQ,zT,dZ,dZ,dZ]at h4
  obtain⟨k,o,l,r,rs,ro,a,b⟩:=x
  obtain⟨k',o',l',r',rs',ro',a',b'⟩:=y
  simp_all
 ·intro e
  have h1:qP x y=qP x x:=by rw [e];rfl
  have h2:sU x y=sU x x:=by rw [e];rfl
  have h3:=aE3.anti x x
  have h4:=aE2.anti x x
  refine⟨by omega,by rw [e],by rw [e],by omega⟩
end Go.Proofs.YtfhoddcminbffaaGreatDoor
