/-
  Terms: the shape and the names of an axiom. Terms: CheckAxiom. The order of strings, in plain Lean. Terms: the weight of an axiom, and the library's comparisons. Terms: the library's comparisons of numbers, strings and lists. Terms: the tree of a concept: grow.
  Conditions: none.
-/
import Derived.Test.YtdjfkmkdkclahaaGreatDoorWA7
import Derived.Test.YtdjfkmkdkclahaaGreatDoorWSw
set_option linter.unusedSectionVars false
set_option linter.unusedSimpArgs false
set_option linter.unusedVariables false
set_option maxHeartbeats 2000000
namespace Go.Proofs.YtdjfkmkdkclahaaGreatDoor
section
open Go.Proofs
set_option maxRecDepth 10000
attribute [local irreducible] aH aF Tri aD YVC bO aP
end
section
open Go.Proofs
set_option maxRecDepth 10000
attribute [local irreducible] aH aF Tri aD YVC bO aP
end
section
def dX (a b:List UInt8):Int:=Lib.compareBytes a b
theorem jR: ∀(a b:List UInt8),dX a b= -1\/dX a b=0\/dX a b=1
 | [],[]=>by simp [dX,Lib.compareBytes]
 | [],_::_=>by simp [dX,Lib.compareBytes]
 |_::_,[]=>by simp [dX,Lib.compareBytes]
 |x::a,y::b=>by
  have:=jR a b
  unfold dX at this |-
  simp only [Lib.compareBytes]
  split
  ·exact .inl rfl
  ·split
   ·exact .inr (.inr rfl)
   ·exact this
theorem cA: ∀(a b:List UInt8),dX a b=0↔a=b
 | [],[]=>by simp [dX,Lib.compareBytes]
 | [],_::_=>by simp [dX,Lib.compareBytes]
 |_::_,[]=>by simp [dX,Lib.compareBytes]
 |x::a,y::b=>by
  have ih:=cA a b
  unfold dX at ih |-
  simp only [Lib.compareBytes,List.cons.injEq]
  split
  ·rename_i h
   constructor
   ·intro h;omega
   ·rintro⟨rfl,_⟩;exact absurd h (UInt8.lt_irrefl x)
  ·split
   ·rename_i h
    constructor
    ·intro h;omega
    ·rintro⟨rfl,_⟩;exact absurd h (UInt8.lt_irrefl x)
   ·rename_i h1 h2
    rw [ih]
    have:x=y:=UInt8.le_antisymm (UInt8.not_lt.1 h2) (UInt8.not_lt.1 h1)
    simp [this]
theorem zD: ∀(a b:List UInt8),dX b a= - dX a b
 | [],[]=>by simp [dX,Lib.compareBytes]
 | [],_::_=>by simp [dX,Lib.compareBytes]
 |_::_,[]=>by simp [dX,Lib.compareBytes]
 |x::a,y::b=>by
  have ih:=zD a b
  unfold dX at ih |-
  simp only [Lib.compareBytes]
  by_cases h1:x < y
  ·have h2:¬ y < x:= λh=>UInt8.lt_irrefl x (UInt8.lt_trans h1 h)
   simp [h1,h2]
  ·by_cases h2:y < x
   ·simp [h1,h2]
   ·simp [h1,h2,ih]
theorem uG: ∀(a b c:List UInt8),dX a b < 0->dX b c < 0->dX a c < 0
 | [],[],c,h,_=>by simp [dX,Lib.compareBytes]at h
 | [],_::_,[],_,h=>by simp [dX,Lib.compareBytes]at h
 | [],_::_,_::_,_,_=>by simp [dX,Lib.compareBytes]
 |_::_,[],c,h,_=>by simp [dX,Lib.compareBytes]at h
 |_::_,_::_,[],_,h=>by simp [dX,Lib.compareBytes]at h
 |x::a,y::b,z::c,h1,h2=>by
  have ih:=uG a b c
  unfold dX at ih h1 h2 |-
  simp only [Lib.compareBytes]at h1 h2 |-
  by_cases hxy:x < y
  ·by_cases hyz:y < z
   ·simp [UInt8.lt_trans hxy hyz]
   ·by_cases hzy:z < y
    ·simp [hyz,hzy]at h2
    ·have:y=z:=UInt8.le_antisymm (UInt8.not_lt.1 hzy) (UInt8.not_lt.1 hyz)
     subst this;simp [hxy]
  ·by_cases hyx:y < x
   ·simp [hxy,hyx]at h1
   ·have:x=y:=UInt8.le_antisymm (UInt8.not_lt.1 hyx) (UInt8.not_lt.1 hxy)
    subst this
    simp only [hxy,if_false]at h1
    by_cases hyz:x < z
    ·simp [hyz]
    ·by_cases hzy:z < x
     ·simp [hyz,hzy]at h2
     ·simp only [hyz,hzy,if_false]at h2 |-
      exact ih h1 h2
theorem dI: ∀(a b:List UInt8),Op.bytesLess a b=decide (dX a b < 0)
 | [],[]=>by simp [dX,Lib.compareBytes,Op.bytesLess]
 | [],_::_=>by simp [dX,Lib.compareBytes,Op.bytesLess]
 |_::_,[]=>by simp [dX,Lib.compareBytes,Op.bytesLess]
 |x::a,y::b=>by
  have ih:=dI a b
  unfold dX at ih |-
  simp only [Lib.compareBytes,Op.bytesLess]
  by_cases h1:x < y
  ·simp [h1]
  ·by_cases h2:y < x
   ·have:¬ x=y:= λe=>UInt8.lt_irrefl x (by rw [<-e]at h2;exact h2)
    simp [h1,h2,this]
   ·have:x=y:=UInt8.le_antisymm (UInt8.not_lt.1 h2) (UInt8.not_lt.1 h1)
    subst this
    simp [ih]
end
section
open Go.Proofs
set_option maxRecDepth 10000
attribute [local irreducible] aH aF Tri aD YVC bO aP
end
section
open Go.Proofs
set_option maxRecDepth 10000
attribute [local irreducible] aH aF Tri aD YVC bO aP
def rY (a b:Int):Int:=if a < b then -1 else if b < a then 1 else 0
def orF:List Int->Int
 | []=>0
 |x::r=>if x≠0 then x else orF r
def aOa (n:Int):List D:=[.int .i64 n]
theorem aAi (a:Int):Tri Tryz.prog 238 [.d (.int .i64 a)] [] (λr=>r= .d (.bool false)):=by
 refine qG [] hty Tryz.func238 [0,2] ?_
 ((conv=>whnf);repeat' ((first|(intro hq;(try simp only [lnS]at hq);(try rewrite [List.length_map]))|refine sJ ?_|refine qE_ ?_|refine exL (k:=?_)|refine dwR ?_|((first|refine aB ?_ ?_|refine aC ?_ ?_)<;>intro hb<;>(first|exact ddX hb|try simp only [lnS]at hb))|(refine aA ?_ ?_<;>intro hb<;>try exact dsX hb))<;>(conv=>whnf)))
 all_goals first|rfl|(exact aJ (by simp))
theorem aAh (a:List UInt8):Tri Tryz.prog 197 [.d (.str a)] [] (λr=>r= .d (.bool false)):=by
 refine qG [] hty Tryz.func197 [0,2] ?_
 ((conv=>whnf);repeat' ((first|(intro hq;(try simp only [lnS]at hq);(try rewrite [List.length_map]))|refine sJ ?_|refine qE_ ?_|refine exL (k:=?_)|refine dwR ?_|((first|refine aB ?_ ?_|refine aC ?_ ?_)<;>intro hb<;>(first|exact ddX hb|try simp only [lnS]at hb))|(refine aA ?_ ?_<;>intro hb<;>try exact dsX hb))<;>(conv=>whnf)))
 all_goals first|rfl|(exact aJ (by simp))
theorem iC (a b:Int):Tri Tryz.prog 209 [.d (.int .i64 a), .d (.int .i64 b)] [] (λr=>r= .d (.int .i64 (rY a b))):=by
 refine qG [] hty Tryz.func209 [0,1,4,5,6,11,12,13,16,19] ?_
 ((conv=>whnf);repeat' ((first|(intro hq;(try simp only [lnS]at hq);(try rewrite [List.length_map]))|refine sJ ?_|refine qE_ ?_|refine exL (k:=?_)| refine qT (aAi _) ?_|refine dwR ?_|((first|refine aB ?_ ?_|refine aC ?_ ?_)<;>intro hb<;>(first|exact ddX hb|try simp only [lnS]at hb))|(refine aA ?_ ?_<;>intro hb<;>try exact dsX hb))<;>(conv=>whnf)))
 all_goals (refine fX (Eq.symm ?_);unfold rY;simp_all<;>omega)
theorem iB (a b:List UInt8):Tri Tryz.prog 210 [.d (.str a), .d (.str b)] [] (λr=>r= .d (.int .i64 (dX a b))):=by
 refine qG [] hty Tryz.func210 [0,1,4,5,6,11,12,13,16,19] ?_
 ((conv=>whnf);repeat' ((first|(intro hq;(try simp only [lnS]at hq);(try rewrite [List.length_map]))|refine sJ ?_|refine qE_ ?_|refine exL (k:=?_)| refine qT (aAh _) ?_|refine dwR ?_|((first|refine aB ?_ ?_|refine aC ?_ ?_)<;>intro hb<;>(first|exact ddX hb|try simp only [lnS]at hb))|(refine aA ?_ ?_<;>intro hb<;>try exact dsX hb))<;>(conv=>whnf)))
 all_goals (
  refine fX (Eq.symm ?_)
  have hr:=jR a b
  have hz:=cA a b)
 ·rw [dI,decide_eq_true_eq]at hb
  omega
 ·rename_i hb0
  rw [dI,decide_eq_false_iff_not]at hb0
  have:dX a b≠0:= λq=>by rw [hz.1 q]at hb;simp at hb
  omega
 ·rename_i hb0
  rw [dI,decide_eq_false_iff_not]at hb0
  rw [dI,decide_eq_false hb0]at hb
  exact hz.2 (by simpa using hb)
theorem aLb (l:List Int):Tri Tryz.prog 208 [.d (.sl 1 (l.map aOa))] [] (λr=>r= .d (.int .i64 (orF l))):=by
 refine qG [] hty Tryz.func208 [0,2,3,5,6,7,8,9,14] ?_
 ((conv=>whnf);repeat ((first |(intro hq;try simp only [lnS]at hq)|refine sI ?_|refine qE_ ?_);conv=>whnf))
 refine aG hty (λj:Nat=>([(3, .d (.int .i64 0)),(6, .d (.sl 1 (l.map aOa))),(7, .d (.int .i64 l.length)),(8, .d (.int .i64 j))],[])) (λj=>j<=l.length/\orF l=orF (l.drop j)) (λj=>l.length - j) 0 ⟨by omega,rfl⟩ ⟨by repeat' (first|exact trivial|exact rfl|(rw [List.length_map];exact rfl)|refine And.intro ?_ ?_),trivial⟩ ?_
 rintro j ⟨hj,hn⟩
 ((conv=>whnf);repeat ((first |(intro hq;try simp only [lnS]at hq)|refine sI ?_|refine qE_ ?_);conv=>whnf))
 refine aB (λh1=> ?_) (λh1=> ?_)
 ·have hjl:j < l.length:=by omega
  have hrow:(l.map aOa)[(j:Int).toNat]? =some (aOa l[j]):=aK hjl
  rw [List.drop_eq_getElem_cons hjl,orF]at hn
  generalize l[j]=x at hrow hn
  ((conv=>whnf);repeat' ((first|(intro hq;(try simp only [lnS]at hq);(try rewrite [List.length_map]))|refine sJ ?_|refine qE_ ?_|refine exL (k:=?_)| (refine⟨_,hrow, ?_⟩)|refine dwR ?_|((first|refine aB ?_ ?_|refine aC ?_ ?_)<;>intro hb<;>(first|exact ddX hb|try simp only [lnS]at hb))|(refine aA ?_ ?_<;>intro hb<;>try exact dsX hb))<;>(conv=>whnf)))
  ·rw [if_pos (by assumption)]at hn
   exact fX hn.symm
  ·rw [if_neg (by simpa using (by assumption:x=0))]at hn
   exact⟨j+1,⟨by omega,hn⟩,qO,qB,trivial⟩
 ·have hjl:j=l.length:=by omega
  subst hjl
  rw [List.drop_length,orF]at hn
  ((conv=>whnf);repeat' ((first|(intro hq;(try simp only [lnS]at hq);(try rewrite [List.length_map]))|refine sJ ?_|refine qE_ ?_|refine exL (k:=?_)|refine dwR ?_|((first|refine aB ?_ ?_|refine aC ?_ ?_)<;>intro hb<;>(first|exact ddX hb|try simp only [lnS]at hb))|(refine aA ?_ ?_<;>intro hb<;>try exact dsX hb))<;>(conv=>whnf)))
  exact fX hn.symm
end
section
open Go.Proofs
set_option maxRecDepth 10000
attribute [local irreducible] aH aF Tri aD YVC bO aP
end
end Go.Proofs.YtdjfkmkdkclahaaGreatDoor
