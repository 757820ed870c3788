/-
  Terms: CheckAxiom. The order of strings, in plain Lean. Terms: the weight of an axiom, and the library's comparisons. Terms: the library's comparisons of numbers, strings and lists. Terms: the tree of a concept: grow.
  Conditions: none.
-/
import Derived.Test.YtcomlapnibckmaaGreatDoorVA8
import Derived.Test.YtcomlapnibckmaaGreatDoorVSw
set_option linter.unusedSectionVars false
set_option linter.unusedSimpArgs false
set_option linter.unusedVariables false
set_option maxHeartbeats 8000000
namespace Go.Proofs.YtcomlapnibckmaaGreatDoor
open Go.Proofs
set_option maxRecDepth 10000
attribute [local irreducible] aN aH Tri aF YVC cM bB
def aHc (x:Ax):Bool:=if x.kind=2 then (mF x.left || mF x.right)else if x.kind=1\/x.kind=4\/x.kind=8 then mF x.right else false
def rH (u:Use) (x:Ax):Int:=
 if mY u x=false then 20
 else if u.left=true/\cI x.left≠0 then cI x.left
 else if u.right=true/\cI x.right≠0 then cI x.right
 else if aHc x=true then 22 else 0
def cP (x:Ax):Int:=if bA x=false then 22 else rH (pO x.kind) x
theorem pK (x:Ax):Tri Tryz.prog 109 [.d (.agg (axR x))] NG (λr=>r= .d (.int .i64 (cP x))):=by
 have e1:=gC x.left
 have e2:=gC x.right
 have b1:=oK x.left
 have b2:=oK x.right
 rw [bO]at e1 e2 b1 b2
 refine aG false [1,3] hty Tryz.func109 rfl (kp [0,1,2,3,4,5,8,16,18,23,26,31,34,35,44,45,51]) [] _ _ _ (by simp [Tryz.f109]) (by decide) ?_
 ((conv=>whnf);repeat ((first|(intro hq;try simp only [lnS]at hq)|refine sI ?_|refine .intro _ (.intro rfl ?_));(conv=>whnf)))
 refine aD NG (sR x) ⟨rfl,rfl,trivial⟩ (λr hs=> ?_)
 subst hs
 cases hs:bA x
 ·((conv=>whnf);repeat' ((first|(intro hq;(try simp only [lnS]at hq);(try rewrite [List.length_map]))|refine sJ ?_|refine .intro _ (.intro rfl ?_)|refine exL (k:= ?_)|refine dwR ?_|((first|refine aB ?_ ?_|refine aC ?_ ?_)<;>intro hb<;>(first|exact ddX hb|try simp only [lnS]at hb))|(refine aA ?_ ?_<;>intro hb<;>try exact dsX hb))<;>(conv=>whnf)))
  rw [cP,if_pos hs];rfl
 ·have hE:cP x=rH (pO x.kind) x:=by rw [cP,if_neg (by simp [hs])]
  have hk:1<=x.kind/\x.kind<=9:=by
   unfold bA at hs
   split at hs
   ·cases hs
   ·omega
  rw [hE]
  have hrow:=aEz (k:=x.kind) hk
  generalize pO x.kind=u at hrow
  have hn:=uG x u
  clear hE
  ((conv=>whnf);repeat ((first|(refine cG (id:=91) hty rfl rfl rfl rfl rfl rfl rfl (by omega) (by omega) ?_)|(refine⟨_,hrow, ?_⟩)|(intro hq;try simp only [lnS]at hq)|refine sI ?_|refine .intro _ (.intro rfl ?_));(conv=>whnf)))
  refine aD [] hn trivial (λr hs=> ?_)
  subst hs
  cases hs2:mY u x
  ·((conv=>whnf);repeat' ((first|(intro hq;(try simp only [lnS]at hq);(try rewrite [List.length_map]))|refine sJ ?_|refine .intro _ (.intro rfl ?_)|refine exL (k:= ?_)|refine dwR ?_|((first|refine aB ?_ ?_|refine aC ?_ ?_)<;>intro hb<;>(first|exact ddX hb|try simp only [lnS]at hb))|(refine aA ?_ ?_<;>intro hb<;>try exact dsX hb))<;>(conv=>whnf)))
   rw [rH,if_pos hs2];rfl
  ·((conv=>whnf);repeat' ((first|(intro hq;(try simp only [lnS]at hq);(try rewrite [List.length_map]))|refine sJ ?_|refine .intro _ (.intro rfl ?_)|refine exL (k:= ?_)|(refine aD NG e1 ⟨rfl,rfl,trivial⟩ (λr hs=> ?_);subst hs)|(refine aD NG e2 ⟨rfl,rfl,trivial⟩ (λr hs=> ?_);subst hs)|(refine aD [] b1 trivial (λr hs=> ?_);subst hs)|(refine aD [] b2 trivial (λr hs=> ?_);subst hs)|refine dwR ?_|((first|refine aB ?_ ?_|refine aC ?_ ?_)<;>intro hb<;>(first|exact ddX hb|try simp only [lnS]at hb))|(refine aA ?_ ?_<;>intro hb<;>try exact dsX hb))<;>(conv=>whnf)))
   all_goals (refine uH (Eq.symm ?_);clear e1 e2 b1 b2 hrow hn;unfold rH aHc;simp_all)
   all_goals trace_state
end Go.Proofs.YtcomlapnibckmaaGreatDoor
namespace Go.Proofs.YtcomlapnibckmaaGreatDoor
def mI (a b:List UInt8):Int:=Lib.compareBytes a b
theorem rG: ∀(a b:List UInt8),mI a b= -1\/mI a b=0\/mI a b=1
 | [],[]=>by simp [mI,Lib.compareBytes]
 | [],_::_=>by simp [mI,Lib.compareBytes]
 |_::_,[]=>by simp [mI,Lib.compareBytes]
 |x::a,y::b=>by
  have:=rG a b
  unfold mI at this |-
  simp only [Lib.compareBytes]
  split
  ·exact .inl rfl
  ·split
   ·exact .inr (.inr rfl)
   ·exact this
theorem pI: ∀(a b:List UInt8),mI a b=0↔a=b
 | [],[]=>by simp [mI,Lib.compareBytes]
 | [],_::_=>by simp [mI,Lib.compareBytes]
 |_::_,[]=>by simp [mI,Lib.compareBytes]
 |x::a,y::b=>by
  have ih:=pI a b
  unfold mI at ih |-
  simp only [Lib.compareBytes,List.cons.injEq]
  split
  ·rename_i h
   constructor
   ·intro h;omega
   ·rintro⟨rfl,_⟩;exact absurd h (UInt8.lt_irrefl x)
  ·split
   ·rename_i h
    constructor
    ·intro h;omega
    ·rintro⟨rfl,_⟩;exact absurd h (UInt8.lt_irrefl x)
   ·rename_i h1 h2
    rw [ih]
    have:x=y:=UInt8.le_antisymm (UInt8.not_lt.1 h2) (UInt8.not_lt.1 h1)
    simp [this]
theorem uQ: ∀(a b:List UInt8),mI b a= - mI a b
 | [],[]=>by simp [mI,Lib.compareBytes]
 | [],_::_=>by simp [mI,Lib.compareBytes]
 |_::_,[]=>by simp [mI,Lib.compareBytes]
 |x::a,y::b=>by
  have ih:=uQ a b
  unfold mI at ih |-
  simp only [Lib.compareBytes]
  by_cases h1:x < y
  ·have h2:¬ y < x:= λh=>UInt8.lt_irrefl x (UInt8.lt_trans h1 h)
   simp [h1,h2]
  ·by_cases h2:y < x
   ·simp [h1,h2]
   ·simp [h1,h2,ih]
theorem rF: ∀(a b c:List UInt8),mI a b < 0->mI b c < 0->mI a c < 0
 | [],[],c,h,_=>by simp [mI,Lib.compareBytes]at h
 | [],_::_,[],_,h=>by simp [mI,Lib.compareBytes]at h
 | [],_::_,_::_,_,_=>by simp [mI,Lib.compareBytes]
 |_::_,[],c,h,_=>by simp [mI,Lib.compareBytes]at h
 |_::_,_::_,[],_,h=>by simp [mI,Lib.compareBytes]at h
 |x::a,y::b,z::c,h1,h2=>by
  have ih:=rF a b c
  unfold mI at ih h1 h2 |-
  simp only [Lib.compareBytes]at h1 h2 |-
  by_cases hxy:x < y
  ·by_cases hyz:y < z
   ·simp [UInt8.lt_trans hxy hyz]
   ·by_cases hzy:z < y
    ·simp [hyz,hzy]at h2
    ·have:y=z:=UInt8.le_antisymm (UInt8.not_lt.1 hzy) (UInt8.not_lt.1 hyz)
     subst this;simp [hxy]
  ·by_cases hyx:y < x
   ·simp [hxy,hyx]at h1
   ·have:x=y:=UInt8.le_antisymm (UInt8.not_lt.1 hyx) (UInt8.not_lt.1 hxy)
    subst this
    simp only [hxy,if_false]at h1
    by_cases hyz:x < z
    ·simp [hyz]
    ·by_cases hzy:z < x
     ·simp [hyz,hzy]at h2
     ·simp only [hyz,hzy,if_false]at h2 |-
      exact ih h1 h2
end Go.Proofs.YtcomlapnibckmaaGreatDoor
namespace Go.Proofs.YtcomlapnibckmaaGreatDoor
open Go.Proofs
set_option maxRecDepth 10000
attribute [local irreducible] aN aH Tri aF YVC cM bB
end Go.Proofs.YtcomlapnibckmaaGreatDoor
namespace Go.Proofs.YtcomlapnibckmaaGreatDoor
open Go.Proofs
set_option maxRecDepth 10000
attribute [local irreducible] aN aH Tri aF YVC cM bB
def aHt (a b:Int):Int:=if a < b then -1 else if b < a then 1 else 0
end Go.Proofs.YtcomlapnibckmaaGreatDoor
namespace Go.Proofs.YtcomlapnibckmaaGreatDoor
open Go.Proofs
set_option maxRecDepth 10000
attribute [local irreducible] aN aH Tri aF YVC cM bB
theorem aCs (c:Cn):nF c=(bZ c.parts).length+1:=by rw [nF,iV];simp
end Go.Proofs.YtcomlapnibckmaaGreatDoor
