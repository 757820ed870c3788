/-
  Terms: CheckAxiom. The order of strings, in plain Lean. Terms: the weight of an axiom, and the library's comparisons. Terms: the library's comparisons of numbers, strings and lists. Terms: the tree of a concept: grow.
  Conditions: none.
-/
import Derived.Test.YtcomlapnibckmaaGreatDoorMA8
import Derived.Test.YtcomlapnibckmaaGreatDoorMSw
set_option linter.unusedSectionVars false
set_option linter.unusedSimpArgs false
set_option linter.unusedVariables false
set_option maxHeartbeats 8000000
namespace Go.Proofs.YtcomlapnibckmaaGreatDoor
open Go.Proofs
set_option maxRecDepth 10000
attribute [local irreducible] aL aG Tri aD YVC cP bB
def aGf (x:Ax):Bool:=if x.kind=2 then (lA x.left || lA x.right)else if x.kind=1\/x.kind=4\/x.kind=8 then lA x.right else false
def pT (u:Use) (x:Ax):Int:=
 if lP u x=false then 20
 else if u.left=true/\cD x.left≠0 then cD x.left
 else if u.right=true/\cD x.right≠0 then cD x.right
 else if aGf x=true then 22 else 0
def cJ (x:Ax):Int:=if aZ x=false then 22 else pT (oF x.kind) x
theorem nZ (x:Ax):Tri Tryz.prog 109 [.d (.agg (axR x))] NG (λr=>r= .d (.int .i64 (cJ x))):=by
 have e1:=fH x.left
 have e2:=fH x.right
 have b1:=nF x.left
 have b2:=nF x.right
 rw [bL]at e1 e2 b1 b2
 refine aH false [1,3] hty Tryz.func109 rfl (kp [0,1,2,3,4,5,8,16,18,23,26,31,34,35,44,45,51]) [] _ _ _ (by simp [Tryz.f109]) (by decide) ?_
 ((conv=>whnf);repeat ((first|(intro hq;try simp only [lnS]at hq)|refine sI ?_|refine .intro _ (.intro rfl ?_));(conv=>whnf)))
 refine aE NG (qV x) ⟨rfl,rfl,trivial⟩ (λr hs=> ?_)
 subst hs
 cases hs:aZ x
 ·((conv=>whnf);repeat' ((first|(intro hq;(try simp only [lnS]at hq);(try rewrite [List.length_map]))|refine sJ ?_|refine .intro _ (.intro rfl ?_)|refine exL (k:= ?_)|refine dwR ?_|((first|refine aB ?_ ?_|refine aC ?_ ?_)<;>intro hb<;>(first|exact ddX hb|try simp only [lnS]at hb))|(refine aA ?_ ?_<;>intro hb<;>try exact dsX hb))<;>(conv=>whnf)))
  rw [cJ,if_pos hs];rfl
 ·have hE:cJ x=pT (oF x.kind) x:=by rw [cJ,if_neg (by simp [hs])]
  have hk:1<=x.kind/\x.kind<=9:=by
   unfold aZ at hs
   split at hs
   ·cases hs
   ·omega
  rw [hE]
  have hrow:=aDw (k:=x.kind) hk
  generalize oF x.kind=u at hrow
  have hn:=sN x u
  clear hE
  ((conv=>whnf);repeat ((first|(refine bZ (id:=91) hty rfl rfl rfl rfl rfl rfl rfl (by omega) (by omega) ?_)|(refine⟨_,hrow, ?_⟩)|(intro hq;try simp only [lnS]at hq)|refine sI ?_|refine .intro _ (.intro rfl ?_));(conv=>whnf)))
  refine aE [] hn trivial (λr hs=> ?_)
  subst hs
  cases hs2:lP u x
  ·((conv=>whnf);repeat' ((first|(intro hq;(try simp only [lnS]at hq);(try rewrite [List.length_map]))|refine sJ ?_|refine .intro _ (.intro rfl ?_)|refine exL (k:= ?_)|refine dwR ?_|((first|refine aB ?_ ?_|refine aC ?_ ?_)<;>intro hb<;>(first|exact ddX hb|try simp only [lnS]at hb))|(refine aA ?_ ?_<;>intro hb<;>try exact dsX hb))<;>(conv=>whnf)))
   rw [pT,if_pos hs2];rfl
  ·((conv=>whnf);repeat' ((first|(intro hq;(try simp only [lnS]at hq);(try rewrite [List.length_map]))|refine sJ ?_|refine .intro _ (.intro rfl ?_)|refine exL (k:= ?_)|(refine aE NG e1 ⟨rfl,rfl,trivial⟩ (λr hs=> ?_);subst hs)|(refine aE NG e2 ⟨rfl,rfl,trivial⟩ (λr hs=> ?_);subst hs)|(refine aE [] b1 trivial (λr hs=> ?_);subst hs)|(refine aE [] b2 trivial (λr hs=> ?_);subst hs)|refine dwR ?_|((first|refine aB ?_ ?_|refine aC ?_ ?_)<;>intro hb<;>(first|exact ddX hb|try simp only [lnS]at hb))|(refine aA ?_ ?_<;>intro hb<;>try exact dsX hb))<;>(conv=>whnf)))
   all_goals (refine sO (Eq.symm ?_);clear e1 e2 b1 b2 hrow hn;unfold pT aGf;simp_all)
   all_goals trace_state
end Go.Proofs.YtcomlapnibckmaaGreatDoor
namespace Go.Proofs.YtcomlapnibckmaaGreatDoor
def lB (a b:List UInt8):Int:=Lib.compareBytes a b
theorem pS: ∀(a b:List UInt8),lB a b= -1\/lB a b=0\/lB a b=1
 | [],[]=>by simp [lB,Lib.compareBytes]
 | [],_::_=>by simp [lB,Lib.compareBytes]
 |_::_,[]=>by simp [lB,Lib.compareBytes]
 |x::a,y::b=>by
  have:=pS a b
  unfold lB at this |-
  simp only [Lib.compareBytes]
  split
  ·exact .inl rfl
  ·split
   ·exact .inr (.inr rfl)
   ·exact this
theorem nY: ∀(a b:List UInt8),lB a b=0↔a=b
 | [],[]=>by simp [lB,Lib.compareBytes]
 | [],_::_=>by simp [lB,Lib.compareBytes]
 |_::_,[]=>by simp [lB,Lib.compareBytes]
 |x::a,y::b=>by
  have ih:=nY a b
  unfold lB at ih |-
  simp only [Lib.compareBytes,List.cons.injEq]
  split
  ·rename_i h
   constructor
   ·intro h;omega
   ·rintro⟨rfl,_⟩;exact absurd h (UInt8.lt_irrefl x)
  ·split
   ·rename_i h
    constructor
    ·intro h;omega
    ·rintro⟨rfl,_⟩;exact absurd h (UInt8.lt_irrefl x)
   ·rename_i h1 h2
    rw [ih]
    have:x=y:=UInt8.le_antisymm (UInt8.not_lt.1 h2) (UInt8.not_lt.1 h1)
    simp [this]
theorem sW: ∀(a b:List UInt8),lB b a= - lB a b
 | [],[]=>by simp [lB,Lib.compareBytes]
 | [],_::_=>by simp [lB,Lib.compareBytes]
 |_::_,[]=>by simp [lB,Lib.compareBytes]
 |x::a,y::b=>by
  have ih:=sW a b
  unfold lB at ih |-
  simp only [Lib.compareBytes]
  by_cases h1:x < y
  ·have h2:¬ y < x:= λh=>UInt8.lt_irrefl x (UInt8.lt_trans h1 h)
   simp [h1,h2]
  ·by_cases h2:y < x
   ·simp [h1,h2]
   ·simp [h1,h2,ih]
theorem pR: ∀(a b c:List UInt8),lB a b < 0->lB b c < 0->lB a c < 0
 | [],[],c,h,_=>by simp [lB,Lib.compareBytes]at h
 | [],_::_,[],_,h=>by simp [lB,Lib.compareBytes]at h
 | [],_::_,_::_,_,_=>by simp [lB,Lib.compareBytes]
 |_::_,[],c,h,_=>by simp [lB,Lib.compareBytes]at h
 |_::_,_::_,[],_,h=>by simp [lB,Lib.compareBytes]at h
 |x::a,y::b,z::c,h1,h2=>by
  have ih:=pR a b c
  unfold lB at ih h1 h2 |-
  simp only [Lib.compareBytes]at h1 h2 |-
  by_cases hxy:x < y
  ·by_cases hyz:y < z
   ·simp [UInt8.lt_trans hxy hyz]
   ·by_cases hzy:z < y
    ·simp [hyz,hzy]at h2
    ·have:y=z:=UInt8.le_antisymm (UInt8.not_lt.1 hzy) (UInt8.not_lt.1 hyz)
     subst this;simp [hxy]
  ·by_cases hyx:y < x
   ·simp [hxy,hyx]at h1
   ·have:x=y:=UInt8.le_antisymm (UInt8.not_lt.1 hyx) (UInt8.not_lt.1 hxy)
    subst this
    simp only [hxy,if_false]at h1
    by_cases hyz:x < z
    ·simp [hyz]
    ·by_cases hzy:z < x
     ·simp [hyz,hzy]at h2
     ·simp only [hyz,hzy,if_false]at h2 |-
      exact ih h1 h2
end Go.Proofs.YtcomlapnibckmaaGreatDoor
namespace Go.Proofs.YtcomlapnibckmaaGreatDoor
open Go.Proofs
set_option maxRecDepth 10000
attribute [local irreducible] aL aG Tri aD YVC cP bB
end Go.Proofs.YtcomlapnibckmaaGreatDoor
namespace Go.Proofs.YtcomlapnibckmaaGreatDoor
open Go.Proofs
set_option maxRecDepth 10000
attribute [local irreducible] aL aG Tri aD YVC cP bB
def aGx (a b:Int):Int:=if a < b then -1 else if b < a then 1 else 0
end Go.Proofs.YtcomlapnibckmaaGreatDoor
namespace Go.Proofs.YtcomlapnibckmaaGreatDoor
open Go.Proofs
set_option maxRecDepth 10000
attribute [local irreducible] aL aG Tri aD YVC cP bB
theorem aBj (c:Cn):lY c=(bR c.parts).length+1:=by rw [lY,iY];simp
end Go.Proofs.YtcomlapnibckmaaGreatDoor
