/-
  Contracts at arguments of which more is known. A range over a function: the statement, and a round of it.
  Conditions: none.
-/
import Derived.Test.YtdjfkmkdkclahaaGreatDoorVSs
import Derived.RangeFuncNested
set_option linter.unusedSectionVars false
set_option linter.unusedSimpArgs false
set_option linter.unusedVariables false
namespace Go.Proofs.YtdjfkmkdkclahaaGreatDoor
open Go.RowKit
section
variable {P:Program}
def WkL:List SV->List SV->Prop
 | [],[]=>True
 |a::l,b::m=>Wk a b/\WkL l m
 |_,_=>False
theorem aVd {w:World}{ρ:Env}: ∀{asv bs:List SV}{vs:Array Value},WkL asv bs->cI w ρ asv vs->cI w ρ bs vs:=by
 have key: ∀(asv bs:List SV),WkL asv bs->asv.length=bs.length/\ ∀(j:Nat) (b:SV),bs[j]? =some b-> ∃a,asv[j]? =some a/\Wk a b:=by
  intro asv
  induction asv with
  |nil=>
   intro bs h
   cases bs with
   |nil=>exact⟨rfl,by simp⟩
   |cons=>exact h.elim
  |cons a l ih=>
   intro bs h
   cases bs with
   |nil=>exact h.elim
   |cons b m=>
    obtain⟨h1,h2⟩:=h
    obtain⟨i1,i2⟩:=ih m h2
    refine⟨by simp [i1],λj x hx=> ?_⟩
    cases j with
    |zero=>simp at hx;subst hx;exact⟨a,by simp,h1⟩
    |succ j=>simp at hx;obtain⟨y,y1,y2⟩:=i2 j x hx;exact⟨y,by simpa using y1,y2⟩
 intro asv bs vs h hr
 obtain⟨k1,k2⟩:=key asv bs h
 refine⟨hr.1.trans k1,λj b v hb hv=> ?_⟩
 obtain⟨a,a1,a2⟩:=k2 j b hb
 exact aVb a2 (hr.2 j a v a1 hv)
theorem Tri.weak {f:FuncId}{asv bs:List SV}{hp:Hp}{post:SV->Prop}(h:Tri P f bs hp post) (hw:WkL asv bs):Tri P f asv hp post:=
 λw ρ vs a b c=>h w ρ vs a (aVd hw b) c
end
end Go.Proofs.YtdjfkmkdkclahaaGreatDoor
namespace Go.Proofs.YtdjfkmkdkclahaaGreatDoor
open Go.RowKit
section
variable {P:Program}
theorem aL.mownH {C:Cfg}{c:Code}{fr:Fr}{hp:Hp}{K:Ex->Fr->Hp->Prop}(i id t e z:Nat) (hnil:aR hp i=some (.cells t [.d .nil])) (hfr:fC id C.pin fr hp)
  (h:aL C c fr ((id, .mrow e z 0 [])::dW hp i (.cells t [.mw id z 0])) K):aL C c fr hp K:=by
 intro E a w hpin hrd hsat
 obtain⟨h1,h2,ρ,h3,h4⟩:=hsat
 obtain⟨f1,f2,f3⟩:=hfr
 obtain⟨m1,m2,m3⟩:=h3.newMrow (id:=id) (e:=e) (z:=z) (cap:=0) (rows:=[]) (v:= .slice none 0 0) f3 (by rw [hpin];exact f1) (Grew.refl w) (.inl ⟨rfl,rfl,none,rfl⟩) (λg hg=>by simp [dJ]at hg)
 have hne:i≠id:= λe=>f3 (by subst e;exact bI hnil (.inl rfl))
 have hi':aR ((id,HObj.mrow e z 0 [])::hp) i=some (.cells t [.d .nil]):=by
  simp only [aR];rw [if_neg (Ne.symm hne)];exact hnil
 have m4 := m1.recell hi' (cs' := [.mw id z 0]) rfl (λj s' v hs' hv => by
  cases j with
  |zero=>
   simp at hs'
   subst hs'
   have:=(hv _ rfl).nil_inv
   subst this
   exact .mw id z 0 0 none (by simp) (by simp) (λh=>absurd rfl h) (by simp) (by simp [Env.retop])
  |succ j=>simp at hs')
 have e2:dW ((id,HObj.mrow e z 0 [])::hp) i (.cells t [.mw id z 0])=(id, .mrow e z 0 [])::dW hp i (.cells t [.mw id z 0]):=by
  simp only [dW];rw [if_neg (Ne.symm hne)]
 rw [e2]at m4
 exact h E a w hpin hrd ⟨h1,h2,_,m4,h4.mono (ρ':=ρ.retop id 0 (.slice none 0 0)) m2 (λ_ _ x=>x) λj hj=>m3 j λe=>f2 (e ▸ hj)⟩
end
end Go.Proofs.YtdjfkmkdkclahaaGreatDoor
