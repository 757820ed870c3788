/-
  Terms: tidying keeps an axiom valid and adds no names; the names of valid axioms are names. Terms: has, within of the law; FewAxioms of the reference. Terms: within of the law. Terms: vocabularies are sorted without repetition, and are within one another as the law says. What encoding axioms, commits and alignments answers, and that both readers read it again; plain. A nil cell takes up rows of its own, at a call; contracts whose result says less.
  Conditions: none.
-/
import Derived.Test.YtdjfkmkdkclahaaGreatDoorVBt
import Derived.Test.YtdjfkmkdkclahaaGreatDoorVSyi
import Derived.Test.YtdjfkmkdkclahaaGreatDoorVXs
import Derived.Test.YtdjfkmkdkclahaaGreatDoorVSs
set_option linter.unnecessarySimpa false
set_option linter.unusedSectionVars false
set_option linter.unusedSimpArgs false
set_option linter.unusedVariables false
namespace Go.Proofs.YtdjfkmkdkclahaaGreatDoor
open Go.Proofs
end Go.Proofs.YtdjfkmkdkclahaaGreatDoor
namespace Go.Proofs.YtdjfkmkdkclahaaGreatDoor
open Go.Proofs
set_option maxRecDepth 10000
attribute [local irreducible] aL aH Tri aI YVC bP aS
end Go.Proofs.YtdjfkmkdkclahaaGreatDoor
namespace Go.Proofs.YtdjfkmkdkclahaaGreatDoor
open Go.Proofs
set_option maxRecDepth 10000
attribute [local irreducible] aL aH Tri aI YVC bP aS
end Go.Proofs.YtdjfkmkdkclahaaGreatDoor
namespace Go.Proofs.YtdjfkmkdkclahaaGreatDoor
open Go.Proofs
end Go.Proofs.YtdjfkmkdkclahaaGreatDoor
namespace Go.Proofs.YtdjfkmkdkclahaaGreatDoor
open Go.Proofs
theorem aH0 {α:Type}{E:α->Int}{w:α->List UInt8}{x:α}{d:List UInt8}(h:(if E x=0 then (w x,0)else ([],E x):List UInt8×Int)=(d,0)):E x=0/\w x=d:=by
 split at h
 ·rename_i e
  injection h with h _
  exact⟨e,h⟩
 ·rename_i e
  injection h with _ h
  exact absurd h e
theorem aH2 (z:Int):8<=(gK z).length:=by unfold gK;rw [aU];omega
theorem aNu (z:Int):(vS z).length=1:=aU ..
theorem vR (s:List UInt8):4<=(bR s).length:=by unfold bR;rw [List.length_append,aU];omega
theorem aK5 {α:Type}(w:α->List UInt8) (l:List α):4<=(bL w l).length:=by unfold bL;rw [List.length_append,aU];omega
section
variable {α β:Type}
end
end Go.Proofs.YtdjfkmkdkclahaaGreatDoor
namespace Go.Proofs.YtdjfkmkdkclahaaGreatDoor
open Go.RowKit
section
variable {P:Program}
theorem aH.ownH {pin:Pin}{fr:Fr}{hp:Hp}{f:FuncId}{args:List SV}{K:SV->Hp->Prop}(i id t e z:Nat) (hnil:aR hp i=some (.cells t [.d .nil])) (hfr:fC id pin fr hp) (hna:id∉SV.idsL args)
  (h:aH P pin fr ((id, .own e z 0)::dW hp i (.cells t [.osl id z []])) f args K):aH P pin fr hp f args K:=by
 intro E ρ w tm hpin h3 h4 vs hargs
 obtain⟨f1,f2,f3⟩:=hfr
 obtain⟨m1,m2,m3⟩:=h3.newNil (id:=id) e z f3 (by rw [hpin];exact f1)
 have hne:i≠id:= λe=>f3 (by subst e;exact bI hnil (.inl rfl))
 have hi':aR ((id,HObj.own e z 0)::hp) i=some (.cells t [.d .nil]):=by
  simp only [aR];rw [if_neg (Ne.symm hne)];exact hnil
 have m4 := m1.recell hi' (cs' := [.osl id z []]) rfl (λj s' v hs' hv => by
  cases j with
  |zero=>
   simp at hs'
   subst hs'
   have:=(hv (.d .nil) rfl).nil_inv
   subst this
   exact m3
  |succ j=>simp at hs')
 have e2:dW ((id,HObj.own e z 0)::hp) i (.cells t [.osl id z []])=(id, .own e z 0)::dW hp i (.cells t [.osl id z []]):=by
  simp only [dW];rw [if_neg (Ne.symm hne)]
 rw [e2]at m4
 have hidsA: ∀(l:List SV) (k:Nat),id∉SV.idsL l->id∉gC (dQ k l):=by
  intro l
  induction l with
  |nil=>intro k h;simp [dQ,gC]
  |cons s r ih=>
   intro k hn
   rw [SV.idsL,List.mem_append,not_or]at hn
   simp only [dQ,gC,List.flatMap_cons,List.mem_append,not_or]
   exact⟨hn.1,ih (k+1) hn.2⟩
 have hget: ∀(l:List SV) (k j:Nat) (s:SV),l[j]? =some s->dH (dQ k l) (k+j)=some s:=by
  intro l
  induction l with
  |nil=>intro k j s h;simp at h
  |cons x r ih=>
   intro k j s h
   cases j with
   |zero=>simp at h;subst h;simp [dQ,dH]
   |succ j=>
    simp at h
    have:=ih (k+1) j s h
    simp only [dQ,dH]
    rw [if_neg (by omega)]
    rw [show k+(j+1)=k+1+j by omega];exact this
 have hav:cJ ρ w (dQ 0 args) vs:=by
  intro u s hu
  obtain⟨_,q⟩:=dK args 0 u s hu
  simp only [Nat.sub_zero]at q
  have hlt:=(List.getElem?_eq_some_iff.1 q).1
  have hlt':u < vs.size:=by rw [hargs.1];exact hlt
  exact⟨vs[u],Array.getElem?_eq_getElem hlt',hargs.2 u s _ q (Array.getElem?_eq_getElem hlt')⟩
 have hav2:=m2 (dQ 0 args) vs (hidsA args 0 hna) hav
 refine h E _ w tm hpin m4 (m2 fr tm f2 h4) vs ⟨hargs.1,λj s v hs hv=> ?_⟩
 have h0:=hget args 0 j s hs
 rw [Nat.zero_add]at h0
 obtain⟨u,q1,q2⟩:=hav2 j s h0
 rw [hv]at q1
 injection q1 with q1
 rw [q1];exact q2
theorem Tri.says {f:FuncId}{args:List SV}{hp:Hp}{post:SV->Prop}(h:Tri P f args hp λs=> ∃s',bW s s'/\post s'):Tri P f args hp post:=
 λw ρ vs a b c=>(h w ρ vs a b c).mono λ_ _ ⟨v,S',s,h1,⟨s',h2,h3⟩,h4,h5,h6,h7,h8⟩=>⟨v,S',s',h1,h3,h4,h5,h6,h7,h2 _ _ _ h8⟩
theorem bW.tup {l m:List SV}(hl:l.length=m.length) (h: ∀(j:Nat) (a b:SV),l[j]? =some a->m[j]? =some b->bW a b):bW (.tup l) (.tup m):= λw ρ v hr=>by
 obtain⟨vs,rfl,h1,h2⟩:=hr.tup_inv
 refine .tup _ _ (h1.trans hl) λj b u hb hu=> ?_
 have hj:j < l.length:=by rw [hl];exact(List.getElem?_eq_some_iff.1 hb).1
 exact h j _ b (List.getElem?_eq_getElem hj) hb w ρ u (h2 j _ u (List.getElem?_eq_getElem hj) hu)
theorem bW.pair {a b c:SV}(h:bW a b):bW (.tup [a,c]) (.tup [b,c]):=bW.tup rfl λj x y hx hy=>by
 match j with
 | 0=>simp at hx hy;subst hx hy;exact h
 | 1=>simp at hx hy;subst hx hy;exact .refl _
 |j+2=>simp at hx
end
end Go.Proofs.YtdjfkmkdkclahaaGreatDoor
