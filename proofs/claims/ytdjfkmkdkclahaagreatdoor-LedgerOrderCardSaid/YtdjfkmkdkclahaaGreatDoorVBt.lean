/-
  The library's sorts, as they lie in this program. Terms: tidy and meet. Terms: Tidy and TidyAxiom. Valid concepts and axioms can be written and read; plain. The keys of a set of strings, collected and sorted: maps.Keys, slices.AppendSeq, slices.Collect, slices.Sorted. Terms: Vocabulary. Terms: the vocabulary, plainly: whose names it holds. Terms: tidying keeps a concept valid and adds no names. Terms: what a valid concept and a valid axiom are; tidying keeps axioms valid.
  Conditions: none.
-/
import Derived.Test.YtdjfkmkdkclahaaGreatDoorVSng
import Derived.Test.YtdjfkmkdkclahaaGreatDoorVTy
import Derived.Test.YtdjfkmkdkclahaaGreatDoorVSna
import Derived.Test.YtdjfkmkdkclahaaGreatDoorVLzp
import Derived.Ground.SlsfProg
import Derived.Ground.NamesProg
import Derived.Test.YtdjfkmkdkclahaaGreatDoorVSyn
import Derived.Test.YtdjfkmkdkclahaaGreatDoorVA1
import Derived.Sort.KeysCollected
import Derived.Test.YtdjfkmkdkclahaaGreatDoorVSyi
set_option linter.unnecessarySimpa false
set_option linter.unusedSectionVars false
set_option linter.unusedSimpArgs false
set_option linter.unusedVariables false
namespace Go.Proofs.YtdjfkmkdkclahaaGreatDoor
open Go.Proofs Go.Shelf Go.Sort
set_option maxRecDepth 10000
end Go.Proofs.YtdjfkmkdkclahaaGreatDoor
namespace Go.Proofs.YtdjfkmkdkclahaaGreatDoor
open Go.Proofs
set_option maxRecDepth 10000
theorem Tri.resT {P:Program}{f:FuncId}{qs:List SV}{hp:Hp}{post post':SV->Prop}(h:Tri P f qs hp post) (hw: ∀s,post s->post' s\/ ∃ss ss',s= .tup ss/\aTo ss ss'/\post' (.tup ss')):Tri P f qs hp post':=by
 unfold Tri at h |-
 intro w ρ vs a b c
 refine(h w ρ vs a b c).mono ?_
 rintro e w' ⟨v,S',s,rfl,hp,h1,h2,h3,h4,hr⟩
 rcases hw s hp with hp'|⟨ss,ss',rfl,hwk,hp'⟩
 ·exact⟨v,S',_,rfl,hp',h1,h2,h3,h4,hr⟩
 obtain⟨us,e1,hl,hh⟩:=hr.tup_inv
 obtain⟨k1,k2⟩:=aNd _ _ hwk
 refine⟨v,S',_,rfl,hp',h1,h2,h3,h4, ?_⟩
 rw [e1]
 refine .tup _ _ (by omega) λj q u hq hu=> ?_
 obtain⟨q0,r1,r2⟩:=k2 j q hq
 exact aVc r2 (hh j q0 u r1 hu)
attribute [local irreducible] aL aH Tri aI YVC bP aS
theorem aVx {i z a b:Nat}(h:a=b):Wk (.mw i z a) (.mw i z b):=by subst h;exact rfl
end Go.Proofs.YtdjfkmkdkclahaaGreatDoor
namespace Go.Proofs.YtdjfkmkdkclahaaGreatDoor
open Go.Proofs
set_option maxRecDepth 10000
attribute [local irreducible] aL aH Tri aI YVC bP aS
def a0:Ax:=⟨0,false,c0,c0,[],[],[],[]⟩
end Go.Proofs.YtdjfkmkdkclahaaGreatDoor
namespace Go.Proofs.YtdjfkmkdkclahaaGreatDoor
open Go.Proofs
theorem aJd {s:List UInt8}(h:fW s=true):s.length<=24:=by
 unfold fW at h
 rw [Bool.and_eq_true]at h
 exact of_decide_eq_true h.1
theorem aOh {s:List UInt8}(h:aDh s=true):s.length<=24:=by
 unfold aDh at h
 simp only [Bool.and_eq_true,decide_eq_true_eq]at h
 exact h.2.1
theorem qH {s:List UInt8}(h:cT s=true):s.length<=24:=by
 unfold cT at h
 rcases Bool.or_eq_true_iff.1 h with h|h
 ·exact aJd h
 ·exact aOh h
theorem jF {α:Type}{w:α->List UInt8}{k:Nat}: ∀{l:List α},(∀x∈l,(w x).length<=k)->((l.map w).flatten).length<=l.length * k
 | [],_=>by simp
 |x::r,h=>by
  have h1:=h x (List.mem_cons_self ..)
  have h2:=jF (l:=r) λy hy=>h y (List.mem_cons_of_mem _ hy)
  rw [List.map_cons,List.flatten_cons,List.length_append,List.length_cons,Nat.add_mul]
  omega
end Go.Proofs.YtdjfkmkdkclahaaGreatDoor
namespace Go.Proofs.YtdjfkmkdkclahaaGreatDoor
open Go.Proofs
set_option maxRecDepth 10000
attribute [local irreducible] aL aH Tri aI YVC bP aS
theorem aPd:gC []=[]:=rfl
theorem aM6 (k:Nat) (s:SV) (r:Fr):gC ((k,s)::r)=s.ids++gC r:=rfl
theorem aGo (v:Value):(ofV v).ids=[]:=by
 unfold ofV
 split<;>(try split)<;>rfl
def aKr (ks:List (List UInt8)):List (List UInt8):=ks.mergeSort λx y=>decide (x<=y)
end Go.Proofs.YtdjfkmkdkclahaaGreatDoor
namespace Go.Proofs.YtdjfkmkdkclahaaGreatDoor
open Go.Proofs
set_option maxRecDepth 10000
attribute [local irreducible] aL aH Tri aI YVC bP aS
structure PairN (v:Nm) (e:Int) (s:SV):Prop where
 ex: ∃a,s= .tup [.d a, .d (.int .i64 e)]/\(a= .agg (nmR v)\/WkD a (.agg (nmR v)))
theorem Tri.pairN {P:Program}{f:FuncId}{qs:List SV}{hp:Hp}{v:Nm}{e:Int}(h:Tri P f qs hp (PairN v e)):Tri P f qs hp (λr=>r= .tup [.d (.agg (nmR v)), .d (.int .i64 e)]):=by
 refine Tri.resT h ?_
 rintro s ⟨a,rfl,rfl|hw⟩
 ·exact .inl rfl
 ·exact .inr ⟨_,[.d (.agg (nmR v)), .d (.int .i64 e)],rfl,⟨hw,by exact rfl,trivial⟩,rfl⟩
theorem nmH {t:Nat}{r:Hp}(h:t∉lQ r) {B:Prop}(b:B):t∉lQ r/\B:=⟨h,b⟩
theorem frH {id:Nat}{pin:Pin}{fr:Fr}{hp:Hp}(h:fC id pin fr hp) {B:Prop}(b:B):fC id pin fr hp/\B:=⟨h,b⟩
end Go.Proofs.YtdjfkmkdkclahaaGreatDoor
namespace Go.Proofs.YtdjfkmkdkclahaaGreatDoor
open Go.Proofs
def aXc (k:Int) (c:Cn) (s:List UInt8):Prop:= ∃n∈aSd c,n.kind=k/\n.name=s
end Go.Proofs.YtdjfkmkdkclahaaGreatDoor
namespace Go.Proofs.YtdjfkmkdkclahaaGreatDoor
open Go.Proofs
def Okn (c:Cn):Prop:= ∀x∈aSd c,aSr x=0
def aNj (t c:Cn):Prop:= ∀k s,k≠1->k≠5->aXc k t s->aXc k c s
structure Keep (c t:Cn):Prop where
 ok:Okn t
 dep:aFe t<=aFe c
 nam:aNj t c
 bare:aN6 t=true->aN6 c=true
structure Part (c m:Cn):Prop where
 ok:Okn m
 dep:aFe m+1<=aFe c
 nam:aNj m c
 bare:aN6 m=true->aN6 c=true
theorem Part.keep {c m:Cn}(h:Part c m):Keep c m:=⟨h.ok,by have:=h.dep;omega,h.nam,h.bare⟩
end Go.Proofs.YtdjfkmkdkclahaaGreatDoor
namespace Go.Proofs.YtdjfkmkdkclahaaGreatDoor
open Go.Proofs
end Go.Proofs.YtdjfkmkdkclahaaGreatDoor
