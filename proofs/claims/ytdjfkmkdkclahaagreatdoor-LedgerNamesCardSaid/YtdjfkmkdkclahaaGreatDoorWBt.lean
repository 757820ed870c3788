/-
  The library's sorts, as they lie in this program. Terms: tidy and meet. Terms: Tidy and TidyAxiom. Valid concepts and axioms can be written and read; plain. The keys of a set of strings, collected and sorted: maps.Keys, slices.AppendSeq, slices.Collect, slices.Sorted. Terms: Vocabulary. Terms: the vocabulary, plainly: whose names it holds. Terms: tidying keeps a concept valid and adds no names. Terms: what a valid concept and a valid axiom are; tidying keeps axioms valid.
  Conditions: none.
-/
import Derived.Test.YtdjfkmkdkclahaaGreatDoorWSng
import Derived.Test.YtdjfkmkdkclahaaGreatDoorWTy
import Derived.Test.YtdjfkmkdkclahaaGreatDoorWSw
import Derived.Test.YtdjfkmkdkclahaaGreatDoorWLzp
import Derived.Ground.SlsfProg
import Derived.Ground.NamesProg
import Derived.Test.YtdjfkmkdkclahaaGreatDoorWTcy
import Derived.Test.YtdjfkmkdkclahaaGreatDoorWA7
import Derived.Sort.KeysCollected
import Derived.Test.YtdjfkmkdkclahaaGreatDoorWOb
set_option linter.unnecessarySimpa false
set_option linter.unusedSectionVars false
set_option linter.unusedSimpArgs false
set_option linter.unusedVariables false
namespace Go.Proofs.YtdjfkmkdkclahaaGreatDoor
section
open Go.Proofs Go.Shelf Go.Sort
set_option maxRecDepth 10000
end
section
open Go.Proofs
set_option maxRecDepth 10000
theorem Tri.resT {P:Program}{f:FuncId}{qs:List SV}{hp:Hp}{post post':SV->Prop}(h:Tri P f qs hp post) (hw: ∀s,post s->post' s\/ ∃ss ss',s= .tup ss/\aMp ss ss'/\post' (.tup ss')):Tri P f qs hp post':=by
 unfold Tri at h |-
 intro w ρ vs a b c
 refine(h w ρ vs a b c).mono ?_
 rintro e w' ⟨v,S',s,rfl,hp,h1,h2,h3,h4,hr⟩
 rcases hw s hp with hp'|⟨ss,ss',rfl,hwk,hp'⟩
 ·exact⟨v,S',_,rfl,hp',h1,h2,h3,h4,hr⟩
 obtain⟨us,e1,hl,hh⟩:=hr.tup_inv
 obtain⟨k1,k2⟩:=aH4 _ _ hwk
 refine⟨v,S',_,rfl,hp',h1,h2,h3,h4, ?_⟩
 rw [e1]
 refine .tup _ _ (by omega) λj q u hq hu=> ?_
 obtain⟨q0,r1,r2⟩:=k2 j q hq
 exact aNz r2 (hh j q0 u r1 hu)
attribute [local irreducible] aH aF Tri aD YVC bO aP
theorem aOj {i z a b:Nat}(h:a=b):Wk (.mw i z a) (.mw i z b):=by subst h;exact rfl
end
section
open Go.Proofs
set_option maxRecDepth 10000
attribute [local irreducible] aH aF Tri aD YVC bO aP
def a0:Ax:=⟨0,false,c0,c0,[],[],[],[]⟩
end
section
open Go.Proofs
theorem aD4 {s:List UInt8}(h:fP s=true):s.length<=24:=by
 unfold fP at h
 rw [Bool.and_eq_true]at h
 exact of_decide_eq_true h.1
theorem aI4 {s:List UInt8}(h:wI s=true):s.length<=24:=by
 unfold wI at h
 simp only [Bool.and_eq_true,decide_eq_true_eq]at h
 exact h.2.1
theorem xZ {s:List UInt8}(h:cQ s=true):s.length<=24:=by
 unfold cQ at h
 rcases Bool.or_eq_true_iff.1 h with h|h
 ·exact aD4 h
 ·exact aI4 h
theorem oI {α:Type}{w:α->List UInt8}{k:Nat}: ∀{l:List α},(∀x∈l,(w x).length<=k)->((l.map w).flatten).length<=l.length * k
 | [],_=>by simp
 |x::r,h=>by
  have h1:=h x (List.mem_cons_self ..)
  have h2:=oI (l:=r) λy hy=>h y (List.mem_cons_of_mem _ hy)
  rw [List.map_cons,List.flatten_cons,List.length_append,List.length_cons,Nat.add_mul]
  omega
end
section
open Go.Proofs
set_option maxRecDepth 10000
attribute [local irreducible] aH aF Tri aD YVC bO aP
theorem aIv:fS []=[]:=rfl
theorem aG2 (k:Nat) (s:SV) (r:Fr):fS ((k,s)::r)=s.ids++fS r:=rfl
theorem aAl (v:Value):(ofV v).ids=[]:=by
 unfold ofV
 split<;>(try split)<;>rfl
def aEo (ks:List (List UInt8)):List (List UInt8):=ks.mergeSort λx y=>decide (x<=y)
end
section
open Go.Proofs
set_option maxRecDepth 10000
attribute [local irreducible] aH aF Tri aD YVC bO aP
structure PairN (v:Nm) (e:Int) (s:SV):Prop where
 ex: ∃a,s= .tup [.d a, .d (.int .i64 e)]/\(a= .agg (nmR v)\/WkD a (.agg (nmR v)))
theorem Tri.pairN {P:Program}{f:FuncId}{qs:List SV}{hp:Hp}{v:Nm}{e:Int}(h:Tri P f qs hp (PairN v e)):Tri P f qs hp (λr=>r= .tup [.d (.agg (nmR v)), .d (.int .i64 e)]):=by
 refine Tri.resT h ?_
 rintro s ⟨a,rfl,rfl|hw⟩
 ·exact .inl rfl
 ·exact .inr ⟨_,[.d (.agg (nmR v)), .d (.int .i64 e)],rfl,⟨hw,by exact rfl,trivial⟩,rfl⟩
theorem nmH {t:Nat}{r:Hp}(h:t∉jP r) {B:Prop}(b:B):t∉jP r/\B:=⟨h,b⟩
theorem frH {id:Nat}{pin:Pin}{fr:Fr}{hp:Hp}(h:fA id pin fr hp) {B:Prop}(b:B):fA id pin fr hp/\B:=⟨h,b⟩
end
section
open Go.Proofs
def aPs (k:Int) (c:Cn) (s:List UInt8):Prop:= ∃n∈aLh c,n.kind=k/\n.name=s
end
section
open Go.Proofs
def Okn (c:Cn):Prop:= ∀x∈aLh c,aLx x=0
def aHa (t c:Cn):Prop:= ∀k s,k≠1->k≠5->aPs k t s->aPs k c s
structure Keep (c t:Cn):Prop where
 ok:Okn t
 dep:yX t<=yX c
 nam:aHa t c
 bare:aGx t=true->aGx c=true
structure Part (c m:Cn):Prop where
 ok:Okn m
 dep:yX m+1<=yX c
 nam:aHa m c
 bare:aGx m=true->aGx c=true
theorem Part.keep {c m:Cn}(h:Part c m):Keep c m:=⟨h.ok,by have:=h.dep;omega,h.nam,h.bare⟩
end
section
open Go.Proofs
end
end Go.Proofs.YtdjfkmkdkclahaaGreatDoor
