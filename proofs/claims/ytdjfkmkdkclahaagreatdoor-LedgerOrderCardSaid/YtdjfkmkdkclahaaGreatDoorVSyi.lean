/-
  Terms: CheckAxiom. The order of strings, in plain Lean. Terms: the weight of an axiom, and the library's comparisons. Terms: the library's comparisons of numbers, strings and lists. Terms: the tree of a concept: grow. Statements whose order is open: a head of reads and calls in any order, then a tail that is forced. Terms: the order of concepts: compare and Compare. Terms: Compare. Terms: CompareAxiom. Terms: the reference's SameList, Same, SameAxiom. Terms: the reference's Same. Terms: the reference's SameAxiom. Terms: the reference's SameNames. Terms: the reference's count and Few. Terms: the reference's FewAxiom. Terms: the types that come in, what their data are, and what the laid variables hold. More operations: a slice as a pointer to an array; a value in an interface.
  Conditions: none.
-/
import Derived.Test.YtdjfkmkdkclahaaGreatDoorVA8
import Derived.Test.YtdjfkmkdkclahaaGreatDoorVSna
import Derived.Test.YtdjfkmkdkclahaaGreatDoorVSs
import Derived.Test.YtdjfkmkdkclahaaGreatDoorRows
import Derived.LaidHandle
import Derived.MakeChecks
import Derived.Test.YtdjfkmkdkclahaaGreatDoorVA1
set_option linter.unnecessarySimpa false
set_option linter.unusedSectionVars false
set_option linter.unusedSimpArgs false
set_option linter.unusedVariables false
set_option maxHeartbeats 2000000
namespace Go.Proofs.YtdjfkmkdkclahaaGreatDoor
open Go.Proofs
set_option maxRecDepth 10000
attribute [local irreducible] aL aH Tri aI YVC bP aS
end Go.Proofs.YtdjfkmkdkclahaaGreatDoor
namespace Go.Proofs.YtdjfkmkdkclahaaGreatDoor
def eG (a b:List UInt8):Int:=Lib.compareBytes a b
theorem lT: ∀(a b:List UInt8),eG a b= -1\/eG a b=0\/eG a b=1
 | [],[]=>by simp [eG,Lib.compareBytes]
 | [],_::_=>by simp [eG,Lib.compareBytes]
 |_::_,[]=>by simp [eG,Lib.compareBytes]
 |x::a,y::b=>by
  have:=lT a b
  unfold eG at this |-
  simp only [Lib.compareBytes]
  split
  ·exact .inl rfl
  ·split
   ·exact .inr (.inr rfl)
   ·exact this
theorem cM: ∀(a b:List UInt8),eG a b=0↔a=b
 | [],[]=>by simp [eG,Lib.compareBytes]
 | [],_::_=>by simp [eG,Lib.compareBytes]
 |_::_,[]=>by simp [eG,Lib.compareBytes]
 |x::a,y::b=>by
  have ih:=cM a b
  unfold eG at ih |-
  simp only [Lib.compareBytes,List.cons.injEq]
  split
  ·rename_i h
   constructor
   ·intro h;omega
   ·rintro⟨rfl,_⟩;exact absurd h (UInt8.lt_irrefl x)
  ·split
   ·rename_i h
    constructor
    ·intro h;omega
    ·rintro⟨rfl,_⟩;exact absurd h (UInt8.lt_irrefl x)
   ·rename_i h1 h2
    rw [ih]
    have:x=y:=UInt8.le_antisymm (UInt8.not_lt.1 h2) (UInt8.not_lt.1 h1)
    simp [this]
theorem aFj: ∀(a b:List UInt8),eG b a= - eG a b
 | [],[]=>by simp [eG,Lib.compareBytes]
 | [],_::_=>by simp [eG,Lib.compareBytes]
 |_::_,[]=>by simp [eG,Lib.compareBytes]
 |x::a,y::b=>by
  have ih:=aFj a b
  unfold eG at ih |-
  simp only [Lib.compareBytes]
  by_cases h1:x < y
  ·have h2:¬ y < x:= λh=>UInt8.lt_irrefl x (UInt8.lt_trans h1 h)
   simp [h1,h2]
  ·by_cases h2:y < x
   ·simp [h1,h2]
   ·simp [h1,h2,ih]
theorem aBu: ∀(a b c:List UInt8),eG a b < 0->eG b c < 0->eG a c < 0
 | [],[],c,h,_=>by simp [eG,Lib.compareBytes]at h
 | [],_::_,[],_,h=>by simp [eG,Lib.compareBytes]at h
 | [],_::_,_::_,_,_=>by simp [eG,Lib.compareBytes]
 |_::_,[],c,h,_=>by simp [eG,Lib.compareBytes]at h
 |_::_,_::_,[],_,h=>by simp [eG,Lib.compareBytes]at h
 |x::a,y::b,z::c,h1,h2=>by
  have ih:=aBu a b c
  unfold eG at ih h1 h2 |-
  simp only [Lib.compareBytes]at h1 h2 |-
  by_cases hxy:x < y
  ·by_cases hyz:y < z
   ·simp [UInt8.lt_trans hxy hyz]
   ·by_cases hzy:z < y
    ·simp [hyz,hzy]at h2
    ·have:y=z:=UInt8.le_antisymm (UInt8.not_lt.1 hzy) (UInt8.not_lt.1 hyz)
     subst this;simp [hxy]
  ·by_cases hyx:y < x
   ·simp [hxy,hyx]at h1
   ·have:x=y:=UInt8.le_antisymm (UInt8.not_lt.1 hyx) (UInt8.not_lt.1 hxy)
    subst this
    simp only [hxy,if_false]at h1
    by_cases hyz:x < z
    ·simp [hyz]
    ·by_cases hzy:z < x
     ·simp [hyz,hzy]at h2
     ·simp only [hyz,hzy,if_false]at h2 |-
      exact ih h1 h2
theorem dN: ∀(a b:List UInt8),Op.bytesLess a b=decide (eG a b < 0)
 | [],[]=>by simp [eG,Lib.compareBytes,Op.bytesLess]
 | [],_::_=>by simp [eG,Lib.compareBytes,Op.bytesLess]
 |_::_,[]=>by simp [eG,Lib.compareBytes,Op.bytesLess]
 |x::a,y::b=>by
  have ih:=dN a b
  unfold eG at ih |-
  simp only [Lib.compareBytes,Op.bytesLess]
  by_cases h1:x < y
  ·simp [h1]
  ·by_cases h2:y < x
   ·have:¬ x=y:= λe=>UInt8.lt_irrefl x (by rw [<-e]at h2;exact h2)
    simp [h1,h2,this]
   ·have:x=y:=UInt8.le_antisymm (UInt8.not_lt.1 h2) (UInt8.not_lt.1 h1)
    subst this
    simp [ih]
end Go.Proofs.YtdjfkmkdkclahaaGreatDoor
namespace Go.Proofs.YtdjfkmkdkclahaaGreatDoor
open Go.Proofs
set_option maxRecDepth 10000
attribute [local irreducible] aL aH Tri aI YVC bP aS
end Go.Proofs.YtdjfkmkdkclahaaGreatDoor
namespace Go.Proofs.YtdjfkmkdkclahaaGreatDoor
open Go.Proofs
set_option maxRecDepth 10000
attribute [local irreducible] aL aH Tri aI YVC bP aS
def aA7 (a b:Int):Int:=if a < b then -1 else if b < a then 1 else 0
def orF:List Int->Int
 | []=>0
 |x::r=>if x≠0 then x else orF r
def aVm (n:Int):List D:=[.int .i64 n]
theorem aGl (a:Int):Tri Tryz.prog 238 [.d (.int .i64 a)] [] (λr=>r= .d (.bool false)):=by
 refine aF hty Tryz.func238 rfl (kp [0,2]) [] _ _ _ (by simp [Tryz.f238]) (by simp) ?_
 ((conv=>whnf);repeat' ((first|(intro hq;(try simp only [lnS]at hq);(try rewrite [List.length_map]))|refine sJ ?_|refine .intro _ (.intro rfl ?_)|refine exL (k:= ?_)|refine dwR ?_|((first|refine aC ?_ ?_|refine aD ?_ ?_)<;>intro hb<;>(first|exact ddX hb|try simp only [lnS]at hb))|(refine aB ?_ ?_<;>intro hb<;>try exact dsX hb))<;>(conv=>whnf)))
 all_goals first|rfl|(exact aN (by simp))
theorem aGk (a:List UInt8):Tri Tryz.prog 197 [.d (.str a)] [] (λr=>r= .d (.bool false)):=by
 refine aF hty Tryz.func197 rfl (kp [0,2]) [] _ _ _ (by simp [Tryz.f197]) (by simp) ?_
 ((conv=>whnf);repeat' ((first|(intro hq;(try simp only [lnS]at hq);(try rewrite [List.length_map]))|refine sJ ?_|refine .intro _ (.intro rfl ?_)|refine exL (k:= ?_)|refine dwR ?_|((first|refine aC ?_ ?_|refine aD ?_ ?_)<;>intro hb<;>(first|exact ddX hb|try simp only [lnS]at hb))|(refine aB ?_ ?_<;>intro hb<;>try exact dsX hb))<;>(conv=>whnf)))
 all_goals first|rfl|(exact aN (by simp))
theorem jJ (a b:Int):Tri Tryz.prog 209 [.d (.int .i64 a), .d (.int .i64 b)] [] (λr=>r= .d (.int .i64 (aA7 a b))):=by
 refine aF hty Tryz.func209 rfl (kp [0,1,4,5,6,11,12,13,16,19]) [] _ _ _ (by simp [Tryz.f209]) (by simp) ?_
 ((conv=>whnf);repeat' ((first|(intro hq;(try simp only [lnS]at hq);(try rewrite [List.length_map]))|refine sJ ?_|refine .intro _ (.intro rfl ?_)|refine exL (k:= ?_)|(refine aA [] (aGl _) trivial (λr hs=> ?_);subst hs)|refine dwR ?_|((first|refine aC ?_ ?_|refine aD ?_ ?_)<;>intro hb<;>(first|exact ddX hb|try simp only [lnS]at hb))|(refine aB ?_ ?_<;>intro hb<;>try exact dsX hb))<;>(conv=>whnf)))
 all_goals (refine gB (Eq.symm ?_);unfold aA7;simp_all<;>omega)
theorem jI (a b:List UInt8):Tri Tryz.prog 210 [.d (.str a), .d (.str b)] [] (λr=>r= .d (.int .i64 (eG a b))):=by
 refine aF hty Tryz.func210 rfl (kp [0,1,4,5,6,11,12,13,16,19]) [] _ _ _ (by simp [Tryz.f210]) (by simp) ?_
 ((conv=>whnf);repeat' ((first|(intro hq;(try simp only [lnS]at hq);(try rewrite [List.length_map]))|refine sJ ?_|refine .intro _ (.intro rfl ?_)|refine exL (k:= ?_)|(refine aA [] (aGk _) trivial (λr hs=> ?_);subst hs)|refine dwR ?_|((first|refine aC ?_ ?_|refine aD ?_ ?_)<;>intro hb<;>(first|exact ddX hb|try simp only [lnS]at hb))|(refine aB ?_ ?_<;>intro hb<;>try exact dsX hb))<;>(conv=>whnf)))
 all_goals (
  refine gB (Eq.symm ?_)
  have hr:=lT a b
  have hz:=cM a b)
 ·rw [dN,decide_eq_true_eq]at hb
  omega
 ·rename_i hb0
  rw [dN,decide_eq_false_iff_not]at hb0
  have:eG a b≠0:= λq=>by rw [hz.1 q]at hb;simp at hb
  omega
 ·rename_i hb0
  rw [dN,decide_eq_false_iff_not]at hb0
  rw [dN,decide_eq_false hb0]at hb
  exact hz.2 (by simpa using hb)
theorem aS6 (l:List Int):Tri Tryz.prog 208 [.d (.sl 1 (l.map aVm))] [] (λr=>r= .d (.int .i64 (orF l))):=by
 refine aF hty Tryz.func208 rfl (kp [0,2,3,5,6,7,8,9,14]) [] _ _ _ (by simp [Tryz.f208]) (by simp) ?_
 ((conv=>whnf);repeat ((first|(intro hq;try simp only [lnS]at hq)|refine sI ?_|refine .intro _ (.intro rfl ?_));(conv=>whnf)))
 refine aJ hty (λj:Nat=>([(3, .d (.int .i64 0)),(6, .d (.sl 1 (l.map aVm))),(7, .d (.int .i64 l.length)),(8, .d (.int .i64 j))],[])) (λj=>j<=l.length/\orF l=orF (l.drop j)) (λj=>l.length - j) 0 ⟨by omega,rfl⟩ ⟨by repeat' (first|exact trivial|exact rfl|(rw [List.length_map];exact rfl)|refine And.intro ?_ ?_),trivial⟩ ?_
 rintro j ⟨hj,hn⟩
 ((conv=>whnf);repeat ((first|(intro hq;try simp only [lnS]at hq)|refine sI ?_|refine .intro _ (.intro rfl ?_));(conv=>whnf)))
 refine aC (λh1=> ?_) (λh1=> ?_)
 ·have hjl:j < l.length:=by omega
  have hrow:(l.map aVm)[(j:Int).toNat]? =some (aVm l[j]):=aO hjl
  rw [List.drop_eq_getElem_cons hjl,orF]at hn
  generalize l[j]=x at hrow hn
  ((conv=>whnf);repeat' ((first|(intro hq;(try simp only [lnS]at hq);(try rewrite [List.length_map]))|refine sJ ?_|refine .intro _ (.intro rfl ?_)|refine exL (k:= ?_)|(refine⟨_,hrow, ?_⟩)|refine dwR ?_|((first|refine aC ?_ ?_|refine aD ?_ ?_)<;>intro hb<;>(first|exact ddX hb|try simp only [lnS]at hb))|(refine aB ?_ ?_<;>intro hb<;>try exact dsX hb))<;>(conv=>whnf)))
  ·rw [if_pos (by assumption)]at hn
   exact gB hn.symm
  ·rw [if_neg (by simpa using (by assumption:x=0))]at hn
   exact⟨j+1,⟨by omega,hn⟩,by dsimp only;omega,by repeat' (first|exact trivial|exact rfl|refine And.intro ?_ ?_),trivial⟩
 ·have hjl:j=l.length:=by omega
  subst hjl
  rw [List.drop_length,orF]at hn
  ((conv=>whnf);repeat' ((first|(intro hq;(try simp only [lnS]at hq);(try rewrite [List.length_map]))|refine sJ ?_|refine .intro _ (.intro rfl ?_)|refine exL (k:= ?_)|refine dwR ?_|((first|refine aC ?_ ?_|refine aD ?_ ?_)<;>intro hb<;>(first|exact ddX hb|try simp only [lnS]at hb))|(refine aB ?_ ?_<;>intro hb<;>try exact dsX hb))<;>(conv=>whnf)))
  exact gB hn.symm
end Go.Proofs.YtdjfkmkdkclahaaGreatDoor
namespace Go.Proofs.YtdjfkmkdkclahaaGreatDoor
open Go.Proofs
set_option maxRecDepth 10000
attribute [local irreducible] aL aH Tri aI YVC bP aS
end Go.Proofs.YtdjfkmkdkclahaaGreatDoor
namespace Go.Proofs.YtdjfkmkdkclahaaGreatDoor
open Go.RowKit
section
variable {P:Program}
theorem aIr {ops:Array Oper}{Q:Exit->Act->World->Prop}: ∀(fuel:Nat) (listed:Array Bool) (a:Act) (w:World),wpAny P .any ops Q fuel listed a w->wpAny P .any ops Q (fuel+1) listed a w:=by
 intro fuel
 induction fuel with
 |zero=>intro listed a w h;exact⟨λ_=>h.2,λi hi=>(by rw [h.1]at hi;cases hi)⟩
 |succ fuel ih=>intro listed a w h;exact⟨h.1,λi hi=>wpOp_mono (λa w=>ih _ a w) (h.2 i hi)⟩
theorem aB2 {ops:Array Oper}{Q:Exit->Act->World->Prop}{fuel:Nat}{listed:Array Bool}{a:Act}{w:World}(h:wpAny P .any ops Q fuel listed a w): ∀k,wpAny P .any ops Q (k+fuel) listed a w
 | 0=>by rw [Nat.zero_add];exact h
 |k+1=>by rw [Nat.add_right_comm];exact aIr _ _ _ _ (aB2 h k)
def aVj (l:List Oper) (m:Nat):Bool:=
 decide (m < l.length) &&
 (List.range l.length).all λi=>
  match l[i]? with
  |some o=>
   (o.after.all λe=> !Region.binds .any e || decide (e.on < i)) &&
   (if i < m then o.guard.isNone && (List.range (m + 1)).any λk => decide (i < k) && (match l[k]? with
     |some o'=>o'.after.any λe=>Region.binds .any e && e.on==i
     |none=>false)
  else i==m || o.after.any λe=>Region.binds .any e && decide (m<=e.on))
  |none=>false
theorem aEo {l:List Oper}{m:Nat}(h:aVj l m=true):m < l.length/\ ∀i o,l[i]? =some o->
  (∀e∈o.after,Region.binds .any e=true->e.on < i)/\
  (i < m->o.guard=none/\ ∃k o',i < k/\k<=m/\l[k]? =some o'/\ ∃e∈o'.after,Region.binds .any e=true/\e.on=i)/\
  (m < i-> ∃e∈o.after,Region.binds .any e=true/\m<=e.on):=by
 simp only [aVj,Bool.and_eq_true,decide_eq_true_eq,List.all_eq_true,List.mem_range]at h
 refine⟨h.1,λi o ho=> ?_⟩
 have hi:=h.2 i (List.getElem?_eq_some_iff.1 ho).1
 rw [ho]at hi
 simp only [Bool.and_eq_true]at hi
 obtain⟨h1,h2⟩:=hi
 refine⟨λe he hb=> ?_,λhim=> ?_,λhmi=> ?_⟩
 ·rw [Array.all_eq_true']at h1
  have:=h1 e he
  simpa [hb]using this
 ·rw [if_pos him]at h2
  simp only [Bool.and_eq_true,Option.isNone_iff_eq_none,List.any_eq_true,List.mem_range,decide_eq_true_eq]at h2
  obtain⟨hg,k,hk,hik,hx⟩:=h2
  refine⟨hg, ?_⟩
  split at hx
  ·rename_i o' ho'
   obtain⟨e,he,hb⟩:=Array.any_eq_true'.1 hx
   simp only [Bool.and_eq_true,beq_iff_eq]at hb
   exact⟨k,o',hik,by omega,ho',e,he,hb.1,hb.2⟩
  ·cases hx
 ·rw [if_neg (by omega)]at h2
  have:(i==m)=false:=by simp;omega
  rw [this,Bool.false_or]at h2
  obtain⟨e,he,hb⟩:=Array.any_eq_true'.1 h2
  simp only [Bool.and_eq_true,decide_eq_true_eq]at hb
  exact⟨e,he,hb.1,hb.2⟩
theorem rT {x:Array Bool}{m k:Nat}{d:Bool}(hx:x.size=m) (i:Nat):(x++Array.replicate k false).getD i d=if i < m then x.getD i d else if i < m+k then false else d:=by
 simp only [Array.getD_eq_getD_getElem?,Array.getElem?_append,hx]
 split
 ·rfl
 ·rw [Array.getElem?_replicate]
  split
  ·rw [if_pos (by omega)];rfl
  ·rw [if_neg (by omega)];rfl
theorem aS5 {l:List Oper}{m:Nat}{C:World->Prop}{Q:Act->Prop}{Q':Exit->Act->World->Prop}(hB:aVj l m=true)
  (ht: ∀a w,C w->Q a->wpAny P .any l.toArray Q' (l.length - m) (Array.replicate m true++Array.replicate (l.length - m) false) a w):
  ∀(f:Nat) (x:Array Bool) (a:Act) (w:World),C w->x.size=m->(∀(i:Nat) o,i < m->l[i]? =some o->x.getD i true=true-> ∀e∈o.after,Region.binds .any e=true->x.getD e.on false=true)->
   wpAnyQ P .any (l.take m).toArray C Q f x a->wpAny P .any l.toArray Q' (f+(l.length - m)) (x++Array.replicate (l.length - m) false) a w:=by
 obtain⟨hm,hs⟩:=aEo hB
 have take_lt: ∀i,i < m->(l.take m).toArray[i]? =l[i]? := λi hi=>by simp [List.getElem?_take,hi]
 have full: ∀x:Array Bool,x.size=m->Region.ready .any (l.take m).toArray x=[]->x=Array.replicate m true:=by
  intro x hx hr
  have all: ∀i,i < m->x.getD i true=true:=by
   intro i
   induction i using Nat.strongRecOn with
   |_ i ih=>
    intro him
    by_cases hc:x.getD i true=true
    ·exact hc
    ·exfalso
     have hc:x.getD i true=false:=by simpa using hc
     have hlt:i < l.length:=by omega
     have hmem : i ∈ Region.ready .any (l.take m).toArray x := mem_ready.2 ⟨hc, l[i], by rw [take_lt i him]; exact List.getElem?_eq_getElem hlt, λe he hb => by
      have hlt':=(hs i _ (List.getElem?_eq_getElem hlt)).1 e he hb
      have:=ih e.on hlt' (by omega)
      simp only [Array.getD_eq_getD_getElem?]at this |-
      rw [Array.getElem?_eq_getElem (by omega)]at this |-
      exact this⟩
     rw [hr]at hmem
     cases hmem
  apply Array.ext
  ·simp [hx]
  ·intro i h1 h2
   have:=all i (by omega)
   simp only [Array.getD_eq_getD_getElem?,Array.getElem?_eq_getElem h1,Option.getD_some]at this
   simpa using this
 intro f
 induction f with
 |zero=>
  intro x a w hw hx _ h
  rw [full x hx h.1,Nat.zero_add]
  exact ht a w hw h.2
 |succ f ih=>
  intro x a w hw hx hcl h
  by_cases hr:Region.ready .any (l.take m).toArray x=[]
  ·rw [full x hx hr]
   exact aB2 (ht a w hw (h.1 hr)) _
  ·have sub: ∀i∈Region.ready .any l.toArray (x++Array.replicate (l.length - m) false),i < m/\i∈Region.ready .any (l.take m).toArray x:=by
    intro i hi
    obtain⟨h1,o,ho,h2⟩:=mem_ready.1 hi
    have ho:l[i]? =some o:=by simpa using ho
    have hlt:=(List.getElem?_eq_some_iff.1 ho).1
    have hlow: ∀j,j < m->(x++Array.replicate (l.length - m) false).getD j false=true->x.getD j false=true:= λj hj h=>by rw [rT hx,if_pos hj]at h;exact h
    have hhigh: ∀j,m<=j->j < l.length->¬ (x++Array.replicate (l.length - m) false).getD j false=true:= λj hj hj' h=>by rw [rT hx,if_neg (by omega)]at h;split at h<;>cases h
    have him:i < m:=by
     by_cases him:i < m
     ·exact him
     ·exfalso
      by_cases hie:m < i
      ·obtain⟨e,he,hb,hme⟩:=(hs i o ho).2.2 hie
       exact hhigh e.on hme (by have:=(hs i o ho).1 e he hb;omega) (h2 e he hb)
      ·have:i=m:=by omega
       subst this
       -- every statement of the head is listed
       have all: ∀d j,j+d=i->0 < d->x.getD j true=true:=by
        intro d
        induction d using Nat.strongRecOn with
        |_ d ihd=>
         intro j hjd hd
         have hjl:j < l.length:=by omega
         obtain⟨_,k,o',hjk,hki,ho',e,he,hb,hej⟩:=(hs j _ (List.getElem?_eq_getElem hjl)).2.1 (by omega)
         have htrue:x.getD j false=true:=by
          by_cases hk:k=i
          ·subst hk
           rw [ho]at ho'
           injection ho' with ho';subst ho'
           have:=hlow e.on (by omega) (h2 e he hb)
           rwa [hej]at this
          ·have:=hcl k o' (by omega) ho' (ihd (i - k) (by omega) k (by omega) (by omega)) e he hb
           rwa [hej]at this
         simp only [Array.getD_eq_getD_getElem?]at htrue |-
         rw [Array.getElem?_eq_getElem (by omega)]at htrue |-
         exact htrue
       apply hr
       apply List.eq_nil_iff_forall_not_mem.2
       intro j hj
       obtain⟨g1,oj,hoj,_⟩:=mem_ready.1 hj
       have hjm:j < i:=by
        have:=(Array.getElem?_eq_some_iff.1 hoj).1
        simp at this
        omega
       rw [all (i - j) j (by omega) (by omega)]at g1
       cases g1
    refine⟨him,mem_ready.2 ⟨?_,o,by rw [take_lt i him];exact ho,λe he hb=> ?_⟩⟩
    ·rw [rT hx,if_pos him]at h1;exact h1
    ·exact hlow e.on (by have:=(hs i o ho).1 e he hb;omega) (h2 e he hb)
   have hne:Region.ready .any l.toArray (x++Array.replicate (l.length - m) false)≠[]:=by
    obtain⟨j,hj⟩:=List.exists_mem_of_ne_nil _ hr
    obtain⟨g1,oj,hoj,g2⟩:=mem_ready.1 hj
    have hjm:j < m:=by
     have:=(Array.getElem?_eq_some_iff.1 hoj).1
     simp at this
     omega
    have hmem : j ∈ Region.ready .any l.toArray (x ++ Array.replicate (l.length - m) false) := mem_ready.2 ⟨by rw [rT hx, if_pos hjm]; exact g1, oj, by rw [take_lt j hjm] at hoj; simpa using hoj, λe he hb => by
     have:=g2 e he hb
     have hem:e.on < m:=by
      rw [take_lt j hjm]at hoj
      have:=(hs j oj hoj).1 e he hb
      omega
     rw [rT hx,if_pos hem];exact this⟩
    intro h0
    rw [h0]at hmem
    cases hmem
   rw [Nat.add_right_comm]
   refine⟨λh0=>absurd h0 hne,λi hi=> ?_⟩
   obtain⟨him,hip⟩:=sub i hi
   have hlt:i < l.length:=by omega
   have ho:=List.getElem?_eq_getElem hlt
   have hq:=h.2 i hip
   have hg:=((hs i _ ho).2.1 him).1
   have hq':qOp P l.toArray C i (wpAnyQ P .any (l.take m).toArray C Q f (x.setIfInBounds i true)) a:=by
    unfold qOp at hq |-
    rw [take_lt i him]at hq
    have:l.toArray[i]? =l[i]? :=by simp
    rw [this]
    rw [ho]at hq |-
    simp only [Region.wanted,hg]at hq |-
    exact hq
   refine wpOp_of_qOp hw (λa' w' hw' hk=> ?_) hq'
   have hset:(x++Array.replicate (l.length - m) false).setIfInBounds i true=x.setIfInBounds i true++Array.replicate (l.length - m) false:=by
    rw [Array.setIfInBounds_append_left (by omega)]
   rw [hset]
   refine ih _ a' w' hw' (by simp [hx]) ?_ hk
   intro j o hj hoj hjt e he hb
   have hup: ∀k (d:Bool),x.getD k d=true->(x.setIfInBounds i true).getD k d=true:=by
    intro k d hk
    simp only [Array.getD_eq_getD_getElem?,Array.getElem?_setIfInBounds]at hk |-
    split
    ·split<;>simp_all
    ·exact hk
   by_cases hji:j=i
   ·subst hji
    obtain⟨_,o2,ho2,h2⟩:=mem_ready.1 hip
    rw [take_lt j him,hoj]at ho2
    injection ho2 with ho2;subst ho2
    exact hup _ _ (h2 e he hb)
   ·refine hup _ _ (hcl j o hj hoj ?_ e he hb)
    simp only [Array.getD_eq_getD_getElem?,Array.getElem?_setIfInBounds]at hjt |-
    rw [if_neg (λh=>hji h.symm)]at hjt
    exact hjt
def aVi (C:Cfg) (all:List Oper) (K:Fr->Prop):List Oper->Fr->Hp->Prop
 | [],fr,_=>K fr
 |o::r,fr,hp=>aOp C all o fr hp λfr'=>aVi C all K r fr' hp
theorem aOq {C:Cfg}(hti:cQ C.P C.ti) {all:List Oper}{K:Fr->Prop}{E:Entry}{ρ:Env}{w:World}{hp:Hp}{df:List Deferred}(hm:Mem E ρ hp w): ∀(l:List Oper) (fr:Fr) (a:Act),aVi C all K l fr hp->a.tmps.size=C.nt->a.defers=df->cJ ρ w fr a.tmps->
  wpQuiet C.P all.toArray (Grew w) (λa'=> ∃fr',K fr'/\a'.tmps.size=C.nt/\a'.defers=df/\cJ ρ w fr' a'.tmps) l a:=by
 intro l
 induction l with
 |nil=>
  intro fr a h h1 h2 h3
  exact⟨fr,h,h1,h2,h3⟩
 |cons o r ih=>
  intro fr a h h1 h2 h3
  simp only [aVi,aOp]at h
  simp only [wpQuiet]
  obtain⟨fr0,h3,hh⟩:=eN h h3
  rcases hh with⟨hw,h⟩|⟨hw,h⟩
  ·simp only [hw,if_true]
   obtain⟨v,s,q1,q2,q3⟩:=aX9 hti h hm h3
   obtain⟨fr',p1,p2⟩:=fG q3 h1 h3 q2
   exact⟨v,q1,ih fr' _ p1 (by rw [bH];exact h1) (by rw [put_defers];exact h2) p2⟩
  ·simp only [hw,Bool.false_eq_true,if_false]
   obtain⟨fr',p1,p2⟩:=fG h h1 h3 (Rep.d _ undef (.lit undef))
   exact ih fr' _ p1 (by rw [bH];exact h1) (by rw [put_defers];exact h2) p2
theorem wC {C:Cfg}(hti:cQ C.P C.ti) {id:Nat}{l:List Oper}{fr:Fr}{hp:Hp}{K:Ex->Fr->Hp->Prop}(m:Nat) (hm:C.P.follows .mixedOrders=true)
  (hB:(aVj l m && Region.lexB .any (l.take m).toArray && Region.noSelect l.toArray && aTf l.toArray (List.range' m (l.length - m)) (Array.replicate m true++Array.replicate (l.length - m) false) false && gZ l)=true)
  (h:aVi C (l.take m) (λfr'=>aBs C l (K .normal) (List.range' m (l.length - m)) fr' hp) (l.take m) fr hp):aL C (.region id l.toArray true) fr hp K:=by
 intro E a w hpin hrd ⟨h1,h2,ρ,h3,h4⟩
 simp only [Bool.and_eq_true]at hB
 obtain⟨⟨⟨⟨b1,b2⟩,b3⟩,b4⟩,hnd⟩:=hB
 simp only [Region.lexB,Bool.and_eq_true]at b2
 refine dX hm hnd kZ.noOut ?_
 have hlt:=(aEo b1).1
 have hq:=aOq (C:=C) hti (all:=l.take m) h3 (l.take m) fr a h h1 rfl h4
 have hl:=wpAnyQ_lex (P:=C.P) (C:=Grew w) (md:= .any) b2.1 (l.take m) 0 (Array.replicate (l.take m).toArray.size false) a (by simp) (by simpa using b2.2) hq
 have hlen:(l.take m).length=m:=by simp;omega
 have hsz:(l.take m).toArray.size=m:=by simp;omega
 rw [hlen,hsz]at hl
 have := aS5 (P := C.P) (C := Grew w) (Q' := kZ C E K) b1 (λa' w' hg hQ => by
  obtain⟨fr',k1,k2,k3,k4⟩:=hQ
  obtain⟨m1,m2⟩:=h3.grow_same hg
  have:=aBr (C:=C) hti (E:=E) hpin b3 _ _ false fr' hp ρ a' _ b4 k1 m1 k2 (k3.trans h2) (m2 fr' _ k4)
  rw [List.length_range']at this
  exact aB4 _ _ _ _ _ (aTp (Q':=kZ C E K .normal) (λa w ⟨fr',hp',k1,k2⟩=>⟨.normal,fr',hp',E, .refl E,trivial,k1,k2⟩) _ _ _ _ _ this)) m (Array.replicate m false) a _ (Grew.drew w) (by simp) (λi o hi _ hx=>by simp [hi]at hx) hl
 have e1:m+(l.length - m)=l.toArray.size:=by simp;omega
 have e2:Array.replicate m false++Array.replicate (l.length - m) false=Array.replicate l.toArray.size false:=by rw [Array.replicate_append_replicate,e1]
 rw [e1,e2]at this
 exact this
end
end Go.Proofs.YtdjfkmkdkclahaaGreatDoor
namespace Go.Proofs.YtdjfkmkdkclahaaGreatDoor
open Go.Proofs
set_option maxRecDepth 10000
theorem Tri.osl {P:Program}{f:FuncId}{id z:Nat}{rows:List (List D)}{post:SV->Prop}(h:Tri P f [.d (.sl z rows)] [] post):Tri P f [.osl id z rows] [] post:=by
 unfold Tri at h |-
 intro w ρ vs a b c
 refine h w ρ vs a ⟨b.1,λj s v hs hv=> ?_⟩ (λid o ho=>by cases ho)
 match j,hs with
 | 0,hs=>
  injection hs with hs;subst hs
  exact .d _ _ (b.2 0 _ v rfl hv).osl_inv.1
attribute [local irreducible] aL aH Tri aI YVC bP aS
end Go.Proofs.YtdjfkmkdkclahaaGreatDoor
namespace Go.Proofs.YtdjfkmkdkclahaaGreatDoor
open Go.Proofs
set_option maxRecDepth 10000
attribute [local irreducible] aL aH Tri aI YVC bP aS
end Go.Proofs.YtdjfkmkdkclahaaGreatDoor
namespace Go.Proofs.YtdjfkmkdkclahaaGreatDoor
open Go.Proofs
set_option maxRecDepth 10000
attribute [local irreducible] aL aH Tri aI YVC bP aS
end Go.Proofs.YtdjfkmkdkclahaaGreatDoor
namespace Go.Proofs.YtdjfkmkdkclahaaGreatDoor
open Go.Proofs
set_option maxRecDepth 10000
attribute [local irreducible] aL aH Tri aI YVC bP aS
end Go.Proofs.YtdjfkmkdkclahaaGreatDoor
namespace Go.Proofs.YtdjfkmkdkclahaaGreatDoor
open Go.Proofs
set_option maxRecDepth 10000
attribute [local irreducible] aL aH Tri aI YVC bP aS
end Go.Proofs.YtdjfkmkdkclahaaGreatDoor
namespace Go.Proofs.YtdjfkmkdkclahaaGreatDoor
open Go.Proofs
set_option maxRecDepth 10000
attribute [local irreducible] aL aH Tri aI YVC bP aS
end Go.Proofs.YtdjfkmkdkclahaaGreatDoor
namespace Go.Proofs.YtdjfkmkdkclahaaGreatDoor
open Go.Proofs
set_option maxRecDepth 10000
attribute [local irreducible] aL aH Tri aI YVC bP aS
structure Nm where
 a:List (List UInt8)
 b:List (List UInt8)
 c:List (List UInt8)
 d:List (List UInt8)
def nmR (x:Nm):List D:=[aRn x.a,aRn x.b,aRn x.c,aRn x.d]
end Go.Proofs.YtdjfkmkdkclahaaGreatDoor
namespace Go.Proofs.YtdjfkmkdkclahaaGreatDoor
open Go.Proofs
set_option maxRecDepth 10000
attribute [local irreducible] aL aH Tri aI YVC bP aS
end Go.Proofs.YtdjfkmkdkclahaaGreatDoor
namespace Go.Proofs.YtdjfkmkdkclahaaGreatDoor
open Go.Proofs
set_option maxRecDepth 10000
attribute [local irreducible] aL aH Tri aI YVC bP aS
end Go.Proofs.YtdjfkmkdkclahaaGreatDoor
namespace Go.Proofs.YtdjfkmkdkclahaaGreatDoor
open Go.Proofs Go.RowKit
set_option maxRecDepth 100000
theorem u3:Tryz.prog.underlying 3=some (.int .i64):=by kernel_rfl
theorem u9:Tryz.prog.underlying 9=some .string:=by kernel_rfl
theorem u4:Tryz.prog.underlying 4=some .bool:=by kernel_rfl
theorem laid:laidOutB Tryz.prog=true:=by kernel_rfl
def TT:List TypeId:=[110,92,108,106,54,3,9,4]
theorem aC6 {t:TypeId}{ts:List TypeId}(h:aDy Tryz.prog t=some ts) (ds:List D):iR Tryz.prog t ds= .d (.agg ds):=by
 unfold aDy at h
 split at h
 ·rename_i fs hu
  simp only [iR,hu]
 ·cases h
end Go.Proofs.YtdjfkmkdkclahaaGreatDoor
namespace Go.Proofs.YtdjfkmkdkclahaaGreatDoor
open Go.RowKit
section
variable {P:Program}
theorem pN {ti:TypeId->Option TI}(hti:cQ P ti) {o:Oper}{t:TypeId}{x:Operand}(ho:o.op= .makeInterface t x) {Ts:TI}(hT:ti t=some Ts) {fs:List (TypeId×Nat)}(htd:Ts.td= .struct fs) {pin:Pin}{fr:Fr}{hp:Hp}{K:SV->Hp->Prop}
  (hx:evO fr x=some (.d (.agg []))) (hk:K (.d (.lit (.iface t (.agg #[])))) hp):aS P o pin fr hp K:=by
 intro E ρ a w _ hm hf next Q hq
 obtain⟨d0,i0,z0,hT0⟩:=aQ (hti _ _ hT)
 have hni: ∀m,d0≠ .interface m:=by
  intro m e
  have:=hT0.td
  rw [htd,e]at this
  simp [aDg]at this
 have e1:a.eval x= .agg #[]:=by
  have hr:=aW hf hx
  generalize a.eval x=v at hr
  cases hr with
  |d _ _ hd=>
   cases hd with
   |agg cs vs hl h=>
    have:vs= #[]:=Array.eq_empty_of_size_eq_zero (by simpa using hl)
    rw [this]
 have hrun:(execOp a.eval o).run P w= .ok (.value (.iface t (.agg #[]))) w:=by
  simp only [execOp,ho,e1,Instr.makeInterface,Sem.run_bind,run_underlying hT0.und,Result.andThen_ok]
  cases d0<;>first|rfl|exact absurd rfl (hni _)
 exact bY hrun (hq _ w ρ _ hp hk hm hf (.d _ _ (.lit _)))
end
end Go.Proofs.YtdjfkmkdkclahaaGreatDoor
