/-
  Terms: CheckAxiom. The order of strings, in plain Lean. Terms: the weight of an axiom, and the library's comparisons. Terms: the library's comparisons of numbers, strings and lists. Terms: the tree of a concept: grow. Statements whose order is open: a head of reads and calls in any order, then a tail that is forced.
  Conditions: none.
-/
import Derived.Test.YtleihcnongldbaaGreatDoorVA8
import Derived.Test.YtleihcnongldbaaGreatDoorVSw
import Derived.Test.YtleihcnongldbaaGreatDoorVSs
set_option linter.unnecessarySimpa false
set_option linter.unusedSectionVars false
set_option linter.unusedSimpArgs false
set_option linter.unusedVariables false
set_option maxHeartbeats 8000000
namespace Go.Proofs.YtleihcnongldbaaGreatDoor
open Go.Proofs
set_option maxRecDepth 10000
attribute [local irreducible] aO aH Tri aG YVC cL bB
def aNc (x:Ax):Bool:=if x.kind=2 then (oZ x.left || oZ x.right)else if x.kind=1\/x.kind=4\/x.kind=8 then oZ x.right else false
def vV (u:Use) (x:Ax):Int:=
 if qB u x=false then 20
 else if u.left=true/\cD x.left≠0 then cD x.left
 else if u.right=true/\cD x.right≠0 then cD x.right
 else if aNc x=true then 22 else 0
def cJ (x:Ax):Int:=if bE x=false then 22 else vV (qM x.kind) x
theorem tS (x:Ax):Tri Tryz.prog 84 [.d (.agg (axR x))] NG (λr=>r= .d (.int .i64 (cJ x))):=by
 have e1:=iJ x.left
 have e2:=iJ x.right
 have b1:=sM x.left
 have b2:=sM x.right
 rw [bG]at e1 e2 b1 b2
 refine aF false [1,3] hty Tryz.func84 rfl (kp [0,1,2,3,4,5,8,16,18,23,26,31,34,35,44,45,51]) [] _ _ _ (by simp [Tryz.f84]) (by decide) ?_
 ((conv=>whnf);repeat ((first|(intro hq;try simp only [lnS]at hq)|refine sI ?_|refine .intro _ (.intro rfl ?_));(conv=>whnf)))
 refine aD NG (xO x) ⟨rfl,rfl,trivial⟩ (λr hs=> ?_)
 subst hs
 cases hs:bE x
 ·((conv=>whnf);repeat' ((first|(intro hq;(try simp only [lnS]at hq);(try rewrite [List.length_map]))|refine sJ ?_|refine .intro _ (.intro rfl ?_)|refine exL (k:= ?_)|refine dwR ?_|((first|refine aB ?_ ?_|refine aC ?_ ?_)<;>intro hb<;>(first|exact ddX hb|try simp only [lnS]at hb))|(refine aA ?_ ?_<;>intro hb<;>try exact dsX hb))<;>(conv=>whnf)))
  rw [cJ,if_pos hs];rfl
 ·have hE:cJ x=vV (qM x.kind) x:=by rw [cJ,if_neg (by simp [hs])]
  have hk:1<=x.kind/\x.kind<=9:=by
   unfold bE at hs
   split at hs
   ·cases hs
   ·omega
  rw [hE]
  have hrow:=aKa (k:=x.kind) hk
  generalize qM x.kind=u at hrow
  have hn:=zJ x u
  clear hE
  ((conv=>whnf);repeat ((first|(refine cN (id:=91) hty rfl rfl rfl rfl rfl rfl rfl (by omega) (by omega) ?_)|(refine⟨_,hrow, ?_⟩)|(intro hq;try simp only [lnS]at hq)|refine sI ?_|refine .intro _ (.intro rfl ?_));(conv=>whnf)))
  refine aD [] hn trivial (λr hs=> ?_)
  subst hs
  cases hs2:qB u x
  ·((conv=>whnf);repeat' ((first|(intro hq;(try simp only [lnS]at hq);(try rewrite [List.length_map]))|refine sJ ?_|refine .intro _ (.intro rfl ?_)|refine exL (k:= ?_)|refine dwR ?_|((first|refine aB ?_ ?_|refine aC ?_ ?_)<;>intro hb<;>(first|exact ddX hb|try simp only [lnS]at hb))|(refine aA ?_ ?_<;>intro hb<;>try exact dsX hb))<;>(conv=>whnf)))
   rw [vV,if_pos hs2];rfl
  ·((conv=>whnf);repeat' ((first|(intro hq;(try simp only [lnS]at hq);(try rewrite [List.length_map]))|refine sJ ?_|refine .intro _ (.intro rfl ?_)|refine exL (k:= ?_)|(refine aD NG e1 ⟨rfl,rfl,trivial⟩ (λr hs=> ?_);subst hs)|(refine aD NG e2 ⟨rfl,rfl,trivial⟩ (λr hs=> ?_);subst hs)|(refine aD [] b1 trivial (λr hs=> ?_);subst hs)|(refine aD [] b2 trivial (λr hs=> ?_);subst hs)|refine dwR ?_|((first|refine aB ?_ ?_|refine aC ?_ ?_)<;>intro hb<;>(first|exact ddX hb|try simp only [lnS]at hb))|(refine aA ?_ ?_<;>intro hb<;>try exact dsX hb))<;>(conv=>whnf)))
   all_goals (refine iF (Eq.symm ?_);clear e1 e2 b1 b2 hrow hn;unfold vV aNc;simp_all)
   all_goals trace_state
end Go.Proofs.YtleihcnongldbaaGreatDoor
namespace Go.Proofs.YtleihcnongldbaaGreatDoor
def fB (a b:List UInt8):Int:=Lib.compareBytes a b
theorem pR: ∀(a b:List UInt8),fB a b= -1\/fB a b=0\/fB a b=1
 | [],[]=>by simp [fB,Lib.compareBytes]
 | [],_::_=>by simp [fB,Lib.compareBytes]
 |_::_,[]=>by simp [fB,Lib.compareBytes]
 |x::a,y::b=>by
  have:=pR a b
  unfold fB at this |-
  simp only [Lib.compareBytes]
  split
  ·exact .inl rfl
  ·split
   ·exact .inr (.inr rfl)
   ·exact this
theorem dH: ∀(a b:List UInt8),fB a b=0↔a=b
 | [],[]=>by simp [fB,Lib.compareBytes]
 | [],_::_=>by simp [fB,Lib.compareBytes]
 |_::_,[]=>by simp [fB,Lib.compareBytes]
 |x::a,y::b=>by
  have ih:=dH a b
  unfold fB at ih |-
  simp only [Lib.compareBytes,List.cons.injEq]
  split
  ·rename_i h
   constructor
   ·intro h;omega
   ·rintro⟨rfl,_⟩;exact absurd h (UInt8.lt_irrefl x)
  ·split
   ·rename_i h
    constructor
    ·intro h;omega
    ·rintro⟨rfl,_⟩;exact absurd h (UInt8.lt_irrefl x)
   ·rename_i h1 h2
    rw [ih]
    have:x=y:=UInt8.le_antisymm (UInt8.not_lt.1 h2) (UInt8.not_lt.1 h1)
    simp [this]
theorem zZ: ∀(a b:List UInt8),fB b a= - fB a b
 | [],[]=>by simp [fB,Lib.compareBytes]
 | [],_::_=>by simp [fB,Lib.compareBytes]
 |_::_,[]=>by simp [fB,Lib.compareBytes]
 |x::a,y::b=>by
  have ih:=zZ a b
  unfold fB at ih |-
  simp only [Lib.compareBytes]
  by_cases h1:x < y
  ·have h2:¬ y < x:= λh=>UInt8.lt_irrefl x (UInt8.lt_trans h1 h)
   simp [h1,h2]
  ·by_cases h2:y < x
   ·simp [h1,h2]
   ·simp [h1,h2,ih]
theorem vU: ∀(a b c:List UInt8),fB a b < 0->fB b c < 0->fB a c < 0
 | [],[],c,h,_=>by simp [fB,Lib.compareBytes]at h
 | [],_::_,[],_,h=>by simp [fB,Lib.compareBytes]at h
 | [],_::_,_::_,_,_=>by simp [fB,Lib.compareBytes]
 |_::_,[],c,h,_=>by simp [fB,Lib.compareBytes]at h
 |_::_,_::_,[],_,h=>by simp [fB,Lib.compareBytes]at h
 |x::a,y::b,z::c,h1,h2=>by
  have ih:=vU a b c
  unfold fB at ih h1 h2 |-
  simp only [Lib.compareBytes]at h1 h2 |-
  by_cases hxy:x < y
  ·by_cases hyz:y < z
   ·simp [UInt8.lt_trans hxy hyz]
   ·by_cases hzy:z < y
    ·simp [hyz,hzy]at h2
    ·have:y=z:=UInt8.le_antisymm (UInt8.not_lt.1 hzy) (UInt8.not_lt.1 hyz)
     subst this;simp [hxy]
  ·by_cases hyx:y < x
   ·simp [hxy,hyx]at h1
   ·have:x=y:=UInt8.le_antisymm (UInt8.not_lt.1 hyx) (UInt8.not_lt.1 hxy)
    subst this
    simp only [hxy,if_false]at h1
    by_cases hyz:x < z
    ·simp [hyz]
    ·by_cases hzy:z < x
     ·simp [hyz,hzy]at h2
     ·simp only [hyz,hzy,if_false]at h2 |-
      exact ih h1 h2
theorem fC: ∀(a b:List UInt8),Op.bytesLess a b=decide (fB a b < 0)
 | [],[]=>by simp [fB,Lib.compareBytes,Op.bytesLess]
 | [],_::_=>by simp [fB,Lib.compareBytes,Op.bytesLess]
 |_::_,[]=>by simp [fB,Lib.compareBytes,Op.bytesLess]
 |x::a,y::b=>by
  have ih:=fC a b
  unfold fB at ih |-
  simp only [Lib.compareBytes,Op.bytesLess]
  by_cases h1:x < y
  ·simp [h1]
  ·by_cases h2:y < x
   ·have:¬ x=y:= λe=>UInt8.lt_irrefl x (by rw [<-e]at h2;exact h2)
    simp [h1,h2,this]
   ·have:x=y:=UInt8.le_antisymm (UInt8.not_lt.1 h2) (UInt8.not_lt.1 h1)
    subst this
    simp [ih]
end Go.Proofs.YtleihcnongldbaaGreatDoor
namespace Go.Proofs.YtleihcnongldbaaGreatDoor
open Go.Proofs
set_option maxRecDepth 10000
attribute [local irreducible] aO aH Tri aG YVC cL bB
def aFg (c:Cn):Int:=if c.kind≠0 then bW c else 0
def aKl (s:List UInt8):Int:=if s≠[]then 1 else 0
def aOf:List Cn->Int
 | []=>0
 |c::r=>aFg c+aOf r
def aOe:List (List UInt8)->Int
 | []=>0
 |c::r=>aKl c+aOe r
def fH (x:Ax):Int:=aOf [x.left,x.right]+x.roles.length+aOe [x.role,x.a,x.b]
end Go.Proofs.YtleihcnongldbaaGreatDoor
namespace Go.Proofs.YtleihcnongldbaaGreatDoor
open Go.Proofs
set_option maxRecDepth 10000
attribute [local irreducible] aO aH Tri aG YVC cL bB
def jX (a b:Int):Int:=if a < b then -1 else if b < a then 1 else 0
def orF:List Int->Int
 | []=>0
 |x::r=>if x≠0 then x else orF r
def cM:List (List UInt8)->List (List UInt8)->Int
 | [],[]=>0
 | [],_::_=> -1
 |_::_,[]=>1
 |a::l,b::m=>if fB a b≠0 then fB a b else cM l m
end Go.Proofs.YtleihcnongldbaaGreatDoor
namespace Go.Proofs.YtleihcnongldbaaGreatDoor
open Go.Proofs
set_option maxRecDepth 10000
attribute [local irreducible] aO aH Tri aG YVC cL bB
theorem sD {l:List Cn}{j:Nat}(h:j < l.length):(bM (l.take (j+1))).length=(bM (l.take j)).length+bW l[j]:=by
 rw [sB h,List.length_append];rfl
theorem uB (l:List Cn) (j:Nat):(bM (l.take j)).length<=(bM l).length:=by
 conv=>rhs;rw [<-List.take_append_drop j l,dY,List.length_append]
 omega
theorem vH: ∀(l:List Cn),l.length<=(bM l).length
 | []=>by simp
 |c::r=>by
  have h1:=vH r
  have h2:=aEp c
  rw [bW]at h2
  rw [bM,List.length_append,List.length_cons];omega
theorem aBb (c:Cn):bW c=(bM c.parts).length+1:=by rw [bW,eV];simp
mutual
def tP:Cn->Cn->Int
 | .mk k n lo hi ps,d=>
  if orF [jX (bW (.mk k n lo hi ps)) (bW d),jX k d.kind,fB n d.name,jX lo d.lo,jX hi d.hi]≠0 then orF [jX (bW (.mk k n lo hi ps)) (bW d),jX k d.kind,fB n d.name,jX lo d.lo,jX hi d.hi]
  else pP ps d.parts
def pP:List Cn->List Cn->Int
 | [],[]=>0
 | [],_::_=> -1
 |_::_,[]=>1
 |a::l,b::m=>if tP a b≠0 then tP a b else pP l m
end
def aAw (c d:Cn):Int:=orF [jX (bW c) (bW d),jX c.kind d.kind,fB c.name d.name,jX c.lo d.lo,jX c.hi d.hi]
theorem aG0 (c d:Cn):tP c d=if aAw c d≠0 then aAw c d else pP c.parts d.parts:=by
 cases c;rw [tP];rfl
end Go.Proofs.YtleihcnongldbaaGreatDoor
namespace Go.Proofs.YtleihcnongldbaaGreatDoor
open Go.RowKit
section
variable {P:Program}
theorem aCg {ops:Array Oper}{Q:Exit->Act->World->Prop}: ∀(fuel:Nat) (listed:Array Bool) (a:Act) (w:World),wpAny P .any ops Q fuel listed a w->wpAny P .any ops Q (fuel+1) listed a w:=by
 intro fuel
 induction fuel with
 |zero=>intro listed a w h;exact⟨λ_=>h.2,λi hi=>(by rw [h.1]at hi;cases hi)⟩
 |succ fuel ih=>intro listed a w h;exact⟨h.1,λi hi=>wpOp_mono (λa w=>ih _ a w) (h.2 i hi)⟩
theorem uK {ops:Array Oper}{Q:Exit->Act->World->Prop}{fuel:Nat}{listed:Array Bool}{a:Act}{w:World}(h:wpAny P .any ops Q fuel listed a w): ∀k,wpAny P .any ops Q (k+fuel) listed a w
 | 0=>by rw [Nat.zero_add];exact h
 |k+1=>by rw [Nat.add_right_comm];exact aCg _ _ _ _ (uK h k)
def aNu (l:List Oper) (m:Nat):Bool:=
 decide (m < l.length) &&
 (List.range l.length).all λi=>
  match l[i]? with
  |some o=>
   (o.after.all λe=> !Region.binds .any e || decide (e.on < i)) &&
   (if i < m then o.guard.isNone && (List.range (m + 1)).any λk => decide (i < k) && (match l[k]? with
     |some o'=>o'.after.any λe=>Region.binds .any e && e.on==i
     |none=>false)
  else i==m || o.after.any λe=>Region.binds .any e && decide (m<=e.on))
  |none=>false
theorem yY {l:List Oper}{m:Nat}(h:aNu l m=true):m < l.length/\ ∀i o,l[i]? =some o->
  (∀e∈o.after,Region.binds .any e=true->e.on < i)/\
  (i < m->o.guard=none/\ ∃k o',i < k/\k<=m/\l[k]? =some o'/\ ∃e∈o'.after,Region.binds .any e=true/\e.on=i)/\
  (m < i-> ∃e∈o.after,Region.binds .any e=true/\m<=e.on):=by
 simp only [aNu,Bool.and_eq_true,decide_eq_true_eq,List.all_eq_true,List.mem_range]at h
 refine⟨h.1,λi o ho=> ?_⟩
 have hi:=h.2 i (List.getElem?_eq_some_iff.1 ho).1
 rw [ho]at hi
 simp only [Bool.and_eq_true]at hi
 obtain⟨h1,h2⟩:=hi
 refine⟨λe he hb=> ?_,λhim=> ?_,λhmi=> ?_⟩
 ·rw [Array.all_eq_true']at h1
  have:=h1 e he
  simpa [hb]using this
 ·rw [if_pos him]at h2
  simp only [Bool.and_eq_true,Option.isNone_iff_eq_none,List.any_eq_true,List.mem_range,decide_eq_true_eq]at h2
  obtain⟨hg,k,hk,hik,hx⟩:=h2
  refine⟨hg, ?_⟩
  split at hx
  ·rename_i o' ho'
   obtain⟨e,he,hb⟩:=Array.any_eq_true'.1 hx
   simp only [Bool.and_eq_true,beq_iff_eq]at hb
   exact⟨k,o',hik,by omega,ho',e,he,hb.1,hb.2⟩
  ·cases hx
 ·rw [if_neg (by omega)]at h2
  have:(i==m)=false:=by simp;omega
  rw [this,Bool.false_or]at h2
  obtain⟨e,he,hb⟩:=Array.any_eq_true'.1 h2
  simp only [Bool.and_eq_true,decide_eq_true_eq]at hb
  exact⟨e,he,hb.1,hb.2⟩
theorem oK {x:Array Bool}{m k:Nat}{d:Bool}(hx:x.size=m) (i:Nat):(x++Array.replicate k false).getD i d=if i < m then x.getD i d else if i < m+k then false else d:=by
 simp only [Array.getD_eq_getD_getElem?,Array.getElem?_append,hx]
 split
 ·rfl
 ·rw [Array.getElem?_replicate]
  split
  ·rw [if_pos (by omega)];rfl
  ·rw [if_neg (by omega)];rfl
theorem aKz {l:List Oper}{m:Nat}{C:World->Prop}{Q:Act->Prop}{Q':Exit->Act->World->Prop}(hB:aNu l m=true)
  (ht: ∀a w,C w->Q a->wpAny P .any l.toArray Q' (l.length - m) (Array.replicate m true++Array.replicate (l.length - m) false) a w):
  ∀(f:Nat) (x:Array Bool) (a:Act) (w:World),C w->x.size=m->(∀(i:Nat) o,i < m->l[i]? =some o->x.getD i true=true-> ∀e∈o.after,Region.binds .any e=true->x.getD e.on false=true)->
   wpAnyQ P .any (l.take m).toArray C Q f x a->wpAny P .any l.toArray Q' (f+(l.length - m)) (x++Array.replicate (l.length - m) false) a w:=by
 obtain⟨hm,hs⟩:=yY hB
 have take_lt: ∀i,i < m->(l.take m).toArray[i]? =l[i]? := λi hi=>by simp [List.getElem?_take,hi]
 have full: ∀x:Array Bool,x.size=m->Region.ready .any (l.take m).toArray x=[]->x=Array.replicate m true:=by
  intro x hx hr
  have all: ∀i,i < m->x.getD i true=true:=by
   intro i
   induction i using Nat.strongRecOn with
   |_ i ih=>
    intro him
    by_cases hc:x.getD i true=true
    ·exact hc
    ·exfalso
     have hc:x.getD i true=false:=by simpa using hc
     have hlt:i < l.length:=by omega
     have hmem : i ∈ Region.ready .any (l.take m).toArray x := mem_ready.2 ⟨hc, l[i], by rw [take_lt i him]; exact List.getElem?_eq_getElem hlt, λe he hb => by
      have hlt':=(hs i _ (List.getElem?_eq_getElem hlt)).1 e he hb
      have:=ih e.on hlt' (by omega)
      simp only [Array.getD_eq_getD_getElem?]at this |-
      rw [Array.getElem?_eq_getElem (by omega)]at this |-
      exact this⟩
     rw [hr]at hmem
     cases hmem
  apply Array.ext
  ·simp [hx]
  ·intro i h1 h2
   have:=all i (by omega)
   simp only [Array.getD_eq_getD_getElem?,Array.getElem?_eq_getElem h1,Option.getD_some]at this
   simpa using this
 intro f
 induction f with
 |zero=>
  intro x a w hw hx _ h
  rw [full x hx h.1,Nat.zero_add]
  exact ht a w hw h.2
 |succ f ih=>
  intro x a w hw hx hcl h
  by_cases hr:Region.ready .any (l.take m).toArray x=[]
  ·rw [full x hx hr]
   exact uK (ht a w hw (h.1 hr)) _
  ·have sub: ∀i∈Region.ready .any l.toArray (x++Array.replicate (l.length - m) false),i < m/\i∈Region.ready .any (l.take m).toArray x:=by
    intro i hi
    obtain⟨h1,o,ho,h2⟩:=mem_ready.1 hi
    have ho:l[i]? =some o:=by simpa using ho
    have hlt:=(List.getElem?_eq_some_iff.1 ho).1
    have hlow: ∀j,j < m->(x++Array.replicate (l.length - m) false).getD j false=true->x.getD j false=true:= λj hj h=>by rw [oK hx,if_pos hj]at h;exact h
    have hhigh: ∀j,m<=j->j < l.length->¬ (x++Array.replicate (l.length - m) false).getD j false=true:= λj hj hj' h=>by rw [oK hx,if_neg (by omega)]at h;split at h<;>cases h
    have him:i < m:=by
     by_cases him:i < m
     ·exact him
     ·exfalso
      by_cases hie:m < i
      ·obtain⟨e,he,hb,hme⟩:=(hs i o ho).2.2 hie
       exact hhigh e.on hme (by have:=(hs i o ho).1 e he hb;omega) (h2 e he hb)
      ·have:i=m:=by omega
       subst this
       -- every statement of the head is listed
       have all: ∀d j,j+d=i->0 < d->x.getD j true=true:=by
        intro d
        induction d using Nat.strongRecOn with
        |_ d ihd=>
         intro j hjd hd
         have hjl:j < l.length:=by omega
         obtain⟨_,k,o',hjk,hki,ho',e,he,hb,hej⟩:=(hs j _ (List.getElem?_eq_getElem hjl)).2.1 (by omega)
         have htrue:x.getD j false=true:=by
          by_cases hk:k=i
          ·subst hk
           rw [ho]at ho'
           injection ho' with ho';subst ho'
           have:=hlow e.on (by omega) (h2 e he hb)
           rwa [hej]at this
          ·have:=hcl k o' (by omega) ho' (ihd (i - k) (by omega) k (by omega) (by omega)) e he hb
           rwa [hej]at this
         simp only [Array.getD_eq_getD_getElem?]at htrue |-
         rw [Array.getElem?_eq_getElem (by omega)]at htrue |-
         exact htrue
       apply hr
       apply List.eq_nil_iff_forall_not_mem.2
       intro j hj
       obtain⟨g1,oj,hoj,_⟩:=mem_ready.1 hj
       have hjm:j < i:=by
        have:=(Array.getElem?_eq_some_iff.1 hoj).1
        simp at this
        omega
       rw [all (i - j) j (by omega) (by omega)]at g1
       cases g1
    refine⟨him,mem_ready.2 ⟨?_,o,by rw [take_lt i him];exact ho,λe he hb=> ?_⟩⟩
    ·rw [oK hx,if_pos him]at h1;exact h1
    ·exact hlow e.on (by have:=(hs i o ho).1 e he hb;omega) (h2 e he hb)
   have hne:Region.ready .any l.toArray (x++Array.replicate (l.length - m) false)≠[]:=by
    obtain⟨j,hj⟩:=List.exists_mem_of_ne_nil _ hr
    obtain⟨g1,oj,hoj,g2⟩:=mem_ready.1 hj
    have hjm:j < m:=by
     have:=(Array.getElem?_eq_some_iff.1 hoj).1
     simp at this
     omega
    have hmem : j ∈ Region.ready .any l.toArray (x ++ Array.replicate (l.length - m) false) := mem_ready.2 ⟨by rw [oK hx, if_pos hjm]; exact g1, oj, by rw [take_lt j hjm] at hoj; simpa using hoj, λe he hb => by
     have:=g2 e he hb
     have hem:e.on < m:=by
      rw [take_lt j hjm]at hoj
      have:=(hs j oj hoj).1 e he hb
      omega
     rw [oK hx,if_pos hem];exact this⟩
    intro h0
    rw [h0]at hmem
    cases hmem
   rw [Nat.add_right_comm]
   refine⟨λh0=>absurd h0 hne,λi hi=> ?_⟩
   obtain⟨him,hip⟩:=sub i hi
   have hlt:i < l.length:=by omega
   have ho:=List.getElem?_eq_getElem hlt
   have hq:=h.2 i hip
   have hg:=((hs i _ ho).2.1 him).1
   have hq':qOp P l.toArray C i (wpAnyQ P .any (l.take m).toArray C Q f (x.setIfInBounds i true)) a:=by
    unfold qOp at hq |-
    rw [take_lt i him]at hq
    have:l.toArray[i]? =l[i]? :=by simp
    rw [this]
    rw [ho]at hq |-
    simp only [Region.wanted,hg]at hq |-
    exact hq
   refine wpOp_of_qOp hw (λa' w' hw' hk=> ?_) hq'
   have hset:(x++Array.replicate (l.length - m) false).setIfInBounds i true=x.setIfInBounds i true++Array.replicate (l.length - m) false:=by
    rw [Array.setIfInBounds_append_left (by omega)]
   rw [hset]
   refine ih _ a' w' hw' (by simp [hx]) ?_ hk
   intro j o hj hoj hjt e he hb
   have hup: ∀k (d:Bool),x.getD k d=true->(x.setIfInBounds i true).getD k d=true:=by
    intro k d hk
    simp only [Array.getD_eq_getD_getElem?,Array.getElem?_setIfInBounds]at hk |-
    split
    ·split<;>simp_all
    ·exact hk
   by_cases hji:j=i
   ·subst hji
    obtain⟨_,o2,ho2,h2⟩:=mem_ready.1 hip
    rw [take_lt j him,hoj]at ho2
    injection ho2 with ho2;subst ho2
    exact hup _ _ (h2 e he hb)
   ·refine hup _ _ (hcl j o hj hoj ?_ e he hb)
    simp only [Array.getD_eq_getD_getElem?,Array.getElem?_setIfInBounds]at hjt |-
    rw [if_neg (λh=>hji h.symm)]at hjt
    exact hjt
def aNt (C:Cfg) (all:List Oper) (K:Fr->Prop):List Oper->Fr->Hp->Prop
 | [],fr,_=>K fr
 |o::r,fr,hp=>aHk C all o fr hp λfr'=>aNt C all K r fr' hp
theorem aHl {C:Cfg}(hti:cT C.P C.ti) {all:List Oper}{K:Fr->Prop}{E:Entry}{ρ:Env}{w:World}{hp:Hp}{df:List Deferred}(hm:Mem E ρ hp w): ∀(l:List Oper) (fr:Fr) (a:Act),aNt C all K l fr hp->a.tmps.size=C.nt->a.defers=df->cK ρ w fr a.tmps->
  wpQuiet C.P all.toArray (Grew w) (λa'=> ∃fr',K fr'/\a'.tmps.size=C.nt/\a'.defers=df/\cK ρ w fr' a'.tmps) l a:=by
 intro l
 induction l with
 |nil=>
  intro fr a h h1 h2 h3
  exact⟨fr,h,h1,h2,h3⟩
 |cons o r ih=>
  intro fr a h h1 h2 h3
  simp only [aNt,aHk]at h
  simp only [wpQuiet]
  obtain⟨fr0,h3,hh⟩:=dM h h3
  rcases hh with⟨hw,h⟩|⟨hw,h⟩
  ·simp only [hw,if_true]
   obtain⟨v,s,q1,q2,q3⟩:=aPm hti h hm h3
   obtain⟨fr',p1,p2⟩:=eI q3 h1 h3 q2
   exact⟨v,q1,ih fr' _ p1 (by rw [bQ];exact h1) (by rw [put_defers];exact h2) p2⟩
  ·simp only [hw,Bool.false_eq_true,if_false]
   obtain⟨fr',p1,p2⟩:=eI h h1 h3 (Rep.d _ undef (.lit undef))
   exact ih fr' _ p1 (by rw [bQ];exact h1) (by rw [put_defers];exact h2) p2
theorem aHo {C:Cfg}(hti:cT C.P C.ti) {id:Nat}{l:List Oper}{fr:Fr}{hp:Hp}{K:Ex->Fr->Hp->Prop}(m:Nat) (hm:C.P.follows .mixedOrders=true)
  (hB:(aNu l m && Region.lexB .any (l.take m).toArray && Region.noSelect l.toArray && aLu l.toArray (List.range' m (l.length - m)) (Array.replicate m true++Array.replicate (l.length - m) false) false && iV l)=true)
  (h:aNt C (l.take m) (λfr'=>vQ C l (K .normal) (List.range' m (l.length - m)) fr' hp) (l.take m) fr hp):aO C (.region id l.toArray true) fr hp K:=by
 intro E a w hpin hrd ⟨h1,h2,ρ,h3,h4⟩
 simp only [Bool.and_eq_true]at hB
 obtain⟨⟨⟨⟨b1,b2⟩,b3⟩,b4⟩,hnd⟩:=hB
 simp only [Region.lexB,Bool.and_eq_true]at b2
 refine dR hm hnd iK.noOut ?_
 have hlt:=(yY b1).1
 have hq:=aHl (C:=C) hti (all:=l.take m) h3 (l.take m) fr a h h1 rfl h4
 have hl:=wpAnyQ_lex (P:=C.P) (C:=Grew w) (md:= .any) b2.1 (l.take m) 0 (Array.replicate (l.take m).toArray.size false) a (by simp) (by simpa using b2.2) hq
 have hlen:(l.take m).length=m:=by simp;omega
 have hsz:(l.take m).toArray.size=m:=by simp;omega
 rw [hlen,hsz]at hl
 have := aKz (P := C.P) (C := Grew w) (Q' := iK C E K) b1 (λa' w' hg hQ => by
  obtain⟨fr',k1,k2,k3,k4⟩:=hQ
  obtain⟨m1,m2⟩:=h3.grow_same hg
  have:=vP (C:=C) hti (E:=E) hpin b3 _ _ false fr' hp ρ a' _ b4 k1 m1 k2 (k3.trans h2) (m2 fr' _ k4)
  rw [List.length_range']at this
  exact pE _ _ _ _ _ (aK2 (Q':=iK C E K .normal) (λa w ⟨fr',hp',k1,k2⟩=>⟨.normal,fr',hp',E, .refl E,trivial,k1,k2⟩) _ _ _ _ _ this)) m (Array.replicate m false) a _ (Grew.drew w) (by simp) (λi o hi _ hx=>by simp [hi]at hx) hl
 have e1:m+(l.length - m)=l.toArray.size:=by simp;omega
 have e2:Array.replicate m false++Array.replicate (l.length - m) false=Array.replicate l.toArray.size false:=by rw [Array.replicate_append_replicate,e1]
 rw [e1,e2]at this
 exact this
end
end Go.Proofs.YtleihcnongldbaaGreatDoor
