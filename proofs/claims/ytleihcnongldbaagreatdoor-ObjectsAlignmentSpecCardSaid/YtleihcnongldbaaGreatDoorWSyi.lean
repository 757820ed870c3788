/-
  Terms: CheckAxiom. The order of strings, in plain Lean. Terms: the weight of an axiom, and the library's comparisons. Terms: the library's comparisons of numbers, strings and lists. Terms: the tree of a concept: grow. Statements whose order is open: a head of reads and calls in any order, then a tail that is forced. Terms: the order of concepts: compare and Compare. Terms: Compare. Terms: CompareAxiom. Terms: the reference's SameList, Same, SameAxiom. Terms: the reference's Same. Terms: the reference's SameAxiom. Terms: the reference's SameNames. Terms: the reference's count and Few. Terms: the reference's FewAxiom. Terms: the types that come in, what their data are, and what the laid variables hold. More operations: a slice as a pointer to an array; a value in an interface.
  Conditions: none.
-/
import Derived.Test.YtleihcnongldbaaGreatDoorWA8
import Derived.Test.YtleihcnongldbaaGreatDoorWSna
import Derived.Test.YtleihcnongldbaaGreatDoorWSs
import Derived.Test.YtleihcnongldbaaGreatDoorRows
import Derived.LaidHandle
import Derived.MakeChecks
set_option linter.unnecessarySimpa false
set_option linter.unusedSectionVars false
set_option linter.unusedSimpArgs false
set_option linter.unusedVariables false
set_option maxHeartbeats 8000000
namespace Go.Proofs.YtleihcnongldbaaGreatDoor
open Go.Proofs
set_option maxRecDepth 10000
attribute [local irreducible] aN aJ Tri aI YVC cP bE
def aR9 (x:Ax):Bool:=if x.kind=2 then (jV x.left || jV x.right)else if x.kind=1\/x.kind=4\/x.kind=8 then jV x.right else false
def uX (u:Use) (x:Ax):Int:=
 if sG u x=false then 20
 else if u.left=true/\cA x.left≠0 then cA x.left
 else if u.right=true/\cA x.right≠0 then cA x.right
 else if aR9 x=true then 22 else 0
def cD (x:Ax):Int:=if bJ x=false then 22 else uX (gT x.kind) x
theorem yT (x:Ax):Tri Tryz.prog 84 [.d (.agg (axR x))] NG (λr=>r= .d (.int .i64 (cD x))):=by
 have e1:=lN x.left
 have e2:=lN x.right
 have b1:=xP x.left
 have b2:=xP x.right
 rw [bA]at e1 e2 b1 b2
 refine aE false [1,3] hty Tryz.func84 rfl (kp [0,1,2,3,4,5,8,16,18,23,26,31,34,35,44,45,51]) [] _ _ _ (by simp [Tryz.f84]) (by decide) ?_
 ((conv=>whnf);repeat ((first|(intro hq;try simp only [lnS]at hq)|refine sI ?_|refine .intro _ (.intro rfl ?_));(conv=>whnf)))
 refine aD NG (aBx x) ⟨rfl,rfl,trivial⟩ (λr hs=> ?_)
 subst hs
 cases hs:bJ x
 ·((conv=>whnf);repeat' ((first|(intro hq;(try simp only [lnS]at hq);(try rewrite [List.length_map]))|refine sJ ?_|refine .intro _ (.intro rfl ?_)|refine exL (k:= ?_)|refine dwR ?_|((first|refine aB ?_ ?_|refine aC ?_ ?_)<;>intro hb<;>(first|exact ddX hb|try simp only [lnS]at hb))|(refine aA ?_ ?_<;>intro hb<;>try exact dsX hb))<;>(conv=>whnf)))
  rw [cD,if_pos hs];rfl
 ·have hE:cD x=uX (gT x.kind) x:=by rw [cD,if_neg (by simp [hs])]
  have hk:1<=x.kind/\x.kind<=9:=by
   unfold bJ at hs
   split at hs
   ·cases hs
   ·omega
  rw [hE]
  have hrow:=aPn (k:=x.kind) hk
  generalize gT x.kind=u at hrow
  have hn:=aDa x u
  clear hE
  ((conv=>whnf);repeat ((first|(refine dK (id:=91) hty rfl rfl rfl rfl rfl rfl rfl (by omega) (by omega) ?_)|(refine⟨_,hrow, ?_⟩)|(intro hq;try simp only [lnS]at hq)|refine sI ?_|refine .intro _ (.intro rfl ?_));(conv=>whnf)))
  refine aD [] hn trivial (λr hs=> ?_)
  subst hs
  cases hs2:sG u x
  ·((conv=>whnf);repeat' ((first|(intro hq;(try simp only [lnS]at hq);(try rewrite [List.length_map]))|refine sJ ?_|refine .intro _ (.intro rfl ?_)|refine exL (k:= ?_)|refine dwR ?_|((first|refine aB ?_ ?_|refine aC ?_ ?_)<;>intro hb<;>(first|exact ddX hb|try simp only [lnS]at hb))|(refine aA ?_ ?_<;>intro hb<;>try exact dsX hb))<;>(conv=>whnf)))
   rw [uX,if_pos hs2];rfl
  ·((conv=>whnf);repeat' ((first|(intro hq;(try simp only [lnS]at hq);(try rewrite [List.length_map]))|refine sJ ?_|refine .intro _ (.intro rfl ?_)|refine exL (k:= ?_)|(refine aD NG e1 ⟨rfl,rfl,trivial⟩ (λr hs=> ?_);subst hs)|(refine aD NG e2 ⟨rfl,rfl,trivial⟩ (λr hs=> ?_);subst hs)|(refine aD [] b1 trivial (λr hs=> ?_);subst hs)|(refine aD [] b2 trivial (λr hs=> ?_);subst hs)|refine dwR ?_|((first|refine aB ?_ ?_|refine aC ?_ ?_)<;>intro hb<;>(first|exact ddX hb|try simp only [lnS]at hb))|(refine aA ?_ ?_<;>intro hb<;>try exact dsX hb))<;>(conv=>whnf)))
   all_goals (refine eI (Eq.symm ?_);clear e1 e2 b1 b2 hrow hn;unfold uX aR9;simp_all)
   all_goals trace_state
end Go.Proofs.YtleihcnongldbaaGreatDoor
namespace Go.Proofs.YtleihcnongldbaaGreatDoor
def gK (a b:List UInt8):Int:=Lib.compareBytes a b
theorem uB: ∀(a b:List UInt8),gK a b= -1\/gK a b=0\/gK a b=1
 | [],[]=>by simp [gK,Lib.compareBytes]
 | [],_::_=>by simp [gK,Lib.compareBytes]
 |_::_,[]=>by simp [gK,Lib.compareBytes]
 |x::a,y::b=>by
  have:=uB a b
  unfold gK at this |-
  simp only [Lib.compareBytes]
  split
  ·exact .inl rfl
  ·split
   ·exact .inr (.inr rfl)
   ·exact this
theorem eU: ∀(a b:List UInt8),gK a b=0↔a=b
 | [],[]=>by simp [gK,Lib.compareBytes]
 | [],_::_=>by simp [gK,Lib.compareBytes]
 |_::_,[]=>by simp [gK,Lib.compareBytes]
 |x::a,y::b=>by
  have ih:=eU a b
  unfold gK at ih |-
  simp only [Lib.compareBytes,List.cons.injEq]
  split
  ·rename_i h
   constructor
   ·intro h;omega
   ·rintro⟨rfl,_⟩;exact absurd h (UInt8.lt_irrefl x)
  ·split
   ·rename_i h
    constructor
    ·intro h;omega
    ·rintro⟨rfl,_⟩;exact absurd h (UInt8.lt_irrefl x)
   ·rename_i h1 h2
    rw [ih]
    have:x=y:=UInt8.le_antisymm (UInt8.not_lt.1 h2) (UInt8.not_lt.1 h1)
    simp [this]
theorem aDt: ∀(a b:List UInt8),gK b a= - gK a b
 | [],[]=>by simp [gK,Lib.compareBytes]
 | [],_::_=>by simp [gK,Lib.compareBytes]
 |_::_,[]=>by simp [gK,Lib.compareBytes]
 |x::a,y::b=>by
  have ih:=aDt a b
  unfold gK at ih |-
  simp only [Lib.compareBytes]
  by_cases h1:x < y
  ·have h2:¬ y < x:= λh=>UInt8.lt_irrefl x (UInt8.lt_trans h1 h)
   simp [h1,h2]
  ·by_cases h2:y < x
   ·simp [h1,h2]
   ·simp [h1,h2,ih]
theorem aAs: ∀(a b c:List UInt8),gK a b < 0->gK b c < 0->gK a c < 0
 | [],[],c,h,_=>by simp [gK,Lib.compareBytes]at h
 | [],_::_,[],_,h=>by simp [gK,Lib.compareBytes]at h
 | [],_::_,_::_,_,_=>by simp [gK,Lib.compareBytes]
 |_::_,[],c,h,_=>by simp [gK,Lib.compareBytes]at h
 |_::_,_::_,[],_,h=>by simp [gK,Lib.compareBytes]at h
 |x::a,y::b,z::c,h1,h2=>by
  have ih:=aAs a b c
  unfold gK at ih h1 h2 |-
  simp only [Lib.compareBytes]at h1 h2 |-
  by_cases hxy:x < y
  ·by_cases hyz:y < z
   ·simp [UInt8.lt_trans hxy hyz]
   ·by_cases hzy:z < y
    ·simp [hyz,hzy]at h2
    ·have:y=z:=UInt8.le_antisymm (UInt8.not_lt.1 hzy) (UInt8.not_lt.1 hyz)
     subst this;simp [hxy]
  ·by_cases hyx:y < x
   ·simp [hxy,hyx]at h1
   ·have:x=y:=UInt8.le_antisymm (UInt8.not_lt.1 hyx) (UInt8.not_lt.1 hxy)
    subst this
    simp only [hxy,if_false]at h1
    by_cases hyz:x < z
    ·simp [hyz]
    ·by_cases hzy:z < x
     ·simp [hyz,hzy]at h2
     ·simp only [hyz,hzy,if_false]at h2 |-
      exact ih h1 h2
theorem gL: ∀(a b:List UInt8),Op.bytesLess a b=decide (gK a b < 0)
 | [],[]=>by simp [gK,Lib.compareBytes,Op.bytesLess]
 | [],_::_=>by simp [gK,Lib.compareBytes,Op.bytesLess]
 |_::_,[]=>by simp [gK,Lib.compareBytes,Op.bytesLess]
 |x::a,y::b=>by
  have ih:=gL a b
  unfold gK at ih |-
  simp only [Lib.compareBytes,Op.bytesLess]
  by_cases h1:x < y
  ·simp [h1]
  ·by_cases h2:y < x
   ·have:¬ x=y:= λe=>UInt8.lt_irrefl x (by rw [<-e]at h2;exact h2)
    simp [h1,h2,this]
   ·have:x=y:=UInt8.le_antisymm (UInt8.not_lt.1 h2) (UInt8.not_lt.1 h1)
    subst this
    simp [ih]
end Go.Proofs.YtleihcnongldbaaGreatDoor
namespace Go.Proofs.YtleihcnongldbaaGreatDoor
open Go.Proofs
set_option maxRecDepth 10000
attribute [local irreducible] aN aJ Tri aI YVC cP bE
def aKi (c:Cn):Int:=if c.kind≠0 then bH c else 0
def aQ0 (s:List UInt8):Int:=if s≠[]then 1 else 0
def aUe:List Cn->Int
 | []=>0
 |c::r=>aKi c+aUe r
def aUd:List (List UInt8)->Int
 | []=>0
 |c::r=>aQ0 c+aUd r
def gN (x:Ax):Int:=aUe [x.left,x.right]+x.roles.length+aUd [x.role,x.a,x.b]
end Go.Proofs.YtleihcnongldbaaGreatDoor
namespace Go.Proofs.YtleihcnongldbaaGreatDoor
open Go.Proofs
set_option maxRecDepth 10000
attribute [local irreducible] aN aJ Tri aI YVC cP bE
def mY (a b:Int):Int:=if a < b then -1 else if b < a then 1 else 0
def orF:List Int->Int
 | []=>0
 |x::r=>if x≠0 then x else orF r
def dG:List (List UInt8)->List (List UInt8)->Int
 | [],[]=>0
 | [],_::_=> -1
 |_::_,[]=>1
 |a::l,b::m=>if gK a b≠0 then gK a b else dG l m
end Go.Proofs.YtleihcnongldbaaGreatDoor
namespace Go.Proofs.YtleihcnongldbaaGreatDoor
open Go.Proofs
set_option maxRecDepth 10000
attribute [local irreducible] aN aJ Tri aI YVC cP bE
theorem xK {l:List Cn}{j:Nat}(h:j < l.length):(bD (l.take (j+1))).length=(bD (l.take j)).length+bH l[j]:=by
 rw [xJ h,List.length_append];rfl
theorem zF (l:List Cn) (j:Nat):(bD (l.take j)).length<=(bD l).length:=by
 conv=>rhs;rw [<-List.take_append_drop j l,fK,List.length_append]
 omega
theorem aAd: ∀(l:List Cn),l.length<=(bD l).length
 | []=>by simp
 |c::r=>by
  have h1:=aAd r
  have h2:=aJi c
  rw [bH]at h2
  rw [bD,List.length_append,List.length_cons];omega
theorem vR (c:Cn):bH c=(bD c.parts).length+1:=by rw [bH,eD];simp
mutual
def yR:Cn->Cn->Int
 | .mk k n lo hi ps,d=>
  if orF [mY (bH (.mk k n lo hi ps)) (bH d),mY k d.kind,gK n d.name,mY lo d.lo,mY hi d.hi]≠0 then orF [mY (bH (.mk k n lo hi ps)) (bH d),mY k d.kind,gK n d.name,mY lo d.lo,mY hi d.hi]
  else uA ps d.parts
def uA:List Cn->List Cn->Int
 | [],[]=>0
 | [],_::_=> -1
 |_::_,[]=>1
 |a::l,b::m=>if yR a b≠0 then yR a b else uA l m
end
def aF2 (c d:Cn):Int:=orF [mY (bH c) (bH d),mY c.kind d.kind,gK c.name d.name,mY c.lo d.lo,mY c.hi d.hi]
theorem aL8 (c d:Cn):yR c d=if aF2 c d≠0 then aF2 c d else uA c.parts d.parts:=by
 cases c;rw [yR];rfl
end Go.Proofs.YtleihcnongldbaaGreatDoor
namespace Go.Proofs.YtleihcnongldbaaGreatDoor
open Go.RowKit
section
variable {P:Program}
theorem aGt {ops:Array Oper}{Q:Exit->Act->World->Prop}: ∀(fuel:Nat) (listed:Array Bool) (a:Act) (w:World),wpAny P .any ops Q fuel listed a w->wpAny P .any ops Q (fuel+1) listed a w:=by
 intro fuel
 induction fuel with
 |zero=>intro listed a w h;exact⟨λ_=>h.2,λi hi=>(by rw [h.1]at hi;cases hi)⟩
 |succ fuel ih=>intro listed a w h;exact⟨h.1,λi hi=>wpOp_mono (λa w=>ih _ a w) (h.2 i hi)⟩
theorem zO {ops:Array Oper}{Q:Exit->Act->World->Prop}{fuel:Nat}{listed:Array Bool}{a:Act}{w:World}(h:wpAny P .any ops Q fuel listed a w): ∀k,wpAny P .any ops Q (k+fuel) listed a w
 | 0=>by rw [Nat.zero_add];exact h
 |k+1=>by rw [Nat.add_right_comm];exact aGt _ _ _ _ (zO h k)
def aTs (l:List Oper) (m:Nat):Bool:=
 decide (m < l.length) &&
 (List.range l.length).all λi=>
  match l[i]? with
  |some o=>
   (o.after.all λe=> !Region.binds .any e || decide (e.on < i)) &&
   (if i < m then o.guard.isNone && (List.range (m + 1)).any λk => decide (i < k) && (match l[k]? with
     |some o'=>o'.after.any λe=>Region.binds .any e && e.on==i
     |none=>false)
  else i==m || o.after.any λe=>Region.binds .any e && decide (m<=e.on))
  |none=>false
theorem aCw {l:List Oper}{m:Nat}(h:aTs l m=true):m < l.length/\ ∀i o,l[i]? =some o->
  (∀e∈o.after,Region.binds .any e=true->e.on < i)/\
  (i < m->o.guard=none/\ ∃k o',i < k/\k<=m/\l[k]? =some o'/\ ∃e∈o'.after,Region.binds .any e=true/\e.on=i)/\
  (m < i-> ∃e∈o.after,Region.binds .any e=true/\m<=e.on):=by
 simp only [aTs,Bool.and_eq_true,decide_eq_true_eq,List.all_eq_true,List.mem_range]at h
 refine⟨h.1,λi o ho=> ?_⟩
 have hi:=h.2 i (List.getElem?_eq_some_iff.1 ho).1
 rw [ho]at hi
 simp only [Bool.and_eq_true]at hi
 obtain⟨h1,h2⟩:=hi
 refine⟨λe he hb=> ?_,λhim=> ?_,λhmi=> ?_⟩
 ·rw [Array.all_eq_true']at h1
  have:=h1 e he
  simpa [hb]using this
 ·rw [if_pos him]at h2
  simp only [Bool.and_eq_true,Option.isNone_iff_eq_none,List.any_eq_true,List.mem_range,decide_eq_true_eq]at h2
  obtain⟨hg,k,hk,hik,hx⟩:=h2
  refine⟨hg, ?_⟩
  split at hx
  ·rename_i o' ho'
   obtain⟨e,he,hb⟩:=Array.any_eq_true'.1 hx
   simp only [Bool.and_eq_true,beq_iff_eq]at hb
   exact⟨k,o',hik,by omega,ho',e,he,hb.1,hb.2⟩
  ·cases hx
 ·rw [if_neg (by omega)]at h2
  have:(i==m)=false:=by simp;omega
  rw [this,Bool.false_or]at h2
  obtain⟨e,he,hb⟩:=Array.any_eq_true'.1 h2
  simp only [Bool.and_eq_true,decide_eq_true_eq]at hb
  exact⟨e,he,hb.1,hb.2⟩
theorem sS {x:Array Bool}{m k:Nat}{d:Bool}(hx:x.size=m) (i:Nat):(x++Array.replicate k false).getD i d=if i < m then x.getD i d else if i < m+k then false else d:=by
 simp only [Array.getD_eq_getD_getElem?,Array.getElem?_append,hx]
 split
 ·rfl
 ·rw [Array.getElem?_replicate]
  split
  ·rw [if_pos (by omega)];rfl
  ·rw [if_neg (by omega)];rfl
theorem aQi {l:List Oper}{m:Nat}{C:World->Prop}{Q:Act->Prop}{Q':Exit->Act->World->Prop}(hB:aTs l m=true)
  (ht: ∀a w,C w->Q a->wpAny P .any l.toArray Q' (l.length - m) (Array.replicate m true++Array.replicate (l.length - m) false) a w):
  ∀(f:Nat) (x:Array Bool) (a:Act) (w:World),C w->x.size=m->(∀(i:Nat) o,i < m->l[i]? =some o->x.getD i true=true-> ∀e∈o.after,Region.binds .any e=true->x.getD e.on false=true)->
   wpAnyQ P .any (l.take m).toArray C Q f x a->wpAny P .any l.toArray Q' (f+(l.length - m)) (x++Array.replicate (l.length - m) false) a w:=by
 obtain⟨hm,hs⟩:=aCw hB
 have take_lt: ∀i,i < m->(l.take m).toArray[i]? =l[i]? := λi hi=>by simp [List.getElem?_take,hi]
 have full: ∀x:Array Bool,x.size=m->Region.ready .any (l.take m).toArray x=[]->x=Array.replicate m true:=by
  intro x hx hr
  have all: ∀i,i < m->x.getD i true=true:=by
   intro i
   induction i using Nat.strongRecOn with
   |_ i ih=>
    intro him
    by_cases hc:x.getD i true=true
    ·exact hc
    ·exfalso
     have hc:x.getD i true=false:=by simpa using hc
     have hlt:i < l.length:=by omega
     have hmem : i ∈ Region.ready .any (l.take m).toArray x := mem_ready.2 ⟨hc, l[i], by rw [take_lt i him]; exact List.getElem?_eq_getElem hlt, λe he hb => by
      have hlt':=(hs i _ (List.getElem?_eq_getElem hlt)).1 e he hb
      have:=ih e.on hlt' (by omega)
      simp only [Array.getD_eq_getD_getElem?]at this |-
      rw [Array.getElem?_eq_getElem (by omega)]at this |-
      exact this⟩
     rw [hr]at hmem
     cases hmem
  apply Array.ext
  ·simp [hx]
  ·intro i h1 h2
   have:=all i (by omega)
   simp only [Array.getD_eq_getD_getElem?,Array.getElem?_eq_getElem h1,Option.getD_some]at this
   simpa using this
 intro f
 induction f with
 |zero=>
  intro x a w hw hx _ h
  rw [full x hx h.1,Nat.zero_add]
  exact ht a w hw h.2
 |succ f ih=>
  intro x a w hw hx hcl h
  by_cases hr:Region.ready .any (l.take m).toArray x=[]
  ·rw [full x hx hr]
   exact zO (ht a w hw (h.1 hr)) _
  ·have sub: ∀i∈Region.ready .any l.toArray (x++Array.replicate (l.length - m) false),i < m/\i∈Region.ready .any (l.take m).toArray x:=by
    intro i hi
    obtain⟨h1,o,ho,h2⟩:=mem_ready.1 hi
    have ho:l[i]? =some o:=by simpa using ho
    have hlt:=(List.getElem?_eq_some_iff.1 ho).1
    have hlow: ∀j,j < m->(x++Array.replicate (l.length - m) false).getD j false=true->x.getD j false=true:= λj hj h=>by rw [sS hx,if_pos hj]at h;exact h
    have hhigh: ∀j,m<=j->j < l.length->¬ (x++Array.replicate (l.length - m) false).getD j false=true:= λj hj hj' h=>by rw [sS hx,if_neg (by omega)]at h;split at h<;>cases h
    have him:i < m:=by
     by_cases him:i < m
     ·exact him
     ·exfalso
      by_cases hie:m < i
      ·obtain⟨e,he,hb,hme⟩:=(hs i o ho).2.2 hie
       exact hhigh e.on hme (by have:=(hs i o ho).1 e he hb;omega) (h2 e he hb)
      ·have:i=m:=by omega
       subst this
       -- every statement of the head is listed
       have all: ∀d j,j+d=i->0 < d->x.getD j true=true:=by
        intro d
        induction d using Nat.strongRecOn with
        |_ d ihd=>
         intro j hjd hd
         have hjl:j < l.length:=by omega
         obtain⟨_,k,o',hjk,hki,ho',e,he,hb,hej⟩:=(hs j _ (List.getElem?_eq_getElem hjl)).2.1 (by omega)
         have htrue:x.getD j false=true:=by
          by_cases hk:k=i
          ·subst hk
           rw [ho]at ho'
           injection ho' with ho';subst ho'
           have:=hlow e.on (by omega) (h2 e he hb)
           rwa [hej]at this
          ·have:=hcl k o' (by omega) ho' (ihd (i - k) (by omega) k (by omega) (by omega)) e he hb
           rwa [hej]at this
         simp only [Array.getD_eq_getD_getElem?]at htrue |-
         rw [Array.getElem?_eq_getElem (by omega)]at htrue |-
         exact htrue
       apply hr
       apply List.eq_nil_iff_forall_not_mem.2
       intro j hj
       obtain⟨g1,oj,hoj,_⟩:=mem_ready.1 hj
       have hjm:j < i:=by
        have:=(Array.getElem?_eq_some_iff.1 hoj).1
        simp at this
        omega
       rw [all (i - j) j (by omega) (by omega)]at g1
       cases g1
    refine⟨him,mem_ready.2 ⟨?_,o,by rw [take_lt i him];exact ho,λe he hb=> ?_⟩⟩
    ·rw [sS hx,if_pos him]at h1;exact h1
    ·exact hlow e.on (by have:=(hs i o ho).1 e he hb;omega) (h2 e he hb)
   have hne:Region.ready .any l.toArray (x++Array.replicate (l.length - m) false)≠[]:=by
    obtain⟨j,hj⟩:=List.exists_mem_of_ne_nil _ hr
    obtain⟨g1,oj,hoj,g2⟩:=mem_ready.1 hj
    have hjm:j < m:=by
     have:=(Array.getElem?_eq_some_iff.1 hoj).1
     simp at this
     omega
    have hmem : j ∈ Region.ready .any l.toArray (x ++ Array.replicate (l.length - m) false) := mem_ready.2 ⟨by rw [sS hx, if_pos hjm]; exact g1, oj, by rw [take_lt j hjm] at hoj; simpa using hoj, λe he hb => by
     have:=g2 e he hb
     have hem:e.on < m:=by
      rw [take_lt j hjm]at hoj
      have:=(hs j oj hoj).1 e he hb
      omega
     rw [sS hx,if_pos hem];exact this⟩
    intro h0
    rw [h0]at hmem
    cases hmem
   rw [Nat.add_right_comm]
   refine⟨λh0=>absurd h0 hne,λi hi=> ?_⟩
   obtain⟨him,hip⟩:=sub i hi
   have hlt:i < l.length:=by omega
   have ho:=List.getElem?_eq_getElem hlt
   have hq:=h.2 i hip
   have hg:=((hs i _ ho).2.1 him).1
   have hq':qOp P l.toArray C i (wpAnyQ P .any (l.take m).toArray C Q f (x.setIfInBounds i true)) a:=by
    unfold qOp at hq |-
    rw [take_lt i him]at hq
    have:l.toArray[i]? =l[i]? :=by simp
    rw [this]
    rw [ho]at hq |-
    simp only [Region.wanted,hg]at hq |-
    exact hq
   refine wpOp_of_qOp hw (λa' w' hw' hk=> ?_) hq'
   have hset:(x++Array.replicate (l.length - m) false).setIfInBounds i true=x.setIfInBounds i true++Array.replicate (l.length - m) false:=by
    rw [Array.setIfInBounds_append_left (by omega)]
   rw [hset]
   refine ih _ a' w' hw' (by simp [hx]) ?_ hk
   intro j o hj hoj hjt e he hb
   have hup: ∀k (d:Bool),x.getD k d=true->(x.setIfInBounds i true).getD k d=true:=by
    intro k d hk
    simp only [Array.getD_eq_getD_getElem?,Array.getElem?_setIfInBounds]at hk |-
    split
    ·split<;>simp_all
    ·exact hk
   by_cases hji:j=i
   ·subst hji
    obtain⟨_,o2,ho2,h2⟩:=mem_ready.1 hip
    rw [take_lt j him,hoj]at ho2
    injection ho2 with ho2;subst ho2
    exact hup _ _ (h2 e he hb)
   ·refine hup _ _ (hcl j o hj hoj ?_ e he hb)
    simp only [Array.getD_eq_getD_getElem?,Array.getElem?_setIfInBounds]at hjt |-
    rw [if_neg (λh=>hji h.symm)]at hjt
    exact hjt
def aTr (C:Cfg) (all:List Oper) (K:Fr->Prop):List Oper->Fr->Hp->Prop
 | [],fr,_=>K fr
 |o::r,fr,hp=>aMx C all o fr hp λfr'=>aTr C all K r fr' hp
theorem aMy {C:Cfg}(hti:dT C.P C.ti) {all:List Oper}{K:Fr->Prop}{E:Entry}{ρ:Env}{w:World}{hp:Hp}{df:List Deferred}(hm:Mem E ρ hp w): ∀(l:List Oper) (fr:Fr) (a:Act),aTr C all K l fr hp->a.tmps.size=C.nt->a.defers=df->dH ρ w fr a.tmps->
  wpQuiet C.P all.toArray (Grew w) (λa'=> ∃fr',K fr'/\a'.tmps.size=C.nt/\a'.defers=df/\dH ρ w fr' a'.tmps) l a:=by
 intro l
 induction l with
 |nil=>
  intro fr a h h1 h2 h3
  exact⟨fr,h,h1,h2,h3⟩
 |cons o r ih=>
  intro fr a h h1 h2 h3
  simp only [aTr,aMx]at h
  simp only [wpQuiet]
  obtain⟨fr0,h3,hh⟩:=fA h h3
  rcases hh with⟨hw,h⟩|⟨hw,h⟩
  ·simp only [hw,if_true]
   obtain⟨v,s,q1,q2,q3⟩:=aVn hti h hm h3
   obtain⟨fr',p1,p2⟩:=fT q3 h1 h3 q2
   exact⟨v,q1,ih fr' _ p1 (by rw [cE];exact h1) (by rw [put_defers];exact h2) p2⟩
  ·simp only [hw,Bool.false_eq_true,if_false]
   obtain⟨fr',p1,p2⟩:=fT h h1 h3 (Rep.d _ undef (.lit undef))
   exact ih fr' _ p1 (by rw [cE];exact h1) (by rw [put_defers];exact h2) p2
theorem aN2 {C:Cfg}(hti:dT C.P C.ti) {id:Nat}{l:List Oper}{fr:Fr}{hp:Hp}{K:Ex->Fr->Hp->Prop}(m:Nat) (hm:C.P.follows .mixedOrders=true)
  (hB:(aTs l m && Region.lexB .any (l.take m).toArray && Region.noSelect l.toArray && aRi l.toArray (List.range' m (l.length - m)) (Array.replicate m true++Array.replicate (l.length - m) false) false && mJ l)=true)
  (h:aTr C (l.take m) (λfr'=>aAo C l (K .normal) (List.range' m (l.length - m)) fr' hp) (l.take m) fr hp):aN C (.region id l.toArray true) fr hp K:=by
 intro E a w hpin hrd ⟨h1,h2,ρ,h3,h4⟩
 simp only [Bool.and_eq_true]at hB
 obtain⟨⟨⟨⟨b1,b2⟩,b3⟩,b4⟩,hnd⟩:=hB
 simp only [Region.lexB,Bool.and_eq_true]at b2
 refine fG hm hnd lQ.noOut ?_
 have hlt:=(aCw b1).1
 have hq:=aMy (C:=C) hti (all:=l.take m) h3 (l.take m) fr a h h1 rfl h4
 have hl:=wpAnyQ_lex (P:=C.P) (C:=Grew w) (md:= .any) b2.1 (l.take m) 0 (Array.replicate (l.take m).toArray.size false) a (by simp) (by simpa using b2.2) hq
 have hlen:(l.take m).length=m:=by simp;omega
 have hsz:(l.take m).toArray.size=m:=by simp;omega
 rw [hlen,hsz]at hl
 have := aQi (P := C.P) (C := Grew w) (Q' := lQ C E K) b1 (λa' w' hg hQ => by
  obtain⟨fr',k1,k2,k3,k4⟩:=hQ
  obtain⟨m1,m2⟩:=h3.grow_same hg
  have:=aAn (C:=C) hti (E:=E) hpin b3 _ _ false fr' hp ρ a' _ b4 k1 m1 k2 (k3.trans h2) (m2 fr' _ k4)
  rw [List.length_range']at this
  exact tL _ _ _ _ _ (aPg (Q':=lQ C E K .normal) (λa w ⟨fr',hp',k1,k2⟩=>⟨.normal,fr',hp',E, .refl E,trivial,k1,k2⟩) _ _ _ _ _ this)) m (Array.replicate m false) a _ (Grew.drew w) (by simp) (λi o hi _ hx=>by simp [hi]at hx) hl
 have e1:m+(l.length - m)=l.toArray.size:=by simp;omega
 have e2:Array.replicate m false++Array.replicate (l.length - m) false=Array.replicate l.toArray.size false:=by rw [Array.replicate_append_replicate,e1]
 rw [e1,e2]at this
 exact this
end
end Go.Proofs.YtleihcnongldbaaGreatDoor
namespace Go.Proofs.YtleihcnongldbaaGreatDoor
open Go.Proofs
set_option maxRecDepth 10000
theorem Tri.osl {P:Program}{f:FuncId}{id z:Nat}{rows:List (List D)}{post:SV->Prop}(h:Tri P f [.d (.sl z rows)] [] post):Tri P f [.osl id z rows] [] post:=by
 unfold Tri at h |-
 intro w ρ vs a b c
 refine h w ρ vs a ⟨b.1,λj s v hs hv=> ?_⟩ (λid o ho=>by cases ho)
 match j,hs with
 | 0,hs=>
  injection hs with hs;subst hs
  exact .d _ _ (b.2 0 _ v rfl hv).osl_inv.1
attribute [local irreducible] aN aJ Tri aI YVC cP bE
end Go.Proofs.YtleihcnongldbaaGreatDoor
namespace Go.Proofs.YtleihcnongldbaaGreatDoor
open Go.Proofs
set_option maxRecDepth 10000
attribute [local irreducible] aN aJ Tri aI YVC cP bE
end Go.Proofs.YtleihcnongldbaaGreatDoor
namespace Go.Proofs.YtleihcnongldbaaGreatDoor
open Go.Proofs
set_option maxRecDepth 10000
attribute [local irreducible] aN aJ Tri aI YVC cP bE
def uZ (x y:Ax):Int:=orF [mY (gN x) (gN y),mY x.kind y.kind]
def yW (x y:Ax):Int:=orF [dG x.roles y.roles,gK x.role y.role,gK x.a y.a,gK x.b y.b]
def aI5 (x y:Ax):Int:=
 if uZ x y≠0 then uZ x y
 else if yR x.left y.left≠0 then yR x.left y.left
 else if yR x.right y.right≠0 then yR x.right y.right
 else yW x y
end Go.Proofs.YtleihcnongldbaaGreatDoor
namespace Go.Proofs.YtleihcnongldbaaGreatDoor
open Go.Proofs
set_option maxRecDepth 10000
attribute [local irreducible] aN aJ Tri aI YVC cP bE
end Go.Proofs.YtleihcnongldbaaGreatDoor
namespace Go.Proofs.YtleihcnongldbaaGreatDoor
open Go.Proofs
set_option maxRecDepth 10000
attribute [local irreducible] aN aJ Tri aI YVC cP bE
end Go.Proofs.YtleihcnongldbaaGreatDoor
namespace Go.Proofs.YtleihcnongldbaaGreatDoor
open Go.Proofs
set_option maxRecDepth 10000
attribute [local irreducible] aN aJ Tri aI YVC cP bE
end Go.Proofs.YtleihcnongldbaaGreatDoor
namespace Go.Proofs.YtleihcnongldbaaGreatDoor
open Go.Proofs
set_option maxRecDepth 10000
attribute [local irreducible] aN aJ Tri aI YVC cP bE
structure Nm where
 a:List (List UInt8)
 b:List (List UInt8)
 c:List (List UInt8)
 d:List (List UInt8)
def nmR (x:Nm):List D:=[aLs x.a,aLs x.b,aLs x.c,aLs x.d]
end Go.Proofs.YtleihcnongldbaaGreatDoor
namespace Go.Proofs.YtleihcnongldbaaGreatDoor
open Go.Proofs
set_option maxRecDepth 10000
attribute [local irreducible] aN aJ Tri aI YVC cP bE
mutual
def mU:Cn->Int->Int->Int
 | .mk _ n _ _ ps,deep,most=>if deep<=0 then most+1 else oH ps (deep - 1) most (1+n.length / 40)
def oH:List Cn->Int->Int->Int->Int
 | [],_,_,t=>t
 |c::r,deep,most,t=>if t<=most then oH r deep most (t+mU c deep (most - t))else t
end
theorem aL2 (c:Cn) (deep most:Int):mU c deep most=if deep<=0 then most+1 else oH c.parts (deep - 1) most (1+(c.name.length:Int) / 40):=by
 cases c;rw [mU];rfl
theorem aI3: ∀(c:Cn) (deep most:Int),deep<=40->0<=deep->0<=most->most<=150->Tri Tryz.prog 143 [.d (.agg (cnR c)), .d (.int .i64 deep), .d (.int .i64 most)] []
  (λr=>r= .d (.int .i64 (mU c deep most))/\1<=mU c deep most/\mU c deep most<=most+300000000000000000):=by
 refine Cn.ind ?_
 intro c ih deep most hd0 hd hm0 hm
 rw [bA,aL2]
 refine aE false [3] hty Tryz.func143 rfl (kp [0,1,2,3,6,7,8,10,27]) [] _ _ _ (by simp [Tryz.f143]) (by simp) ?_
 ((conv=>whnf);repeat' ((first|(intro hq;(try simp only [lnS]at hq);(try rewrite [List.length_map]))|refine sJ ?_|refine .intro _ (.intro rfl ?_)|refine exL (k:= ?_)|refine dwR ?_|((first|refine aB ?_ ?_|refine aC ?_ ?_)<;>intro hb<;>(first|exact ddX hb|try simp only [lnS]at hb))|(refine aA ?_ ?_<;>intro hb<;>try exact dsX hb))<;>(conv=>whnf)))
 ·rw [if_pos (by assumption)]
  exact⟨rfl,by omega,by omega⟩
 ·have ht:((c.name.length:Int)).tdiv 40=(c.name.length:Int) / 40:=Int.tdiv_eq_ediv_of_nonneg (by omega)
  rw [if_neg (by assumption),ht]
  have hT:1<=1+(c.name.length:Int) / 40/\1+(c.name.length:Int) / 40<=most+300000000000000000:=by omega
  generalize (c.name.length:Int) / 40=q at hT |-
  refine⟨⟨by omega,by omega⟩, ?_⟩
  ((conv=>whnf);repeat' ((first|(intro hq;(try simp only [lnS]at hq);(try rewrite [List.length_map]))|refine sJ ?_|refine .intro _ (.intro rfl ?_)|refine exL (k:= ?_)|refine dwR ?_|((first|refine aB ?_ ?_|refine aC ?_ ?_)<;>intro hb<;>(first|exact ddX hb|try simp only [lnS]at hb))|(refine aA ?_ ?_<;>intro hb<;>try exact dsX hb))<;>(conv=>whnf)))
  refine aH hty (λp:Nat×Int=>([(1, .d (.int .i64 deep)),(2, .d (.int .i64 most)),(3, .ea 5 [[.int .i64 c.kind, .str c.name, .int .i64 c.lo, .int .i64 c.hi, .sl 5 (c.parts.map cnR)]] 0 0),(7, .d (.int .i64 p.2)),(8, .d (.int .i64 p.1))],[])) (λp=>p.1<=c.parts.length/\1<=p.2/\p.2<=most+300000000000000000/\oH c.parts (deep - 1) most (1+q)=oH (c.parts.drop p.1) (deep - 1) most p.2) (λp=>c.parts.length - p.1) (0,1+q) ⟨Nat.zero_le _,hT.1,hT.2,rfl⟩ ⟨by repeat' (first|exact trivial|exact rfl|(rw [List.length_map];exact rfl)|exact⟨rfl,rfl⟩|refine And.intro ?_ ?_),trivial⟩ ?_
  rintro⟨j,t⟩ ⟨hj,ht1,ht2,hn⟩
  dsimp only at hj ht1 ht2 hn
  by_cases hjl:j < c.parts.length
  ·have hrow:(c.parts.map cnR)[(j:Int).toNat]? =some (cnR c.parts[j]):=aS hjl
   have hcall:=ih c.parts[j] (List.getElem_mem hjl) (deep - 1) (most - t) (by omega) (by omega)
   rw [List.drop_eq_getElem_cons hjl,oH]at hn
   generalize c.parts[j]=x at hrow hn hcall
   rw [bA]at hrow hcall
   ((conv=>whnf);repeat' ((first|(intro hq;(try simp only [lnS]at hq);(try rewrite [List.length_map]))|refine sJ ?_|refine .intro _ (.intro rfl ?_)|refine exL (k:= ?_)|(refine⟨_,hrow, ?_⟩)|(refine aD [] (hcall (by omega) (by omega)) trivial (λr hs=> ?_);obtain⟨hs,hs1,hs2⟩:=hs;subst hs)|refine dwR ?_|((first|refine aB ?_ ?_|refine aC ?_ ?_)<;>intro hb<;>(first|exact ddX hb|try simp only [lnS]at hb))|(refine aA ?_ ?_<;>intro hb<;>try exact dsX hb))<;>(conv=>whnf)))
   ·have h9:t<=most:=by first|assumption|omega
    rw [if_pos h9]at hn
    refine⟨(j+1,t+mU x (deep - 1) (most - t)),⟨by dsimp only;omega,by dsimp only;omega,by dsimp only;omega,hn⟩,by dsimp only;omega,by repeat' (first|exact trivial|exact rfl|refine And.intro ?_ ?_),trivial⟩
   ·have h9:¬ t<=most:=by first|assumption|omega
    rw [if_neg h9]at hn
    rw [hn];exact⟨rfl,ht1,ht2⟩
  ·have hjl:j=c.parts.length:=by omega
   subst hjl
   rw [List.drop_length,oH]at hn
   ((conv=>whnf);repeat' ((first|(intro hq;(try simp only [lnS]at hq);(try rewrite [List.length_map]))|refine sJ ?_|refine .intro _ (.intro rfl ?_)|refine exL (k:= ?_)|refine dwR ?_|((first|refine aB ?_ ?_|refine aC ?_ ?_)<;>intro hb<;>(first|exact ddX hb|try simp only [lnS]at hb))|(refine aA ?_ ?_<;>intro hb<;>try exact dsX hb))<;>(conv=>whnf)))
   all_goals (rw [hn];exact⟨rfl,ht1,ht2⟩)
def aT1 (c:Cn):Bool:=decide (mU c 40 150<=150)
theorem aG6 (c:Cn):Tri Tryz.prog 100 [.d (.agg (cnR c))] [] (λr=>r= .d (.bool (aT1 c))):=by
 have hc:=aI3 c 40 150 (by omega) (by omega) (by omega) (by omega)
 rw [bA]at hc |-
 refine aE false [1] hty Tryz.func100 rfl (kp [0,1,2]) [] _ _ _ (by simp [Tryz.f100]) (by simp) ?_
 ((conv=>whnf);repeat' ((first|(intro hq;(try simp only [lnS]at hq);(try rewrite [List.length_map]))|refine sJ ?_|refine .intro _ (.intro rfl ?_)|refine exL (k:= ?_)|(refine aD [] hc trivial (λr hs=> ?_);obtain⟨hs,hs1,hs2⟩:=hs;subst hs)|refine dwR ?_|((first|refine aB ?_ ?_|refine aC ?_ ?_)<;>intro hb<;>(first|exact ddX hb|try simp only [lnS]at hb))|(refine aA ?_ ?_<;>intro hb<;>try exact dsX hb))<;>(conv=>whnf)))
 all_goals rfl
end Go.Proofs.YtleihcnongldbaaGreatDoor
namespace Go.Proofs.YtleihcnongldbaaGreatDoor
open Go.Proofs
set_option maxRecDepth 10000
attribute [local irreducible] aN aJ Tri aI YVC cP bE
def sO:List (List UInt8)->Int
 | []=>0
 |s::r=>s.length+sO r
def aPx (x:Ax):Int:=x.role.length+x.a.length+x.b.length+10 * x.roles.length+sO (x.roles.take 100)
def aC1 (x:Ax):Bool:=decide (aPx x<=600) && aT1 x.left && aT1 x.right
structure SzAx (x:Ax):Prop where
 r:x.roles.length<=140737488351232
 o:x.role.length<=140737488351232
 a:x.a.length<=140737488351232
 b:x.b.length<=140737488351232
 rs: ∀s∈x.roles,s.length<=140737488351232
theorem aCc (x:Ax) (h:SzAx x):Tri Tryz.prog 61 [.d (.agg (axR x))] [] (λr=>r= .d (.bool (aC1 x))):=by
 have hl:=aG6 x.left
 have hr:=aG6 x.right
 rw [bA]at hl hr
 obtain⟨s1,s2,s3,s4,s5⟩:=h
 obtain⟨kind,isopen,left,right,roles,role,a,b⟩:=x
 dsimp only at hl hr s1 s2 s3 s4 s5
 unfold aC1 aPx axR
 dsimp only
 obtain⟨lk,ln,llo,lhi,lps⟩:=left
 obtain⟨rk,rn,rlo,rhi,rps⟩:=right
 dsimp only [Cn.kind,Cn.name,Cn.lo,Cn.hi,Cn.parts]at hl hr |-
 refine aE false [1] hty Tryz.func61 rfl (kp [0,1,2,3,4,29]) [] _ _ _ (by simp [Tryz.f61]) (by simp) ?_
 ((conv=>whnf);repeat' ((first|(intro hq;(try simp only [lnS]at hq);(try rewrite [List.length_map]))|refine sJ ?_|refine .intro _ (.intro rfl ?_)|refine exL (k:= ?_)|refine dwR ?_|((first|refine aB ?_ ?_|refine aC ?_ ?_)<;>intro hb<;>(first|exact ddX hb|try simp only [lnS]at hb))|(refine aA ?_ ?_<;>intro hb<;>try exact dsX hb))<;>(conv=>whnf)))
 refine aH hty (λp:Nat×Int=>([(1, .ea 16 [[.int .i64 kind, .bool isopen, .int .i64 lk, .str ln, .int .i64 llo, .int .i64 lhi,cnl lps, .int .i64 rk, .str rn, .int .i64 rlo, .int .i64 rhi,cnl rps,aLs roles, .str role, .str a, .str b]] 0 0),(3, .d (.int .i64 p.2)),(4, .d (.int .i64 p.1))],[])) (λp=>p.1<=roles.length/\p.1<=100/\0<=p.2/\p.2<=140737488351232 * 13+140737488351232 * p.1/\(role.length:Int)+a.length+b.length+10 * roles.length+sO (roles.take 100)=p.2+sO ((roles.take 100).drop p.1)) (λp=>roles.length - p.1) (0,(role.length:Int)+a.length+b.length+10 * roles.length) ⟨Nat.zero_le _,by omega,by omega,by omega,rfl⟩ ⟨by repeat' (first|exact trivial|exact rfl|(rw [List.length_map];exact rfl)|exact⟨rfl,rfl⟩|refine And.intro ?_ ?_),trivial⟩ ?_
 rintro⟨j,t⟩ ⟨hj,hj2,ht1,ht2,hn⟩
 dsimp only at hj hj2 ht1 ht2 hn
 by_cases hjl:j < roles.length/\j < 100
 ·have hrow:(roles.map bL)[(j:Int).toNat]? =some (bL roles[j]):=aS hjl.1
  have hlen:=s5 roles[j] (List.getElem_mem hjl.1)
  have htl:j < (roles.take 100).length:=by rw [List.length_take];omega
  rw [List.drop_eq_getElem_cons htl,sO,List.getElem_take]at hn
  have hjl1:=hjl.1
  have hjl2:=hjl.2
  clear s5
  generalize roles[j]=y at hrow hn hlen
  ((conv=>whnf);repeat' ((first|(intro hq;(try simp only [lnS]at hq);(try rewrite [List.length_map]))|refine sJ ?_|refine .intro _ (.intro rfl ?_)|refine exL (k:= ?_)|(refine⟨_,hrow, ?_⟩)|refine dwR ?_|((first|refine aB ?_ ?_|refine aC ?_ ?_)<;>intro hb<;>(first|exact ddX hb|try simp only [lnS]at hb))|(refine aA ?_ ?_<;>intro hb<;>try exact dsX hb))<;>(conv=>whnf)))
  refine⟨(j+1,t+y.length),⟨by dsimp only;omega,by dsimp only;omega,by dsimp only;omega,by dsimp only;omega,by dsimp only;omega⟩,by dsimp only;omega,by repeat' (first|exact trivial|exact rfl|refine And.intro ?_ ?_),trivial⟩
 ·have hdr:(roles.take 100).drop j=[]:=List.drop_eq_nil_of_le (by rw [List.length_take];omega)
  rw [hdr,sO,Int.add_zero]at hn
  rw [hn]
  clear hn hdr s5
  ((conv=>whnf);repeat' ((first|(intro hq;(try simp only [lnS]at hq);(try rewrite [List.length_map]))|refine sJ ?_|refine .intro _ (.intro rfl ?_)|refine exL (k:= ?_)|(refine aD [] hl trivial (λr hs=> ?_);subst hs)|(refine aD [] hr trivial (λr hs=> ?_);subst hs)|refine dwR ?_|((first|refine aB ?_ ?_|refine aC ?_ ?_)<;>intro hb<;>(first|exact ddX hb|try simp only [lnS]at hb))|(refine aA ?_ ?_<;>intro hb<;>try exact dsX hb))<;>(conv=>whnf)))
  all_goals (refine aQ (Eq.symm ?_);simp_all [aT1])
  all_goals (intro h9;omega)
end Go.Proofs.YtleihcnongldbaaGreatDoor
namespace Go.Proofs.YtleihcnongldbaaGreatDoor
open Go.Proofs Go.RowKit
set_option maxRecDepth 100000
theorem aS0:wQ Tryz.prog 116=some [3,4,114,114,22,9,9,9]:=by kernel_rfl
theorem aM6:wQ Tryz.prog 114=some [3,9,3,3,112]:=by kernel_rfl
theorem aJ2:Tryz.prog.underlying 112=some (.slice 114):=by kernel_rfl
theorem aPp:Tryz.prog.underlying 39=some (.slice 116):=by kernel_rfl
theorem aM5:Tryz.prog.underlying 22=some (.slice 9):=by kernel_rfl
theorem u3:Tryz.prog.underlying 3=some (.int .i64):=by kernel_rfl
theorem u9:Tryz.prog.underlying 9=some .string:=by kernel_rfl
theorem u4:Tryz.prog.underlying 4=some .bool:=by kernel_rfl
theorem aO4:Tryz.prog.cellsOf 114=5:=by kernel_rfl
theorem aTc:Tryz.prog.cellsOf 116=16:=by kernel_rfl
theorem aR5:Tryz.prog.cellsOf 9=1:=by kernel_rfl
theorem laid:laidOutB Tryz.prog=true:=by kernel_rfl
def TT:List TypeId:=[116,39,114,112,22,3,9,4]
theorem aOz: ∀(n:Nat) (ds:List D),TyD Tryz.prog n 114 ds-> ∃c,ds=cnR c:=by
 intro n
 induction n using Nat.strongRecOn with
 |_ n ih=>
  intro ds h
  obtain⟨m,hm,a1,b1,rfl,h1,a2,b2,rfl,h2,a3,b3,rfl,h3,a4,b4,rfl,h4,a5,b5,rfl,h5,rfl⟩:=fY aM6 h
  obtain⟨k,rfl,_⟩:=mZ u3 h1
  obtain⟨s,rfl,_⟩:=eC u9 h2
  obtain⟨lo,rfl,_⟩:=mZ u3 h3
  obtain⟨hi,rfl,_⟩:=mZ u3 h4
  obtain⟨j,hj,rows,rfl,_,hr⟩:=hO aJ2 h5
  obtain⟨l,rfl⟩:=tS (λr hr=>ih j (by omega) r hr) rows hr
  exact⟨.mk k s lo hi l,by rw [aO4,bA];rfl⟩
theorem aBc {α:Type}{R:List D->Prop}{Q:α->Prop}{f:α->List D}(h: ∀r,R r-> ∃x,r=f x/\Q x): ∀rows:List (List D),(∀r∈rows,R r)-> ∃l:List α,rows=l.map f/\ ∀x∈l,Q x
 | [],_=>⟨[],rfl,by simp⟩
 |r::rest,hr=>by
  obtain⟨x,rfl,hx⟩:=h r (hr r (List.mem_cons_self ..))
  obtain⟨l,rfl,hl⟩:=aBc h rest (λq hq=>hr q (List.mem_cons_of_mem _ hq))
  exact⟨x::l,rfl,by simpa using ⟨hx,hl⟩⟩
theorem uV {n:Nat}{ds:List D}(h:TyD Tryz.prog n 22 ds): ∃l:List (List UInt8),ds=[aLs l]/\l.length<=140737488351232/\ ∀s∈l,s.length<=140737488351232:=by
 obtain⟨m,rfl,rows,rfl,hn,hr⟩:=hO aM5 h
 obtain ⟨l, rfl, hl⟩ := aBc (f := bL) (Q := λs : List UInt8 => s.length <= 140737488351232) (λr hr => by
  obtain⟨s,rfl,hs⟩:=eC u9 hr
  exact⟨s,rfl,hs⟩) rows hr
 exact⟨l,by rw [aR5];rfl,by rw [List.length_map]at hn;exact hn,hl⟩
theorem aV5 {n:Nat}{ds:List D}(h:TyD Tryz.prog n 116 ds): ∃x,ds=axR x/\SzAx x:=by
 obtain⟨m,rfl,a1,b1,rfl,h1,a2,b2,rfl,h2,a3,b3,rfl,h3,a4,b4,rfl,h4,a5,b5,rfl,h5,a6,b6,rfl,h6,a7,b7,rfl,h7,a8,b8,rfl,h8,rfl⟩:=fY aS0 h
 obtain⟨k,rfl,_⟩:=mZ u3 h1
 obtain⟨o,rfl⟩:=aM7 u4 h2
 obtain⟨l,rfl⟩:=aOz _ _ h3
 obtain⟨r,rfl⟩:=aOz _ _ h4
 obtain⟨rs,rfl,q1,q2⟩:=uV h5
 obtain⟨s1,rfl,q3⟩:=eC u9 h6
 obtain⟨s2,rfl,q4⟩:=eC u9 h7
 obtain⟨s3,rfl,q5⟩:=eC u9 h8
 exact⟨⟨k,o,l,r,rs,s1,s2,s3⟩,by rw [bA,bA];rfl,⟨q1,q3,q4,q5,q2⟩⟩
theorem aFk {t:TypeId}{ts:List TypeId}(h:wQ Tryz.prog t=some ts) (ds:List D):aC7 Tryz.prog t ds= .d (.agg ds):=by
 unfold wQ at h
 split at h
 ·rename_i fs hu
  simp only [aC7,hu]
 ·cases h
def aBw:List (String×DataW Unit):=[("veilstone/terms.needs",Rows.laid_veilstone_terms_needs),("veilstone/terms.uses",Rows.laid_veilstone_terms_uses)]
theorem aT0:Tryz.prog.globalNamed "veilstone/terms.needs" =some 1:=by kernel_rfl
theorem aUv:Tryz.prog.globalNamed "veilstone/terms.uses" =some 0:=by kernel_rfl
theorem aS4:(Tryz.prog.globals[(1:Nat)]?).map (·.type)=some 216:=by kernel_rfl
theorem aUa:(Tryz.prog.globals[(0:Nat)]?).map (·.type)=some 173:=by kernel_rfl
def FT:List TypeId:=[216,215,173,172,3,4]
theorem fl:Fl Tryz.prog (· ∈FT):=aUw (by kernel_rfl)
theorem aA7 {W:World}(h:laidMetH Tryz.prog aBw W): ∀ρ:Env,ρ.S=below W-> ∀id o,aT NG id=some o->RO W ρ id o:=by
 rw [MakeChecks.laidMetH_plain _ _ _ (by kernel_rfl)]at h
 obtain⟨ps,⟨g0,t0,cs0,f0,p0,q0,hg0,ht0,hv0,hd0,⟨g1,t1,cs1,f1,p1,q1,hg1,ht1,hv1,hd1,_,_⟩,_⟩,_,_⟩:=h
 obtain rfl:=Option.some.inj (aT0.symm.trans hg0)
 obtain rfl:=Option.some.inj (aUv.symm.trans hg1)
 obtain rfl:=Option.some.inj (aS4.symm.trans ht0)
 obtain rfl:=Option.some.inj (aUa.symm.trans ht1)
 have v0:=uD (z:=4) (rows:=aKd.map aNf) fl hg0 (by decide) hv0 hd0 (by intro r hr;obtain⟨x,_,rfl⟩:=List.mem_map.1 hr;rfl) (by kernel_rfl)
 have v1:=uD (z:=7) (rows:=iS.map aPo) fl hg1 (by decide) hv1 hd1 (by intro r hr;obtain⟨x,_,rfl⟩:=List.mem_map.1 hr;rfl) (by kernel_rfl)
 intro ρ hS id o ho
 rw [<-hS]at v0 v1
 simp only [NG,aT]at ho
 split at ho
 ·injection ho with ho;subst ho;exact v0
 ·split at ho
  ·injection ho with ho;subst ho;exact v1
  ·cases ho
end Go.Proofs.YtleihcnongldbaaGreatDoor
namespace Go.Proofs.YtleihcnongldbaaGreatDoor
open Go.RowKit
section
variable {P:Program}
theorem aM0 {w:World}{S:Nat->Nat->Prop}{cs:List D}{b off n:Nat}(h:View w S 1 (cs.map λc=>[c]) b off) (hn:cs.length=n):View w S n [cs] b off:=by
 refine⟨λrow hr=> ?_,λi row j x h1 h2=> ?_⟩
 ·rw [List.mem_singleton.1 hr,hn]
 ·have hi:i=0:=by
   have:=(List.getElem?_eq_some_iff.1 h1).1
   simp at this;omega
  subst hi
  injection h1 with h1
  subst h1
  have h3:=h.2 j [x] 0 x (by rw [List.getElem?_map,h2];rfl) rfl
  simp only [Nat.mul_one,Nat.add_zero]at h3
  simpa using h3
theorem aDx {ti:TypeId->Option TI}(hti:dT P ti) {o:Oper}{t e:TypeId}{x:Operand}{n:Nat}(ho:o.op= .sliceToArrayPointer t x) {Ts:TI}(hT:ti t=some Ts) (htd:Ts.td= .array n e) {pin:Pin}{fr:Fr}{hp:Hp}{K:SV->Hp->Prop}(cs:List D)
  (hx:evO fr x=some (.d (.sl 1 (cs.map λc=>[c])))) (hn:cs.length=n) (h0:0 < n) (hk:K (.ea n [cs] 0 0) hp):bE P o pin fr hp K:=by
 intro E ρ a w _ hm hf next Q hq
 obtain⟨d0,i0,z0,hT0⟩:=aR (hti _ _ hT)
 have hd:d0= .array n e:=by
  have:=hT0.td
  rw [htd]at this
  exact iR this
 subst hd
 have hr:=bB hf hx
 cases hr with
 |d _ _ hd=>
  obtain⟨A,cap,b,off,e1,_,_,hA,hv⟩:=hd.of_sl
  have hne:(cs.map λc=>[c])≠[]:=by
   intro h
   have:=congrArg List.length h
   rw [List.length_map]at this
   simp at this
   rw [this]at hn
   simp at hn;omega
  have hrun:(execOp a.eval o).run P w= .ok (.value (.pointer (some ⟨b,off,none⟩))) w:=by
   have hl:(cs.map λc=>[c]).length=n:=by rw [List.length_map];exact hn
   simp only [execOp,ho,e1,hA hne,Instr.arrayAt,Sem.run_bind,run_underlying hT0.und,Result.andThen_ok]
   rw [hl,if_neg (Nat.lt_irrefl n)]
   rfl
  refine cQ hrun (hq _ w ρ _ hp hk hm hf ?_)
  have:=Rep.ea (w:=w) (ρ:=ρ) n [cs] 0 0 b off (aM0 hv hn)
  simpa using this
theorem dU {ti:TypeId->Option TI}(hti:dT P ti) {o:Oper}{t:TypeId}{x:Operand}(ho:o.op= .makeInterface t x) {Ts:TI}(hT:ti t=some Ts) {fs:List (TypeId×Nat)}(htd:Ts.td= .struct fs) {pin:Pin}{fr:Fr}{hp:Hp}{K:SV->Hp->Prop}
  (hx:evO fr x=some (.d (.agg []))) (hk:K (.d (.lit (.iface t (.agg #[])))) hp):bE P o pin fr hp K:=by
 intro E ρ a w _ hm hf next Q hq
 obtain⟨d0,i0,z0,hT0⟩:=aR (hti _ _ hT)
 have hni: ∀m,d0≠ .interface m:=by
  intro m e
  have:=hT0.td
  rw [htd,e]at this
  simp [aCd]at this
 have e1:a.eval x= .agg #[]:=by
  have hr:=bB hf hx
  generalize a.eval x=v at hr
  cases hr with
  |d _ _ hd=>
   cases hd with
   |agg cs vs hl h=>
    have:vs= #[]:=Array.eq_empty_of_size_eq_zero (by simpa using hl)
    rw [this]
 have hrun:(execOp a.eval o).run P w= .ok (.value (.iface t (.agg #[]))) w:=by
  simp only [execOp,ho,e1,Instr.makeInterface,Sem.run_bind,run_underlying hT0.und,Result.andThen_ok]
  cases d0<;>first|rfl|exact absurd rfl (hni _)
 exact cQ hrun (hq _ w ρ _ hp hk hm hf (.d _ _ (.lit _)))
end
end Go.Proofs.YtleihcnongldbaaGreatDoor
