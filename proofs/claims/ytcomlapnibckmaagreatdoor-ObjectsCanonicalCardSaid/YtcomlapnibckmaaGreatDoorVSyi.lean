/-
  Statements whose order is open: a head of reads and calls in any order, then a tail that is forced. Terms: the order of concepts: compare and Compare. Terms: Compare. Terms: CompareAxiom. Terms: the reference's SameList, Same, SameAxiom. Terms: the reference's Same. Terms: the reference's SameAxiom. Terms: the reference's SameNames. Terms: the reference's count and Few. Terms: the reference's FewAxiom. Terms: the types that come in, what their data are, and what the laid variables hold. More operations: a slice as a pointer to an array; a value in an interface.
  Conditions: none.
-/
import Derived.Test.YtcomlapnibckmaaGreatDoorVSs
import Derived.Test.YtcomlapnibckmaaGreatDoorVAc
import Derived.Test.YtcomlapnibckmaaGreatDoorVSna
import Derived.Test.YtcomlapnibckmaaGreatDoorRows
import Derived.Test.YtcomlapnibckmaaGreatDoorVLd
import Derived.LaidHandle
import Derived.MakeChecks
import Derived.Test.YtcomlapnibckmaaGreatDoorVA1
set_option linter.unnecessarySimpa false
set_option linter.unusedSectionVars false
set_option linter.unusedSimpArgs false
set_option linter.unusedVariables false
set_option maxHeartbeats 8000000
namespace Go.Proofs.YtcomlapnibckmaaGreatDoor
open Go.RowKit
section
variable {P:Program}
theorem yG {ops:Array Oper}{Q:Exit->Act->World->Prop}: ∀(fuel:Nat) (listed:Array Bool) (a:Act) (w:World),wpAny P .any ops Q fuel listed a w->wpAny P .any ops Q (fuel+1) listed a w:=by
 intro fuel
 induction fuel with
 |zero=>intro listed a w h;exact⟨λ_=>h.2,λi hi=>(by rw [h.1]at hi;cases hi)⟩
 |succ fuel ih=>intro listed a w h;exact⟨h.1,λi hi=>wpOp_mono (λa w=>ih _ a w) (h.2 i hi)⟩
theorem pZ {ops:Array Oper}{Q:Exit->Act->World->Prop}{fuel:Nat}{listed:Array Bool}{a:Act}{w:World}(h:wpAny P .any ops Q fuel listed a w): ∀k,wpAny P .any ops Q (k+fuel) listed a w
 | 0=>by rw [Nat.zero_add];exact h
 |k+1=>by rw [Nat.add_right_comm];exact yG _ _ _ _ (pZ h k)
def aHl (l:List Oper) (m:Nat):Bool:=
 decide (m < l.length) &&
 (List.range l.length).all λi=>
  match l[i]? with
  |some o=>
   (o.after.all λe=> !Region.binds .any e || decide (e.on < i)) &&
   (if i < m then o.guard.isNone && (List.range (m + 1)).any λk => decide (i < k) && (match l[k]? with
     |some o'=>o'.after.any λe=>Region.binds .any e && e.on==i
     |none=>false)
  else i==m || o.after.any λe=>Region.binds .any e && decide (m<=e.on))
  |none=>false
theorem tX {l:List Oper}{m:Nat}(h:aHl l m=true):m < l.length/\ ∀i o,l[i]? =some o->
  (∀e∈o.after,Region.binds .any e=true->e.on < i)/\
  (i < m->o.guard=none/\ ∃k o',i < k/\k<=m/\l[k]? =some o'/\ ∃e∈o'.after,Region.binds .any e=true/\e.on=i)/\
  (m < i-> ∃e∈o.after,Region.binds .any e=true/\m<=e.on):=by
 simp only [aHl,Bool.and_eq_true,decide_eq_true_eq,List.all_eq_true,List.mem_range]at h
 refine⟨h.1,λi o ho=> ?_⟩
 have hi:=h.2 i (List.getElem?_eq_some_iff.1 ho).1
 rw [ho]at hi
 simp only [Bool.and_eq_true]at hi
 obtain⟨h1,h2⟩:=hi
 refine⟨λe he hb=> ?_,λhim=> ?_,λhmi=> ?_⟩
 ·rw [Array.all_eq_true']at h1
  have:=h1 e he
  simpa [hb]using this
 ·rw [if_pos him]at h2
  simp only [Bool.and_eq_true,Option.isNone_iff_eq_none,List.any_eq_true,List.mem_range,decide_eq_true_eq]at h2
  obtain⟨hg,k,hk,hik,hx⟩:=h2
  refine⟨hg, ?_⟩
  split at hx
  ·rename_i o' ho'
   obtain⟨e,he,hb⟩:=Array.any_eq_true'.1 hx
   simp only [Bool.and_eq_true,beq_iff_eq]at hb
   exact⟨k,o',hik,by omega,ho',e,he,hb.1,hb.2⟩
  ·cases hx
 ·rw [if_neg (by omega)]at h2
  have:(i==m)=false:=by simp;omega
  rw [this,Bool.false_or]at h2
  obtain⟨e,he,hb⟩:=Array.any_eq_true'.1 h2
  simp only [Bool.and_eq_true,decide_eq_true_eq]at hb
  exact⟨e,he,hb.1,hb.2⟩
theorem lW {x:Array Bool}{m k:Nat}{d:Bool}(hx:x.size=m) (i:Nat):(x++Array.replicate k false).getD i d=if i < m then x.getD i d else if i < m+k then false else d:=by
 simp only [Array.getD_eq_getD_getElem?,Array.getElem?_append,hx]
 split
 ·rfl
 ·rw [Array.getElem?_replicate]
  split
  ·rw [if_pos (by omega)];rfl
  ·rw [if_neg (by omega)];rfl
theorem aFe {l:List Oper}{m:Nat}{C:World->Prop}{Q:Act->Prop}{Q':Exit->Act->World->Prop}(hB:aHl l m=true)
  (ht: ∀a w,C w->Q a->wpAny P .any l.toArray Q' (l.length - m) (Array.replicate m true++Array.replicate (l.length - m) false) a w):
  ∀(f:Nat) (x:Array Bool) (a:Act) (w:World),C w->x.size=m->(∀(i:Nat) o,i < m->l[i]? =some o->x.getD i true=true-> ∀e∈o.after,Region.binds .any e=true->x.getD e.on false=true)->
   wpAnyQ P .any (l.take m).toArray C Q f x a->wpAny P .any l.toArray Q' (f+(l.length - m)) (x++Array.replicate (l.length - m) false) a w:=by
 obtain⟨hm,hs⟩:=tX hB
 have take_lt: ∀i,i < m->(l.take m).toArray[i]? =l[i]? := λi hi=>by simp [List.getElem?_take,hi]
 have full: ∀x:Array Bool,x.size=m->Region.ready .any (l.take m).toArray x=[]->x=Array.replicate m true:=by
  intro x hx hr
  have all: ∀i,i < m->x.getD i true=true:=by
   intro i
   induction i using Nat.strongRecOn with
   |_ i ih=>
    intro him
    by_cases hc:x.getD i true=true
    ·exact hc
    ·exfalso
     have hc:x.getD i true=false:=by simpa using hc
     have hlt:i < l.length:=by omega
     have hmem : i ∈ Region.ready .any (l.take m).toArray x := mem_ready.2 ⟨hc, l[i], by rw [take_lt i him]; exact List.getElem?_eq_getElem hlt, λe he hb => by
      have hlt':=(hs i _ (List.getElem?_eq_getElem hlt)).1 e he hb
      have:=ih e.on hlt' (by omega)
      simp only [Array.getD_eq_getD_getElem?]at this |-
      rw [Array.getElem?_eq_getElem (by omega)]at this |-
      exact this⟩
     rw [hr]at hmem
     cases hmem
  apply Array.ext
  ·simp [hx]
  ·intro i h1 h2
   have:=all i (by omega)
   simp only [Array.getD_eq_getD_getElem?,Array.getElem?_eq_getElem h1,Option.getD_some]at this
   simpa using this
 intro f
 induction f with
 |zero=>
  intro x a w hw hx _ h
  rw [full x hx h.1,Nat.zero_add]
  exact ht a w hw h.2
 |succ f ih=>
  intro x a w hw hx hcl h
  by_cases hr:Region.ready .any (l.take m).toArray x=[]
  ·rw [full x hx hr]
   exact pZ (ht a w hw (h.1 hr)) _
  ·have sub: ∀i∈Region.ready .any l.toArray (x++Array.replicate (l.length - m) false),i < m/\i∈Region.ready .any (l.take m).toArray x:=by
    intro i hi
    obtain⟨h1,o,ho,h2⟩:=mem_ready.1 hi
    have ho:l[i]? =some o:=by simpa using ho
    have hlt:=(List.getElem?_eq_some_iff.1 ho).1
    have hlow: ∀j,j < m->(x++Array.replicate (l.length - m) false).getD j false=true->x.getD j false=true:= λj hj h=>by rw [lW hx,if_pos hj]at h;exact h
    have hhigh: ∀j,m<=j->j < l.length->¬ (x++Array.replicate (l.length - m) false).getD j false=true:= λj hj hj' h=>by rw [lW hx,if_neg (by omega)]at h;split at h<;>cases h
    have him:i < m:=by
     by_cases him:i < m
     ·exact him
     ·exfalso
      by_cases hie:m < i
      ·obtain⟨e,he,hb,hme⟩:=(hs i o ho).2.2 hie
       exact hhigh e.on hme (by have:=(hs i o ho).1 e he hb;omega) (h2 e he hb)
      ·have:i=m:=by omega
       subst this
       -- every statement of the head is listed
       have all: ∀d j,j+d=i->0 < d->x.getD j true=true:=by
        intro d
        induction d using Nat.strongRecOn with
        |_ d ihd=>
         intro j hjd hd
         have hjl:j < l.length:=by omega
         obtain⟨_,k,o',hjk,hki,ho',e,he,hb,hej⟩:=(hs j _ (List.getElem?_eq_getElem hjl)).2.1 (by omega)
         have htrue:x.getD j false=true:=by
          by_cases hk:k=i
          ·subst hk
           rw [ho]at ho'
           injection ho' with ho';subst ho'
           have:=hlow e.on (by omega) (h2 e he hb)
           rwa [hej]at this
          ·have:=hcl k o' (by omega) ho' (ihd (i - k) (by omega) k (by omega) (by omega)) e he hb
           rwa [hej]at this
         simp only [Array.getD_eq_getD_getElem?]at htrue |-
         rw [Array.getElem?_eq_getElem (by omega)]at htrue |-
         exact htrue
       apply hr
       apply List.eq_nil_iff_forall_not_mem.2
       intro j hj
       obtain⟨g1,oj,hoj,_⟩:=mem_ready.1 hj
       have hjm:j < i:=by
        have:=(Array.getElem?_eq_some_iff.1 hoj).1
        simp at this
        omega
       rw [all (i - j) j (by omega) (by omega)]at g1
       cases g1
    refine⟨him,mem_ready.2 ⟨?_,o,by rw [take_lt i him];exact ho,λe he hb=> ?_⟩⟩
    ·rw [lW hx,if_pos him]at h1;exact h1
    ·exact hlow e.on (by have:=(hs i o ho).1 e he hb;omega) (h2 e he hb)
   have hne:Region.ready .any l.toArray (x++Array.replicate (l.length - m) false)≠[]:=by
    obtain⟨j,hj⟩:=List.exists_mem_of_ne_nil _ hr
    obtain⟨g1,oj,hoj,g2⟩:=mem_ready.1 hj
    have hjm:j < m:=by
     have:=(Array.getElem?_eq_some_iff.1 hoj).1
     simp at this
     omega
    have hmem : j ∈ Region.ready .any l.toArray (x ++ Array.replicate (l.length - m) false) := mem_ready.2 ⟨by rw [lW hx, if_pos hjm]; exact g1, oj, by rw [take_lt j hjm] at hoj; simpa using hoj, λe he hb => by
     have:=g2 e he hb
     have hem:e.on < m:=by
      rw [take_lt j hjm]at hoj
      have:=(hs j oj hoj).1 e he hb
      omega
     rw [lW hx,if_pos hem];exact this⟩
    intro h0
    rw [h0]at hmem
    cases hmem
   rw [Nat.add_right_comm]
   refine⟨λh0=>absurd h0 hne,λi hi=> ?_⟩
   obtain⟨him,hip⟩:=sub i hi
   have hlt:i < l.length:=by omega
   have ho:=List.getElem?_eq_getElem hlt
   have hq:=h.2 i hip
   have hg:=((hs i _ ho).2.1 him).1
   have hq':qOp P l.toArray C i (wpAnyQ P .any (l.take m).toArray C Q f (x.setIfInBounds i true)) a:=by
    unfold qOp at hq |-
    rw [take_lt i him]at hq
    have:l.toArray[i]? =l[i]? :=by simp
    rw [this]
    rw [ho]at hq |-
    simp only [Region.wanted,hg]at hq |-
    exact hq
   refine wpOp_of_qOp hw (λa' w' hw' hk=> ?_) hq'
   have hset:(x++Array.replicate (l.length - m) false).setIfInBounds i true=x.setIfInBounds i true++Array.replicate (l.length - m) false:=by
    rw [Array.setIfInBounds_append_left (by omega)]
   rw [hset]
   refine ih _ a' w' hw' (by simp [hx]) ?_ hk
   intro j o hj hoj hjt e he hb
   have hup: ∀k (d:Bool),x.getD k d=true->(x.setIfInBounds i true).getD k d=true:=by
    intro k d hk
    simp only [Array.getD_eq_getD_getElem?,Array.getElem?_setIfInBounds]at hk |-
    split
    ·split<;>simp_all
    ·exact hk
   by_cases hji:j=i
   ·subst hji
    obtain⟨_,o2,ho2,h2⟩:=mem_ready.1 hip
    rw [take_lt j him,hoj]at ho2
    injection ho2 with ho2;subst ho2
    exact hup _ _ (h2 e he hb)
   ·refine hup _ _ (hcl j o hj hoj ?_ e he hb)
    simp only [Array.getD_eq_getD_getElem?,Array.getElem?_setIfInBounds]at hjt |-
    rw [if_neg (λh=>hji h.symm)]at hjt
    exact hjt
def aHk (C:Cfg) (all:List Oper) (K:Fr->Prop):List Oper->Fr->Hp->Prop
 | [],fr,_=>K fr
 |o::r,fr,hp=>aD0 C all o fr hp λfr'=>aHk C all K r fr' hp
theorem aD1 {C:Cfg}(hti:cW C.P C.ti) {all:List Oper}{K:Fr->Prop}{E:Entry}{ρ:Env}{w:World}{hp:Hp}{df:List Deferred}(hm:Mem E ρ hp w): ∀(l:List Oper) (fr:Fr) (a:Act),aHk C all K l fr hp->a.tmps.size=C.nt->a.defers=df->cE ρ w fr a.tmps->
  wpQuiet C.P all.toArray (Grew w) (λa'=> ∃fr',K fr'/\a'.tmps.size=C.nt/\a'.defers=df/\cE ρ w fr' a'.tmps) l a:=by
 intro l
 induction l with
 |nil=>
  intro fr a h h1 h2 h3
  exact⟨fr,h,h1,h2,h3⟩
 |cons o r ih=>
  intro fr a h h1 h2 h3
  simp only [aHk,aD0]at h
  simp only [wpQuiet]
  obtain⟨fr0,h3,hh⟩:=eN h h3
  rcases hh with⟨hw,h⟩|⟨hw,h⟩
  ·simp only [hw,if_true]
   obtain⟨v,s,q1,q2,q3⟩:=aJ5 hti h hm h3
   obtain⟨fr',p1,p2⟩:=fO q3 h1 h3 q2
   exact⟨v,q1,ih fr' _ p1 (by rw [bX];exact h1) (by rw [put_defers];exact h2) p2⟩
  ·simp only [hw,Bool.false_eq_true,if_false]
   obtain⟨fr',p1,p2⟩:=fO h h1 h3 (Rep.d _ undef (.lit undef))
   exact ih fr' _ p1 (by rw [bX];exact h1) (by rw [put_defers];exact h2) p2
theorem aD4 {C:Cfg}(hti:cW C.P C.ti) {id:Nat}{l:List Oper}{fr:Fr}{hp:Hp}{K:Ex->Fr->Hp->Prop}(m:Nat) (hm:C.P.follows .mixedOrders=true)
  (hB:(aHl l m && Region.lexB .any (l.take m).toArray && Region.noSelect l.toArray && aG5 l.toArray (List.range' m (l.length - m)) (Array.replicate m true++Array.replicate (l.length - m) false) false && iI l)=true)
  (h:aHk C (l.take m) (λfr'=>qZ C l (K .normal) (List.range' m (l.length - m)) fr' hp) (l.take m) fr hp):aN C (.region id l.toArray true) fr hp K:=by
 intro E a w hpin hrd ⟨h1,h2,ρ,h3,h4⟩
 simp only [Bool.and_eq_true]at hB
 obtain⟨⟨⟨⟨b1,b2⟩,b3⟩,b4⟩,hnd⟩:=hB
 simp only [Region.lexB,Bool.and_eq_true]at b2
 refine eJ hm hnd iP.noOut ?_
 have hlt:=(tX b1).1
 have hq:=aD1 (C:=C) hti (all:=l.take m) h3 (l.take m) fr a h h1 rfl h4
 have hl:=wpAnyQ_lex (P:=C.P) (C:=Grew w) (md:= .any) b2.1 (l.take m) 0 (Array.replicate (l.take m).toArray.size false) a (by simp) (by simpa using b2.2) hq
 have hlen:(l.take m).length=m:=by simp;omega
 have hsz:(l.take m).toArray.size=m:=by simp;omega
 rw [hlen,hsz]at hl
 have := aFe (P := C.P) (C := Grew w) (Q' := iP C E K) b1 (λa' w' hg hQ => by
  obtain⟨fr',k1,k2,k3,k4⟩:=hQ
  obtain⟨m1,m2⟩:=h3.grow_same hg
  have:=qY (C:=C) hti (E:=E) hpin b3 _ _ false fr' hp ρ a' _ b4 k1 m1 k2 (k3.trans h2) (m2 fr' _ k4)
  rw [List.length_range']at this
  exact qA _ _ _ _ _ (aGi (Q':=iP C E K .normal) (λa w ⟨fr',hp',k1,k2⟩=>⟨.normal,fr',hp',E, .refl E,trivial,k1,k2⟩) _ _ _ _ _ this)) m (Array.replicate m false) a _ (Grew.drew w) (by simp) (λi o hi _ hx=>by simp [hi]at hx) hl
 have e1:m+(l.length - m)=l.toArray.size:=by simp;omega
 have e2:Array.replicate m false++Array.replicate (l.length - m) false=Array.replicate l.toArray.size false:=by rw [Array.replicate_append_replicate,e1]
 rw [e1,e2]at this
 exact this
end
end Go.Proofs.YtcomlapnibckmaaGreatDoor
namespace Go.Proofs.YtcomlapnibckmaaGreatDoor
open Go.Proofs
set_option maxRecDepth 10000
theorem Tri.osl {P:Program}{f:FuncId}{id z:Nat}{rows:List (List D)}{post:SV->Prop}(h:Tri P f [.d (.sl z rows)] [] post):Tri P f [.osl id z rows] [] post:=by
 unfold Tri at h |-
 intro w ρ vs a b c
 refine h w ρ vs a ⟨b.1,λj s v hs hv=> ?_⟩ (λid o ho=>by cases ho)
 match j,hs with
 | 0,hs=>
  injection hs with hs;subst hs
  exact .d _ _ (b.2 0 _ v rfl hv).osl_inv.1
attribute [local irreducible] aN aH Tri aF YVC cM bB
end Go.Proofs.YtcomlapnibckmaaGreatDoor
namespace Go.Proofs.YtcomlapnibckmaaGreatDoor
open Go.Proofs
set_option maxRecDepth 10000
attribute [local irreducible] aN aH Tri aF YVC cM bB
end Go.Proofs.YtcomlapnibckmaaGreatDoor
namespace Go.Proofs.YtcomlapnibckmaaGreatDoor
open Go.Proofs
set_option maxRecDepth 10000
attribute [local irreducible] aN aH Tri aF YVC cM bB
end Go.Proofs.YtcomlapnibckmaaGreatDoor
namespace Go.Proofs.YtcomlapnibckmaaGreatDoor
open Go.Proofs
set_option maxRecDepth 10000
attribute [local irreducible] aN aH Tri aF YVC cM bB
end Go.Proofs.YtcomlapnibckmaaGreatDoor
namespace Go.Proofs.YtcomlapnibckmaaGreatDoor
open Go.Proofs
set_option maxRecDepth 10000
attribute [local irreducible] aN aH Tri aF YVC cM bB
end Go.Proofs.YtcomlapnibckmaaGreatDoor
namespace Go.Proofs.YtcomlapnibckmaaGreatDoor
open Go.Proofs
set_option maxRecDepth 10000
attribute [local irreducible] aN aH Tri aF YVC cM bB
end Go.Proofs.YtcomlapnibckmaaGreatDoor
namespace Go.Proofs.YtcomlapnibckmaaGreatDoor
open Go.Proofs
set_option maxRecDepth 10000
attribute [local irreducible] aN aH Tri aF YVC cM bB
structure Nm where
 a:List (List UInt8)
 b:List (List UInt8)
 c:List (List UInt8)
 d:List (List UInt8)
def nmR (x:Nm):List D:=[aG3 x.a,aG3 x.b,aG3 x.c,aG3 x.d]
end Go.Proofs.YtcomlapnibckmaaGreatDoor
namespace Go.Proofs.YtcomlapnibckmaaGreatDoor
open Go.Proofs
set_option maxRecDepth 10000
attribute [local irreducible] aN aH Tri aF YVC cM bB
mutual
def nD:Cn->Int->Int->Int
 | .mk _ n _ _ ps,deep,most=>if deep<=0 then most+1 else pF ps (deep - 1) most (1+n.length / 40)
def pF:List Cn->Int->Int->Int->Int
 | [],_,_,t=>t
 |c::r,deep,most,t=>if t<=most then pF r deep most (t+nD c deep (most - t))else t
end
theorem aBw (c:Cn) (deep most:Int):nD c deep most=if deep<=0 then most+1 else pF c.parts (deep - 1) most (1+(c.name.length:Int) / 40):=by
 cases c;rw [nD];rfl
theorem zT: ∀(c:Cn) (deep most:Int),deep<=40->0<=deep->0<=most->most<=150->Tri Tryz.prog 210 [.d (.agg (cnR c)), .d (.int .i64 deep), .d (.int .i64 most)] []
  (λr=>r= .d (.int .i64 (nD c deep most))/\1<=nD c deep most/\nD c deep most<=most+300000000000000000):=by
 refine Cn.ind ?_
 intro c ih deep most hd0 hd hm0 hm
 rw [bO,aBw]
 refine aG false [3] hty Tryz.func210 rfl (kp [0,1,2,3,6,7,8,10,27]) [] _ _ _ (by simp [Tryz.f210]) (by simp) ?_
 ((conv=>whnf);repeat' ((first|(intro hq;(try simp only [lnS]at hq);(try rewrite [List.length_map]))|refine sJ ?_|refine .intro _ (.intro rfl ?_)|refine exL (k:= ?_)|refine dwR ?_|((first|refine aB ?_ ?_|refine aC ?_ ?_)<;>intro hb<;>(first|exact ddX hb|try simp only [lnS]at hb))|(refine aA ?_ ?_<;>intro hb<;>try exact dsX hb))<;>(conv=>whnf)))
 ·rw [if_pos (by assumption)]
  exact⟨rfl,by omega,by omega⟩
 ·have ht:((c.name.length:Int)).tdiv 40=(c.name.length:Int) / 40:=Int.tdiv_eq_ediv_of_nonneg (by omega)
  rw [if_neg (by assumption),ht]
  have hT:1<=1+(c.name.length:Int) / 40/\1+(c.name.length:Int) / 40<=most+300000000000000000:=by omega
  generalize (c.name.length:Int) / 40=q at hT |-
  refine⟨⟨by omega,by omega⟩, ?_⟩
  ((conv=>whnf);repeat' ((first|(intro hq;(try simp only [lnS]at hq);(try rewrite [List.length_map]))|refine sJ ?_|refine .intro _ (.intro rfl ?_)|refine exL (k:= ?_)|refine dwR ?_|((first|refine aB ?_ ?_|refine aC ?_ ?_)<;>intro hb<;>(first|exact ddX hb|try simp only [lnS]at hb))|(refine aA ?_ ?_<;>intro hb<;>try exact dsX hb))<;>(conv=>whnf)))
  refine aQ hty (λp:Nat×Int=>([(1, .d (.int .i64 deep)),(2, .d (.int .i64 most)),(3, .ea 5 [[.int .i64 c.kind, .str c.name, .int .i64 c.lo, .int .i64 c.hi, .sl 5 (c.parts.map cnR)]] 0 0),(7, .d (.int .i64 p.2)),(8, .d (.int .i64 p.1))],[])) (λp=>p.1<=c.parts.length/\1<=p.2/\p.2<=most+300000000000000000/\pF c.parts (deep - 1) most (1+q)=pF (c.parts.drop p.1) (deep - 1) most p.2) (λp=>c.parts.length - p.1) (0,1+q) ⟨Nat.zero_le _,hT.1,hT.2,rfl⟩ ⟨by repeat' (first|exact trivial|exact rfl|(rw [List.length_map];exact rfl)|exact⟨rfl,rfl⟩|refine And.intro ?_ ?_),trivial⟩ ?_
  rintro⟨j,t⟩ ⟨hj,ht1,ht2,hn⟩
  dsimp only at hj ht1 ht2 hn
  by_cases hjl:j < c.parts.length
  ·have hrow:(c.parts.map cnR)[(j:Int).toNat]? =some (cnR c.parts[j]):=bH hjl
   have hcall:=ih c.parts[j] (List.getElem_mem hjl) (deep - 1) (most - t) (by omega) (by omega)
   rw [List.drop_eq_getElem_cons hjl,pF]at hn
   generalize c.parts[j]=x at hrow hn hcall
   rw [bO]at hrow hcall
   ((conv=>whnf);repeat' ((first|(intro hq;(try simp only [lnS]at hq);(try rewrite [List.length_map]))|refine sJ ?_|refine .intro _ (.intro rfl ?_)|refine exL (k:= ?_)|(refine⟨_,hrow, ?_⟩)|(refine aD [] (hcall (by omega) (by omega)) trivial (λr hs=> ?_);obtain⟨hs,hs1,hs2⟩:=hs;subst hs)|refine dwR ?_|((first|refine aB ?_ ?_|refine aC ?_ ?_)<;>intro hb<;>(first|exact ddX hb|try simp only [lnS]at hb))|(refine aA ?_ ?_<;>intro hb<;>try exact dsX hb))<;>(conv=>whnf)))
   ·have h9:t<=most:=by first|assumption|omega
    rw [if_pos h9]at hn
    refine⟨(j+1,t+nD x (deep - 1) (most - t)),⟨by dsimp only;omega,by dsimp only;omega,by dsimp only;omega,hn⟩,by dsimp only;omega,by repeat' (first|exact trivial|exact rfl|refine And.intro ?_ ?_),trivial⟩
   ·have h9:¬ t<=most:=by first|assumption|omega
    rw [if_neg h9]at hn
    rw [hn];exact⟨rfl,ht1,ht2⟩
  ·have hjl:j=c.parts.length:=by omega
   subst hjl
   rw [List.drop_length,pF]at hn
   ((conv=>whnf);repeat' ((first|(intro hq;(try simp only [lnS]at hq);(try rewrite [List.length_map]))|refine sJ ?_|refine .intro _ (.intro rfl ?_)|refine exL (k:= ?_)|refine dwR ?_|((first|refine aB ?_ ?_|refine aC ?_ ?_)<;>intro hb<;>(first|exact ddX hb|try simp only [lnS]at hb))|(refine aA ?_ ?_<;>intro hb<;>try exact dsX hb))<;>(conv=>whnf)))
   all_goals (rw [hn];exact⟨rfl,ht1,ht2⟩)
def aHr (c:Cn):Bool:=decide (nD c 40 150<=150)
theorem xR (c:Cn):Tri Tryz.prog 148 [.d (.agg (cnR c))] [] (λr=>r= .d (.bool (aHr c))):=by
 have hc:=zT c 40 150 (by omega) (by omega) (by omega) (by omega)
 rw [bO]at hc |-
 refine aG false [1] hty Tryz.func148 rfl (kp [0,1,2]) [] _ _ _ (by simp [Tryz.f148]) (by simp) ?_
 ((conv=>whnf);repeat' ((first|(intro hq;(try simp only [lnS]at hq);(try rewrite [List.length_map]))|refine sJ ?_|refine .intro _ (.intro rfl ?_)|refine exL (k:= ?_)|(refine aD [] hc trivial (λr hs=> ?_);obtain⟨hs,hs1,hs2⟩:=hs;subst hs)|refine dwR ?_|((first|refine aB ?_ ?_|refine aC ?_ ?_)<;>intro hb<;>(first|exact ddX hb|try simp only [lnS]at hb))|(refine aA ?_ ?_<;>intro hb<;>try exact dsX hb))<;>(conv=>whnf)))
 all_goals rfl
end Go.Proofs.YtcomlapnibckmaaGreatDoor
namespace Go.Proofs.YtcomlapnibckmaaGreatDoor
open Go.Proofs
set_option maxRecDepth 10000
attribute [local irreducible] aN aH Tri aF YVC cM bB
def qT:List (List UInt8)->Int
 | []=>0
 |s::r=>s.length+qT r
def aGn (x:Ax):Int:=x.role.length+x.a.length+x.b.length+10 * x.roles.length+qT (x.roles.take 100)
def aBp (x:Ax):Bool:=decide (aGn x<=600) && aHr x.left && aHr x.right
structure SzAx (x:Ax):Prop where
 r:x.roles.length<=140737488351232
 o:x.role.length<=140737488351232
 a:x.a.length<=140737488351232
 b:x.b.length<=140737488351232
 rs: ∀s∈x.roles,s.length<=140737488351232
theorem tC (x:Ax) (h:SzAx x):Tri Tryz.prog 86 [.d (.agg (axR x))] [] (λr=>r= .d (.bool (aBp x))):=by
 have hl:=xR x.left
 have hr:=xR x.right
 rw [bO]at hl hr
 obtain⟨s1,s2,s3,s4,s5⟩:=h
 obtain⟨kind,isopen,left,right,roles,role,a,b⟩:=x
 dsimp only at hl hr s1 s2 s3 s4 s5
 unfold aBp aGn axR
 dsimp only
 obtain⟨lk,ln,llo,lhi,lps⟩:=left
 obtain⟨rk,rn,rlo,rhi,rps⟩:=right
 dsimp only [Cn.kind,Cn.name,Cn.lo,Cn.hi,Cn.parts]at hl hr |-
 refine aG false [1] hty Tryz.func86 rfl (kp [0,1,2,3,4,29]) [] _ _ _ (by simp [Tryz.f86]) (by simp) ?_
 ((conv=>whnf);repeat' ((first|(intro hq;(try simp only [lnS]at hq);(try rewrite [List.length_map]))|refine sJ ?_|refine .intro _ (.intro rfl ?_)|refine exL (k:= ?_)|refine dwR ?_|((first|refine aB ?_ ?_|refine aC ?_ ?_)<;>intro hb<;>(first|exact ddX hb|try simp only [lnS]at hb))|(refine aA ?_ ?_<;>intro hb<;>try exact dsX hb))<;>(conv=>whnf)))
 refine aQ hty (λp:Nat×Int=>([(1, .ea 16 [[.int .i64 kind, .bool isopen, .int .i64 lk, .str ln, .int .i64 llo, .int .i64 lhi,cnl lps, .int .i64 rk, .str rn, .int .i64 rlo, .int .i64 rhi,cnl rps,aG3 roles, .str role, .str a, .str b]] 0 0),(3, .d (.int .i64 p.2)),(4, .d (.int .i64 p.1))],[])) (λp=>p.1<=roles.length/\p.1<=100/\0<=p.2/\p.2<=140737488351232 * 13+140737488351232 * p.1/\(role.length:Int)+a.length+b.length+10 * roles.length+qT (roles.take 100)=p.2+qT ((roles.take 100).drop p.1)) (λp=>roles.length - p.1) (0,(role.length:Int)+a.length+b.length+10 * roles.length) ⟨Nat.zero_le _,by omega,by omega,by omega,rfl⟩ ⟨by repeat' (first|exact trivial|exact rfl|(rw [List.length_map];exact rfl)|exact⟨rfl,rfl⟩|refine And.intro ?_ ?_),trivial⟩ ?_
 rintro⟨j,t⟩ ⟨hj,hj2,ht1,ht2,hn⟩
 dsimp only at hj hj2 ht1 ht2 hn
 by_cases hjl:j < roles.length/\j < 100
 ·have hrow:(roles.map cF)[(j:Int).toNat]? =some (cF roles[j]):=bH hjl.1
  have hlen:=s5 roles[j] (List.getElem_mem hjl.1)
  have htl:j < (roles.take 100).length:=by rw [List.length_take];omega
  rw [List.drop_eq_getElem_cons htl,qT,List.getElem_take]at hn
  have hjl1:=hjl.1
  have hjl2:=hjl.2
  clear s5
  generalize roles[j]=y at hrow hn hlen
  ((conv=>whnf);repeat' ((first|(intro hq;(try simp only [lnS]at hq);(try rewrite [List.length_map]))|refine sJ ?_|refine .intro _ (.intro rfl ?_)|refine exL (k:= ?_)|(refine⟨_,hrow, ?_⟩)|refine dwR ?_|((first|refine aB ?_ ?_|refine aC ?_ ?_)<;>intro hb<;>(first|exact ddX hb|try simp only [lnS]at hb))|(refine aA ?_ ?_<;>intro hb<;>try exact dsX hb))<;>(conv=>whnf)))
  refine⟨(j+1,t+y.length),⟨by dsimp only;omega,by dsimp only;omega,by dsimp only;omega,by dsimp only;omega,by dsimp only;omega⟩,by dsimp only;omega,by repeat' (first|exact trivial|exact rfl|refine And.intro ?_ ?_),trivial⟩
 ·have hdr:(roles.take 100).drop j=[]:=List.drop_eq_nil_of_le (by rw [List.length_take];omega)
  rw [hdr,qT,Int.add_zero]at hn
  rw [hn]
  clear hn hdr s5
  ((conv=>whnf);repeat' ((first|(intro hq;(try simp only [lnS]at hq);(try rewrite [List.length_map]))|refine sJ ?_|refine .intro _ (.intro rfl ?_)|refine exL (k:= ?_)|(refine aD [] hl trivial (λr hs=> ?_);subst hs)|(refine aD [] hr trivial (λr hs=> ?_);subst hs)|refine dwR ?_|((first|refine aB ?_ ?_|refine aC ?_ ?_)<;>intro hb<;>(first|exact ddX hb|try simp only [lnS]at hb))|(refine aA ?_ ?_<;>intro hb<;>try exact dsX hb))<;>(conv=>whnf)))
  all_goals (refine aV (Eq.symm ?_);simp_all [aHr])
  all_goals (intro h9;omega)
end Go.Proofs.YtcomlapnibckmaaGreatDoor
namespace Go.Proofs.YtcomlapnibckmaaGreatDoor
open Go.Proofs Go.RowKit
set_option maxRecDepth 100000
theorem u4:Tryz.prog.underlying 4=some .bool:=by kernel_rfl
theorem laid:laidOutB Tryz.prog=true:=by kernel_rfl
def TT:List TypeId:=[80,47,78,76,22,3,9,4]
def aBg:List (String×DataW Unit):=[("veilstone/terms.needs",Rows.laid_veilstone_terms_needs),("veilstone/terms.uses",Rows.laid_veilstone_terms_uses)]
theorem aH1:Tryz.prog.globalNamed "veilstone/terms.needs" =some 3:=by kernel_rfl
theorem aIg:Tryz.prog.globalNamed "veilstone/terms.uses" =some 0:=by kernel_rfl
theorem aGm:(Tryz.prog.globals[(3:Nat)]?).map (·.type)=some 295:=by kernel_rfl
theorem aI1:(Tryz.prog.globals[(0:Nat)]?).map (·.type)=some 181:=by kernel_rfl
def FT:List TypeId:=[295,294,181,180,3,4]
theorem fl:Fl Tryz.prog (· ∈FT):=aIh (by kernel_rfl)
theorem zA {W:World}(h:laidMetH Tryz.prog aBg W): ∀ρ:Env,ρ.S=below W-> ∀id o,aO NG id=some o->RO W ρ id o:=by
 rw [MakeChecks.laidMetH_plain _ _ _ (by kernel_rfl)]at h
 obtain⟨ps,⟨g0,t0,cs0,f0,p0,q0,hg0,ht0,hv0,hd0,⟨g1,t1,cs1,f1,p1,q1,hg1,ht1,hv1,hd1,_,_⟩,_⟩,_,_⟩:=h
 obtain rfl:=Option.some.inj (aH1.symm.trans hg0)
 obtain rfl:=Option.some.inj (aIg.symm.trans hg1)
 obtain rfl:=Option.some.inj (aGm.symm.trans ht0)
 obtain rfl:=Option.some.inj (aI1.symm.trans ht1)
 have v0:=mR (z:=4) (rows:=aBb.map aDg) fl hg0 (by decide) hv0 hd0 (by intro r hr;obtain⟨x,_,rfl⟩:=List.mem_map.1 hr;rfl) (by kernel_rfl)
 have v1:=mR (z:=7) (rows:=fJ.map aF0) fl hg1 (by decide) hv1 hd1 (by intro r hr;obtain⟨x,_,rfl⟩:=List.mem_map.1 hr;rfl) (by kernel_rfl)
 intro ρ hS id o ho
 rw [<-hS]at v0 v1
 simp only [NG,aO]at ho
 split at ho
 ·injection ho with ho;subst ho;exact v0
 ·split at ho
  ·injection ho with ho;subst ho;exact v1
  ·cases ho
end Go.Proofs.YtcomlapnibckmaaGreatDoor
namespace Go.Proofs.YtcomlapnibckmaaGreatDoor
open Go.RowKit
section
variable {P:Program}
theorem aCh {w:World}{S:Nat->Nat->Prop}{cs:List D}{b off n:Nat}(h:View w S 1 (cs.map λc=>[c]) b off) (hn:cs.length=n):View w S n [cs] b off:=by
 refine⟨λrow hr=> ?_,λi row j x h1 h2=> ?_⟩
 ·rw [List.mem_singleton.1 hr,hn]
 ·have hi:i=0:=by
   have:=(List.getElem?_eq_some_iff.1 h1).1
   simp at this;omega
  subst hi
  injection h1 with h1
  subst h1
  have h3:=h.2 j [x] 0 x (by rw [List.getElem?_map,h2];rfl) rfl
  simp only [Nat.mul_one,Nat.add_zero]at h3
  simpa using h3
theorem uU {ti:TypeId->Option TI}(hti:cW P ti) {o:Oper}{t e:TypeId}{x:Operand}{n:Nat}(ho:o.op= .sliceToArrayPointer t x) {Ts:TI}(hT:ti t=some Ts) (htd:Ts.td= .array n e) {pin:Pin}{fr:Fr}{hp:Hp}{K:SV->Hp->Prop}(cs:List D)
  (hx:evO fr x=some (.d (.sl 1 (cs.map λc=>[c])))) (hn:cs.length=n) (h0:0 < n) (hk:K (.ea n [cs] 0 0) hp):bB P o pin fr hp K:=by
 intro E ρ a w _ hm hf next Q hq
 obtain⟨d0,i0,z0,hT0⟩:=aM (hti _ _ hT)
 have hd:d0= .array n e:=by
  have:=hT0.td
  rw [htd]at this
  exact fH this
 subst hd
 have hr:=aU hf hx
 cases hr with
 |d _ _ hd=>
  obtain⟨A,cap,b,off,e1,_,_,hA,hv⟩:=hd.of_sl
  have hne:(cs.map λc=>[c])≠[]:=by
   intro h
   have:=congrArg List.length h
   rw [List.length_map]at this
   simp at this
   rw [this]at hn
   simp at hn;omega
  have hrun:(execOp a.eval o).run P w= .ok (.value (.pointer (some ⟨b,off,none⟩))) w:=by
   have hl:(cs.map λc=>[c]).length=n:=by rw [List.length_map];exact hn
   simp only [execOp,ho,e1,hA hne,Instr.arrayAt,Sem.run_bind,run_underlying hT0.und,Result.andThen_ok]
   rw [hl,if_neg (Nat.lt_irrefl n)]
   rfl
  refine bW hrun (hq _ w ρ _ hp hk hm hf ?_)
  have:=Rep.ea (w:=w) (ρ:=ρ) n [cs] 0 0 b off (aCh hv hn)
  simpa using this
theorem cB {ti:TypeId->Option TI}(hti:cW P ti) {o:Oper}{t:TypeId}{x:Operand}(ho:o.op= .makeInterface t x) {Ts:TI}(hT:ti t=some Ts) {fs:List (TypeId×Nat)}(htd:Ts.td= .struct fs) {pin:Pin}{fr:Fr}{hp:Hp}{K:SV->Hp->Prop}
  (hx:evO fr x=some (.d (.agg []))) (hk:K (.d (.lit (.iface t (.agg #[])))) hp):bB P o pin fr hp K:=by
 intro E ρ a w _ hm hf next Q hq
 obtain⟨d0,i0,z0,hT0⟩:=aM (hti _ _ hT)
 have hni: ∀m,d0≠ .interface m:=by
  intro m e
  have:=hT0.td
  rw [htd,e]at this
  simp [vA]at this
 have e1:a.eval x= .agg #[]:=by
  have hr:=aU hf hx
  generalize a.eval x=v at hr
  cases hr with
  |d _ _ hd=>
   cases hd with
   |agg cs vs hl h=>
    have:vs= #[]:=Array.eq_empty_of_size_eq_zero (by simpa using hl)
    rw [this]
 have hrun:(execOp a.eval o).run P w= .ok (.value (.iface t (.agg #[]))) w:=by
  simp only [execOp,ho,e1,Instr.makeInterface,Sem.run_bind,run_underlying hT0.und,Result.andThen_ok]
  cases d0<;>first|rfl|exact absurd rfl (hni _)
 exact bW hrun (hq _ w ρ _ hp hk hm hf (.d _ _ (.lit _)))
end
end Go.Proofs.YtcomlapnibckmaaGreatDoor
