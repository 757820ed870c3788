/-
  Regions that draw their order: all orders, given as a tree. Data of which more is known: nil for an empty slice, at any depth. Objects of other kinds: a new one, and one that is written; rows whose cells are known one by one.
  Conditions: none.
-/
import Derived.Test.YtcomlapnibckmaaGreatDoorMSw
import Derived.Test.YtcomlapnibckmaaGreatDoorMSz
import Derived.Laws.IdiomCopy
import Derived.Laws.Externs
import Derived.Lib.Overlaps
import Derived.Lib.AppendZeros
set_option linter.unusedSectionVars false
set_option linter.unusedSimpArgs false
set_option linter.unusedVariables false
namespace Go.Proofs.YtcomlapnibckmaaGreatDoor
open Go.Proofs
section
variable {P:Program}
inductive OT where
 |done
 |stop
 |first (i:Nat) (t:OT)
 |alt (i:Nat) (t:OT) (r:OT)
def OT.heads:OT->List Nat
 | .alt i _ r=>i::r.heads
 |_=>[]
def OT.depth:OT->Nat
 | .done=>0
 | .stop=>0
 | .first _ t=>t.depth+1
 | .alt _ t r=>max (t.depth+1) r.depth
def okT (ops:Array Oper):OT->Array Bool->Bool->Bool
 | .done,listed,inn=> !inn && (Region.ready .any ops listed).isEmpty
 | .stop,_,inn=>inn
 | .first i t, listed, inn => !inn && (match ops[i]? with
   |some o=>kd o.op==0 && (Region.ready .any ops listed).contains i && Region.free .any ops listed i && okT ops t (listed.setIfInBounds i true) false
   |none=>false)
 | .alt i t r,listed,inn=>(inn || (!(Region.ready .any ops listed).isEmpty && (Region.ready .any ops listed).all λj=>(i::r.heads).contains j)) && (ops[i]?).isSome && okT ops t (listed.setIfInBounds i true) false && okT ops r listed true
def aAy (P:Program) (pin:Pin) (fr:Fr) (hp:Hp) (f:Operand) (args:List Operand) (K:SV->Hp->Prop):Prop:=
 ev fr f λs=>match aD8 s with
  | some (g, first, cap) => (match evL fr args with
   |some l=>cG P g=true/\aG P pin.calm fr hp g (first++l++cap) K
   |none=>aD "call: an argument")
  |none=>aD "call: no function"
def aVC (P:Program) (ti:TypeId->Option TI) (pin:Pin) (fr:Fr) (hp:Hp) (dst:Nat) (o:Oper) (K:SV->Hp->Prop):Prop:=
 match o.op with
 | .call { callee:= .value f,args:=args,argTypes:=_ }=>aAy P pin fr hp f args.toList K
 |_=>dVC P ti pin fr hp dst o K
theorem aC3 {o:Oper}{f:Operand}{args:Array Operand}{ts:Array TypeId}(ho:o.op= .call { callee:= .value f,args:=args,argTypes:=ts }) {pin:Pin}{fr:Fr}{hp:Hp}{K:SV->Hp->Prop}
  (h:aAy P pin fr hp f args.toList K):rH P o pin fr hp K:=by
 intro E ρ a w hpin hm hf next Q hn
 obtain⟨s,hs,hv⟩:=bP h
 have hr:=aV hf hs
 split at hv
 ·rename_i g first cap hfn
  obtain⟨fv,cv,e,h1,h2⟩:=nM hfn hr
  split at hv
  ·rename_i l hl
   obtain⟨hcall,hv⟩:=hv
   obtain⟨l1,l2⟩:=nR hf _ _ hl
   have hargs:bO w ρ (first++l++cap) (fv++args.map a.eval++cv):=by
    refine(h1.append ⟨?_, ?_⟩).append h2
    ·simpa using l1
    ·intro j s' v hs' hv'
     refine l2 j s' v hs' ?_
     rw [<-Array.toList_map];simpa using hv'
   unfold Oper.wp
   rw [eN ho e hcall]
   simp only [Oper.upon]
   refine(hv { E with pin:=E.pin.calm } ρ w a.tmps (by rw [hpin]) hm.calm hf _ hargs).mono ?_
   rintro e' w' (⟨v,ρ',s',hp',rfl,k1,k2,k3,k4⟩|⟨_,_,_,_,_,q,_⟩)
   ·exact hn v w' ρ' s' hp' k1 k2.uncalm k3 k4
   ·exact q.elim
  ·exact hv.elim
 ·exact hv.elim
theorem aIc {ti:TypeId->Option TI}(hti:cT P ti) {o:Oper}{pin:Pin}{fr:Fr}{hp:Hp}{dst:Nat}{K:SV->Hp->Prop}(h:aVC P ti pin fr hp dst o K):rH P o pin fr hp K:=by
 unfold aVC at h
 split at h
 ·rename_i ho;exact aC3 ho h
 ·rcases aGv hti (o:=o) h with⟨_,hd,_⟩|⟨_,hd⟩|⟨_,hd⟩
  ·exact .pure hd
  ·exact hd.drop
  ·exact hd
def aCw (C:Cfg) (all:List Oper) (i:Nat) (fr:Fr) (hp:Hp) (k:Fr->Hp->Prop):Prop:=
 match all[i]? with
 |some o=>
  lH all fr o.guard
   (λfr=>aVC C.P C.ti C.pin fr hp (C.off+o.dst.getD 0) o λs hp'=>put C o.dst s fr λfr'=>k fr' hp')
   (λfr=>put C o.dst (.d (.lit undef)) fr λfr'=>k fr' hp)
 |none=>aD "no such operation"
def lL (C:Cfg) (all:List Oper) (K:Fr->Hp->Prop):OT->Fr->Hp->Prop
 | .done,fr,hp=>kN C.keep fr λfr'=>K fr' hp
 | .stop,_,_=>True
 | .first i t,fr,hp=>xU C all i fr hp λfr' hp'=>lL C all K t fr' hp'
 | .alt i t r,fr,hp=>aCw C all i fr hp (λfr' hp'=>lL C all K t fr' hp')/\lL C all K r fr hp
def aF2 (C:Cfg) (all:List Oper) (R:Act->World->Prop) (fuel:Nat) (listed:Array Bool) (a:Act) (w:World) (i:Nat):Prop:=
 match all.toArray[i]? with
 |none=>wpE C.P all.toArray R fuel (λ_=>True) (listed.setIfInBounds i true) a w
 |some o=>
  if Region.wanted o (yielded all.toArray a.tmps)then
   o.wp C.P a w (λa' w'=>if kd o.op=3 then wpE C.P all.toArray R fuel (λ_=>True) (listed.setIfInBounds i true) a' w' else True/\wpE C.P all.toArray R fuel (λ_=>True) (listed.setIfInBounds i true) a' w') noX
  else wpE C.P all.toArray R fuel (λ_=>True) (listed.setIfInBounds i true) (a.put o.dst undef) w
theorem wK {C:Cfg}(hti:cT C.P C.ti) {all:List Oper}{K:Fr->Hp->Prop}{E:Entry}(hpin:E.pin=C.pin) (hsel:Region.noSelect all.toArray=true):
  ∀(T:OT) (fuel:Nat) (listed:Array Bool) (fr:Fr) (hp:Hp) (ρ:Env) (a:Act) (w:World),lL C all K T fr hp->Mem E ρ hp w->a.tmps.size=C.nt->a.defers=(E.D.take E.k).map lQ++E.pin.pre->bX ρ w fr a.tmps->
  (okT all.toArray T listed false=true->T.depth<=fuel->wpE C.P all.toArray (λa w=> ∃fr hp,K fr hp/\Sat E C.nt ⟨fr,hp⟩ a w) fuel (λ_=>True) listed a w)/\
  (∀inn,okT all.toArray T listed inn=true->T.depth<=fuel+1-> ∀i∈T.heads,aF2 C all (λa w=> ∃fr hp,K fr hp/\Sat E C.nt ⟨fr,hp⟩ a w) fuel listed a w i):=by
 intro T
 induction T with
 |done=>
  intro fuel listed fr hp ρ a w h hm h1 h2 h3
  refine⟨λhB _=> ?_,λ_ _ _ i hi=>by simp [OT.heads]at hi⟩
  simp only [okT,Bool.not_false,Bool.true_and,List.isEmpty_iff]at hB
  simp only [lL,gN]at h
  have hq: ∃fr hp,K fr hp/\Sat E C.nt ⟨fr,hp⟩ a w:=⟨_,hp,h,h1,h2,ρ,hm,λt s hts=>h3 t s (fF _ _ t s hts)⟩
  cases fuel with
  |zero=>exact⟨hB,hq⟩
  |succ n=>exact⟨λ_=>hq,λi hi=>by rw [hB]at hi;cases hi⟩
 |stop=>
  intro fuel listed fr hp ρ a w h hm h1 h2 h3
  exact⟨λhB=>by simp [okT]at hB,λ_ _ _ i hi=>by simp [OT.heads]at hi⟩
 |first i t ih=>
  intro fuel listed fr hp ρ a w h hm h1 h2 h3
  refine⟨λhB hd=> ?_,λ_ _ _ i hi=>by simp [OT.heads]at hi⟩
  simp only [lL,xU]at h
  split at h
  ·rename_i o ho
   have ho':all.toArray[i]? =some o:=by simpa using ho
   simp only [okT,ho',Bool.not_false,Bool.true_and,Bool.and_eq_true,beq_iff_eq,List.contains_iff_mem]at hB
   obtain⟨⟨⟨hk,hr⟩,hf⟩,hB⟩:=hB
   simp only [OT.depth]at hd
   obtain⟨fuel,rfl⟩: ∃n,fuel=n+1:=⟨fuel - 1,by omega⟩
   obtain⟨fr0,h3,hh⟩:=cS h h3
   rcases hh with⟨hw,h⟩|⟨hw,h⟩
   ·rcases aGv hti h with⟨_,hd',hd0⟩|⟨hk',_⟩|⟨hk',_⟩
    ·obtain⟨v,s,q1,q2,q3⟩:=hd' E ρ a w hm h3
     obtain⟨fr',p1,p2⟩:=dB q3 h1 h3 q2
     refine mQ ho' hsel (by omega) fuel _ listed a w trivial (Region.free_spec ho' hf) (λh0=>absurd hk h0) hr (v:=v) (.inl ⟨hw,λw' _=> ?_⟩) ((ih fuel _ fr' hp ρ _ w p1 hm (by rw [bI];exact h1) (by rw [put_defers];exact h2) p2).1 hB (by omega))
     exact hd0 hk ρ a w v h3 (q1 w (Kept.refl ρ hp w)) w'
    ·omega
    ·omega
   ·obtain⟨fr',p1,p2⟩:=dB h h1 h3 (Rep.d _ undef (.lit undef))
    exact mQ ho' hsel (by omega) fuel _ listed a w trivial (Region.free_spec ho' hf) (λh0=>absurd hk h0) hr (v:=undef) (.inr ⟨hw,rfl⟩) ((ih fuel _ fr' hp ρ _ w p1 hm (by rw [bI];exact h1) (by rw [put_defers];exact h2) p2).1 hB (by omega))
  ·exact h.elim
 |alt i t r iht ihr=>
  intro fuel listed fr hp ρ a w h hm h1 h2 h3
  have key: ∀inn,okT all.toArray (.alt i t r) listed inn=true-> ∀n,(OT.alt i t r).depth<=n+1-> ∀j∈(OT.alt i t r).heads,aF2 C all (λa w=> ∃fr hp,K fr hp/\Sat E C.nt ⟨fr,hp⟩ a w) n listed a w j:=by
   intro inn hB n hd j hj
   simp only [okT,Bool.and_eq_true]at hB
   obtain⟨⟨⟨_,hsome⟩,hBt⟩,hBr⟩:=hB
   simp only [OT.depth]at hd
   simp only [lL]at h
   simp only [OT.heads,List.mem_cons]at hj
   rcases hj with rfl|hj
   ·have h:=h.1
    unfold aCw at h
    split at h
    ·rename_i o ho
     have ho':all.toArray[j]? =some o:=by simpa using ho
     unfold aF2
     simp only [ho']
     obtain⟨fr0,h3,hh⟩:=cS h h3
     rcases hh with⟨hw,h⟩|⟨hw,h⟩
     ·rw [if_pos hw]
      refine aIc hti h E ρ a w hpin hm h3 _ noX λv w' ρ' s hp' k1 k2 k3 k4=> ?_
      obtain⟨fr',p1,p2⟩:=dB k1 h1 k3 k4
      have:=(iht n _ fr' hp' ρ' _ w' p1 k2 (by rw [bI];exact h1) (by rw [put_defers];exact h2) p2).1 hBt (by omega)
      split
      ·exact this
      ·exact⟨trivial,this⟩
     ·rw [if_neg (by rw [hw];decide)]
      obtain⟨fr',p1,p2⟩:=dB h h1 h3 (Rep.d _ undef (.lit undef))
      exact(iht n _ fr' hp ρ _ w p1 hm (by rw [bI];exact h1) (by rw [put_defers];exact h2) p2).1 hBt (by omega)
    ·exact h.elim
   ·exact(ihr n listed fr hp ρ a w h.2 hm h1 h2 h3).2 true hBr (by omega) j hj
  refine⟨λhB hd=> ?_,λinn hB hd=>key inn hB fuel hd⟩
  have hd':=hd
  simp only [OT.depth]at hd'
  obtain⟨fuel,rfl⟩: ∃n,fuel=n+1:=⟨fuel - 1,by omega⟩
  have hc:=hB
  simp only [okT,Bool.false_or,Bool.and_eq_true,Bool.not_eq_true',List.all_eq_true,List.contains_iff_mem]at hc
  obtain⟨⟨⟨⟨hne,hcov⟩,_⟩,_⟩,_⟩:=hc
  refine⟨λh0=> ?_,λj hj=> ?_⟩
  ·rw [h0]at hne;cases hne
  ·exact key false hB fuel hd j (hcov j hj)
theorem yY {C:Cfg}(hti:cT C.P C.ti) {id:Nat}{l:List Oper}{fr:Fr}{hp:Hp}{K:Ex->Fr->Hp->Prop}(T:OT) (hm:C.P.follows .mixedOrders=true)
  (hB:(decide (T.depth<=l.length) && Region.noSelect l.toArray && okT l.toArray T (Array.replicate l.length false) false && fR l)=true) (h:lL C l (K .normal) T fr hp):aL C (.region id l.toArray true) fr hp K:=by
 intro E a w hpin hrd ⟨h1,h2,ρ,h3,h4⟩
 simp only [Bool.and_eq_true,decide_eq_true_eq]at hB
 obtain⟨⟨⟨b1,b2⟩,b3⟩,hnd⟩:=hB
 refine cW hm hnd fL.noOut ?_
 obtain⟨m1,m2⟩:=h3.grow_same (Grew.drew w)
 have:=(wK (C:=C) hti (E:=E) hpin b2 T l.length (Array.replicate l.length false) fr hp ρ a _ h m1 h1 h2 (m2 fr _ h4)).1 b3 b1
 have h5:=lC (Q:=fL C E K) _ _ _ _ _ (aDq (Q':=fL C E K .normal) (λa w ⟨fr',hp',k1,k2⟩=>⟨.normal,fr',hp',E, .refl E,trivial,k1,k2⟩) _ _ _ _ _ this)
 have e:l.toArray.size=l.length:=by simp
 rw [e]
 exact h5
end
end Go.Proofs.YtcomlapnibckmaaGreatDoor
namespace Go.Proofs.YtcomlapnibckmaaGreatDoor
open Go.Proofs
mutual
def WkD:D->D->Prop
 | .nil, .sl _ rows=>rows=[]
 | .sl z rows, .sl z' rows'=>z=z'/\aFg rows rows'
 | .agg cs, .agg cs'=>aDm cs cs'
 |a,b=>a=b
def aDm:List D->List D->Prop
 | [],[]=>True
 |a::l,b::m=>WkD a b/\aDm l m
 |_,_=>False
def aFg:List (List D)->List (List D)->Prop
 | [],[]=>True
 |a::l,b::m=>aDm a b/\aFg l m
 |_,_=>False
end
theorem rG: ∀(l m:List D),aDm l m->l.length=m.length/\ ∀(j:Nat) (x':D),m[j]? =some x'-> ∃x,l[j]? =some x/\WkD x x'
 | [],[],_=>⟨rfl,by simp⟩
 |a::l,b::m,h=>by
  simp only [aDm]at h
  obtain⟨i1,i2⟩:=rG l m h.2
  refine⟨by simp [i1],λj x' hj=> ?_⟩
  cases j with
  |zero=>simp at hj;subst hj;exact⟨a,by simp,h.1⟩
  |succ j=>simp at hj;obtain⟨x,h1,h2⟩:=i2 j x' hj;exact⟨x,by simpa using h1,h2⟩
 | [],_::_,h=>by simp [aDm]at h
 |_::_,[],h=>by simp [aDm]at h
theorem aB0: ∀(l m:List (List D)),aFg l m->l.length=m.length/\ ∀(i:Nat) (row':List D),m[i]? =some row'-> ∃row,l[i]? =some row/\aDm row row'
 | [],[],_=>⟨rfl,by simp⟩
 |a::l,b::m,h=>by
  simp only [aFg]at h
  obtain⟨i1,i2⟩:=aB0 l m h.2
  refine⟨by simp [i1],λj x' hj=> ?_⟩
  cases j with
  |zero=>simp at hj;subst hj;exact⟨a,by simp,h.1⟩
  |succ j=>simp at hj;obtain⟨x,h1,h2⟩:=i2 j x' hj;exact⟨x,by simpa using h1,h2⟩
 | [],_::_,h=>by simp [aFg]at h
 |_::_,[],h=>by simp [aFg]at h
theorem vT {w:World}{S:Nat->Nat->Prop}{a:D}{v:Value}(h:RepD w S a v): ∀b,WkD a b->RepD w S b v:=by
 induction h with
 |int k n=>
  intro b hb
  have:D.int k n=b:=by cases b<;>first|(simp [WkD]at hb;done)|simpa [WkD]using hb
  subst this
  exact .int k n
 |bool x=>
  intro b hb
  have:D.bool x=b:=by cases b<;>first|(simp [WkD]at hb;done)|simpa [WkD]using hb
  subst this
  exact .bool x
 |str l hl=>
  intro b hb
  have:D.str l=b:=by cases b<;>first|(simp [WkD]at hb;done)|simpa [WkD]using hb
  subst this
  exact .str l hl
 |lit u=>
  intro b hb
  have:D.lit u=b:=by cases b<;>first|(simp [WkD]at hb;done)|simpa [WkD]using hb
  subst this
  exact .lit u
 |nil=>
  intro b hb
  cases b with
  |sl z rows=>
   simp only [WkD]at hb
   subst hb
   exact .sl z [] none 0 0 0 (λ_=>undef) (by simp) (by simp) (by simp) (by simp) (by simp) (by simp)
  |nil=>exact .nil
  |_=>simp [WkD]at hb
 |sl z rows A cap b off f hz hn hc hA hcell hrep ih=>
  intro b' hb
  cases b' with
  |sl z' rows'=>
   simp only [WkD]at hb
   obtain⟨rfl,hb⟩:=hb
   obtain⟨e1,e2⟩:=aB0 _ _ hb
   rw [e1]
   have key: ∀(i:Nat) (row':List D) (j:Nat) (x':D),rows'[i]? =some row'->row'[j]? =some x'-> ∃row x,rows[i]? =some row/\row[j]? =some x/\WkD x x':=by
    intro i row' j x' h1 h2
    obtain⟨row,r1,r2⟩:=e2 i row' h1
    obtain⟨_,r3⟩:=rG _ _ r2
    obtain⟨x,x1,x2⟩:=r3 j x' h2
    exact⟨row,x,r1,x1,x2⟩
   refine .sl z rows' A cap b off f ?_ (by omega) hc ?_ ?_ ?_
   ·intro row' hr
    obtain⟨i,hi⟩:=List.mem_iff_getElem?.1 hr
    obtain⟨row,r1,r2⟩:=e2 i row' hi
    rw [<-(rG _ _ r2).1]
    exact hz row (List.mem_of_getElem? r1)
   ·intro hne
    exact hA λe=>hne (by subst e;simp at e1;exact List.eq_nil_of_length_eq_zero e1.symm)
   ·intro i row' j x' h1 h2
    obtain⟨row,x,r1,r2,_⟩:=key i row' j x' h1 h2
    exact hcell i row j x r1 r2
   ·intro i row' j x' h1 h2
    obtain⟨row,x,r1,r2,r3⟩:=key i row' j x' h1 h2
    exact ih i row j x r1 r2 x' r3
  |_=>simp [WkD]at hb
 |agg cs vs hl h ih=>
  intro b hb
  cases b with
  |agg cs'=>
   simp only [WkD]at hb
   obtain⟨e1,e2⟩:=rG _ _ hb
   refine .agg cs' vs (by omega) λj x' v h1 h2=> ?_
   obtain⟨x,x1,x2⟩:=e2 j x' h1
   exact ih j x v x1 h2 x' x2
  |_=>simp [WkD]at hb
def WkS:SV->SV->Prop
 | .d a, .d b=>WkD a b
 | .osl _ z rows, .d b=>WkD (.sl z rows) b
 |a,b=>a=b
def aFf:List SV->List SV->Prop
 | [],[]=>True
 |a::l,b::m=>WkS a b/\aFf l m
 |_,_=>False
theorem aGk {w:World}{ρ:Env}{a b:SV}{v:Value}(h:WkS a b) (hr:Rep w ρ a v):Rep w ρ b v:=by
 unfold WkS at h
 split at h
 ·cases hr with
  |d x v h'=>exact .d _ _ (vT h' _ h)
 ·exact .d _ _ (vT hr.osl_inv.1 _ h)
 ·subst h;exact hr
theorem aAz: ∀(l m:List SV),aFf l m->l.length=m.length/\ ∀(j:Nat) (x':SV),m[j]? =some x'-> ∃x,l[j]? =some x/\WkS x x'
 | [],[],_=>⟨rfl,by simp⟩
 |a::l,b::m,h=>by
  simp only [aFf]at h
  obtain⟨i1,i2⟩:=aAz l m h.2
  refine⟨by simp [i1],λj x' hj=> ?_⟩
  cases j with
  |zero=>simp at hj;subst hj;exact⟨a,by simp,h.1⟩
  |succ j=>simp at hj;obtain⟨x,h1,h2⟩:=i2 j x' hj;exact⟨x,by simpa using h1,h2⟩
 | [],_::_,h=>by simp [aFf]at h
 |_::_,[],h=>by simp [aFf]at h
theorem Tri.res {P:Program}{f:FuncId}{asv:List SV}{hp:Hp}{post post':SV->Prop}(h:Tri P f asv hp post) (hw: ∀s,post s->post' s\/ ∃a b,s= .d a/\WkD a b/\post' (.d b)):Tri P f asv hp post':=
 λw ρ vs a b c=>(h w ρ vs a b c).mono λ_ _ ⟨v,S',s,h1,h2,h3,h4,h5,h6,h7⟩=>by
  rcases hw s h2 with hp'|⟨x,y,rfl,q,hp'⟩
  ·exact⟨v,S',s,h1,hp',h3,h4,h5,h6,h7⟩
  ·cases h7 with
   |d _ _ h7=>exact⟨v,S', .d y,h1,hp',h3,h4,h5,h6, .d _ _ (vT h7 _ q)⟩
end Go.Proofs.YtcomlapnibckmaaGreatDoor
namespace Go.Proofs.YtcomlapnibckmaaGreatDoor
open Go.RowKit
section
variable {P:Program}
end
end Go.Proofs.YtcomlapnibckmaaGreatDoor
