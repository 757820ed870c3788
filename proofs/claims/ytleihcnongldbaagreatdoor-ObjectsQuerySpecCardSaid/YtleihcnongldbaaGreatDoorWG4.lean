/-
  Regions that draw their order: reads of data and pure operations are taken first; the rest as a tree. Objects: the writer writes axioms, commits, queries and alignments. The reference of objects: lists, concepts and axioms in bytes. Terms: the reference's order, Strings, Size and Compare. The walk through the reference's keyword. Names: the walks through the reference's functions that tell which strings are names.
  Conditions: none.
-/
import Derived.Test.YtleihcnongldbaaGreatDoorWSyc
import Derived.Test.YtleihcnongldbaaGreatDoorWSyi
import Derived.Test.YtleihcnongldbaaGreatDoorWSna
set_option linter.unnecessarySimpa false
set_option linter.unusedSectionVars false
set_option linter.unusedSimpArgs false
set_option linter.unusedVariables false
set_option maxHeartbeats 32000000
namespace Go.Proofs.YtleihcnongldbaaGreatDoor
open Go.Proofs
section
variable {P:Program}
def wpS (P:Program) (ops:Array Oper) (Q:Act->World->Prop):Nat->(World->Prop)->Array Bool->Act->World->Prop
 | 0,_,listed,a,w=>Region.ready .any ops listed=[]/\Q a w
 |fuel+1,Cl,listed,a,w=>
  (Region.ready .any ops listed=[]->Q a w)/\
  ∀i∈Region.ready .any ops listed,
   match ops[i]? with
   |none=>wpS P ops Q fuel Cl (listed.setIfInBounds i true) a w
   |some o=>
    if Region.wanted o (yielded ops a.tmps)then
     o.wp P a w (λa' w'=>Cl w'/\wpS P ops Q fuel Cl (listed.setIfInBounds i true) a' w') noX
    else wpS P ops Q fuel Cl (listed.setIfInBounds i true) (a.put o.dst undef) w
theorem aFg {ops:Array Oper}{Q Q':Act->World->Prop}(hQ: ∀a w,Q a w->Q' a w): ∀(fuel:Nat) (Cl Cl':World->Prop) (listed:Array Bool) (a:Act) (w:World),(∀w,Cl' w->Cl w)->wpS P ops Q fuel Cl' listed a w->wpS P ops Q' fuel Cl listed a w:=by
 intro fuel
 induction fuel with
 |zero=>intro Cl Cl' listed a w _ h;exact⟨h.1,hQ _ _ h.2⟩
 |succ fuel ih=>
  intro Cl Cl' listed a w hc h
  refine⟨λh0=>hQ _ _ (h.1 h0),λi hi=> ?_⟩
  have:=h.2 i hi
  split
  ·rename_i ho;simp only [ho]at this;exact ih _ _ _ _ _ hc this
  ·rename_i o ho
   simp only [ho]at this
   split
   ·rename_i hw
    simp only [hw,if_true]at this
    exact wI (λa' w' hk=>⟨hc _ hk.1,ih _ _ _ _ _ hc hk.2⟩) this
   ·rename_i hw;simp only [hw]at this;exact ih _ _ _ _ _ hc this
theorem aGs {ops:Array Oper}{Q:Exit->Act->World->Prop}: ∀(fuel:Nat) (Cl:World->Prop) (listed:Array Bool) (a:Act) (w:World),wpS P ops (Q .normal) fuel Cl listed a w->wpAny P .any ops Q fuel listed a w:=by
 intro fuel
 induction fuel with
 |zero=>intro Cl listed a w h;exact h
 |succ fuel ih=>
  intro Cl listed a w h
  refine⟨h.1,λi hi=> ?_⟩
  have:=h.2 i hi
  unfold wpOp
  split
  ·rename_i ho;simp only [ho]at this;exact ih _ _ _ _ this
  ·rename_i o ho
   simp only [ho]at this
   split
   ·rename_i hw
    simp only [hw,if_true]at this
    left
    exact wI (λa' w' hk=>ih _ _ _ _ hk.2) this
   ·rename_i hw;simp only [hw]at this;exact ih _ _ _ _ this
def YS (P:Program) (ops:Array Oper) (Cl:World->Prop) (o:Oper) (v:Value) (a:Act):Prop:=
 (Region.wanted o (yielded ops a.tmps)=true/\ ∀w,Cl w->(execOp a.eval o).run P w= .ok (.value v) w)\/(Region.wanted o (yielded ops a.tmps)=false/\v=undef)
theorem YS.of_same {ops:Array Oper}{Cl:World->Prop}{o:Oper}{v:Value}{a a':Act}(hy:YS P ops Cl o v a) (he:execOp a'.eval o=execOp a.eval o)
  (hw:Region.wanted o (yielded ops a'.tmps)=Region.wanted o (yielded ops a.tmps)):YS P ops Cl o v a':=by
 unfold YS at *
 rw [he,hw]
 exact hy
theorem aCi {ops:Array Oper}{Q:Act->World->Prop}{i:Nat}{oi:Oper}{v:Value}(hi:ops[i]? =some oi) (hsel:Region.noSelect ops=true):
  ∀(fuel:Nat) (Cl:World->Prop) (listed:Array Bool) (a:Act) (w:World),Cl w->
   (∀j oj,ops[j]? =some oj->j≠i->listed.getD j true=false->(∀e∈oj.after,Region.binds .any e=true->e.on≠i)->oi.apart ops oj=true)->
   i∈Region.ready .any ops listed->YS P ops Cl oi v a->
   wpS P ops Q fuel Cl (listed.setIfInBounds i true) (a.put oi.dst v) w->wpS P ops Q (fuel+1) Cl listed a w:=by
 have own: ∀(fuel:Nat) (Cl:World->Prop) (listed:Array Bool) (a:Act) (w:World),Cl w->YS P ops Cl oi v a->wpS P ops Q fuel Cl (listed.setIfInBounds i true) (a.put oi.dst v) w->
   (match ops[i]? with
   |none=>wpS P ops Q fuel Cl (listed.setIfInBounds i true) a w
   |some o=>if Region.wanted o (yielded ops a.tmps)then o.wp P a w (λa' w'=>Cl w'/\wpS P ops Q fuel Cl (listed.setIfInBounds i true) a' w') noX
    else wpS P ops Q fuel Cl (listed.setIfInBounds i true) (a.put o.dst undef) w):=by
  intro fuel Cl listed a w hc hy H
  simp only [hi]
  rcases hy with⟨hw,hrun⟩|⟨hw,rfl⟩
  ·simp only [hw,if_true]
   exact cQ (hrun w hc) ⟨hc,H⟩
  ·simp only [hw,Bool.false_eq_true,if_false];exact H
 intro fuel
 induction fuel with
 |zero=>
  intro Cl listed a w hc _ hr hy H
  refine⟨λh=>(by rw [h]at hr;cases hr),λj hj=> ?_⟩
  by_cases hji:j=i
  ·subst hji;exact own 0 Cl listed a w hc hy H
  ·have:=ready_mono hj hji
   rw [H.1]at this
   cases this
 |succ fuel ih=>
  intro Cl listed a w hc hfree hr hy H
  refine⟨λh=>(by rw [h]at hr;cases hr),λj hj=> ?_⟩
  by_cases hji:j=i
  ·subst hji;exact own _ Cl listed a w hc hy H
  ·have h1:=H.2 j (ready_mono hj hji)
   obtain⟨hjun,oj,hoj,hall⟩:=mem_ready.1 hj
   have hnot: ∀e∈oj.after,Region.binds .any e=true->e.on≠i:= λe he hb heq=>by
    have h1:=hall e he hb
    have h0:=(mem_ready.1 hr).1
    rw [heq]at h1
    rcases Nat.lt_or_ge i listed.size with h'|h'
    ·simp [h']at h0 h1;rw [h0]at h1;cases h1
    ·simp [Array.getElem?_eq_none h']at h1
   obtain⟨p1,p2,p3⟩:=Oper.apart_spec (hfree j oj hoj hji hjun hnot)
   have si:= λcs b=>Region.noSelect_spec hsel i oi cs b hi
   have sj:= λcs b=>Region.noSelect_spec hsel j oj cs b hoj
   have keepY:YS P ops Cl oi v a-> ∀u,YS P ops Cl oi v (a.put oj.dst u):= λhy u=>hy.of_same (execOp_put oi si a oj.dst u p3) (wanted_put oi a oj.dst u p3)
   have hfree': ∀k ok,ops[k]? =some ok->k≠i->(listed.setIfInBounds j true).getD k true=false->
     (∀e∈ok.after,Region.binds .any e=true->e.on≠i)->oi.apart ops ok=true:= λk ok hk hki hun hno=>by
    refine hfree k ok hk hki ?_ hno
    by_cases hjk:j=k
    ·subst hjk;exact hjun
    ·rw [getD_set_ne true hjk]at hun;exact hun
   have hrj:=ready_mono hr (Ne.symm hji)
   simp only [hoj]at h1 |-
   rw [wanted_put oj a oi.dst v p1]at h1
   split
   ·rename_i hw
    simp only [hw,if_true]at h1
    have h2:oj.wp P a w (λa' w'=>(Cl w'/\wpS P ops Q fuel Cl ((listed.setIfInBounds i true).setIfInBounds j true) (a'.put oi.dst v) w')) noX:=by
     unfold Oper.wp at h1 |-
     rw [execOp_put oj sj a oi.dst v p1]at h1
     exact aFj (K:= λa' w'=>Cl w'/\wpS P ops Q fuel Cl ((listed.setIfInBounds i true).setIfInBounds j true) a' w') p2 h1
    have h3:oj.wp P a w (λa' w'=>YS P ops Cl oi v a'/\(Cl w'/\wpS P ops Q fuel Cl ((listed.setIfInBounds i true).setIfInBounds j true) (a'.put oi.dst v) w')) noX:=by
     have hput: ∀u,YS P ops Cl oi v (a.put oj.dst u):= λu=>keepY hy u
     unfold Oper.wp at h2 |-
     generalize (execOp a.eval oj).run P w=r at h2
     cases r with
     |ok n w'=>
      cases n<;>simp only [Oper.upon]at h2 |-
      all_goals first
       |exact⟨hput _,h2⟩
       |exact h2.elim
       |exact Calls.mono h2 (λe w'' he=>by cases e<;>first|exact⟨hput _,he⟩|exact he)
       |exact Rows.mono h2 (λ_ _ he=>⟨hput _,he⟩)
       |exact⟨(keepY hy undef).of_same (by cases oj.dst<;>rfl) (by cases oj.dst<;>rfl),h2⟩
       |exact h2
     |halt x w'=>cases x<;>simp only [Oper.upon]at h2 |-<;>exact h2
    refine wI (λa' w' ⟨hyk,hk⟩=> ?_) h3
    refine⟨hk.1,ih Cl (listed.setIfInBounds j true) a' w' hk.1 hfree' hrj hyk ?_⟩
    rw [Array.setIfInBounds_comm _ _ hji];exact hk.2
   ·rename_i hw
    simp only [hw]at h1
    refine ih Cl (listed.setIfInBounds j true) (a.put oj.dst undef) w hc hfree' hrj (keepY hy undef) ?_
    rw [Array.setIfInBounds_comm _ _ hji,<-Act.put_comm a v _ p2]
    simpa using h1
def aIb (ops:Array Oper):OT->Array Bool->Bool->Bool
 | .done,listed,inn=> !inn && (Region.ready .any ops listed).isEmpty
 | .stop,_,inn=>inn
 | .first i t, listed, inn => !inn && (match ops[i]? with
   |some o=>decide (kd o.op<=1) && (Region.ready .any ops listed).contains i && Region.free .any ops listed i && aIb ops t (listed.setIfInBounds i true) false
   |none=>false)
 | .alt i t r,listed,inn=>(inn || (!(Region.ready .any ops listed).isEmpty && (Region.ready .any ops listed).all λj=>(i::r.heads).contains j)) && (ops[i]?).isSome && aIb ops t (listed.setIfInBounds i true) false && aIb ops r listed true
def nB (C:Cfg) (all:List Oper) (K:Fr->Hp->Prop):OT->Fr->Hp->Prop
 | .done,fr,hp=>sC C.keep fr λfr'=>K fr' hp
 | .stop,_,_=>True
 | .first i t,fr,hp=>aI1 C all i fr [] λfr' _=>nB C all K t fr' hp
 | .alt i t r,fr,hp=>aOe C all i fr hp (λfr' hp'=>nB C all K t fr' hp')/\nB C all K r fr hp
def aV7 (C:Cfg) (all:List Oper) (R:Act->World->Prop) (fuel:Nat) (Cl:World->Prop) (listed:Array Bool) (a:Act) (w:World) (i:Nat):Prop:=
 match all.toArray[i]? with
 |none=>wpS C.P all.toArray R fuel Cl (listed.setIfInBounds i true) a w
 |some o=>
  if Region.wanted o (yielded all.toArray a.tmps)then
   o.wp C.P a w (λa' w'=>Cl w'/\wpS C.P all.toArray R fuel Cl (listed.setIfInBounds i true) a' w') noX
  else wpS C.P all.toArray R fuel Cl (listed.setIfInBounds i true) (a.put o.dst undef) w
theorem aEb {C:Cfg}(hti:dT C.P C.ti) {all:List Oper}{K:Fr->Hp->Prop}(hsel:Region.noSelect all.toArray=true):
  ∀(T:OT) (fuel:Nat) (listed:Array Bool) (fr:Fr) (hp:Hp) (ρ:Env) (a:Act) (w:World) (E:Entry),E.pin=C.pin->E.w=w->E.S=ρ.S->nB C all K T fr hp->Mem E ρ hp w->a.tmps.size=C.nt->a.defers=(E.D.take E.k).map uP++E.pin.pre->dH ρ w fr a.tmps->
  (aIb all.toArray T listed false=true->T.depth<=fuel->wpS C.P all.toArray (λa w=> ∃fr hp,K fr hp/\Sat E C.nt ⟨fr,hp⟩ a w) fuel (cJ ρ.S w) listed a w)/\
  (∀inn,aIb all.toArray T listed inn=true->T.depth<=fuel+1-> ∀i∈T.heads,aV7 C all (λa w=> ∃fr hp,K fr hp/\Sat E C.nt ⟨fr,hp⟩ a w) fuel (cJ ρ.S w) listed a w i):=by
 intro T
 induction T with
 |done=>
  intro fuel listed fr hp ρ a w E hpin hEw hES h hm h1 h2 h3
  refine⟨λhB _=> ?_,λ_ _ _ i hi=>by simp [OT.heads]at hi⟩
  simp only [aIb,Bool.not_false,Bool.true_and,List.isEmpty_iff]at hB
  simp only [nB,nQ]at h
  have hq: ∃fr hp,K fr hp/\Sat E C.nt ⟨fr,hp⟩ a w:=⟨_,hp,h,h1,h2,ρ,hm,λt s hts=>h3 t s (lL _ _ t s hts)⟩
  cases fuel with
  |zero=>exact⟨hB,hq⟩
  |succ n=>exact⟨λ_=>hq,λi hi=>by rw [hB]at hi;cases hi⟩
 |stop=>
  intro fuel listed fr hp ρ a w E hpin hEw hES h hm h1 h2 h3
  exact⟨λhB=>by simp [aIb]at hB,λ_ _ _ i hi=>by simp [OT.heads]at hi⟩
 |first i t ih=>
  intro fuel listed fr hp ρ a w E hpin hEw hES h hm h1 h2 h3
  refine⟨λhB hd=> ?_,λ_ _ _ i hi=>by simp [OT.heads]at hi⟩
  simp only [nB,aI1]at h
  split at h
  ·rename_i o ho
   have ho':all.toArray[i]? =some o:=by simpa using ho
   simp only [aIb,ho',Bool.not_false,Bool.true_and,Bool.and_eq_true,decide_eq_true_eq,List.contains_iff_mem]at hB
   obtain⟨⟨⟨hk,hr⟩,hf⟩,hB⟩:=hB
   simp only [OT.depth]at hd
   obtain⟨fuel,rfl⟩: ∃n,fuel=n+1:=⟨fuel - 1,by omega⟩
   have hm0:Mem E ρ [] w:=hm.sub (λid o ho=>by simp [aT]at ho)
   obtain⟨fr0,h3,hh⟩:=fA h h3
   rcases hh with⟨hw,h⟩|⟨hw,h⟩
   ·rcases aTz hti h with⟨_,hd',_⟩|⟨hk',_⟩|⟨hk',_⟩
    ·obtain⟨v,s,q1,q2,q3⟩:=hd' E ρ a w hm0 h3
     obtain⟨fr',p1,p2⟩:=fT q3 h1 h3 q2
     exact aCi ho' hsel fuel _ listed a w (λ_ _ _=>rfl) (Region.free_spec ho' hf) hr (v:=v) (.inl ⟨hw,λw' hw'=>q1 w' ⟨hw',λid x g hx=>by simp [aT]at hx⟩⟩)
      ((ih fuel _ fr' hp ρ _ w E hpin hEw hES p1 hm (by rw [cE];exact h1) (by rw [put_defers];exact h2) p2).1 hB (by omega))
    ·omega
    ·omega
   ·obtain⟨fr',p1,p2⟩:=fT h h1 h3 (Rep.d _ undef (.lit undef))
    exact aCi ho' hsel fuel _ listed a w (λ_ _ _=>rfl) (Region.free_spec ho' hf) hr (v:=undef) (.inr ⟨hw,rfl⟩) ((ih fuel _ fr' hp ρ _ w E hpin hEw hES p1 hm (by rw [cE];exact h1) (by rw [put_defers];exact h2) p2).1 hB (by omega))
  ·exact h.elim
 |alt i t r iht ihr=>
  intro fuel listed fr hp ρ a w E hpin hEw hES h hm h1 h2 h3
  have key: ∀inn,aIb all.toArray (.alt i t r) listed inn=true-> ∀n,(OT.alt i t r).depth<=n+1-> ∀j∈(OT.alt i t r).heads,aV7 C all (λa w=> ∃fr hp,K fr hp/\Sat E C.nt ⟨fr,hp⟩ a w) n (cJ ρ.S w) listed a w j:=by
   intro inn hB n hd j hj
   simp only [aIb,Bool.and_eq_true]at hB
   obtain⟨⟨⟨_,hsome⟩,hBt⟩,hBr⟩:=hB
   simp only [OT.depth]at hd
   simp only [nB]at h
   simp only [OT.heads,List.mem_cons]at hj
   rcases hj with rfl|hj
   ·have h:=h.1
    unfold aOe at h
    split at h
    ·rename_i o ho
     have ho':all.toArray[j]? =some o:=by simpa using ho
     unfold aV7
     simp only [ho']
     obtain⟨fr0,h3,hh⟩:=fA h h3
     rcases hh with⟨hw,h⟩|⟨hw,h⟩
     ·rw [if_pos hw]
      refine aVv hti h E ρ a w hpin hm h3 _ noX λv w' ρ' s hp' k1 k2 k3 k4=> ?_
      obtain⟨fr',p1,p2⟩:=fT k1 h1 k3 k4
      have hkp:cJ ρ.S w w':=by have:=k2.kp;rwa [hEw,hES]at this
      have hso: ∀b i,ρ.S b i->ρ'.S b i:=by have:=k2.sold;rwa [hES]at this
      refine⟨hkp, ?_⟩
      have hm2:Mem { cL w' ρ' hp' E.pin E.rd E.D with k:=E.k } ρ' hp' w':=by
       have:=k2.enter E.pin E.rd
       exact⟨this.os,this.tape,this.output,this.size,this.old,this.sold,this.snew,this.slt,this.kp,this.sat,this.inj,this.hb,this.mv,this.ro,this.md⟩
      have:=(iht n _ fr' hp' ρ' _ w' { cL w' ρ' hp' E.pin E.rd E.D with k:=E.k } hpin rfl rfl p1 hm2 (by rw [cE];exact h1) (by rw [put_defers];exact h2) p2).1 hBt (by omega)
      refine aFg ?_ _ _ _ _ _ _ (λw2 hw2=>hkp.trans hso hw2) this
      rintro a3 w3 ⟨fr3,hp3,q1,q2,q3,ρ3,q4,q5⟩
      exact⟨fr3,hp3,q1,q2,q3,ρ3,k2.leave (pin:=E.pin) (rd:=E.rd) q4 ⟨rfl,rfl,rfl,rfl,rfl,λb hb=>hb⟩ (λid hid=>hid),q5⟩
     ·rw [if_neg (by rw [hw];decide)]
      obtain⟨fr',p1,p2⟩:=fT h h1 h3 (Rep.d _ undef (.lit undef))
      exact(iht n _ fr' hp ρ _ w E hpin hEw hES p1 hm (by rw [cE];exact h1) (by rw [put_defers];exact h2) p2).1 hBt (by omega)
    ·exact h.elim
   ·exact(ihr n listed fr hp ρ a w E hpin hEw hES h.2 hm h1 h2 h3).2 true hBr (by omega) j hj
  refine⟨λhB hd=> ?_,λinn hB hd=>key inn hB fuel hd⟩
  have hd':=hd
  simp only [OT.depth]at hd'
  obtain⟨fuel,rfl⟩: ∃n,fuel=n+1:=⟨fuel - 1,by omega⟩
  have hc:=hB
  simp only [aIb,Bool.false_or,Bool.and_eq_true,Bool.not_eq_true',List.all_eq_true,List.contains_iff_mem]at hc
  obtain⟨⟨⟨⟨hne,hcov⟩,_⟩,_⟩,_⟩:=hc
  refine⟨λh0=> ?_,λj hj=> ?_⟩
  ·rw [h0]at hne;cases hne
  ·exact key false hB fuel hd j (hcov j hj)
theorem bI {C:Cfg}(hti:dT C.P C.ti) {id:Nat}{l:List Oper}{fr:Fr}{hp:Hp}{K:Ex->Fr->Hp->Prop}(T:OT) (hm:C.P.follows .mixedOrders=true)
  (hB:(decide (T.depth<=l.length) && Region.noSelect l.toArray && aIb l.toArray T (Array.replicate l.length false) false && mJ l)=true) (h:nB C l (K .normal) T fr hp):aN C (.region id l.toArray true) fr hp K:=by
 intro E a w hpin hrd ⟨h1,h2,ρ,h3,h4⟩
 simp only [Bool.and_eq_true,decide_eq_true_eq]at hB
 obtain⟨⟨⟨b1,b2⟩,b3⟩,hnd⟩:=hB
 refine fG hm hnd lQ.noOut ?_
 obtain⟨m1,m2⟩:=h3.grow_same (Grew.drew w)
 generalize hw1:w.drew=w1 at *
 have hm2:Mem { cL w1 ρ hp E.pin E.rd E.D with k:=E.k } ρ hp w1:=by
  have:=m1.enter E.pin E.rd
  exact⟨this.os,this.tape,this.output,this.size,this.old,this.sold,this.snew,this.slt,this.kp,this.sat,this.inj,this.hb,this.mv,this.ro,this.md⟩
 have:=(aEb (C:=C) hti b2 T l.length (Array.replicate l.length false) fr hp ρ a w1 { cL w1 ρ hp E.pin E.rd E.D with k:=E.k } hpin rfl rfl h hm2 h1 h2 (m2 fr _ h4)).1 b3 b1
 have h5:=aGs (Q:=lQ C E K) _ _ _ _ _ (aFg (Q':=lQ C E K .normal) (λa w ⟨fr',hp',k1,q2,q3,ρ3,q4,q5⟩=>⟨.normal,fr',hp',E, .refl E,trivial,k1,q2,q3,ρ3,m1.leave (pin:=E.pin) (rd:=E.rd) q4 ⟨rfl,rfl,rfl,rfl,rfl,λb hb=>hb⟩ (λid hid=>hid),q5⟩) _ _ _ _ _ _ (λ_ h=>h) this)
 have e:l.toArray.size=l.length:=by simp
 rw [e]
 subst hw1
 exact h5
end
end Go.Proofs.YtleihcnongldbaaGreatDoor
namespace Go.Proofs.YtleihcnongldbaaGreatDoor
open Go.Proofs Go.RowKit
set_option maxRecDepth 10000
attribute [local irreducible] aN aJ Tri aI YVC cP bE
theorem eN (o:Bool):(wB o).length=1:=by unfold wB;exact aO _
theorem aIp (x:Ax):1<=(wA x).length:=by unfold wA;rw [List.length_append,aO];omega
theorem dY {p a b:List UInt8}:p++(a++b)=p++a++b:=(List.append_assoc ..).symm
theorem aCj (l:List Ax):WrT 54 [.d (.sl 16 (l.map axR))] (wAs l):=by
 intro p hp
 unfold wAs at hp |-
 rw [cV]at hp
 have hn:=dW (Nat.le_refl 1) aIp l
 have hu:uN (l.length:Int)=l.length:=uG (by omega)
 have hlr:(l.map axR).length=l.length:=List.length_map ..
 refine aG false [] hty Tryz.func54 rfl (kp [0,1,5,6,11,12,13,14,18]) 100 (by simp [Tryz.f54]) ?_
 ((conv=>whnf);repeat ((first|(intro hq;try simp only [lnS]at hq)|refine sI ?_|refine .intro _ (.intro rfl ?_));(conv=>whnf)))
 rw [hlr]
 refine WrT.call (iW l.length) rfl p (by rw [aP];omega) (by decide) rfl rfl ?_
 rw [hu]
 have hqq:(p++beN 4 l.length).length=p.length+4:=by rw [List.length_append,aP]
 have hfin:p++aX wA l=p++beN 4 l.length++(l.map wA).flatten:=by unfold aX;rw [dY]
 rw [hfin]
 clear hfin
 generalize p++beN 4 l.length=q at *
 ((conv=>whnf);repeat ((first|(intro hq;try simp only [lnS]at hq)|refine sI ?_|refine .intro _ (.intro rfl ?_));(conv=>whnf)))
 rw [hlr]
 refine aH hty (λj:Nat=>([(0, .ptr 3 0),(11, .d (.sl 16 (l.map axR))),(12, .d (.int .i64 l.length)),(13, .d (.int .i64 j))],[(3,wrC 4 (q++((l.take j).map wA).flatten)),(4,wrB (q++((l.take j).map wA).flatten))])) (λj=>j<=l.length) (λj=>l.length - j) 0 (by omega) ⟨by repeat' (first|exact trivial|exact rfl|refine And.intro ?_ ?_),by rw [List.take_zero,List.map_nil,List.flatten_nil,List.append_nil];exact⟨rfl,rfl,trivial⟩⟩ ?_
 intro j hj
 ((conv=>whnf);repeat ((first|(intro hq;try simp only [lnS]at hq)|refine sI ?_|refine .intro _ (.intro rfl ?_));(conv=>whnf)))
 refine aB (λh1=> ?_) (λh1=> ?_)
 ·have hjl:j < l.length:=by omega
  have hrow:(l.map axR)[((j:Nat):Int).toNat]? =some (axR l[j]):=aS hjl
  have hnx:=cM (w:=wA) hjl
  have hle:=iM (w:=wA) l (j+1)
  rw [hnx,List.length_append]at hle
  have hla:(wA l[j]).length=1+(1+((wC l[j].left).length+((wC l[j].right).length+((aX bC l[j].roles).length+((bC l[j].role).length+((bC l[j].a).length+(bC l[j].b).length)))))):=by
   unfold wA;simp only [List.length_append,aO,eN]
  have hle':=zQ l[j].left
  have hri':=zQ l[j].right
  rw [bA]at hle' hri'
  generalize l[j]=x at *
  obtain⟨kd,op,le,ri,rs,s1,s2,s3⟩:=x
  dsimp only at hla hle' hri'
  ((conv=>whnf);repeat ((first|(refine⟨_,hrow, ?_⟩)|(intro hq;try simp only [lnS]at hq)|refine sI ?_|refine .intro _ (.intro rfl ?_));(conv=>whnf)))
  cases op
  ·have hB:WrT 69 [.d (.int .i64 0)] (wB false):=oK 0
   ((conv=>whnf);repeat ((first|(intro hq;try simp only [lnS]at hq)|refine sI ?_|refine .intro _ (.intro rfl ?_));(conv=>whnf)))
   refine WrT.call (oK kd) rfl _ (by simp only [List.length_append,aO];omega) (by decide) rfl rfl ?_
   ((conv=>whnf);repeat ((first|(intro hq;try simp only [lnS]at hq)|refine sI ?_|refine .intro _ (.intro rfl ?_));(conv=>whnf)))
   refine WrT.call hB rfl _ (by simp only [List.length_append,aO,eN];omega) (by decide) rfl rfl ?_
   ((conv=>whnf);repeat ((first|(intro hq;try simp only [lnS]at hq)|refine sI ?_|refine .intro _ (.intro rfl ?_));(conv=>whnf)))
   refine WrT.call hle' rfl _ (by simp only [List.length_append,aO,eN];omega) (by decide) rfl rfl ?_
   ((conv=>whnf);repeat ((first|(intro hq;try simp only [lnS]at hq)|refine sI ?_|refine .intro _ (.intro rfl ?_));(conv=>whnf)))
   refine WrT.call hri' rfl _ (by simp only [List.length_append,aO,eN];omega) (by decide) rfl rfl ?_
   ((conv=>whnf);repeat ((first|(intro hq;try simp only [lnS]at hq)|refine sI ?_|refine .intro _ (.intro rfl ?_));(conv=>whnf)))
   refine WrT.call (aAt rs) rfl _ (by simp only [List.length_append,aO,eN];omega) (by decide) rfl rfl ?_
   ((conv=>whnf);repeat ((first|(intro hq;try simp only [lnS]at hq)|refine sI ?_|refine .intro _ (.intro rfl ?_));(conv=>whnf)))
   refine WrT.call (fW s1) rfl _ (by simp only [List.length_append,aO,eN];omega) (by decide) rfl rfl ?_
   ((conv=>whnf);repeat ((first|(intro hq;try simp only [lnS]at hq)|refine sI ?_|refine .intro _ (.intro rfl ?_));(conv=>whnf)))
   refine WrT.call (fW s2) rfl _ (by simp only [List.length_append,aO,eN];omega) (by decide) rfl rfl ?_
   ((conv=>whnf);repeat ((first|(intro hq;try simp only [lnS]at hq)|refine sI ?_|refine .intro _ (.intro rfl ?_));(conv=>whnf)))
   refine WrT.call (fW s3) rfl _ (by simp only [List.length_append,aO,eN];omega) (by decide) rfl rfl ?_
   ((conv=>whnf);repeat ((first|(intro hq;try simp only [lnS]at hq)|refine sI ?_|refine .intro _ (.intro rfl ?_));(conv=>whnf)))
   refine⟨j+1,by dsimp only;omega,by dsimp only;omega, ?_⟩
   dsimp only
   rw [hnx]
   unfold wA
   simp only [dY]
   exact⟨by repeat' (first|exact trivial|exact rfl|refine And.intro ?_ ?_),by repeat' (first|exact trivial|exact rfl|refine And.intro ?_ ?_)⟩
  ·have hB:WrT 69 [.d (.int .i64 1)] (wB true):=oK 1
   ((conv=>whnf);repeat ((first|(intro hq;try simp only [lnS]at hq)|refine sI ?_|refine .intro _ (.intro rfl ?_));(conv=>whnf)))
   refine WrT.call (oK kd) rfl _ (by simp only [List.length_append,aO];omega) (by decide) rfl rfl ?_
   ((conv=>whnf);repeat ((first|(intro hq;try simp only [lnS]at hq)|refine sI ?_|refine .intro _ (.intro rfl ?_));(conv=>whnf)))
   refine WrT.call hB rfl _ (by simp only [List.length_append,aO,eN];omega) (by decide) rfl rfl ?_
   ((conv=>whnf);repeat ((first|(intro hq;try simp only [lnS]at hq)|refine sI ?_|refine .intro _ (.intro rfl ?_));(conv=>whnf)))
   refine WrT.call hle' rfl _ (by simp only [List.length_append,aO,eN];omega) (by decide) rfl rfl ?_
   ((conv=>whnf);repeat ((first|(intro hq;try simp only [lnS]at hq)|refine sI ?_|refine .intro _ (.intro rfl ?_));(conv=>whnf)))
   refine WrT.call hri' rfl _ (by simp only [List.length_append,aO,eN];omega) (by decide) rfl rfl ?_
   ((conv=>whnf);repeat ((first|(intro hq;try simp only [lnS]at hq)|refine sI ?_|refine .intro _ (.intro rfl ?_));(conv=>whnf)))
   refine WrT.call (aAt rs) rfl _ (by simp only [List.length_append,aO,eN];omega) (by decide) rfl rfl ?_
   ((conv=>whnf);repeat ((first|(intro hq;try simp only [lnS]at hq)|refine sI ?_|refine .intro _ (.intro rfl ?_));(conv=>whnf)))
   refine WrT.call (fW s1) rfl _ (by simp only [List.length_append,aO,eN];omega) (by decide) rfl rfl ?_
   ((conv=>whnf);repeat ((first|(intro hq;try simp only [lnS]at hq)|refine sI ?_|refine .intro _ (.intro rfl ?_));(conv=>whnf)))
   refine WrT.call (fW s2) rfl _ (by simp only [List.length_append,aO,eN];omega) (by decide) rfl rfl ?_
   ((conv=>whnf);repeat ((first|(intro hq;try simp only [lnS]at hq)|refine sI ?_|refine .intro _ (.intro rfl ?_));(conv=>whnf)))
   refine WrT.call (fW s3) rfl _ (by simp only [List.length_append,aO,eN];omega) (by decide) rfl rfl ?_
   ((conv=>whnf);repeat ((first|(intro hq;try simp only [lnS]at hq)|refine sI ?_|refine .intro _ (.intro rfl ?_));(conv=>whnf)))
   refine⟨j+1,by dsimp only;omega,by dsimp only;omega, ?_⟩
   dsimp only
   rw [hnx]
   unfold wA
   simp only [dY]
   exact⟨by repeat' (first|exact trivial|exact rfl|refine And.intro ?_ ?_),by repeat' (first|exact trivial|exact rfl|refine And.intro ?_ ?_)⟩
 ·have hjl:j=l.length:=by omega
  subst hjl
  rw [List.take_length]
  ((conv=>whnf);repeat ((first|(intro hq;try simp only [lnS]at hq)|refine sI ?_|refine .intro _ (.intro rfl ?_));(conv=>whnf)))
  exact rfl
theorem aIg (c:Cm):WrT 55 [.d (.agg (cmR c))] (wCm c):=by
 intro p hp
 unfold wCm at hp |-
 obtain⟨no,l,dg,m⟩:=c
 obtain⟨xl,hx⟩:=dg
 dsimp only at hp |-
 have hwd:=rJ ⟨xl,hx⟩
 have hld:(fE ⟨xl,hx⟩).length=32:=hx
 generalize hD:fE ⟨xl,hx⟩=D at *
 obtain⟨y0,y1,y2,y3,y4,y5,y6,y7,y8,y9,y10,y11,y12,y13,y14,y15,y16,y17,y18,y19,y20,y21,y22,y23,y24,y25,y26,y27,y28,y29,y30,y31,rfl⟩:=jS hx
 clear hD
 simp only [List.length_append,cG,cV,hld]at hp
 have hn:=dW (w:=dI) (Nat.le_refl 1) (λz=>by rw [cG];omega) l
 have hu:uN (l.length:Int)=l.length:=uG (by omega)
 have hlr:(l.map aRl).length=l.length:=List.length_map ..
 refine aG false [] hty Tryz.func55 rfl (kp [0,1,3,5,16,17,18,19]) 100 (by simp [Tryz.f55]) ?_
 ((conv=>whnf);repeat ((first|(intro hq;try simp only [lnS]at hq)|refine sI ?_|refine .intro _ (.intro rfl ?_));(conv=>whnf)))
 refine WrT.call (hJ no) rfl p (by rw [aP];omega) (by decide) rfl rfl ?_
 ((conv=>whnf);repeat ((first|(intro hq;try simp only [lnS]at hq)|refine sI ?_|refine .intro _ (.intro rfl ?_));(conv=>whnf)))
 rw [hlr]
 refine WrT.call (iW l.length) rfl _ (by simp only [List.length_append,aP];omega) (by decide) rfl rfl ?_
 rw [hu]
 have hqq:(p++dI no++beN 4 l.length).length=p.length+(8+4):=by simp only [List.length_append,cG,aP]
 have hfin:p++(dI no++(aX dI l++(D++bC m)))=p++dI no++beN 4 l.length++(l.map dI).flatten++D++bC m:=by unfold aX;simp only [dY]
 rw [hfin]
 clear hfin
 change fQ _ _ (wrC 4 (p++dI no++beN 4 l.length)) λh=>fQ h _ (wrB (p++dI no++beN 4 l.length)) _
 generalize p++dI no++beN 4 l.length=q at *
 ((conv=>whnf);repeat ((first|(intro hq;try simp only [lnS]at hq)|refine sI ?_|refine .intro _ (.intro rfl ?_));(conv=>whnf)))
 rw [hlr]
 refine aH hty (λj:Nat=>([(0, .ptr 3 0),(3, .ptr 103 0),(16, .d (.sl 1 (l.map aRl))),(17, .d (.int .i64 l.length)),(18, .d (.int .i64 j))],[(3,wrC 4 (q++((l.take j).map dI).flatten)),(4,wrB (q++((l.take j).map dI).flatten)),(103, .cells 53 ((cmR ⟨no,l,⟨[y0,y1,y2,y3,y4,y5,y6,y7,y8,y9,y10,y11,y12,y13,y14,y15,y16,y17,y18,y19,y20,y21,y22,y23,y24,y25,y26,y27,y28,y29,y30,y31],rfl⟩,m⟩).map .d))])) (λj=>j<=l.length) (λj=>l.length - j) 0 (by omega) ⟨by repeat' (first|exact trivial|exact rfl|refine And.intro ?_ ?_),by rw [List.take_zero,List.map_nil,List.flatten_nil,List.append_nil];exact⟨rfl,rfl,rfl,trivial⟩⟩ ?_
 intro j hj
 ((conv=>whnf);repeat ((first|(intro hq;try simp only [lnS]at hq)|refine sI ?_|refine .intro _ (.intro rfl ?_));(conv=>whnf)))
 refine aB (λh1=> ?_) (λh1=> ?_)
 ·have hjl:j < l.length:=by omega
  have hrow:(l.map aRl)[((j:Nat):Int).toNat]? =some (aRl l[j]):=aS hjl
  have hnx:=cM (w:=dI) hjl
  have hle:=iM (w:=dI) l (j+1)
  rw [hnx,List.length_append,cG]at hle
  ((conv=>whnf);repeat ((first|(refine⟨_,hrow, ?_⟩)|(intro hq;try simp only [lnS]at hq)|refine sI ?_|refine .intro _ (.intro rfl ?_));(conv=>whnf)))
  refine WrT.call (hJ l[j]) rfl _ (by rw [List.length_append,aP];omega) (by decide) rfl rfl ?_
  ((conv=>whnf);repeat ((first|(intro hq;try simp only [lnS]at hq)|refine sI ?_|refine .intro _ (.intro rfl ?_));(conv=>whnf)))
  refine⟨j+1,by dsimp only;omega,by dsimp only;omega, ?_⟩
  dsimp only
  rw [hnx,<-List.append_assoc]
  exact⟨by repeat' (first|exact trivial|exact rfl|refine And.intro ?_ ?_),by repeat' (first|exact trivial|exact rfl|refine And.intro ?_ ?_)⟩
 ·have hjl:j=l.length:=by omega
  subst hjl
  rw [List.take_length]
  ((conv=>whnf);repeat ((first|(intro hq;try simp only [lnS]at hq)|refine sI ?_|refine .intro _ (.intro rfl ?_));(conv=>whnf)))
  refine WrT.call hwd rfl _ (by rw [List.length_append];omega) (by decide) rfl rfl ?_
  ((conv=>whnf);repeat ((first|(intro hq;try simp only [lnS]at hq)|refine sI ?_|refine .intro _ (.intro rfl ?_));(conv=>whnf)))
  refine WrT.call (fW m) rfl _ (by simp only [List.length_append];omega) (by decide) rfl rfl ?_
  ((conv=>whnf);repeat ((first|(intro hq;try simp only [lnS]at hq)|refine sI ?_|refine .intro _ (.intro rfl ?_));(conv=>whnf)))
  exact rfl
theorem aLy (a:At):1<=(wAt a).length:=by unfold wAt;rw [List.length_append,aO];omega
theorem aLx (p:List At):1<=(aX wAt p).length:=by rw [cV];omega
theorem aLu (y:Qy):WrT 29 [.d (.agg (qyR y))] (wQy y):=by
 intro p hp
 unfold wQy at hp |-
 obtain⟨tl,l⟩:=y
 dsimp only at hp |-
 simp only [List.length_append,cV (aX wAt)]at hp
 have hn:=dW (w:=aX wAt) (Nat.le_refl 1) aLx l
 have hu:uN (l.length:Int)=l.length:=uG (by omega)
 have hlr:(l.map aU).length=l.length:=List.length_map ..
 refine aG false [] hty Tryz.func29 rfl (kp [0,1,3,5,7,18,19,20,21,30,31,32,33]) 100 (by simp [Tryz.f29]) ?_
 ((conv=>whnf);repeat ((first|(intro hq;try simp only [lnS]at hq)|refine sI ?_|refine .intro _ (.intro rfl ?_));(conv=>whnf)))
 refine WrT.call (aAt tl) rfl p (by omega) (by decide) rfl rfl ?_
 ((conv=>whnf);repeat ((first|(intro hq;try simp only [lnS]at hq)|refine sI ?_|refine .intro _ (.intro rfl ?_));(conv=>whnf)))
 rw [hlr]
 refine WrT.call (iW l.length) rfl _ (by simp only [List.length_append,aP];omega) (by decide) rfl rfl ?_
 rw [hu]
 have hqq:(p++aX bC tl++beN 4 l.length).length=p.length+((aX bC tl).length+4):=by simp only [List.length_append,aP];omega
 have hfin:p++(aX bC tl++aX (aX wAt) l)=p++aX bC tl++beN 4 l.length++(l.map (aX wAt)).flatten:=by
  rw [show aX (aX wAt) l=beN 4 l.length++(l.map (aX wAt)).flatten from rfl];simp only [dY]
 rw [hfin]
 clear hfin
 change fQ _ _ (wrC 4 (p++aX bC tl++beN 4 l.length)) λh=>fQ h _ (wrB (p++aX bC tl++beN 4 l.length)) _
 generalize p++aX bC tl++beN 4 l.length=q at *
 ((conv=>whnf);repeat ((first|(intro hq;try simp only [lnS]at hq)|refine sI ?_|refine .intro _ (.intro rfl ?_));(conv=>whnf)))
 rw [hlr]
 refine aH hty (λj:Nat=>([(0, .ptr 3 0),(18, .d (.sl 1 (l.map aU))),(19, .d (.int .i64 l.length)),(20, .d (.int .i64 j))],[(3,wrC 4 (q++((l.take j).map (aX wAt)).flatten)),(4,wrB (q++((l.take j).map (aX wAt)).flatten))])) (λj=>j<=l.length) (λj=>l.length - j) 0 (by omega) ⟨by repeat' (first|exact trivial|exact rfl|refine And.intro ?_ ?_),by rw [List.take_zero,List.map_nil,List.flatten_nil,List.append_nil];exact⟨rfl,rfl,trivial⟩⟩ ?_
 intro j hj
 ((conv=>whnf);repeat ((first|(intro hq;try simp only [lnS]at hq)|refine sI ?_|refine .intro _ (.intro rfl ?_));(conv=>whnf)))
 refine aB (λh1=> ?_) (λh1=> ?_)
 ·have hjl:j < l.length:=by omega
  have hrow:(l.map aU)[((j:Nat):Int).toNat]? =some (aU l[j]):=aS hjl
  have hnx:=cM (w:=aX wAt) hjl
  have hle:=iM (w:=aX wAt) l (j+1)
  rw [hnx,List.length_append,cV]at hle
  generalize l[j]=m at *
  have hnm:=dW (w:=wAt) (Nat.le_refl 1) aLy m
  have hum:uN (m.length:Int)=m.length:=uG (by omega)
  have hmr:(m.map atR).length=m.length:=List.length_map ..
  generalize ((l.take j).map (aX wAt)).flatten=u at *
  ((conv=>whnf);repeat ((first|(refine⟨_,hrow, ?_⟩)|(intro hq;try simp only [lnS]at hq)|refine sI ?_|refine .intro _ (.intro rfl ?_));(conv=>whnf)))
  rw [hmr]
  refine WrT.call (iW m.length) rfl _ (by simp only [List.length_append,aP];omega) (by decide) rfl rfl ?_
  rw [hum]
  have hvv:(q++u++beN 4 m.length).length=q.length+(u.length+4):=by simp only [List.length_append,aP];omega
  have hfin:q++(u++aX wAt m)=q++u++beN 4 m.length++(m.map wAt).flatten:=by unfold aX;simp only [dY]
  rw [<-hnx]at hfin
  change fQ _ _ (wrC 4 (q++u++beN 4 m.length)) λh=>fQ h _ (wrB (q++u++beN 4 m.length)) _
  generalize q++u++beN 4 m.length=v at *
  ((conv=>whnf);repeat ((first|(intro hq;try simp only [lnS]at hq)|refine sI ?_|refine .intro _ (.intro rfl ?_));(conv=>whnf)))
  rw [hmr]
  refine aH hty (λk:Nat=>([(0, .ptr 3 0),(18, .d (.sl 1 (l.map aU))),(19, .d (.int .i64 l.length)),(20, .d (.int .i64 j)),(30, .d (.sl 6 (m.map atR))),(31, .d (.int .i64 m.length)),(32, .d (.int .i64 k))],[(3,wrC 4 (v++((m.take k).map wAt).flatten)),(4,wrB (v++((m.take k).map wAt).flatten))])) (λk=>k<=m.length) (λk=>m.length - k) 0 (by omega) ⟨by repeat' (first|exact trivial|exact rfl|refine And.intro ?_ ?_),by rw [List.take_zero,List.map_nil,List.flatten_nil,List.append_nil];exact⟨rfl,rfl,trivial⟩⟩ ?_
  intro k hk
  ((conv=>whnf);repeat ((first|(intro hq;try simp only [lnS]at hq)|refine sI ?_|refine .intro _ (.intro rfl ?_));(conv=>whnf)))
  refine aB (λh2=> ?_) (λh2=> ?_)
  ·have hkl:k < m.length:=by omega
   have hrow2:(m.map atR)[((k:Nat):Int).toNat]? =some (atR m[k]):=aS hkl
   have hnx2:=cM (w:=wAt) hkl
   have hle2:=iM (w:=wAt) m (k+1)
   rw [hnx2,List.length_append]at hle2
   have hla:(wAt m[k]).length=1+((bC m[k].name).length+((bC m[k].x).length+((bC m[k].y).length+(8+8)))):=by
    unfold wAt;simp only [List.length_append,aO,cG]
   generalize m[k]=x at *
   obtain⟨kd,s1,s2,s3,lo,hi⟩:=x
   dsimp only at hla
   ((conv=>whnf);repeat ((first|(refine⟨_,hrow2, ?_⟩)|(intro hq;try simp only [lnS]at hq)|refine sI ?_|refine .intro _ (.intro rfl ?_));(conv=>whnf)))
   refine WrT.call (oK kd) rfl _ (by simp only [List.length_append,aO];omega) (by decide) rfl rfl ?_
   ((conv=>whnf);repeat ((first|(intro hq;try simp only [lnS]at hq)|refine sI ?_|refine .intro _ (.intro rfl ?_));(conv=>whnf)))
   refine WrT.call (fW s1) rfl _ (by simp only [List.length_append,aO];omega) (by decide) rfl rfl ?_
   ((conv=>whnf);repeat ((first|(intro hq;try simp only [lnS]at hq)|refine sI ?_|refine .intro _ (.intro rfl ?_));(conv=>whnf)))
   refine WrT.call (fW s2) rfl _ (by simp only [List.length_append,aO];omega) (by decide) rfl rfl ?_
   ((conv=>whnf);repeat ((first|(intro hq;try simp only [lnS]at hq)|refine sI ?_|refine .intro _ (.intro rfl ?_));(conv=>whnf)))
   refine WrT.call (fW s3) rfl _ (by simp only [List.length_append,aO];omega) (by decide) rfl rfl ?_
   ((conv=>whnf);repeat ((first|(intro hq;try simp only [lnS]at hq)|refine sI ?_|refine .intro _ (.intro rfl ?_));(conv=>whnf)))
   refine WrT.call (hJ lo) rfl _ (by simp only [List.length_append,aO,aP];omega) (by decide) rfl rfl ?_
   ((conv=>whnf);repeat ((first|(intro hq;try simp only [lnS]at hq)|refine sI ?_|refine .intro _ (.intro rfl ?_));(conv=>whnf)))
   refine WrT.call (hJ hi) rfl _ (by simp only [List.length_append,aO,aP];omega) (by decide) rfl rfl ?_
   ((conv=>whnf);repeat ((first|(intro hq;try simp only [lnS]at hq)|refine sI ?_|refine .intro _ (.intro rfl ?_));(conv=>whnf)))
   refine⟨k+1,by dsimp only;omega,by dsimp only;omega, ?_⟩
   dsimp only
   rw [hnx2]
   unfold wAt dI
   simp only [dY]
   exact⟨by repeat' (first|exact trivial|exact rfl|refine And.intro ?_ ?_),by repeat' (first|exact trivial|exact rfl|refine And.intro ?_ ?_)⟩
  ·have hkl:k=m.length:=by omega
   subst hkl
   rw [List.take_length]
   ((conv=>whnf);repeat ((first|(intro hq;try simp only [lnS]at hq)|refine sI ?_|refine .intro _ (.intro rfl ?_));(conv=>whnf)))
   refine⟨j+1,by dsimp only;omega,by dsimp only;omega, ?_⟩
   dsimp only
   rw [hfin]
   exact⟨by repeat' (first|exact trivial|exact rfl|refine And.intro ?_ ?_),by repeat' (first|exact trivial|exact rfl|refine And.intro ?_ ?_)⟩
 ·have hjl:j=l.length:=by omega
  subst hjl
  rw [List.take_length]
  ((conv=>whnf);repeat ((first|(intro hq;try simp only [lnS]at hq)|refine sI ?_|refine .intro _ (.intro rfl ?_));(conv=>whnf)))
  exact rfl
theorem aCk (a:Al):WrT 44 [.d (.agg (alR a))] (wAl a):=by
 intro p hp
 unfold wAl at hp |-
 obtain⟨nm,d1,ax,d2,ix,ps,pt⟩:=a
 obtain⟨yl,hy⟩:=d1
 obtain⟨zl,hz⟩:=d2
 dsimp only at hp |-
 have hw1:=rJ ⟨yl,hy⟩
 have hl1:(fE ⟨yl,hy⟩).length=32:=hy
 generalize hD:fE ⟨yl,hy⟩=D at *
 obtain⟨y0,y1,y2,y3,y4,y5,y6,y7,y8,y9,y10,y11,y12,y13,y14,y15,y16,y17,y18,y19,y20,y21,y22,y23,y24,y25,y26,y27,y28,y29,y30,y31,rfl⟩:=jS hy
 clear hD
 have hw2:=rJ ⟨zl,hz⟩
 have hl2:(fE ⟨zl,hz⟩).length=32:=hz
 generalize hE:fE ⟨zl,hz⟩=E at *
 obtain⟨z0,z1,z2,z3,z4,z5,z6,z7,z8,z9,z10,z11,z12,z13,z14,z15,z16,z17,z18,z19,z20,z21,z22,z23,z24,z25,z26,z27,z28,z29,z30,z31,rfl⟩:=jS hz
 clear hE
 simp only [List.length_append,cG,hl1,hl2]at hp
 refine aG false [] hty Tryz.func44 rfl (kp [0,1,3]) 100 (by simp [Tryz.f44]) ?_
 ((conv=>whnf);repeat ((first|(intro hq;try simp only [lnS]at hq)|refine sI ?_|refine .intro _ (.intro rfl ?_));(conv=>whnf)))
 refine WrT.call (fW nm) rfl p (by omega) (by decide) rfl rfl ?_
 ((conv=>whnf);repeat ((first|(intro hq;try simp only [lnS]at hq)|refine sI ?_|refine .intro _ (.intro rfl ?_));(conv=>whnf)))
 refine WrT.call hw1 rfl _ (by simp only [List.length_append];omega) (by decide) rfl rfl ?_
 ((conv=>whnf);repeat ((first|(intro hq;try simp only [lnS]at hq)|refine sI ?_|refine .intro _ (.intro rfl ?_));(conv=>whnf)))
 refine WrT.call (aCj ax) rfl _ (by simp only [List.length_append];omega) (by decide) rfl rfl ?_
 ((conv=>whnf);repeat ((first|(intro hq;try simp only [lnS]at hq)|refine sI ?_|refine .intro _ (.intro rfl ?_));(conv=>whnf)))
 refine WrT.call hw2 rfl _ (by simp only [List.length_append];omega) (by decide) rfl rfl ?_
 ((conv=>whnf);repeat ((first|(intro hq;try simp only [lnS]at hq)|refine sI ?_|refine .intro _ (.intro rfl ?_));(conv=>whnf)))
 refine WrT.call (hJ ix) rfl _ (by simp only [List.length_append,aP];omega) (by decide) rfl rfl ?_
 ((conv=>whnf);repeat ((first|(intro hq;try simp only [lnS]at hq)|refine sI ?_|refine .intro _ (.intro rfl ?_));(conv=>whnf)))
 refine WrT.call (zP ps) rfl _ (by simp only [List.length_append,aP];omega) (by decide) rfl rfl ?_
 ((conv=>whnf);repeat ((first|(intro hq;try simp only [lnS]at hq)|refine sI ?_|refine .intro _ (.intro rfl ?_));(conv=>whnf)))
 refine WrT.call (zP pt) rfl _ (by simp only [List.length_append,aP];omega) (by decide) rfl rfl ?_
 unfold dI
 simp only [dY]
 ((conv=>whnf);repeat ((first|(intro hq;try simp only [lnS]at hq)|refine sI ?_|refine .intro _ (.intro rfl ?_));(conv=>whnf)))
 exact rfl
end Go.Proofs.YtleihcnongldbaaGreatDoor
namespace Go.Proofs.YtleihcnongldbaaGreatDoor
open Go.Proofs Go.RowKit
set_option maxRecDepth 10000
attribute [local irreducible] aN aJ Tri aI YVC cP bE vH
theorem zM {a b:Nat}{p q:List UInt8}(hp:p.length=a) (hq:q.length=b) (h:a+b<=100000000000000):(p.map aM).length+(q.map aM).length<=9223372036854775807:=by rw [bO,bO];omega
theorem zN {a b:Nat}{p q:List UInt8}(hp:p.length=a) (hq:q.length=b) (h:a+b<=100000000000000):((p.map aM).length+(q.map aM).length)* 1<=140737488355328:=by rw [bO,bO];omega
theorem oT (n:Nat) (h:n<=100000000000000):vH Tryz.prog 32 [.d (.int .u64 (IntKind.u64.wrap (n:Int))), .d (.int .i64 4)] 5 (beN 4 n):=by
 rw [jW _ (by omega)]
 exact aJv n 4 (by omega) (by decide) (by decide)
theorem rW (s:List UInt8) (p:Nat) (h:p+(bC s).length<=100000000000000):s.length<=100000000000000:=by
 unfold bC at h;rw [List.length_append,aP]at h;omega
theorem aFq (l:List (List UInt8)) (hl:(aX bC l).length<=100000000000000):vH Tryz.prog 31 [.d (.sl 1 (l.map bL))] 5 (aX bC l):=by
 rw [cV]at hl
 have hn:=dW (w:=bC) (Nat.le_refl 1) (λs=>Nat.le_trans (by decide) (aCl s)) l
 have hlr:(l.map bL).length=l.length:=List.length_map ..
 have hB:=oT l.length (by omega)
 refine nA ?_
 refine aG false [] hty Tryz.func31 rfl (kp [0,2,3,4,12]) 100 (by simp [Tryz.f31]) ?_
 ((conv=>whnf);repeat ((first|(intro hq;try simp only [lnS]at hq)|refine sI ?_|refine .intro _ (.intro rfl ?_));(conv=>whnf)))
 rw [hlr]
 refine iO hB 200 (bW (by with_unfolding_all exact rfl)) ?_
 ((conv=>whnf);repeat ((first|(intro hq;try simp only [lnS]at hq)|refine sI ?_|refine .intro _ (.intro rfl ?_));(conv=>whnf)))
 refine aH hty (λj:Nat=>([(0, .d (.sl 1 (l.map bL))),(3, .osl 200 1 ((beN 4 l.length++((l.take j).map bC).flatten).map aM)),(4, .d (.int .i64 j))],[(200, .own 5 1 ((beN 4 l.length++((l.take j).map bC).flatten).map aM).length)])) (λj=>j<=l.length) (λj=>l.length - j) 0 (by omega) ⟨by dsimp only;rw [List.take_zero,List.map_nil,List.flatten_nil,List.append_nil];exact by repeat' (first|exact trivial|exact rfl|refine And.intro ?_ ?_),by dsimp only;rw [List.take_zero,List.map_nil,List.flatten_nil,List.append_nil];exact⟨rfl,trivial⟩⟩ ?_
 intro j hj
 ((conv=>whnf);repeat ((first|(intro hq;try simp only [lnS]at hq)|refine sI ?_|refine .intro _ (.intro rfl ?_));(conv=>whnf)))
 rw [hlr]
 refine aB (λh1=> ?_) (λh1=> ?_)
 ·have hjl:j < l.length:=by omega
  have hrow:(l.map bL)[((j:Nat):Int).toNat]? =some (bL l[j]):=aS hjl
  have hnx:beN 4 l.length++((l.take (j+1)).map bC).flatten=beN 4 l.length++((l.take j).map bC).flatten++bC l[j]:=by rw [cM (w:=bC) hjl,List.append_assoc]
  have hle:=iM (w:=bC) l (j+1)
  rw [cM (w:=bC) hjl,List.length_append]at hle
  have hqq:(beN 4 l.length++((l.take j).map bC).flatten).length=4+(((l.take j).map bC).flatten).length:=by rw [List.length_append,aP]
  have hb63:=zM hqq (q:=bC l[j]) rfl (by omega)
  have hb48:=zN hqq (q:=bC l[j]) rfl (by omega)
  have hx:=(lW l[j] (rW _ _ (Nat.le_trans hle (by omega)))).tri
  rw [show bL l[j]=[.str l[j]]from rfl]at hrow
  generalize beN 4 l.length++((l.take j).map bC).flatten=q at *
  ((conv=>whnf);repeat ((first|(refine⟨_,hrow, ?_⟩)|(refine And.intro hb63 ?_)|(refine And.intro hb48 ?_)|(refine aD [] hx trivial (λr hs=> ?_);subst hs)|(intro hq;try simp only [lnS]at hq)|refine sI ?_|refine .intro _ (.intro rfl ?_));(conv=>whnf)))
  refine⟨j+1,by dsimp only;omega,by dsimp only;omega, ?_⟩
  dsimp only
  rw [hnx,bM,List.length_append]
  exact⟨by repeat' (first|exact trivial|exact rfl|refine And.intro ?_ ?_),by repeat' (first|exact trivial|exact rfl|refine And.intro ?_ ?_)⟩
 ·have hjl:j=l.length:=by omega
  subst hjl
  rw [List.take_length]
  ((conv=>whnf);repeat ((first|(intro hq;try simp only [lnS]at hq)|refine sI ?_|refine .intro _ (.intro rfl ?_));(conv=>whnf)))
  exact .inl ⟨200,_,rfl,rfl,bO _⟩
theorem zY: ∀c:Cn,(wC c).length<=100000000000000->vH Tryz.prog 135 [.d (.agg (cnR c))] 5 (wC c):=by
 refine Cn.ind ?_
 intro c ih hp
 rw [aE4]at hp |-
 rw [bA]
 generalize c.kind=kd at *
 generalize c.name=nm at *
 generalize c.lo=lo at *
 generalize c.hi=hi at *
 generalize c.parts=l at *
 simp only [List.length_append,aO,cG,cV]at hp
 have hn:=dW (w:=wC) (Nat.le_refl 1) aIl l
 have hlr:(l.map cnR).length=l.length:=List.length_map ..
 have hB:=(oT l.length (by omega)).tri
 have ht:=(lW nm (rW nm 0 (by omega))).tri
 have hlo:=(nM lo).tri
 have hhi:=(nM hi).tri
 have hu8:[[D.int .u8 (IntKind.u8.wrap kd)]]=(eG kd).map aM:=by rw [aLc];rfl
 have hu1:1+((bC nm).map aM).length=((eG kd++bC nm).map aM).length:=by rw [fN,bO (eG kd),aO]
 have a63:1+((bC nm).map aM).length<=9223372036854775807:=by rw [bO];omega
 have a48:(1+((bC nm).map aM).length)* 1<=140737488355328:=by rw [bO];omega
 refine nA ?_
 refine aG false [1] hty Tryz.func135 rfl (kp [0,1,2,3,4,33]) 100 (by simp [Tryz.f135]) ?_
 ((conv=>whnf);repeat ((first|(intro hq;try simp only [lnS]at hq)|refine sI ?_|refine .intro _ (.intro rfl ?_));(conv=>whnf)))
 refine aN.mid [(1, .ea 5 [[.int .i64 kd, .str nm, .int .i64 lo, .int .i64 hi, .sl 5 (l.map cnR)]] 0 0),(3, .osl 108 1 ([[.int .u8 (IntKind.u8.wrap kd)]]++(bC nm).map aM))] [(108, .own 5 1 (1+((bC nm).map aM).length))] ?_ ?_
 ·(refine bI (id:=1) hty (.first 0 (.first 1 (.first 2 (.first 4 (.first 5 (.alt 3 (.alt 6 (.alt 7 (.first 8 .done) .stop) .stop) (.alt 6 (.alt 3 (.alt 7 (.first 8 .done) .stop) .stop) .stop))))))) (by kernel_rfl) (by kernel_rfl) ?_)
  ((conv=>whnf);repeat' ((first|(intro hq;(try simp only [lnS]at hq);(try rewrite [List.length_map]))|refine sJ ?_|refine .intro _ (.intro rfl ?_)|refine exL (k:= ?_)|(refine And.intro a63 ?_)|(refine And.intro a48 ?_)|(refine aD [] ht trivial (λr hs=> ?_);subst hs)|exact trivial|(refine And.intro ?_ ?_)|refine dwR ?_|((first|refine aB ?_ ?_|refine aC ?_ ?_)<;>intro hb<;>(first|exact ddX hb|try simp only [lnS]at hb))|(refine aA ?_ ?_<;>intro hb<;>try exact dsX hb))<;>(conv=>whnf)))
  all_goals exact⟨by repeat' (first|exact trivial|exact rfl|refine And.intro ?_ ?_),by repeat' (first|exact trivial|exact rfl|refine And.intro ?_ ?_)⟩
 rw [hu8,hu1,<-bM]
 have c63:((eG kd++bC nm).map aM).length+((dI lo).map aM).length<=9223372036854775807:=zM rfl (cG lo) (by simp only [List.length_append,aO];omega)
 have c48:(((eG kd++bC nm).map aM).length+((dI lo).map aM).length)* 1<=140737488355328:=zN rfl (cG lo) (by simp only [List.length_append,aO];omega)
 have d63:((eG kd++bC nm).map aM++(dI lo).map aM).length+((dI hi).map aM).length<=9223372036854775807:=by simp only [bO,cG,List.length_append,aO];omega
 have d48:(((eG kd++bC nm).map aM++(dI lo).map aM).length+((dI hi).map aM).length)* 1<=140737488355328:=by simp only [bO,cG,List.length_append,aO];omega
 ((conv=>whnf);repeat ((first|(intro hq;try simp only [lnS]at hq)|refine sI ?_|refine .intro _ (.intro rfl ?_));(conv=>whnf)))
 refine aN.mid [(1, .ea 5 [[.int .i64 kd, .str nm, .int .i64 lo, .int .i64 hi, .sl 5 (l.map cnR)]] 0 0),(3, .osl 108 1 ((eG kd++bC nm).map aM++(dI lo).map aM++(dI hi).map aM))] [(108, .own 5 1 (((eG kd++bC nm).map aM++(dI lo).map aM).length+((dI hi).map aM).length))] ?_ ?_
 ·(refine bI (id:=2) hty (.first 0 (.first 1 (.first 2 (.first 5 (.first 6 (.alt 3 (.alt 4 (.alt 7 (.alt 8 (.first 9 .done) .stop) .stop) .stop) .stop)))))) (by kernel_rfl) (by kernel_rfl) ?_)
  ((conv=>whnf);repeat' ((first|(intro hq;(try simp only [lnS]at hq);(try rewrite [List.length_map]))|refine sJ ?_|refine .intro _ (.intro rfl ?_)|refine exL (k:= ?_)|(refine And.intro c63 ?_)|(refine And.intro c48 ?_)|(refine And.intro d63 ?_)|(refine And.intro d48 ?_)|(refine aD [] hlo trivial (λr hs=> ?_);subst hs)|(refine aD [] hhi trivial (λr hs=> ?_);subst hs)|exact trivial|(refine And.intro ?_ ?_)|refine dwR ?_|((first|refine aB ?_ ?_|refine aC ?_ ?_)<;>intro hb<;>(first|exact ddX hb|try simp only [lnS]at hb))|(refine aA ?_ ?_<;>intro hb<;>try exact dsX hb))<;>(conv=>whnf)))
  all_goals exact⟨by repeat' (first|exact trivial|exact rfl|refine And.intro ?_ ?_),by repeat' (first|exact trivial|exact rfl|refine And.intro ?_ ?_)⟩
 rw [<-bM,<-bM,<-fN]
 have hqq:(eG kd++bC nm++dI lo++dI hi).length=1+(bC nm).length+8+8:=by simp only [List.length_append,aO,cG]
 have e63:=zM hqq (aP 4 l.length) (by omega)
 have e48:=zN hqq (aP 4 l.length) (by omega)
 have hfin:eG kd++(bC nm++(dI lo++(dI hi++aX wC l)))=eG kd++bC nm++dI lo++dI hi++beN 4 l.length++(l.map wC).flatten:=by
  unfold aX;simp only [List.append_assoc]
 rw [hfin]
 clear hfin hu8 hu1 a63 a48 c63 c48 d63 d48 ht hlo hhi
 generalize eG kd++bC nm++dI lo++dI hi=q at *
 have hrr:(q++beN 4 l.length).length=q.length+4:=by rw [List.length_append,aP]
 ((conv=>whnf);repeat ((first|(intro hq;try simp only [lnS]at hq)|refine sI ?_|refine .intro _ (.intro rfl ?_));(conv=>whnf)))
 rw [hlr]
 ((conv=>whnf);repeat ((first|(refine And.intro e63 ?_)|(refine And.intro e48 ?_)|(refine aD [] hB trivial (λr hs=> ?_);subst hs)|(intro hq;try simp only [lnS]at hq)|refine sI ?_|refine .intro _ (.intro rfl ?_));(conv=>whnf)))
 rw [<-bM,<-fN]
 generalize q++beN 4 l.length=v at *
 clear e63 e48 hB
 refine aH hty (λj:Nat=>([(1, .ea 5 [[.int .i64 kd, .str nm, .int .i64 lo, .int .i64 hi, .sl 5 (l.map cnR)]] 0 0),(3, .osl 108 1 ((v++((l.take j).map wC).flatten).map aM)),(4, .d (.int .i64 j))],[(108, .own 5 1 ((v++((l.take j).map wC).flatten).map aM).length)])) (λj=>j<=l.length) (λj=>l.length - j) 0 (by omega) ⟨by dsimp only;rw [List.take_zero,List.map_nil,List.flatten_nil,List.append_nil];exact by repeat' (first|exact trivial|exact rfl|refine And.intro ?_ ?_),by dsimp only;rw [List.take_zero,List.map_nil,List.flatten_nil,List.append_nil];exact⟨rfl,trivial⟩⟩ ?_
 intro j hj
 ((conv=>whnf);repeat ((first|(intro hq;try simp only [lnS]at hq)|refine sI ?_|refine .intro _ (.intro rfl ?_));(conv=>whnf)))
 rw [hlr]
 refine aB (λh1=> ?_) (λh1=> ?_)
 ·have hjl:j < l.length:=by omega
  have hrow:(l.map cnR)[((j:Nat):Int).toNat]? =some (cnR l[j]):=aS hjl
  have hnx:v++((l.take (j+1)).map wC).flatten=v++((l.take j).map wC).flatten++wC l[j]:=by rw [cM (w:=wC) hjl,List.append_assoc]
  have hle:=iM (w:=wC) l (j+1)
  rw [cM (w:=wC) hjl,List.length_append]at hle
  have hx:=(ih l[j] (List.getElem_mem hjl) (by omega)).tri
  rw [bA]at hrow hx
  have hvv:(v++((l.take j).map wC).flatten).length=v.length+(((l.take j).map wC).flatten).length:=by rw [List.length_append]
  have hb63:=zM hvv (q:=wC l[j]) rfl (by omega)
  have hb48:=zN hvv (q:=wC l[j]) rfl (by omega)
  generalize v++((l.take j).map wC).flatten=u at *
  ((conv=>whnf);repeat ((first|(refine⟨_,hrow, ?_⟩)|(refine And.intro hb63 ?_)|(refine And.intro hb48 ?_)|(refine aD [] hx trivial (λr hs=> ?_);subst hs)|(intro hq;try simp only [lnS]at hq)|refine sI ?_|refine .intro _ (.intro rfl ?_));(conv=>whnf)))
  refine⟨j+1,by dsimp only;omega,by dsimp only;omega, ?_⟩
  dsimp only
  rw [hnx,bM,List.length_append]
  exact⟨by repeat' (first|exact trivial|exact rfl|refine And.intro ?_ ?_),by repeat' (first|exact trivial|exact rfl|refine And.intro ?_ ?_)⟩
 ·have hjl:j=l.length:=by omega
  subst hjl
  rw [List.take_length]
  ((conv=>whnf);repeat ((first|(intro hq;try simp only [lnS]at hq)|refine sI ?_|refine .intro _ (.intro rfl ?_));(conv=>whnf)))
  exact .inl ⟨108,_,rfl,rfl,bO _⟩
end Go.Proofs.YtleihcnongldbaaGreatDoor
namespace Go.Proofs.YtleihcnongldbaaGreatDoor
open Go.Proofs
set_option maxRecDepth 10000
attribute [local irreducible] aN aJ Tri aI YVC cP bE
theorem dV (a b:Int):Tri Tryz.prog 139 [.d (.int .i64 a), .d (.int .i64 b)] [] (λr=>r= .d (.int .i64 (mY a b))):=by
 refine aF hty Tryz.func139 rfl (kp [0,1,4,7,10]) [] _ _ _ (by simp [Tryz.f139]) (by simp) ?_
 ((conv=>whnf);repeat' ((first|(intro hq;(try simp only [lnS]at hq);(try rewrite [List.length_map]))|refine sJ ?_|refine .intro _ (.intro rfl ?_)|refine exL (k:= ?_)|refine dwR ?_|((first|refine aB ?_ ?_|refine aC ?_ ?_)<;>intro hb<;>(first|exact ddX hb|try simp only [lnS]at hb))|(refine aA ?_ ?_<;>intro hb<;>try exact dsX hb))<;>(conv=>whnf)))
 all_goals (refine eI (Eq.symm ?_);unfold mY;simp_all<;>omega)
theorem fH (a b:List UInt8):Tri Tryz.prog 142 [.d (.str a), .d (.str b)] [] (λr=>r= .d (.int .i64 (gK a b))):=by
 refine aF hty Tryz.func142 rfl (kp [0,1,4,7,10]) [] _ _ _ (by simp [Tryz.f142]) (by simp) ?_
 ((conv=>whnf);repeat' ((first|(intro hq;(try simp only [lnS]at hq);(try rewrite [List.length_map]))|refine sJ ?_|refine .intro _ (.intro rfl ?_)|refine exL (k:= ?_)|refine dwR ?_|((first|refine aB ?_ ?_|refine aC ?_ ?_)<;>intro hb<;>(first|exact ddX hb|try simp only [lnS]at hb))|(refine aA ?_ ?_<;>intro hb<;>try exact dsX hb))<;>(conv=>whnf)))
 all_goals (
  refine eI (Eq.symm ?_)
  have hr:=uB a b
  have hz:=eU a b)
 ·rw [gL,decide_eq_true_eq]at hb
  omega
 ·rename_i hb0
  rw [gL,decide_eq_false_iff_not]at hb0
  have:gK a b≠0:= λq=>by rw [hz.1 q]at hb;simp at hb
  omega
 ·rename_i hb0
  rw [gL,decide_eq_false_iff_not]at hb0
  rw [gL,decide_eq_false hb0]at hb
  exact hz.2 (by simpa using hb)
theorem kG: ∀(c:Cn) (_:bH c<=1000000),Tri Tryz.prog 159 [.d (.agg (cnR c))] [] (λr=>r= .d (.int .i64 (bH c))):=by
 refine Cn.ind ?_
 intro c ih hs
 have hsz:=vR c
 rw [bA]
 refine aE false [1] hty Tryz.func159 rfl (kp [0,1,2,3,4,9]) [] _ _ _ (by simp [Tryz.f159]) (by simp) ?_
 ((conv=>whnf);repeat ((first|(intro hq;try simp only [lnS]at hq)|refine sI ?_|refine .intro _ (.intro rfl ?_));(conv=>whnf)))
 refine aH hty (λj:Nat=>([(1, .ea 5 [[.int .i64 c.kind, .str c.name, .int .i64 c.lo, .int .i64 c.hi, .sl 5 (c.parts.map cnR)]] 0 0),(3, .d (.int .i64 ((bD (c.parts.take j)).length+1:Nat))),(4, .d (.int .i64 j))],[])) (λj=>j<=c.parts.length) (λj=>c.parts.length - j) 0 (by omega) ⟨by repeat' (first|exact trivial|exact rfl|exact⟨rfl,rfl⟩|refine And.intro ?_ ?_),trivial⟩ ?_
 intro j hj
 ((conv=>whnf);repeat ((first|(intro hq;try simp only [lnS]at hq)|refine sI ?_|refine .intro _ (.intro rfl ?_));(conv=>whnf)))
 refine aB (λh1=> ?_) (λh1=> ?_)
 ·have hjl:j < c.parts.length:=by simp only [List.length_map]at h1;omega
  have hrow':(c.parts.map cnR)[(j:Int).toNat]? =some (cnR c.parts[j]):=aS hjl
  have hp:=kC (List.getElem_mem (l:=c.parts) hjl)
  have hi:=ih c.parts[j] (List.getElem_mem hjl) (by omega)
  have hnl:=xK hjl
  have hle:=zF c.parts (j+1)
  rw [bA]at hrow' hi
  ((conv=>whnf);repeat' ((first|(intro hq;(try simp only [lnS]at hq);(try rewrite [List.length_map]))|refine sJ ?_|refine .intro _ (.intro rfl ?_)|refine exL (k:= ?_)|(refine⟨_,hrow', ?_⟩)|(refine aD [] hi trivial (λr hs=> ?_);subst hs)|refine dwR ?_|((first|refine aB ?_ ?_|refine aC ?_ ?_)<;>intro hb<;>(first|exact ddX hb|try simp only [lnS]at hb))|(refine aA ?_ ?_<;>intro hb<;>try exact dsX hb))<;>(conv=>whnf)))
  refine⟨j+1,by dsimp only;omega,by dsimp only;omega,⟨?_,trivial⟩⟩
  dsimp only
  rw [hnl]
  repeat' (first|exact trivial|exact rfl|exact aOi (by omega)|exact⟨rfl,rfl⟩|refine And.intro ?_ ?_)
 ·have hjl:j=c.parts.length:=by simp only [List.length_map]at h1;omega
  subst hjl
  rw [List.take_length,<-hsz]
  ((conv=>whnf);repeat' ((first|(intro hq;(try simp only [lnS]at hq);(try rewrite [List.length_map]))|refine sJ ?_|refine .intro _ (.intro rfl ?_)|refine exL (k:= ?_)|refine dwR ?_|((first|refine aB ?_ ?_|refine aC ?_ ?_)<;>intro hb<;>(first|exact ddX hb|try simp only [lnS]at hb))|(refine aA ?_ ?_<;>intro hb<;>try exact dsX hb))<;>(conv=>whnf)))
  rfl
theorem aO2 {l m:List Cn}{j:Nat}(h1:j<=l.length) (h2:j<=m.length) (h:¬ (j < l.length/\j < m.length)):uA (l.drop j) (m.drop j)=mY l.length m.length:=by
 unfold mY
 by_cases hl:j < l.length
 ·have hm:m.drop j=[]:=List.drop_eq_nil_of_le (by omega)
  rw [List.drop_eq_getElem_cons hl,hm,uA,if_neg (by omega),if_pos (by omega)]
 ·have hm:l.drop j=[]:=List.drop_eq_nil_of_le (by omega)
  rw [hm]
  by_cases hm:j < m.length
  ·rw [List.drop_eq_getElem_cons hm,uA,if_pos (by omega)]
  ·rw [show m.drop j=[]from List.drop_eq_nil_of_le (by omega),uA,if_neg (by omega),if_neg (by omega)]
theorem rZ: ∀(c d:Cn) (_:bH c<=1000000) (_:bH d<=1000000),Tri Tryz.prog 141 [.d (.agg (cnR c)), .d (.agg (cnR d))] [] (λr=>r= .d (.int .i64 (yR c d))):=by
 refine Cn.ind ?_
 intro c ih d hs hsd
 have s1:=kG c hs
 have s2:=kG d hsd
 have o0:=dV (bH c) (bH d)
 have o1:=dV c.kind d.kind
 have o2:=fH c.name d.name
 have o3:=dV c.lo d.lo
 have o4:=dV c.hi d.hi
 have o5:=dV c.parts.length d.parts.length
 rw [aL8,aF2,bA,bA]
 rw [bA]at s1 s2
 generalize mY (bH c) (bH d)=n0 at o0 |-
 generalize mY c.kind d.kind=n1 at o1 |-
 generalize gK c.name d.name=n2 at o2 |-
 generalize mY c.lo d.lo=n3 at o3 |-
 generalize mY c.hi d.hi=n4 at o4 |-
 refine aE false [2,3] hty Tryz.func141 rfl (kp [0,1,2,3,4,5,6,13,20,27,34,55,70]) [] _ _ _ (by simp [Tryz.f141]) (by simp) ?_
 ((conv=>whnf);repeat' ((first|(intro hq;(try simp only [lnS]at hq);(try rewrite [List.length_map]))|refine sJ ?_|refine .intro _ (.intro rfl ?_)|refine exL (k:= ?_)|(refine⟨.d (.int .i64 _),_,[],rfl,trivial,s1, ?_⟩)|(refine⟨.d (.int .i64 _),_,[],rfl,trivial,s2, ?_⟩)|(refine⟨.d (.int .i64 _),_,[],rfl,trivial,o0, ?_⟩)|(refine aD [] o1 trivial (λr hs=> ?_);subst hs)|(refine aD [] o2 trivial (λr hs=> ?_);subst hs)|(refine aD [] o3 trivial (λr hs=> ?_);subst hs)|(refine aD [] o4 trivial (λr hs=> ?_);subst hs)|refine dwR ?_|((first|refine aB ?_ ?_|refine aC ?_ ?_)<;>intro hb<;>(first|exact ddX hb|try simp only [lnS]at hb))|(refine aA ?_ ?_<;>intro hb<;>try exact dsX hb))<;>(conv=>whnf)))
 ·refine aH hty (λy:Nat×Int=>([(2, .ea 5 [[.int .i64 c.kind, .str c.name, .int .i64 c.lo, .int .i64 c.hi, .sl 5 (c.parts.map cnR)]] 0 0),(3, .ea 5 [[.int .i64 d.kind, .str d.name, .int .i64 d.lo, .int .i64 d.hi, .sl 5 (d.parts.map cnR)]] 0 0),(5, .d (.int .i64 y.2)),(6, .d (.int .i64 y.1))],[])) (λy=>y.1<=c.parts.length/\y.1<=d.parts.length/\(if y.2≠0 then y.2 else uA (c.parts.drop y.1) (d.parts.drop y.1))=(if n4≠0 then n4 else uA c.parts d.parts)) (λy=>c.parts.length - y.1) (0,n4) ⟨by dsimp only;omega,by dsimp only;omega,rfl⟩ ⟨by repeat' (first|exact trivial|exact rfl|exact⟨rfl,rfl⟩|refine And.intro ?_ ?_),trivial⟩ ?_
  rintro⟨j,n⟩ ⟨hj,hjd,hn⟩
  dsimp only at hj hjd hn
  have hgoal:(if orF [n0,n1,n2,n3,n4]≠0 then orF [n0,n1,n2,n3,n4]else uA c.parts d.parts)=(if n4≠0 then n4 else uA c.parts d.parts):=by
   simp only [orF, *]
   split<;>simp_all
  rw [hgoal]
  clear hgoal o0 o1 o2 o3 o4 s1 s2
  by_cases hlt:n=0/\j < c.parts.length/\j < d.parts.length
  ·obtain⟨rfl,h1,h2⟩:=hlt
   have hrow:(c.parts.map cnR)[(j:Int).toNat]? =some (cnR c.parts[j]):=aS h1
   have hrow2:(d.parts.map cnR)[(j:Int).toNat]? =some (cnR d.parts[j]):=aS h2
   have hp:=kC (List.getElem_mem (l:=c.parts) h1)
   have hp2:=kC (List.getElem_mem (l:=d.parts) h2)
   have hcall:=ih c.parts[j] (List.getElem_mem h1) d.parts[j] (by omega) (by omega)
   rw [if_neg (by simp),List.drop_eq_getElem_cons h1,List.drop_eq_getElem_cons h2,uA]at hn
   generalize c.parts[j]=x at hrow hn hcall
   generalize d.parts[j]=z at hrow2 hn hcall
   rw [bA]at hrow hrow2
   rw [bA,bA]at hcall
   ((conv=>whnf);repeat' ((first|(intro hq;(try simp only [lnS]at hq);(try rewrite [List.length_map]))|refine sJ ?_|refine .intro _ (.intro rfl ?_)|refine exL (k:= ?_)|(refine⟨_,hrow, ?_⟩)|(refine⟨_,hrow2, ?_⟩)|(refine⟨.d (.int .i64 _),_,[],rfl,trivial,hcall, ?_⟩)|refine dwR ?_|((first|refine aB ?_ ?_|refine aC ?_ ?_)<;>intro hb<;>(first|exact ddX hb|try simp only [lnS]at hb))|(refine aA ?_ ?_<;>intro hb<;>try exact dsX hb))<;>(conv=>whnf)))
   exact⟨(j+1,yR x z),⟨by dsimp only;omega,by dsimp only;omega,hn⟩,by dsimp only;omega,by repeat' (first|exact trivial|exact rfl|refine And.intro ?_ ?_),trivial⟩
  ·by_cases hn0:n=0
   ·subst hn0
    have hlt2:¬ (j < c.parts.length/\j < d.parts.length):= λh=>hlt ⟨rfl,h⟩
    rw [if_neg (by simp),aO2 hj hjd hlt2]at hn
    rw [<-hn]
    ((conv=>whnf);repeat' ((first|(intro hq;(try simp only [lnS]at hq);(try rewrite [List.length_map]))|refine sJ ?_|refine .intro _ (.intro rfl ?_)|refine exL (k:= ?_)|(refine aD [] o5 trivial (λr hs=> ?_);subst hs)|refine dwR ?_|((first|refine aB ?_ ?_|refine aC ?_ ?_)<;>intro hb<;>(first|exact ddX hb|try simp only [lnS]at hb))|(refine aA ?_ ?_<;>intro hb<;>try exact dsX hb))<;>(conv=>whnf)))
    all_goals rfl
   ·rw [if_pos hn0]at hn
    ((conv=>whnf);repeat' ((first|(intro hq;(try simp only [lnS]at hq);(try rewrite [List.length_map]))|refine sJ ?_|refine .intro _ (.intro rfl ?_)|refine exL (k:= ?_)|refine dwR ?_|((first|refine aB ?_ ?_|refine aC ?_ ?_)<;>intro hb<;>(first|exact ddX hb|try simp only [lnS]at hb))|(refine aA ?_ ?_<;>intro hb<;>try exact dsX hb))<;>(conv=>whnf)))
    exact eI hn
 all_goals
  refine aH hty (λ_:Unit=>([(2, .ea 5 [[.int .i64 c.kind, .str c.name, .int .i64 c.lo, .int .i64 c.hi, .sl 5 (c.parts.map cnR)]] 0 0),(3, .ea 5 [[.int .i64 d.kind, .str d.name, .int .i64 d.lo, .int .i64 d.hi, .sl 5 (d.parts.map cnR)]] 0 0),(5, .d (.int .i64 _)),(6, .d (.int .i64 0))],[])) (λ_=>True) (λ_=>0) () trivial ⟨by repeat' (first|exact trivial|exact rfl|exact⟨rfl,rfl⟩|refine And.intro ?_ ?_),trivial⟩ ?_
  rintro⟨⟩ _
  ((conv=>whnf);repeat' ((first|(intro hq;(try simp only [lnS]at hq);(try rewrite [List.length_map]))|refine sJ ?_|refine .intro _ (.intro rfl ?_)|refine exL (k:= ?_)|refine dwR ?_|((first|refine aB ?_ ?_|refine aC ?_ ?_)<;>intro hb<;>(first|exact ddX hb|try simp only [lnS]at hb))|(refine aA ?_ ?_<;>intro hb<;>try exact dsX hb))<;>(conv=>whnf)))
  refine eI (Eq.symm ?_)
  simp [orF, *]
end Go.Proofs.YtleihcnongldbaaGreatDoor
namespace Go.Proofs.YtleihcnongldbaaGreatDoor
open Go.Proofs
set_option maxRecDepth 10000
attribute [local irreducible] aN aJ Tri aI
theorem aBd (s:List UInt8):Tri Tryz.prog 185 [.d (.str s)] [] (λr=>r= .d (.bool (kwF s))):=by
 refine aF hty Tryz.func185 rfl (kp [0,2,3,4]) [] _ _ _ (by simp [Tryz.f185]) (by simp) ?_
 ((conv=>whnf);repeat' ((first|(intro hq;try simp only [lnS]at hq)|refine sJ ?_|refine .intro _ (.intro rfl ?_)|refine exL (k:= ?_)|refine dwR ?_|((first|refine aB ?_ ?_|refine aC ?_ ?_)<;>intro hb<;>(first|exact ddX hb|try simp only [lnS]at hb))|(refine aA ?_ ?_<;>intro hb<;>try exact dsX hb))<;>(conv=>whnf)))
 all_goals first|(rename_i hb;subst hb;rfl)|skip
 have:kwF s=false:=by simp [kwF,kws, *]
 rw [this];rfl
end Go.Proofs.YtleihcnongldbaaGreatDoor
namespace Go.Proofs.YtleihcnongldbaaGreatDoor
open Go.Proofs
set_option maxRecDepth 10000
attribute [local irreducible] aN aJ Tri aI
theorem nI (c:UInt8):Tri Tryz.prog 184 [aI7 c] [] (λr=>r= .d (.bool (sK c))):=by
 refine aF hty Tryz.func184 rfl (kp [0,2]) [] _ _ _ (by simp [Tryz.f184]) (by simp) ?_
 ((conv=>whnf);repeat' ((first|(intro hq;(try simp only [lnS]at hq);(try rewrite [List.length_map]))|refine sJ ?_|refine .intro _ (.intro rfl ?_)|refine exL (k:= ?_)|refine dwR ?_|((first|refine aB ?_ ?_|refine aC ?_ ?_)<;>intro hb<;>(first|exact ddX hb|try simp only [lnS]at hb))|(refine aA ?_ ?_<;>intro hb<;>try exact dsX hb))<;>(conv=>whnf)))
 all_goals (refine aQ (Bool.eq_iff_iff.2 ?_);simp only [sK,Bool.or_eq_true,decide_eq_true_eq,true_iff,false_iff,Bool.false_eq_true];omega)
theorem xA (c:UInt8):Tri Tryz.prog 186 [aI7 c] [] (λr=>r= .d (.bool (cZ c))):=by
 refine aF hty Tryz.func186 rfl (kp [0,2]) [] _ _ _ (by simp [Tryz.f186]) (by simp) ?_
 ((conv=>whnf);repeat' ((first|(intro hq;(try simp only [lnS]at hq);(try rewrite [List.length_map]))|refine sJ ?_|refine .intro _ (.intro rfl ?_)|refine exL (k:= ?_)|(refine aD [] (nI c) trivial (λs hs=> ?_);subst hs)|refine dwR ?_|((first|refine aB ?_ ?_|refine aC ?_ ?_)<;>intro hb<;>(first|exact ddX hb|try simp only [lnS]at hb))|(refine aA ?_ ?_<;>intro hb<;>try exact dsX hb))<;>(conv=>whnf)))
 all_goals (refine aQ (Bool.eq_iff_iff.2 ?_);simp only [cZ, *,Bool.or_eq_true,decide_eq_true_eq,true_iff,false_iff,Bool.false_eq_true,true_or,or_true,false_or];try omega)
theorem oP (s:List UInt8):Tri Tryz.prog 156 [.d (.str s)] [] (λr=>r= .d (.bool (vB s))):=by
 cases s with
 |nil=>
  refine aF hty Tryz.func156 rfl (kp [0,2,3,16,20,27]) [] _ _ _ (by simp [Tryz.f156]) (by simp) ?_
  ((conv=>whnf);repeat' ((first|(intro hq;(try simp only [lnS]at hq);(try rewrite [List.length_map]))|refine sJ ?_|refine .intro _ (.intro rfl ?_)|refine exL (k:= ?_)|refine dwR ?_|((first|refine aB ?_ ?_|refine aC ?_ ?_)<;>intro hb<;>(first|exact ddX hb|try simp only [lnS]at hb))|(refine aA ?_ ?_<;>intro hb<;>try exact dsX hb))<;>(conv=>whnf)))
  rfl
 |cons c r=>
  have hw:vB (c::r)=(sK c && ((c::r).all cZ && !kwF (c::r))):=rfl
  rw [hw]
  cases h1:sK c with
  |false=>
   refine aF hty Tryz.func156 rfl (kp [0,2,3,16,20,27]) [] _ _ _ (by simp [Tryz.f156]) (by simp) ?_
   ((conv=>whnf);repeat' ((first|(intro hq;(try simp only [lnS]at hq);(try rewrite [List.length_map]))|refine sJ ?_|refine .intro _ (.intro rfl ?_)|refine exL (k:= ?_)|refine dwR ?_|((first|refine aB ?_ ?_|refine aC ?_ ?_)<;>intro hb<;>(first|exact ddX hb|try simp only [lnS]at hb))|(refine aA ?_ ?_<;>intro hb<;>try exact dsX hb))<;>(conv=>whnf)))
   refine aD [] (nI c) trivial (λs hs=> ?_)
   rw [h1]at hs
   subst hs
   ((conv=>whnf);repeat' ((first|(intro hq;(try simp only [lnS]at hq);(try rewrite [List.length_map]))|refine sJ ?_|refine .intro _ (.intro rfl ?_)|refine exL (k:= ?_)|refine dwR ?_|((first|refine aB ?_ ?_|refine aC ?_ ?_)<;>intro hb<;>(first|exact ddX hb|try simp only [lnS]at hb))|(refine aA ?_ ?_<;>intro hb<;>try exact dsX hb))<;>(conv=>whnf)))
   rfl
  |true=>
   refine aF hty Tryz.func156 rfl (kp [0,2,3,16,20,27]) [] _ _ _ (by simp [Tryz.f156]) (by simp) ?_
   ((conv=>whnf);repeat' ((first|(intro hq;(try simp only [lnS]at hq);(try rewrite [List.length_map]))|refine sJ ?_|refine .intro _ (.intro rfl ?_)|refine exL (k:= ?_)|refine dwR ?_|((first|refine aB ?_ ?_|refine aC ?_ ?_)<;>intro hb<;>(first|exact ddX hb|try simp only [lnS]at hb))|(refine aA ?_ ?_<;>intro hb<;>try exact dsX hb))<;>(conv=>whnf)))
   refine aD [] (nI c) trivial (λs hs=> ?_)
   rw [h1]at hs
   subst hs
   ((conv=>whnf);repeat ((first|(intro hq;try simp only [lnS]at hq)|refine sI ?_|refine .intro _ (.intro rfl ?_));(conv=>whnf)))
   refine aD [] (aBd (c::r)) trivial (λs hs=> ?_)
   cases h2:kwF (c::r)with
   |true=>
    rw [h2]at hs
    subst hs
    ((conv=>whnf);repeat' ((first|(intro hq;(try simp only [lnS]at hq);(try rewrite [List.length_map]))|refine sJ ?_|refine .intro _ (.intro rfl ?_)|refine exL (k:= ?_)|refine dwR ?_|((first|refine aB ?_ ?_|refine aC ?_ ?_)<;>intro hb<;>(first|exact ddX hb|try simp only [lnS]at hb))|(refine aA ?_ ?_<;>intro hb<;>try exact dsX hb))<;>(conv=>whnf)))
    exact aQ (by simp)
   |false=>
    rw [h2]at hs
    subst hs
    ((conv=>whnf);repeat' ((first|(intro hq;(try simp only [lnS]at hq);(try rewrite [List.length_map]))|refine sJ ?_|refine .intro _ (.intro rfl ?_)|refine exL (k:= ?_)|refine dwR ?_|((first|refine aB ?_ ?_|refine aC ?_ ?_)<;>intro hb<;>(first|exact ddX hb|try simp only [lnS]at hb))|(refine aA ?_ ?_<;>intro hb<;>try exact dsX hb))<;>(conv=>whnf)))
    generalize hS:c::r=s
    refine aH hty (λk:Nat=>([(0, .d (.str s)),(3, .d (.int .i64 k))],[])) (λk=>k<=s.length/\(s.take k).all cZ=true) (λk=>s.length - k) 0 (by simp) ⟨by repeat' (first|exact trivial|exact rfl|refine And.intro ?_ ?_),by repeat' (first|exact trivial|exact rfl|refine And.intro ?_ ?_)⟩ ?_
    rintro k ⟨hk,hk2⟩
    ((conv=>whnf);repeat ((first|(intro hq;try simp only [lnS]at hq)|refine sI ?_|refine .intro _ (.intro rfl ?_));(conv=>whnf)))
    refine aB (λh1=> ?_) (λh1=> ?_)
    ·have hkl:k < s.length:=by omega
     ((conv=>whnf);repeat' ((first|(intro hq;(try simp only [lnS]at hq);(try rewrite [List.length_map]))|refine sJ ?_|refine .intro _ (.intro rfl ?_)|refine exL (k:= ?_)|refine dwR ?_|((first|refine aB ?_ ?_|refine aC ?_ ?_)<;>intro hb<;>(first|exact ddX hb|try simp only [lnS]at hb))|(refine aA ?_ ?_<;>intro hb<;>try exact dsX hb))<;>(conv=>whnf)))
     refine aD [] (xA _) trivial (λx hs=> ?_)
     cases ht:cZ s[(k:Int).toNat]with
     |false=>
      rw [ht]at hs
      subst hs
      ((conv=>whnf);repeat' ((first|(intro hq;(try simp only [lnS]at hq);(try rewrite [List.length_map]))|refine sJ ?_|refine .intro _ (.intro rfl ?_)|refine exL (k:= ?_)|refine dwR ?_|((first|refine aB ?_ ?_|refine aC ?_ ?_)<;>intro hb<;>(first|exact ddX hb|try simp only [lnS]at hb))|(refine aA ?_ ?_<;>intro hb<;>try exact dsX hb))<;>(conv=>whnf)))
      rw [tG (k:=k) hkl ht];rfl
     |true=>
      rw [ht]at hs
      subst hs
      ((conv=>whnf);repeat' ((first|(intro hq;(try simp only [lnS]at hq);(try rewrite [List.length_map]))|refine sJ ?_|refine .intro _ (.intro rfl ?_)|refine exL (k:= ?_)|refine dwR ?_|((first|refine aB ?_ ?_|refine aC ?_ ?_)<;>intro hb<;>(first|exact ddX hb|try simp only [lnS]at hb))|(refine aA ?_ ?_<;>intro hb<;>try exact dsX hb))<;>(conv=>whnf)))
      exact⟨k+1,⟨by omega,oX hkl hk2 ht⟩,by dsimp only;omega,⟨by repeat' (first|exact trivial|exact rfl|refine And.intro ?_ ?_),by repeat' (first|exact trivial|exact rfl|refine And.intro ?_ ?_)⟩⟩
    ·rw [List.take_of_length_le (by omega)]at hk2
     ((conv=>whnf);repeat' ((first|(intro hq;(try simp only [lnS]at hq);(try rewrite [List.length_map]))|refine sJ ?_|refine .intro _ (.intro rfl ?_)|refine exL (k:= ?_)|refine dwR ?_|((first|refine aB ?_ ?_|refine aC ?_ ?_)<;>intro hb<;>(first|exact ddX hb|try simp only [lnS]at hb))|(refine aA ?_ ?_<;>intro hb<;>try exact dsX hb))<;>(conv=>whnf)))
     rw [hk2];rfl
theorem aQz {s:List UInt8}(h1:2<=s.length) (h3:s[Int.toNat 0]'(by simp;omega)=95):(s.take 1).all cZ=true:=by
 match s,h1,h3 with
 |c::r,_,h3=>simp at h3;subst h3;rfl
theorem zC (s:List UInt8):Tri Tryz.prog 157 [.d (.str s)] [] (λr=>r= .d (.bool (aBe s))):=by
 by_cases h1:2<=s.length
 ·by_cases h2:s.length<=24
  ·by_cases h3:s[Int.toNat 0]'(by simp;omega)=95
   ·have hr:aBe s=s.all cZ:=by
     rw [aBe,aG4 (by omega),h3]
     simp [h1,h2]
    have h3':((s[Int.toNat 0]'(by simp;omega)).toNat:Int)=95:=by rw [h3];rfl
    rw [hr]
    refine aF hty Tryz.func157 rfl (kp [0,2,3,16,20,27]) [] _ _ _ (by simp [Tryz.f157]) (by simp) ?_
    ((conv=>whnf);repeat' ((first|(intro hq;(try simp only [lnS]at hq);(try rewrite [List.length_map]))|refine sJ ?_|refine .intro _ (.intro rfl ?_)|refine exL (k:= ?_)|refine dwR ?_|((first|refine aB ?_ ?_|refine aC ?_ ?_)<;>intro hb<;>(first|exact ddX hb|try simp only [lnS]at hb))|(refine aA ?_ ?_<;>intro hb<;>try exact dsX hb))<;>(conv=>whnf)))
    refine aH hty (λk:Nat=>([(0, .d (.str s)),(3, .d (.int .i64 k))],[])) (λk=>k<=s.length/\(s.take k).all cZ=true) (λk=>s.length - k) 1 ⟨by omega, ?_⟩ ⟨by repeat' (first|exact trivial|exact rfl|refine And.intro ?_ ?_),by repeat' (first|exact trivial|exact rfl|refine And.intro ?_ ?_)⟩ ?_
    ·exact aQz h1 h3
    rintro k ⟨hk,hk2⟩
    ((conv=>whnf);repeat' ((first|(intro hq;(try simp only [lnS]at hq);(try rewrite [List.length_map]))|refine sJ ?_|refine .intro _ (.intro rfl ?_)|refine exL (k:= ?_)|(refine aD [] (xA _) trivial (λs hs=> ?_);subst hs)|refine dwR ?_|((first|refine aB ?_ ?_|refine aC ?_ ?_)<;>intro hb<;>(first|exact ddX hb|try simp only [lnS]at hb))|(refine aA ?_ ?_<;>intro hb<;>try exact dsX hb))<;>(conv=>whnf)))
    ·have ht:cZ s[(k:Int).toNat]=false:=by simpa using hb
     rw [tG (k:=k) (by omega) ht];rfl
    ·have ht:cZ s[(k:Int).toNat]=true:=by simpa using hb
     exact⟨k+1,⟨by omega,oX (by omega) hk2 ht⟩,by dsimp only;omega,⟨by repeat' (first|exact trivial|exact rfl|refine And.intro ?_ ?_),by repeat' (first|exact trivial|exact rfl|refine And.intro ?_ ?_)⟩⟩
    ·rw [List.take_of_length_le (by omega)]at hk2
     rw [hk2];rfl
   ·have hr:aBe s=false:=by
     rw [aBe,aG4 (by omega)]
     simp only [h3,decide_false,Bool.false_and,Bool.and_false]
    have h3':¬ ((s[Int.toNat 0]'(by simp;omega)).toNat:Int)=95:= λe=>h3 (u95 e)
    rw [hr]
    refine aF hty Tryz.func157 rfl (kp [0,2,3,16,20,27]) [] _ _ _ (by simp [Tryz.f157]) (by simp) ?_
    ((conv=>whnf);repeat' ((first|(intro hq;(try simp only [lnS]at hq);(try rewrite [List.length_map]))|refine sJ ?_|refine .intro _ (.intro rfl ?_)|refine exL (k:= ?_)|refine dwR ?_|((first|refine aB ?_ ?_|refine aC ?_ ?_)<;>intro hb<;>(first|exact ddX hb|try simp only [lnS]at hb))|(refine aA ?_ ?_<;>intro hb<;>try exact dsX hb))<;>(conv=>whnf)))
    rfl
  ·have hr:aBe s=false:=by rw [aBe];simp only [h2,decide_false,Bool.false_and,Bool.and_false]
   rw [hr]
   refine aF hty Tryz.func157 rfl (kp [0,2,3,16,20,27]) [] _ _ _ (by simp [Tryz.f157]) (by simp) ?_
   ((conv=>whnf);repeat' ((first|(intro hq;(try simp only [lnS]at hq);(try rewrite [List.length_map]))|refine sJ ?_|refine .intro _ (.intro rfl ?_)|refine exL (k:= ?_)|refine dwR ?_|((first|refine aB ?_ ?_|refine aC ?_ ?_)<;>intro hb<;>(first|exact ddX hb|try simp only [lnS]at hb))|(refine aA ?_ ?_<;>intro hb<;>try exact dsX hb))<;>(conv=>whnf)))
   rfl
 ·have hr:aBe s=false:=by rw [aBe];simp only [h1,decide_false,Bool.false_and,Bool.and_false]
  rw [hr]
  refine aF hty Tryz.func157 rfl (kp [0,2,3,16,20,27]) [] _ _ _ (by simp [Tryz.f157]) (by simp) ?_
  ((conv=>whnf);repeat' ((first|(intro hq;(try simp only [lnS]at hq);(try rewrite [List.length_map]))|refine sJ ?_|refine .intro _ (.intro rfl ?_)|refine exL (k:= ?_)|refine dwR ?_|((first|refine aB ?_ ?_|refine aC ?_ ?_)<;>intro hb<;>(first|exact ddX hb|try simp only [lnS]at hb))|(refine aA ?_ ?_<;>intro hb<;>try exact dsX hb))<;>(conv=>whnf)))
  rfl
theorem aKo {c:UInt8}: ∀{s:List UInt8},(∀x∈s,x≠c)->Lib.indexByte s c < 0
 | [],_=>by simp [Lib.indexByte]
 |x::s,h=>by
  have ih:=aKo (c:=c) (s:=s) λy hy=>h y (List.mem_cons_of_mem _ hy)
  have hx:=h x (List.mem_cons_self ..)
  simp only [Lib.indexByte,hx,if_false]
  split<;>(try split)<;>simp_all<;>omega
theorem aSw {c:UInt8}: ∀{s:List UInt8}{k:Nat}(h:k < s.length),(∀x∈s.take k,x≠c)->s[k]=c->Lib.indexByte s c=k
 |x::s,0,_,_,e=>by
  simp at e;subst e;simp [Lib.indexByte]
 |x::s,k+1,h,hn,e=>by
  have ih:=aSw (c:=c) (s:=s) (k:=k) (by simpa using h) (λy hy=>hn y (by simp [hy])) (by simpa using e)
  have hx:=hn x (by simp)
  simp only [Lib.indexByte,hx,if_false,ih]
  split<;>(try split)<;>simp_all<;>omega
theorem u58 {c:UInt8}(h:(c.toNat:Int)=58):c=58:=by
 have h9:(58:UInt8).toNat=58:=by decide
 exact UInt8.toNat_inj.1 (by omega)
theorem aW4 {s:List UInt8}{k:Nat}(hk:k < s.length) (h: ∀x∈s.take k,x≠58) (hx:¬ ((s[(k:Int).toNat]'(by simpa using hk)).toNat:Int)=58): ∀x∈s.take (k+1),x≠58:=by
 rw [List.take_succ_eq_append_getElem hk]
 intro x hm
 rcases List.mem_append.1 hm with hm|hm
 ·exact h x hm
 ·simp at hm
  subst hm
  intro e
  exact hx (by simp [e])
theorem iD (s:List UInt8):Tri Tryz.prog 117 [.d (.str s)] [] (λr=>r= .d (.bool (dD s))):=by
 by_cases h2:s.length<=24
 ·refine aF hty Tryz.func117 rfl (kp [0,2,3,6,10,16]) [] _ _ _ (by simp [Tryz.f117]) (by simp) ?_
  ((conv=>whnf);repeat' ((first|(intro hq;(try simp only [lnS]at hq);(try rewrite [List.length_map]))|refine sJ ?_|refine .intro _ (.intro rfl ?_)|refine exL (k:= ?_)|refine dwR ?_|((first|refine aB ?_ ?_|refine aC ?_ ?_)<;>intro hb<;>(first|exact ddX hb|try simp only [lnS]at hb))|(refine aA ?_ ?_<;>intro hb<;>try exact dsX hb))<;>(conv=>whnf)))
  refine aH hty (λk:Nat=>([(0, .d (.str s)),(3, .d (.int .i64 k))],[])) (λk=>k<=s.length/\ ∀x∈s.take k,x≠58) (λk=>s.length - k) 0 (by simp) ⟨by repeat' (first|exact trivial|exact rfl|refine And.intro ?_ ?_),by repeat' (first|exact trivial|exact rfl|refine And.intro ?_ ?_)⟩ ?_
  rintro k ⟨hk,hk2⟩
  ((conv=>whnf);repeat ((first|(intro hq;try simp only [lnS]at hq)|refine sI ?_|refine .intro _ (.intro rfl ?_));(conv=>whnf)))
  refine aB (λh1=> ?_) (λh1=> ?_)
  ·have hkl:k < s.length:=by omega
   ((conv=>whnf);repeat ((first|(refine Exists.intro (show (_:Nat) < List.length _ from by omega) ?_)|(intro hq;try simp only [lnS]at hq)|refine sI ?_|refine .intro _ (.intro rfl ?_));(conv=>whnf)))
   refine aB (λh3=> ?_) (λh3=> ?_)
   ·have e:Lib.indexByte s 58=k:=aSw hkl hk2 (u58 h3)
    have hp:dD s=(vB (s.take k) && vB (s.drop (k+1))):=by
     rw [dD,aO0,e]
     simp [h2]
    have hd:List.drop ((k:Int)+1).toNat (List.take s.length s)=s.drop (k+1):=by
     rw [List.take_length,show ((k:Int)+1).toNat=k+1 from by omega]
    rw [hp]
    cases h5:vB (s.take k)with
    |false=>
     ((conv=>whnf);repeat' ((first|(intro hq;(try simp only [lnS]at hq);(try rewrite [List.length_map]))|refine sJ ?_|refine .intro _ (.intro rfl ?_)|refine exL (k:= ?_)|(refine aD [] (oP (s.take k)) trivial (λs hs=> ?_);subst hs;rw [h5])|refine dwR ?_|((first|refine aB ?_ ?_|refine aC ?_ ?_)<;>intro hb<;>(first|exact ddX hb|try simp only [lnS]at hb))|(refine aA ?_ ?_<;>intro hb<;>try exact dsX hb))<;>(conv=>whnf)))
     rfl
    |true=>
     ((conv=>whnf);repeat' ((first|(intro hq;(try simp only [lnS]at hq);(try rewrite [List.length_map]))|refine sJ ?_|refine .intro _ (.intro rfl ?_)|refine exL (k:= ?_)|(refine aD [] (oP (s.take k)) trivial (λs hs=> ?_);subst hs;rw [h5])|refine dwR ?_|((first|refine aB ?_ ?_|refine aC ?_ ?_)<;>intro hb<;>(first|exact ddX hb|try simp only [lnS]at hb))|(refine aA ?_ ?_<;>intro hb<;>try exact dsX hb))<;>(conv=>whnf)))
     refine aD [] (oP _) trivial (λs hs=> ?_)
     subst hs
     ((conv=>whnf);repeat ((first|(intro hq;try simp only [lnS]at hq)|refine sI ?_|refine .intro _ (.intro rfl ?_));(conv=>whnf)))
     refine aQ ?_
     rw [hd];rfl
   ·((conv=>whnf);repeat ((first|(intro hq;try simp only [lnS]at hq)|refine sI ?_|refine .intro _ (.intro rfl ?_));(conv=>whnf)))
    exact⟨k+1,⟨by omega,aW4 hkl hk2 h3⟩,by dsimp only;omega,⟨by repeat' (first|exact trivial|exact rfl|refine And.intro ?_ ?_),by repeat' (first|exact trivial|exact rfl|refine And.intro ?_ ?_)⟩⟩
  ·rw [List.take_of_length_le (by omega)]at hk2
   have e:=aKo hk2
   have hp:dD s=vB s:=by
    rw [dD,aO0,if_neg (by omega)]
    simp [h2]
   rw [hp]
   ((conv=>whnf);repeat' ((first|(intro hq;(try simp only [lnS]at hq);(try rewrite [List.length_map]))|refine sJ ?_|refine .intro _ (.intro rfl ?_)|refine exL (k:= ?_)|(refine aD [] (oP s) trivial (λs hs=> ?_);subst hs)|refine dwR ?_|((first|refine aB ?_ ?_|refine aC ?_ ?_)<;>intro hb<;>(first|exact ddX hb|try simp only [lnS]at hb))|(refine aA ?_ ?_<;>intro hb<;>try exact dsX hb))<;>(conv=>whnf)))
   rfl
 ·have hr:dD s=false:=by rw [dD];simp only [h2,decide_false,Bool.false_and,Bool.and_false]
  rw [hr]
  refine aF hty Tryz.func117 rfl (kp [0,2,3,6,10,16]) [] _ _ _ (by simp [Tryz.f117]) (by simp) ?_
  ((conv=>whnf);repeat' ((first|(intro hq;(try simp only [lnS]at hq);(try rewrite [List.length_map]))|refine sJ ?_|refine .intro _ (.intro rfl ?_)|refine exL (k:= ?_)|refine dwR ?_|((first|refine aB ?_ ?_|refine aC ?_ ?_)<;>intro hb<;>(first|exact ddX hb|try simp only [lnS]at hb))|(refine aA ?_ ?_<;>intro hb<;>try exact dsX hb))<;>(conv=>whnf)))
  rfl
theorem gI (s:List UInt8):Tri Tryz.prog 118 [.d (.str s)] [] (λr=>r= .d (.bool (dM s))):=by
 cases h1:dD s with
 |true=>
  refine aF hty Tryz.func118 rfl (kp [0,2]) [] _ _ _ (by simp [Tryz.f118]) (by simp) ?_
  ((conv=>whnf);repeat' ((first|(intro hq;(try simp only [lnS]at hq);(try rewrite [List.length_map]))|refine sJ ?_|refine .intro _ (.intro rfl ?_)|refine exL (k:= ?_)|(refine aD [] (iD s) trivial (λs hs=> ?_);subst hs;rw [h1])|refine dwR ?_|((first|refine aB ?_ ?_|refine aC ?_ ?_)<;>intro hb<;>(first|exact ddX hb|try simp only [lnS]at hb))|(refine aA ?_ ?_<;>intro hb<;>try exact dsX hb))<;>(conv=>whnf)))
  rw [dM,h1];rfl
 |false=>
  refine aF hty Tryz.func118 rfl (kp [0,2]) [] _ _ _ (by simp [Tryz.f118]) (by simp) ?_
  ((conv=>whnf);repeat' ((first|(intro hq;(try simp only [lnS]at hq);(try rewrite [List.length_map]))|refine sJ ?_|refine .intro _ (.intro rfl ?_)|refine exL (k:= ?_)|(refine aD [] (iD s) trivial (λs hs=> ?_);subst hs;rw [h1])|(refine aD [] (zC s) trivial (λs hs=> ?_);subst hs)|refine dwR ?_|((first|refine aB ?_ ?_|refine aC ?_ ?_)<;>intro hb<;>(first|exact ddX hb|try simp only [lnS]at hb))|(refine aA ?_ ?_<;>intro hb<;>try exact dsX hb))<;>(conv=>whnf)))
  rw [dM,h1];rfl
theorem nO (s:List UInt8):Tri Tryz.prog 124 [.d (.str s)] [] (λr=>r= .d (.int .i64 (if dM s then 0 else 20))):=by
 cases h1:dM s with
 |true=>
  refine aF hty Tryz.func124 rfl (kp [0,2,5]) [] _ _ _ (by simp [Tryz.f124]) (by simp) ?_
  ((conv=>whnf);repeat' ((first|(intro hq;(try simp only [lnS]at hq);(try rewrite [List.length_map]))|refine sJ ?_|refine .intro _ (.intro rfl ?_)|refine exL (k:= ?_)|(refine aD [] (gI s) trivial (λs hs=> ?_);subst hs;rw [h1])|refine dwR ?_|((first|refine aB ?_ ?_|refine aC ?_ ?_)<;>intro hb<;>(first|exact ddX hb|try simp only [lnS]at hb))|(refine aA ?_ ?_<;>intro hb<;>try exact dsX hb))<;>(conv=>whnf)))
  rfl
 |false=>
  refine aF hty Tryz.func124 rfl (kp [0,2,5]) [] _ _ _ (by simp [Tryz.f124]) (by simp) ?_
  ((conv=>whnf);repeat' ((first|(intro hq;(try simp only [lnS]at hq);(try rewrite [List.length_map]))|refine sJ ?_|refine .intro _ (.intro rfl ?_)|refine exL (k:= ?_)|(refine aD [] (gI s) trivial (λs hs=> ?_);subst hs;rw [h1])|refine dwR ?_|((first|refine aB ?_ ?_|refine aC ?_ ?_)<;>intro hb<;>(first|exact ddX hb|try simp only [lnS]at hb))|(refine aA ?_ ?_<;>intro hb<;>try exact dsX hb))<;>(conv=>whnf)))
  rfl
end Go.Proofs.YtleihcnongldbaaGreatDoor
