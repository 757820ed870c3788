/-
  Regions that draw their order: reads of data and pure operations are taken first; the rest as a tree. Rows that the call may write are stable from here on: data. Arguments that say less; rows made here handed to a callee for good. Objects: Alignment as the program writes it; ReadCommit; Query of the empty query. Objects: the law's examples. What encoding a query answers, and that both readers read it again; plain.
  Conditions: none.
-/
import Derived.Test.YtdjfkmkdkclahaaGreatDoorWSyc
import Derived.Test.YtdjfkmkdkclahaaGreatDoorWSyp
set_option linter.unnecessarySimpa false
set_option linter.unusedSectionVars false
set_option linter.unusedSimpArgs false
set_option linter.unusedVariables false
namespace Go.Proofs.YtdjfkmkdkclahaaGreatDoor
open Go.Proofs
section
variable {P:Program}
def wpS (P:Program) (ops:Array Oper) (Q:Act->World->Prop):Nat->(World->Prop)->Array Bool->Act->World->Prop
 | 0,_,listed,a,w=>Region.ready .any ops listed=[]/\Q a w
 |fuel+1,Cl,listed,a,w=>
  (Region.ready .any ops listed=[]->Q a w)/\
  ∀i∈Region.ready .any ops listed,
   match ops[i]? with
   |none=>wpS P ops Q fuel Cl (listed.setIfInBounds i true) a w
   |some o=>
    if Region.wanted o (yielded ops a.tmps)then
     o.wp P a w (λa' w'=>Cl w'/\wpS P ops Q fuel Cl (listed.setIfInBounds i true) a' w') noX
    else wpS P ops Q fuel Cl (listed.setIfInBounds i true) (a.put o.dst undef) w
theorem uO {ops:Array Oper}{Q Q':Act->World->Prop}(hQ: ∀a w,Q a w->Q' a w): ∀(fuel:Nat) (Cl Cl':World->Prop) (listed:Array Bool) (a:Act) (w:World),(∀w,Cl' w->Cl w)->wpS P ops Q fuel Cl' listed a w->wpS P ops Q' fuel Cl listed a w:=by
 intro fuel
 induction fuel with
 |zero=>intro Cl Cl' listed a w _ h;exact⟨h.1,hQ _ _ h.2⟩
 |succ fuel ih=>
  intro Cl Cl' listed a w hc h
  refine⟨λh0=>hQ _ _ (h.1 h0),λi hi=> ?_⟩
  have:=h.2 i hi
  split
  ·rename_i ho;simp only [ho]at this;exact ih _ _ _ _ _ hc this
  ·rename_i o ho
   simp only [ho]at this
   split
   ·rename_i hw
    simp only [hw,if_true]at this
    exact pB (λa' w' hk=>⟨hc _ hk.1,ih _ _ _ _ _ hc hk.2⟩) this
   ·rename_i hw;simp only [hw]at this;exact ih _ _ _ _ _ hc this
theorem tL {ops:Array Oper}{Q:Exit->Act->World->Prop}: ∀(fuel:Nat) (Cl:World->Prop) (listed:Array Bool) (a:Act) (w:World),wpS P ops (Q .normal) fuel Cl listed a w->wpAny P .any ops Q fuel listed a w:=by
 intro fuel
 induction fuel with
 |zero=>intro Cl listed a w h;exact h
 |succ fuel ih=>
  intro Cl listed a w h
  refine⟨h.1,λi hi=> ?_⟩
  have:=h.2 i hi
  unfold wpOp
  split
  ·rename_i ho;simp only [ho]at this;exact ih _ _ _ _ this
  ·rename_i o ho
   simp only [ho]at this
   split
   ·rename_i hw
    simp only [hw,if_true]at this
    left
    exact pB (λa' w' hk=>ih _ _ _ _ hk.2) this
   ·rename_i hw;simp only [hw]at this;exact ih _ _ _ _ this
def YS (P:Program) (ops:Array Oper) (Cl:World->Prop) (o:Oper) (v:Value) (a:Act):Prop:=
 (Region.wanted o (yielded ops a.tmps)=true/\ ∀w,Cl w->(execOp a.eval o).run P w= .ok (.value v) w)\/(Region.wanted o (yielded ops a.tmps)=false/\v=undef)
theorem YS.of_same {ops:Array Oper}{Cl:World->Prop}{o:Oper}{v:Value}{a a':Act}(hy:YS P ops Cl o v a) (he:execOp a'.eval o=execOp a.eval o)
  (hw:Region.wanted o (yielded ops a'.tmps)=Region.wanted o (yielded ops a.tmps)):YS P ops Cl o v a':=by
 unfold YS at *
 rw [he,hw]
 exact hy
theorem wI {ops:Array Oper}{Q:Act->World->Prop}{i:Nat}{oi:Oper}{v:Value}(hi:ops[i]? =some oi) (hsel:Region.noSelect ops=true):
  ∀(fuel:Nat) (Cl:World->Prop) (listed:Array Bool) (a:Act) (w:World),Cl w->
   (∀j oj,ops[j]? =some oj->j≠i->listed.getD j true=false->(∀e∈oj.after,Region.binds .any e=true->e.on≠i)->oi.apart ops oj=true)->
   i∈Region.ready .any ops listed->YS P ops Cl oi v a->
   wpS P ops Q fuel Cl (listed.setIfInBounds i true) (a.put oi.dst v) w->wpS P ops Q (fuel+1) Cl listed a w:=by
 have own: ∀(fuel:Nat) (Cl:World->Prop) (listed:Array Bool) (a:Act) (w:World),Cl w->YS P ops Cl oi v a->wpS P ops Q fuel Cl (listed.setIfInBounds i true) (a.put oi.dst v) w->
   (match ops[i]? with
   |none=>wpS P ops Q fuel Cl (listed.setIfInBounds i true) a w
   |some o=>if Region.wanted o (yielded ops a.tmps)then o.wp P a w (λa' w'=>Cl w'/\wpS P ops Q fuel Cl (listed.setIfInBounds i true) a' w') noX
    else wpS P ops Q fuel Cl (listed.setIfInBounds i true) (a.put o.dst undef) w):=by
  intro fuel Cl listed a w hc hy H
  simp only [hi]
  rcases hy with⟨hw,hrun⟩|⟨hw,rfl⟩
  ·simp only [hw,if_true]
   exact bO (hrun w hc) ⟨hc,H⟩
  ·simp only [hw,Bool.false_eq_true,if_false];exact H
 intro fuel
 induction fuel with
 |zero=>
  intro Cl listed a w hc _ hr hy H
  refine⟨λh=>(by rw [h]at hr;cases hr),λj hj=> ?_⟩
  by_cases hji:j=i
  ·subst hji;exact own 0 Cl listed a w hc hy H
  ·have:=ready_mono hj hji
   rw [H.1]at this
   cases this
 |succ fuel ih=>
  intro Cl listed a w hc hfree hr hy H
  refine⟨λh=>(by rw [h]at hr;cases hr),λj hj=> ?_⟩
  by_cases hji:j=i
  ·subst hji;exact own _ Cl listed a w hc hy H
  ·have h1:=H.2 j (ready_mono hj hji)
   obtain⟨hjun,oj,hoj,hall⟩:=mem_ready.1 hj
   have hnot: ∀e∈oj.after,Region.binds .any e=true->e.on≠i:= λe he hb heq=>by
    have h1:=hall e he hb
    have h0:=(mem_ready.1 hr).1
    rw [heq]at h1
    rcases Nat.lt_or_ge i listed.size with h'|h'
    ·simp [h']at h0 h1;rw [h0]at h1;cases h1
    ·simp [Array.getElem?_eq_none h']at h1
   obtain⟨p1,p2,p3⟩:=Oper.apart_spec (hfree j oj hoj hji hjun hnot)
   have si:= λcs b=>Region.noSelect_spec hsel i oi cs b hi
   have sj:= λcs b=>Region.noSelect_spec hsel j oj cs b hoj
   have keepY:YS P ops Cl oi v a-> ∀u,YS P ops Cl oi v (a.put oj.dst u):= λhy u=>hy.of_same (execOp_put oi si a oj.dst u p3) (wanted_put oi a oj.dst u p3)
   have hfree': ∀k ok,ops[k]? =some ok->k≠i->(listed.setIfInBounds j true).getD k true=false->
     (∀e∈ok.after,Region.binds .any e=true->e.on≠i)->oi.apart ops ok=true:= λk ok hk hki hun hno=>by
    refine hfree k ok hk hki ?_ hno
    by_cases hjk:j=k
    ·subst hjk;exact hjun
    ·rw [getD_set_ne true hjk]at hun;exact hun
   have hrj:=ready_mono hr (Ne.symm hji)
   simp only [hoj]at h1 |-
   rw [wanted_put oj a oi.dst v p1]at h1
   split
   ·rename_i hw
    simp only [hw,if_true]at h1
    have h2:oj.wp P a w (λa' w'=>(Cl w'/\wpS P ops Q fuel Cl ((listed.setIfInBounds i true).setIfInBounds j true) (a'.put oi.dst v) w')) noX:=by
     unfold Oper.wp at h1 |-
     rw [execOp_put oj sj a oi.dst v p1]at h1
     exact aAo (K:= λa' w'=>Cl w'/\wpS P ops Q fuel Cl ((listed.setIfInBounds i true).setIfInBounds j true) a' w') p2 h1
    have h3:oj.wp P a w (λa' w'=>YS P ops Cl oi v a'/\(Cl w'/\wpS P ops Q fuel Cl ((listed.setIfInBounds i true).setIfInBounds j true) (a'.put oi.dst v) w')) noX:=by
     have hput: ∀u,YS P ops Cl oi v (a.put oj.dst u):= λu=>keepY hy u
     unfold Oper.wp at h2 |-
     generalize (execOp a.eval oj).run P w=r at h2
     cases r with
     |ok n w'=>
      cases n<;>simp only [Oper.upon]at h2 |-
      all_goals first
       |exact⟨hput _,h2⟩
       |exact h2.elim
       |exact Calls.mono h2 (λe w'' he=>by cases e<;>first|exact⟨hput _,he⟩|exact he)
       |exact Rows.mono h2 (λ_ _ he=>⟨hput _,he⟩)
       |exact⟨(keepY hy undef).of_same (by cases oj.dst<;>rfl) (by cases oj.dst<;>rfl),h2⟩
       |exact h2
     |halt x w'=>cases x<;>simp only [Oper.upon]at h2 |-<;>exact h2
    refine pB (λa' w' ⟨hyk,hk⟩=> ?_) h3
    refine⟨hk.1,ih Cl (listed.setIfInBounds j true) a' w' hk.1 hfree' hrj hyk ?_⟩
    rw [Array.setIfInBounds_comm _ _ hji];exact hk.2
   ·rename_i hw
    simp only [hw]at h1
    refine ih Cl (listed.setIfInBounds j true) (a.put oj.dst undef) w hc hfree' hrj (keepY hy undef) ?_
    rw [Array.setIfInBounds_comm _ _ hji,<-Act.put_comm a v _ p2]
    simpa using h1
def aB2 (ops:Array Oper):OT->Array Bool->Bool->Bool
 | .done,listed,inn=> !inn && (Region.ready .any ops listed).isEmpty
 | .stop,_,inn=>inn
 | .first i t, listed, inn => !inn && (match ops[i]? with
   |some o=>decide (kd o.op<=1) && (Region.ready .any ops listed).contains i && Region.free .any ops listed i && aB2 ops t (listed.setIfInBounds i true) false
   |none=>false)
 | .alt i t r,listed,inn=>(inn || (!(Region.ready .any ops listed).isEmpty && (Region.ready .any ops listed).all λj=>(i::r.heads).contains j)) && (ops[i]?).isSome && aB2 ops t (listed.setIfInBounds i true) false && aB2 ops r listed true
def dB (C:Cfg) (all:List Oper) (K:Fr->Hp->Prop):OT->Fr->Hp->Prop
 | .done,fr,hp=>lK C.keep fr λfr'=>K fr' hp
 | .stop,_,_=>True
 | .first i t,fr,hp=>aHe C all i fr [] λfr' _=>dB C all K t fr' hp
 | .alt i t r,fr,hp=>aHw C all i fr hp (λfr' hp'=>dB C all K t fr' hp')/\dB C all K r fr hp
def aO2 (C:Cfg) (all:List Oper) (R:Act->World->Prop) (fuel:Nat) (Cl:World->Prop) (listed:Array Bool) (a:Act) (w:World) (i:Nat):Prop:=
 match all.toArray[i]? with
 |none=>wpS C.P all.toArray R fuel Cl (listed.setIfInBounds i true) a w
 |some o=>
  if Region.wanted o (yielded all.toArray a.tmps)then
   o.wp C.P a w (λa' w'=>Cl w'/\wpS C.P all.toArray R fuel Cl (listed.setIfInBounds i true) a' w') noX
  else wpS C.P all.toArray R fuel Cl (listed.setIfInBounds i true) (a.put o.dst undef) w
theorem pG {C:Cfg}(hti:cI C.P C.ti) {all:List Oper}{K:Fr->Hp->Prop}(hsel:Region.noSelect all.toArray=true):
  ∀(T:OT) (fuel:Nat) (listed:Array Bool) (fr:Fr) (hp:Hp) (ρ:Env) (a:Act) (w:World) (E:Entry),E.pin=C.pin->E.w=w->E.S=ρ.S->dB C all K T fr hp->Mem E ρ hp w->a.tmps.size=C.nt->a.defers=(E.D.take E.k).map aB9++E.pin.pre->bW ρ w fr a.tmps->
  (aB2 all.toArray T listed false=true->T.depth<=fuel->wpS C.P all.toArray (λa w=> ∃fr hp,K fr hp/\Sat E C.nt ⟨fr,hp⟩ a w) fuel (bP ρ.S w) listed a w)/\
  (∀inn,aB2 all.toArray T listed inn=true->T.depth<=fuel+1-> ∀i∈T.heads,aO2 C all (λa w=> ∃fr hp,K fr hp/\Sat E C.nt ⟨fr,hp⟩ a w) fuel (bP ρ.S w) listed a w i):=by
 intro T
 induction T with
 |done=>
  intro fuel listed fr hp ρ a w E hpin hEw hES h hm h1 h2 h3
  refine⟨λhB _=> ?_,λ_ _ _ i hi=>by simp [OT.heads]at hi⟩
  simp only [aB2,Bool.not_false,Bool.true_and,List.isEmpty_iff]at hB
  simp only [dB,hZ]at h
  have hq: ∃fr hp,K fr hp/\Sat E C.nt ⟨fr,hp⟩ a w:=⟨_,hp,h,h1,h2,ρ,hm,λt s hts=>h3 t s (fX _ _ t s hts)⟩
  cases fuel with
  |zero=>exact⟨hB,hq⟩
  |succ n=>exact⟨λ_=>hq,λi hi=>by rw [hB]at hi;cases hi⟩
 |stop=>
  intro fuel listed fr hp ρ a w E hpin hEw hES h hm h1 h2 h3
  exact⟨λhB=>by simp [aB2]at hB,λ_ _ _ i hi=>by simp [OT.heads]at hi⟩
 |first i t ih=>
  intro fuel listed fr hp ρ a w E hpin hEw hES h hm h1 h2 h3
  refine⟨λhB hd=> ?_,λ_ _ _ i hi=>by simp [OT.heads]at hi⟩
  simp only [dB,aHe]at h
  split at h
  ·rename_i o ho
   have ho':all.toArray[i]? =some o:=by simpa using ho
   simp only [aB2,ho',Bool.not_false,Bool.true_and,Bool.and_eq_true,decide_eq_true_eq,List.contains_iff_mem]at hB
   obtain⟨⟨⟨hk,hr⟩,hf⟩,hB⟩:=hB
   simp only [OT.depth]at hd
   obtain⟨fuel,rfl⟩: ∃n,fuel=n+1:=⟨fuel - 1,by omega⟩
   have hm0:Mem E ρ [] w:=hm.sub (λid o ho=>by simp [aN]at ho)
   obtain⟨fr0,h3,hh⟩:=dP h h3
   rcases hh with⟨hw,h⟩|⟨hw,h⟩
   ·rcases aNq hti h with⟨_,hd',_⟩|⟨hk',_⟩|⟨hk',_⟩
    ·obtain⟨v,s,q1,q2,q3⟩:=hd' E ρ a w hm0 h3
     obtain⟨fr',p1,p2⟩:=eI q3 h1 h3 q2
     exact wI ho' hsel fuel _ listed a w (λ_ _ _=>rfl) (Region.free_spec ho' hf) hr (v:=v) (.inl ⟨hw,λw' hw'=>q1 w' ⟨hw',λid x g hx=>by simp [aN]at hx⟩⟩)
      ((ih fuel _ fr' hp ρ _ w E hpin hEw hES p1 hm (by rw [bC];exact h1) (by rw [put_defers];exact h2) p2).1 hB (by omega))
    ·omega
    ·omega
   ·obtain⟨fr',p1,p2⟩:=eI h h1 h3 (Rep.d _ undef (.lit undef))
    exact wI ho' hsel fuel _ listed a w (λ_ _ _=>rfl) (Region.free_spec ho' hf) hr (v:=undef) (.inr ⟨hw,rfl⟩) ((ih fuel _ fr' hp ρ _ w E hpin hEw hES p1 hm (by rw [bC];exact h1) (by rw [put_defers];exact h2) p2).1 hB (by omega))
  ·exact h.elim
 |alt i t r iht ihr=>
  intro fuel listed fr hp ρ a w E hpin hEw hES h hm h1 h2 h3
  have key: ∀inn,aB2 all.toArray (.alt i t r) listed inn=true-> ∀n,(OT.alt i t r).depth<=n+1-> ∀j∈(OT.alt i t r).heads,aO2 C all (λa w=> ∃fr hp,K fr hp/\Sat E C.nt ⟨fr,hp⟩ a w) n (bP ρ.S w) listed a w j:=by
   intro inn hB n hd j hj
   simp only [aB2,Bool.and_eq_true]at hB
   obtain⟨⟨⟨_,hsome⟩,hBt⟩,hBr⟩:=hB
   simp only [OT.depth]at hd
   simp only [dB]at h
   simp only [OT.heads,List.mem_cons]at hj
   rcases hj with rfl|hj
   ·have h:=h.1
    unfold aHw at h
    split at h
    ·rename_i o ho
     have ho':all.toArray[j]? =some o:=by simpa using ho
     unfold aO2
     simp only [ho']
     obtain⟨fr0,h3,hh⟩:=dP h h3
     rcases hh with⟨hw,h⟩|⟨hw,h⟩
     ·rw [if_pos hw]
      refine aOs hti h E ρ a w hpin hm h3 _ noX λv w' ρ' s hp' k1 k2 k3 k4=> ?_
      obtain⟨fr',p1,p2⟩:=eI k1 h1 k3 k4
      have hkp:bP ρ.S w w':=by have:=k2.kp;rwa [hEw,hES]at this
      have hso: ∀b i,ρ.S b i->ρ'.S b i:=by have:=k2.sold;rwa [hES]at this
      refine⟨hkp, ?_⟩
      have hm2:Mem { bA w' ρ' hp' E.pin E.rd E.D with k:=E.k } ρ' hp' w':=by
       have:=k2.enter E.pin E.rd
       exact⟨this.os,this.tape,this.output,this.size,this.old,this.sold,this.snew,this.slt,this.kp,this.sat,this.inj,this.hb,this.mv,this.ro,this.md⟩
      have:=(iht n _ fr' hp' ρ' _ w' { bA w' ρ' hp' E.pin E.rd E.D with k:=E.k } hpin rfl rfl p1 hm2 (by rw [bC];exact h1) (by rw [put_defers];exact h2) p2).1 hBt (by omega)
      refine uO ?_ _ _ _ _ _ _ (λw2 hw2=>hkp.trans hso hw2) this
      rintro a3 w3 ⟨fr3,hp3,q1,q2,q3,ρ3,q4,q5⟩
      exact⟨fr3,hp3,q1,q2,q3,ρ3,k2.leave (pin:=E.pin) (rd:=E.rd) q4 ⟨rfl,rfl,rfl,rfl,rfl,λb hb=>hb⟩ (λid hid=>hid),q5⟩
     ·rw [if_neg (by rw [hw];decide)]
      obtain⟨fr',p1,p2⟩:=eI h h1 h3 (Rep.d _ undef (.lit undef))
      exact(iht n _ fr' hp ρ _ w E hpin hEw hES p1 hm (by rw [bC];exact h1) (by rw [put_defers];exact h2) p2).1 hBt (by omega)
    ·exact h.elim
   ·exact(ihr n listed fr hp ρ a w E hpin hEw hES h.2 hm h1 h2 h3).2 true hBr (by omega) j hj
  refine⟨λhB hd=> ?_,λinn hB hd=>key inn hB fuel hd⟩
  have hd':=hd
  simp only [OT.depth]at hd'
  obtain⟨fuel,rfl⟩: ∃n,fuel=n+1:=⟨fuel - 1,by omega⟩
  have hc:=hB
  simp only [aB2,Bool.false_or,Bool.and_eq_true,Bool.not_eq_true',List.all_eq_true,List.contains_iff_mem]at hc
  obtain⟨⟨⟨⟨hne,hcov⟩,_⟩,_⟩,_⟩:=hc
  refine⟨λh0=> ?_,λj hj=> ?_⟩
  ·rw [h0]at hne;cases hne
  ·exact key false hB fuel hd j (hcov j hj)
theorem dJ {C:Cfg}(hti:cI C.P C.ti) {id:Nat}{l:List Oper}{fr:Fr}{hp:Hp}{K:Ex->Fr->Hp->Prop}(T:OT) (hm:C.P.follows .mixedOrders=true)
  (hB:(decide (T.depth<=l.length) && Region.noSelect l.toArray && aB2 l.toArray T (Array.replicate l.length false) false && fL l)=true) (h:dB C l (K .normal) T fr hp):aJ C (.region id l.toArray true) fr hp K:=by
 intro E a w hpin hrd ⟨h1,h2,ρ,h3,h4⟩
 simp only [Bool.and_eq_true,decide_eq_true_eq]at hB
 obtain⟨⟨⟨b1,b2⟩,b3⟩,hnd⟩:=hB
 refine dD hm hnd iQ.noOut ?_
 obtain⟨m1,m2⟩:=h3.grow_same (Grew.drew w)
 generalize hw1:w.drew=w1 at *
 have hm2:Mem { bA w1 ρ hp E.pin E.rd E.D with k:=E.k } ρ hp w1:=by
  have:=m1.enter E.pin E.rd
  exact⟨this.os,this.tape,this.output,this.size,this.old,this.sold,this.snew,this.slt,this.kp,this.sat,this.inj,this.hb,this.mv,this.ro,this.md⟩
 have:=(pG (C:=C) hti b2 T l.length (Array.replicate l.length false) fr hp ρ a w1 { bA w1 ρ hp E.pin E.rd E.D with k:=E.k } hpin rfl rfl h hm2 h1 h2 (m2 fr _ h4)).1 b3 b1
 have h5:=tL (Q:=iQ C E K) _ _ _ _ _ (uO (Q':=iQ C E K .normal) (λa w ⟨fr',hp',k1,q2,q3,ρ3,q4,q5⟩=>⟨.normal,fr',hp',E, .refl E,trivial,k1,q2,q3,ρ3,m1.leave (pin:=E.pin) (rd:=E.rd) q4 ⟨rfl,rfl,rfl,rfl,rfl,λb hb=>hb⟩ (λid hid=>hid),q5⟩) _ _ _ _ _ _ (λ_ h=>h) this)
 have e:l.toArray.size=l.length:=by simp
 rw [e]
 subst hw1
 exact h5
end
end Go.Proofs.YtdjfkmkdkclahaaGreatDoor
namespace Go.Proofs.YtdjfkmkdkclahaaGreatDoor
open Go.Proofs
theorem Mem.froze {E:Entry}{ρ:Env}{hp hp':Hp}{w:World}(h:Mem E ρ hp w) {id e z cap:Nat}{rows:List (List D)}(ho:aN hp id=some (.mrow e z cap rows)) (hsub:sE hp' hp) (hno:aN hp' id=none):
  ∃S':Nat->Nat->Prop,(∀b i,ρ.S b i->S' b i)/\Mem E (ρ.withS S') hp' w/\RepD w S' (.sl z rows) (ρ.tv id):=by
 have hat: ∀b,cZ (ρ.tv id)=some b->ρ.at id (.mrow e z cap rows)=some b:= λb hb=>hb
 have hs0: ∀i o,aN hp' i=some o->aN hp i=some o:=eU _ _ hsub
 have hne: ∀i o,aN hp' i=some o->i≠id:= λi o hi e=>by rw [e,hno]at hi;cases hi
 refine⟨λb i=>ρ.S b i\/(cZ (ρ.tv id)=some b/\i < rows.length * z),λb i hs=> .inl hs, ?_, ?_⟩
 ·refine⟨h.os,h.tape,h.output,h.size,h.old,λb i hs=> .inl (h.sold b i hs), ?_, ?_,h.kp, ?_,λi o i' o' g hi hi'=>h.inj i o i' o' g (hs0 i o hi) (hs0 i' o' hi'),λi o g hi=>h.hb i o g (hs0 i o hi),λi hi=>Env.moved_trans (h.mv i hi) (ρ.moved_withS _ i), ?_,h.md⟩
  ·rintro b i (hs|⟨hb,_⟩) hlt hB
   ·exact h.snew b i hs hlt hB
   ·rcases h.hb id _ b ho (hat b hb)with h1|h1
    ·omega
    ·exact absurd h1 hB
  ·rintro b i (hs|⟨hb,_⟩)
   ·exact h.slt b i hs
   ·exact h.blk_lt ho (hat b hb)
  ·intro i o hi
   refine(h.sat i o (hs0 i o hi)).keep (λ_ _ _=>rfl) (λb i hs=> .inl hs) (λi _=>ρ.moved_withS _ i) ⟨rfl,rfl⟩ (λg _=>rfl) ?_
   rintro g hg j (hs|⟨hb,_⟩)
   ·exact hs
   ·exact absurd (h.inj i o id _ g (hs0 i o hi) ho hg (hat g hb)) (hne i o hi)
  ·intro i oR g hi hrd hg i' o' hi'
   exact h.ro i oR g (hs0 _ _ hi) hrd hg i' o' (hs0 _ _ hi')
 ·obtain⟨_,h2⟩:=h.sat id _ ho
  rcases h2 with⟨rfl,_,A,e1⟩|⟨hc,g,cur,e1,q1,q2,q3,q4,q6,q7⟩
  ·rw [e1]
   exact RepD.mk_sl (b:=0) (off:=0) (by simp) (by simp) (λhne=>absurd rfl hne) ⟨by simp,by simp⟩ (by simp)
  ·have hb:cZ (ρ.tv id)=some g:=by
    rw [e1];have:cap≠0:=by omega
    simp [cZ,this]
   have key:RepD w (λb i=>ρ.S b i\/(cZ (ρ.tv id)=some b/\i < rows.length * z)) (.sl z rows) (.slice (some ⟨g,0,none⟩) rows.length cap):=by
    refine RepD.mk_sl (b:=g) (off:=0) q2 q3 (λ_=>rfl) ?_ rfl
    refine q6.view (λk v hv=> ?_) (λk hk=> ?_) (λx v hx=>hx.mono (λ_ _ _=>rfl) λb i hs=> .inl hs)
    ·rw [Nat.zero_add,cell_of_row w g k cur e (0,0) q1]
     rw [List.getElem?_take]at hv
     split at hv
     ·simpa using hv
     ·cases hv
    ·rw [Nat.zero_add]
     right
     refine⟨hb, ?_⟩
     rw [q6.len]at hk;exact hk
   rw [e1]at key |-
   exact key
theorem aG.froz {P:Program}{pin:Pin}{fr:Fr}{hp hp':Hp}{f:FuncId}{asv:List SV}{K:SV->Hp->Prop}(j id:Nat) {e z cap n:Nat}{rows:List (List D)}(ho:aN hp id=some (.mrow e z cap rows)) (hn:n=rows.length) (hj:asv[j]? =some (.mw id z n))
  (hsub:sE hp' hp) (hno:aN hp' id=none) (h:aG P pin fr hp' f (asv.set j (.d (.sl z rows))) K):aG P pin fr hp f asv K:=by
 intro E ρ w tm hpin h3 h4 vs hargs
 obtain⟨S',s1,s2,s3⟩:=h3.froze ho hsub hno
 obtain⟨q1,_⟩:=h3.sat id _ ho
 refine h E _ w tm hpin s2 (h4.mono (λ_ _ _=>rfl) s1 λi _=>ρ.moved_withS S' i) vs ⟨by simpa using hargs.1, ?_⟩
 intro k s v hs hv
 by_cases e:j=k
 ·subst e
  have hjl:=(List.getElem?_eq_some_iff.1 hj).1
  rw [List.getElem?_set_self hjl]at hs
  injection hs with hs
  subst hs
  obtain⟨A,c,_,_,_,_,_,e2⟩:=(hargs.2 j _ v hj hv).mw_inv
  have:=e2 (hn.trans q1.symm)
  subst this
  exact .d _ _ s3
 ·rw [List.getElem?_set_ne e]at hs
  exact(hargs.2 k s v hs hv).mono (λ_ _ _=>rfl) s1 λi _=>ρ.moved_withS S' i
theorem aJ.froz {C:Cfg}{c:Code}{fr:Fr}{hp hp':Hp}{K:Ex->Fr->Hp->Prop}(t id:Nat) {e z cap n:Nat}{rows:List (List D)}(ht:cV fr t=some (.mw id z n)) (ho:aN hp id=some (.mrow e z cap rows)) (hn:n=rows.length)
  (hsub:sE hp' hp) (hno:aN hp' id=none) (h:aJ C c ((t, .d (.sl z rows))::fr) hp' K):aJ C c fr hp K:=by
 intro E a w hpin hrd hsat
 obtain⟨h1,h2,ρ,h3,h4⟩:=hsat
 obtain⟨S',s1,s2,s3⟩:=h3.froze ho hsub hno
 obtain⟨q1,_⟩:=h3.sat id _ ho
 refine h E a w hpin hrd ⟨h1,h2,_,s2, ?_⟩
 intro k s hs
 simp only [cV]at hs
 by_cases e:t=k
 ·rw [if_pos e]at hs
  injection hs with hs
  subst hs;subst e
  obtain⟨v,hv,hr⟩:=h4 t _ ht
  obtain⟨A,c,_,_,_,_,_,e2⟩:=hr.mw_inv
  have:=e2 (hn.trans q1.symm)
  subst this
  exact⟨_,hv, .d _ _ s3⟩
 ·rw [if_neg e]at hs
  obtain⟨v,hv,hr⟩:=h4 k _ hs
  exact⟨v,hv,hr.mono (λ_ _ _=>rfl) s1 λi _=>ρ.moved_withS S' i⟩
end Go.Proofs.YtdjfkmkdkclahaaGreatDoor
namespace Go.Proofs.YtdjfkmkdkclahaaGreatDoor
open Go.RowKit
section
variable {P:Program}
def yV:List SV->List SV->Prop
 | [],[]=>True
 |a::l,b::m=>cJ a b/\yV l m
 |_,_=>False
theorem yV.at: ∀(l m:List SV),yV l m->l.length=m.length/\ ∀(j:Nat) (a b:SV),l[j]? =some a->m[j]? =some b->cJ a b
 | [],[],_=>⟨rfl,by simp⟩
 |a::l,b::m,h=>by
  obtain⟨h1,h2⟩:=yV.at l m h.2
  refine⟨by simp [h1],λj x y hx hy=> ?_⟩
  cases j with
  |zero=>simp at hx hy;subst hx hy;exact h.1
  |succ j=>exact h2 j x y (by simpa using hx) (by simpa using hy)
theorem yV.ok {w:World}{ρ:Env}{l m:List SV}{vs:Array Value}(h:yV l m) (hv:bZ w ρ l vs):bZ w ρ m vs:=by
 obtain⟨h1,h2⟩:=yV.at l m h
 refine⟨hv.1.trans h1,λj b v hb hx=> ?_⟩
 have hj:j < l.length:=by rw [h1];exact(List.getElem?_eq_some_iff.1 hb).1
 exact h2 j _ b (List.getElem?_eq_getElem hj) hb w ρ v (hv.2 j _ v (List.getElem?_eq_getElem hj) hx)
theorem Tri.args {f:FuncId}{xs bs:List SV}{hp:Hp}{post:SV->Prop}(h:Tri P f bs hp post) (hs:yV xs bs):Tri P f xs hp post:=
 λw ρ vs a b c=>h w ρ vs a (hs.ok b) c
end
end Go.Proofs.YtdjfkmkdkclahaaGreatDoor
namespace Go.Proofs.YtdjfkmkdkclahaaGreatDoor
open Go.Proofs Go.RowKit
set_option maxRecDepth 10000
attribute [local irreducible] aJ aG Tri aF YVC cA aU
end Go.Proofs.YtdjfkmkdkclahaaGreatDoor
namespace Go.Proofs.YtdjfkmkdkclahaaGreatDoor
open Go.Proofs Go.RowKit
set_option maxRecDepth 10000
attribute [local irreducible] aJ aG Tri aF YVC cA aU
end Go.Proofs.YtdjfkmkdkclahaaGreatDoor
namespace Go.Proofs.YtdjfkmkdkclahaaGreatDoor
open Go.Proofs
def sC (s:List UInt8):Bool:=decide (2<=s.length) && (decide (s.length<=17) && (decide (s.head?=some 63) && ((s.drop 1).headD 0 |>aA1) && (s.drop 2).all cS))
def aCv (s:List UInt8):Bool:=fB s && !decide (s.head?=some 95)
def eF (s:List UInt8):Bool:=sC s || aCv s
def atE (a:At):Int:=
 if a.kind < 1\/3 < a.kind then 210
 else if (a.kind≠2/\a.y≠[])\/(a.kind≠3/\(a.lo≠0\/a.hi≠0))then 210
 else if a.lo < -1099511627776\/a.hi < a.lo\/1099511627776 < a.hi then 210
 else if aCv a.name=false then 20
 else if eF a.x=false then 20
 else if a.kind=2/\eF a.y=false then 20 else 0
def cK:List At->Int
 | []=>0
 |a::r=>if atE a≠0 then atE a else cK r
def aW (s:List UInt8):Bool:=decide (s.head?=some 63)
def cH (p:List At):List (List UInt8):=(p.flatMap λa=>[a.x,a.y]).filter aW
def mU (told:List (List UInt8)) (parts:List (List At)):Int:=
 if told.any (λt=> !sC t)then 20
 else if (List.range told.length).any (λi=>(told.take i).contains (told.getD i []) || parts.any (λp=> !(cH p).contains (told.getD i [])))then 210 else 0
def qE (q:Qy):Int:=
 if q.parts.length < 1\/4 < q.parts.length\/3 < q.told.length then 210
 else if q.parts.any (λp=>decide (p.length < 1) || decide (12 < p.length))then 210
 else if cK q.parts.flatten≠0 then cK q.parts.flatten
 else if mU q.told q.parts≠0 then mU q.told q.parts
 else if q.parts.any (λp=>decide (8 < (cH p).eraseDups.length))then 210 else 0
def zA (q:Qy):List UInt8×Int:=if qE q=0 then (wQy q,0)else ([],qE q)
theorem oH {s:List UInt8}(h:sC s=true):s.length<=17:=by
 unfold sC at h
 simp only [Bool.and_eq_true,decide_eq_true_eq]at h
 exact h.2.1
theorem oV {s:List UInt8}(h:aCv s=true):s.length<=24:=by
 unfold aCv at h
 rw [Bool.and_eq_true]at h
 exact pR h.1
theorem fR {s:List UInt8}(h:eF s=true):s.length<=24:=by
 unfold eF at h
 rcases Bool.or_eq_true_iff.1 h with h|h
 ·have:=oH h;omega
 ·exact oV h
theorem aMb {a:At}(h:atE a=0):aO5 a:=by
 unfold atE at h
 split at h
 ·simp at h
 ·split at h
  ·simp at h
  ·split at h
   ·simp at h
   ·split at h
    ·simp at h
    ·split at h
     ·simp at h
     ·split at h
      ·simp at h
      ·rename_i h1 h2 h3 h4 h5 h6
       have q1:=oV (s:=a.name) (by simpa using h4)
       have q2:=fR (s:=a.x) (by simpa using h5)
       have q3:a.y.length<=24:=by
        by_cases hk:a.kind=2
        ·refine fR ?_
         cases ht:eF a.y with
         |true=>rfl
         |false=>exact absurd ⟨hk,ht⟩ h6
        ·have:a.y=[]:=Decidable.byContradiction λhy=>h2 (Or.inl ⟨hk,hy⟩)
         rw [this];simp
       exact⟨⟨by omega,by omega⟩,by omega,by omega,by omega,⟨by omega,by omega⟩,⟨by omega,by omega⟩⟩
theorem dQ: ∀(l:List At),cK l=0↔ ∀a∈l,atE a=0
 | []=>by simp [cK]
 |a::r=>by
  rw [cK]
  by_cases h:atE a≠0
  ·rw [if_pos h]
   exact⟨λe=>absurd e h,λe=>absurd (e a (List.mem_cons_self ..)) h⟩
  ·rw [if_neg h,dQ r]
   have h:=Decidable.not_not.1 h
   refine⟨λe b hb=> ?_,λe b hb=>e b (List.mem_cons_of_mem _ hb)⟩
   rcases List.mem_cons.1 hb with hb|hb
   ·rw [hb];exact h
   ·exact e b hb
theorem aN8 {q:Qy}(h:qE q=0):aOh q:=by
 unfold qE at h
 split at h
 ·simp at h
 ·split at h
  ·simp at h
  ·split at h
   ·exact absurd h (by assumption)
   ·split at h
    ·exact absurd h (by assumption)
    ·rename_i h1 h2 h3 h4
     have h3:=(dQ _).1 (Decidable.not_not.1 h3)
     have h4:=Decidable.not_not.1 h4
     have ht: ∀s∈q.told,sC s=true:=by
      unfold mU at h4
      split at h4
      ·simp at h4
      ·rename_i h5
       intro s hs
       cases hv:sC s with
       |true=>rfl
       |false=>exact absurd (List.any_eq_true.2 ⟨s,hs,by rw [hv];rfl⟩) h5
     have hp: ∀p∈q.parts,p.length<=12:=by
      intro p hp
      by_cases h5:p.length<=12
      ·exact h5
      ·refine absurd (List.any_eq_true.2 ⟨p,hp, ?_⟩) h2
       rw [Bool.or_eq_true,decide_eq_true_eq,decide_eq_true_eq]
       omega
     refine⟨⟨by omega,λs hs=> ?_⟩,by omega,λp hp'=>⟨?_,λa ha=> ?_⟩⟩
     ·have:=oH (ht s hs);omega
     ·have:=hp p hp';omega
     ·exact aMb (h3 a (List.mem_flatten.2 ⟨p,hp',ha⟩))
theorem aLb {q:Qy}{d:List UInt8}(h:zA q=(d,0)) (e:List UInt8):rQy (d++e)=some (q,e):=by
 obtain⟨h1,rfl⟩:=aI1 h
 exact aJe (aN8 h1) e
end Go.Proofs.YtdjfkmkdkclahaaGreatDoor
