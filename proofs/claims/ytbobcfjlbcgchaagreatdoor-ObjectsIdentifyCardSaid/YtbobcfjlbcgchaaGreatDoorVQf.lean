/-
  Regions that draw their order: reads of data and pure operations are taken first; the rest as a tree. Rows that the call may write are stable from here on: data. More of maps: a map held against nil; memory by what lies at its numbers; a result that is data from there on. Steps of roles, plainly: those of axioms, the maps that hold them, and the graph of their numbers. Layer 6: check, and what is exempt. Layer 6: the maps of steps. Layer 6: the maps of the steps of axioms.
  Conditions: none.
-/
import Derived.Test.YtbobcfjlbcgchaaGreatDoorVSyc
import Derived.Test.YtbobcfjlbcgchaaGreatDoorVSne
import Derived.Test.YtbobcfjlbcgchaaGreatDoorVOf
set_option linter.unnecessarySimpa false
set_option linter.unusedSectionVars false
set_option linter.unusedSimpArgs false
set_option linter.unusedVariables false
set_option maxHeartbeats 16000000
namespace Go.Proofs.YtbobcfjlbcgchaaGreatDoor
open Go.Proofs
section
variable {P:Program}
def wpS (P:Program) (ops:Array Oper) (Q:Act->World->Prop):Nat->(World->Prop)->Array Bool->Act->World->Prop
 | 0,_,listed,a,w=>Region.ready .any ops listed=[]/\Q a w
 |fuel+1,Cl,listed,a,w=>
  (Region.ready .any ops listed=[]->Q a w)/\
  ∀i∈Region.ready .any ops listed,
   match ops[i]? with
   |none=>wpS P ops Q fuel Cl (listed.setIfInBounds i true) a w
   |some o=>
    if Region.wanted o (yielded ops a.tmps)then
     o.wp P a w (λa' w'=>Cl w'/\wpS P ops Q fuel Cl (listed.setIfInBounds i true) a' w') noX
    else wpS P ops Q fuel Cl (listed.setIfInBounds i true) (a.put o.dst undef) w
theorem aG1 {ops:Array Oper}{Q Q':Act->World->Prop}(hQ: ∀a w,Q a w->Q' a w): ∀(fuel:Nat) (Cl Cl':World->Prop) (listed:Array Bool) (a:Act) (w:World),(∀w,Cl' w->Cl w)->wpS P ops Q fuel Cl' listed a w->wpS P ops Q' fuel Cl listed a w:=by
 intro fuel
 induction fuel with
 |zero=>intro Cl Cl' listed a w _ h;exact⟨h.1,hQ _ _ h.2⟩
 |succ fuel ih=>
  intro Cl Cl' listed a w hc h
  refine⟨λh0=>hQ _ _ (h.1 h0),λi hi=> ?_⟩
  have:=h.2 i hi
  split
  ·rename_i ho;simp only [ho]at this;exact ih _ _ _ _ _ hc this
  ·rename_i o ho
   simp only [ho]at this
   split
   ·rename_i hw
    simp only [hw,if_true]at this
    exact uY (λa' w' hk=>⟨hc _ hk.1,ih _ _ _ _ _ hc hk.2⟩) this
   ·rename_i hw;simp only [hw]at this;exact ih _ _ _ _ _ hc this
theorem aI7 {ops:Array Oper}{Q:Exit->Act->World->Prop}: ∀(fuel:Nat) (Cl:World->Prop) (listed:Array Bool) (a:Act) (w:World),wpS P ops (Q .normal) fuel Cl listed a w->wpAny P .any ops Q fuel listed a w:=by
 intro fuel
 induction fuel with
 |zero=>intro Cl listed a w h;exact h
 |succ fuel ih=>
  intro Cl listed a w h
  refine⟨h.1,λi hi=> ?_⟩
  have:=h.2 i hi
  unfold wpOp
  split
  ·rename_i ho;simp only [ho]at this;exact ih _ _ _ _ this
  ·rename_i o ho
   simp only [ho]at this
   split
   ·rename_i hw
    simp only [hw,if_true]at this
    left
    exact uY (λa' w' hk=>ih _ _ _ _ hk.2) this
   ·rename_i hw;simp only [hw]at this;exact ih _ _ _ _ this
def YS (P:Program) (ops:Array Oper) (Cl:World->Prop) (o:Oper) (v:Value) (a:Act):Prop:=
 (Region.wanted o (yielded ops a.tmps)=true/\ ∀w,Cl w->(execOp a.eval o).run P w= .ok (.value v) w)\/(Region.wanted o (yielded ops a.tmps)=false/\v=undef)
theorem YS.of_same {ops:Array Oper}{Cl:World->Prop}{o:Oper}{v:Value}{a a':Act}(hy:YS P ops Cl o v a) (he:execOp a'.eval o=execOp a.eval o)
  (hw:Region.wanted o (yielded ops a'.tmps)=Region.wanted o (yielded ops a.tmps)):YS P ops Cl o v a':=by
 unfold YS at *
 rw [he,hw]
 exact hy
theorem aC2 {ops:Array Oper}{Q:Act->World->Prop}{i:Nat}{oi:Oper}{v:Value}(hi:ops[i]? =some oi) (hsel:Region.noSelect ops=true):
  ∀(fuel:Nat) (Cl:World->Prop) (listed:Array Bool) (a:Act) (w:World),Cl w->
   (∀j oj,ops[j]? =some oj->j≠i->listed.getD j true=false->(∀e∈oj.after,Region.binds .any e=true->e.on≠i)->oi.apart ops oj=true)->
   i∈Region.ready .any ops listed->YS P ops Cl oi v a->
   wpS P ops Q fuel Cl (listed.setIfInBounds i true) (a.put oi.dst v) w->wpS P ops Q (fuel+1) Cl listed a w:=by
 have own: ∀(fuel:Nat) (Cl:World->Prop) (listed:Array Bool) (a:Act) (w:World),Cl w->YS P ops Cl oi v a->wpS P ops Q fuel Cl (listed.setIfInBounds i true) (a.put oi.dst v) w->
   (match ops[i]? with
   |none=>wpS P ops Q fuel Cl (listed.setIfInBounds i true) a w
   |some o=>if Region.wanted o (yielded ops a.tmps)then o.wp P a w (λa' w'=>Cl w'/\wpS P ops Q fuel Cl (listed.setIfInBounds i true) a' w') noX
    else wpS P ops Q fuel Cl (listed.setIfInBounds i true) (a.put o.dst undef) w):=by
  intro fuel Cl listed a w hc hy H
  simp only [hi]
  rcases hy with⟨hw,hrun⟩|⟨hw,rfl⟩
  ·simp only [hw,if_true]
   exact bU (hrun w hc) ⟨hc,H⟩
  ·simp only [hw,Bool.false_eq_true,if_false];exact H
 intro fuel
 induction fuel with
 |zero=>
  intro Cl listed a w hc _ hr hy H
  refine⟨λh=>(by rw [h]at hr;cases hr),λj hj=> ?_⟩
  by_cases hji:j=i
  ·subst hji;exact own 0 Cl listed a w hc hy H
  ·have:=ready_mono hj hji
   rw [H.1]at this
   cases this
 |succ fuel ih=>
  intro Cl listed a w hc hfree hr hy H
  refine⟨λh=>(by rw [h]at hr;cases hr),λj hj=> ?_⟩
  by_cases hji:j=i
  ·subst hji;exact own _ Cl listed a w hc hy H
  ·have h1:=H.2 j (ready_mono hj hji)
   obtain⟨hjun,oj,hoj,hall⟩:=mem_ready.1 hj
   have hnot: ∀e∈oj.after,Region.binds .any e=true->e.on≠i:= λe he hb heq=>by
    have h1:=hall e he hb
    have h0:=(mem_ready.1 hr).1
    rw [heq]at h1
    rcases Nat.lt_or_ge i listed.size with h'|h'
    ·simp [h']at h0 h1;rw [h0]at h1;cases h1
    ·simp [Array.getElem?_eq_none h']at h1
   obtain⟨p1,p2,p3⟩:=Oper.apart_spec (hfree j oj hoj hji hjun hnot)
   have si:= λcs b=>Region.noSelect_spec hsel i oi cs b hi
   have sj:= λcs b=>Region.noSelect_spec hsel j oj cs b hoj
   have keepY:YS P ops Cl oi v a-> ∀u,YS P ops Cl oi v (a.put oj.dst u):= λhy u=>hy.of_same (execOp_put oi si a oj.dst u p3) (wanted_put oi a oj.dst u p3)
   have hfree': ∀k ok,ops[k]? =some ok->k≠i->(listed.setIfInBounds j true).getD k true=false->
     (∀e∈ok.after,Region.binds .any e=true->e.on≠i)->oi.apart ops ok=true:= λk ok hk hki hun hno=>by
    refine hfree k ok hk hki ?_ hno
    by_cases hjk:j=k
    ·subst hjk;exact hjun
    ·rw [getD_set_ne true hjk]at hun;exact hun
   have hrj:=ready_mono hr (Ne.symm hji)
   simp only [hoj]at h1 |-
   rw [wanted_put oj a oi.dst v p1]at h1
   split
   ·rename_i hw
    simp only [hw,if_true]at h1
    have h2:oj.wp P a w (λa' w'=>(Cl w'/\wpS P ops Q fuel Cl ((listed.setIfInBounds i true).setIfInBounds j true) (a'.put oi.dst v) w')) noX:=by
     unfold Oper.wp at h1 |-
     rw [execOp_put oj sj a oi.dst v p1]at h1
     exact aG3 (K:= λa' w'=>Cl w'/\wpS P ops Q fuel Cl ((listed.setIfInBounds i true).setIfInBounds j true) a' w') p2 h1
    have h3:oj.wp P a w (λa' w'=>YS P ops Cl oi v a'/\(Cl w'/\wpS P ops Q fuel Cl ((listed.setIfInBounds i true).setIfInBounds j true) (a'.put oi.dst v) w')) noX:=by
     have hput: ∀u,YS P ops Cl oi v (a.put oj.dst u):= λu=>keepY hy u
     unfold Oper.wp at h2 |-
     generalize (execOp a.eval oj).run P w=r at h2
     cases r with
     |ok n w'=>
      cases n<;>simp only [Oper.upon]at h2 |-
      all_goals first
       |exact⟨hput _,h2⟩
       |exact h2.elim
       |exact Calls.mono h2 (λe w'' he=>by cases e<;>first|exact⟨hput _,he⟩|exact he)
       |exact Rows.mono h2 (λ_ _ he=>⟨hput _,he⟩)
       |exact⟨(keepY hy undef).of_same (by cases oj.dst<;>rfl) (by cases oj.dst<;>rfl),h2⟩
       |exact h2
     |halt x w'=>cases x<;>simp only [Oper.upon]at h2 |-<;>exact h2
    refine uY (λa' w' ⟨hyk,hk⟩=> ?_) h3
    refine⟨hk.1,ih Cl (listed.setIfInBounds j true) a' w' hk.1 hfree' hrj hyk ?_⟩
    rw [Array.setIfInBounds_comm _ _ hji];exact hk.2
   ·rename_i hw
    simp only [hw]at h1
    refine ih Cl (listed.setIfInBounds j true) (a.put oj.dst undef) w hc hfree' hrj (keepY hy undef) ?_
    rw [Array.setIfInBounds_comm _ _ hji,<-Act.put_comm a v _ p2]
    simpa using h1
def aKn (ops:Array Oper):OT->Array Bool->Bool->Bool
 | .done,listed,inn=> !inn && (Region.ready .any ops listed).isEmpty
 | .stop,_,inn=>inn
 | .first i t, listed, inn => !inn && (match ops[i]? with
   |some o=>decide (kd o.op<=1) && (Region.ready .any ops listed).contains i && Region.free .any ops listed i && aKn ops t (listed.setIfInBounds i true) false
   |none=>false)
 | .alt i t r,listed,inn=>(inn || (!(Region.ready .any ops listed).isEmpty && (Region.ready .any ops listed).all λj=>(i::r.heads).contains j)) && (ops[i]?).isSome && aKn ops t (listed.setIfInBounds i true) false && aKn ops r listed true
def jF (C:Cfg) (all:List Oper) (K:Fr->Hp->Prop):OT->Fr->Hp->Prop
 | .done,fr,hp=>qN C.keep fr λfr'=>K fr' hp
 | .stop,_,_=>True
 | .first i t,fr,hp=>aK3 C all i fr [] λfr' _=>jF C all K t fr' hp
 | .alt i t r,fr,hp=>aKe C all i fr hp (λfr' hp'=>jF C all K t fr' hp')/\jF C all K r fr hp
def aXw (C:Cfg) (all:List Oper) (R:Act->World->Prop) (fuel:Nat) (Cl:World->Prop) (listed:Array Bool) (a:Act) (w:World) (i:Nat):Prop:=
 match all.toArray[i]? with
 |none=>wpS C.P all.toArray R fuel Cl (listed.setIfInBounds i true) a w
 |some o=>
  if Region.wanted o (yielded all.toArray a.tmps)then
   o.wp C.P a w (λa' w'=>Cl w'/\wpS C.P all.toArray R fuel Cl (listed.setIfInBounds i true) a' w') noX
  else wpS C.P all.toArray R fuel Cl (listed.setIfInBounds i true) (a.put o.dst undef) w
theorem aEg {C:Cfg}(hti:dX C.P C.ti) {all:List Oper}{K:Fr->Hp->Prop}(hsel:Region.noSelect all.toArray=true):
  ∀(T:OT) (fuel:Nat) (listed:Array Bool) (fr:Fr) (hp:Hp) (ρ:Env) (a:Act) (w:World) (E:Entry),E.pin=C.pin->E.w=w->E.S=ρ.S->jF C all K T fr hp->Mem E ρ hp w->a.tmps.size=C.nt->a.defers=(E.D.take E.k).map tL++E.pin.pre->dD ρ w fr a.tmps->
  (aKn all.toArray T listed false=true->T.depth<=fuel->wpS C.P all.toArray (λa w=> ∃fr hp,K fr hp/\Sat E C.nt ⟨fr,hp⟩ a w) fuel (cD ρ.S w) listed a w)/\
  (∀inn,aKn all.toArray T listed inn=true->T.depth<=fuel+1-> ∀i∈T.heads,aXw C all (λa w=> ∃fr hp,K fr hp/\Sat E C.nt ⟨fr,hp⟩ a w) fuel (cD ρ.S w) listed a w i):=by
 intro T
 induction T with
 |done=>
  intro fuel listed fr hp ρ a w E hpin hEw hES h hm h1 h2 h3
  refine⟨λhB _=> ?_,λ_ _ _ i hi=>by simp [OT.heads]at hi⟩
  simp only [aKn,Bool.not_false,Bool.true_and,List.isEmpty_iff]at hB
  simp only [jF,mD]at h
  have hq: ∃fr hp,K fr hp/\Sat E C.nt ⟨fr,hp⟩ a w:=⟨_,hp,h,h1,h2,ρ,hm,λt s hts=>h3 t s (jW _ _ t s hts)⟩
  cases fuel with
  |zero=>exact⟨hB,hq⟩
  |succ n=>exact⟨λ_=>hq,λi hi=>by rw [hB]at hi;cases hi⟩
 |stop=>
  intro fuel listed fr hp ρ a w E hpin hEw hES h hm h1 h2 h3
  exact⟨λhB=>by simp [aKn]at hB,λ_ _ _ i hi=>by simp [OT.heads]at hi⟩
 |first i t ih=>
  intro fuel listed fr hp ρ a w E hpin hEw hES h hm h1 h2 h3
  refine⟨λhB hd=> ?_,λ_ _ _ i hi=>by simp [OT.heads]at hi⟩
  simp only [jF,aK3]at h
  split at h
  ·rename_i o ho
   have ho':all.toArray[i]? =some o:=by simpa using ho
   simp only [aKn,ho',Bool.not_false,Bool.true_and,Bool.and_eq_true,decide_eq_true_eq,List.contains_iff_mem]at hB
   obtain⟨⟨⟨hk,hr⟩,hf⟩,hB⟩:=hB
   simp only [OT.depth]at hd
   obtain⟨fuel,rfl⟩: ∃n,fuel=n+1:=⟨fuel - 1,by omega⟩
   have hm0:Mem E ρ [] w:=hm.sub (λid o ho=>by simp [aN]at ho)
   obtain⟨fr0,h3,hh⟩:=eY h h3
   rcases hh with⟨hw,h⟩|⟨hw,h⟩
   ·rcases aWk hti h with⟨_,hd',_⟩|⟨hk',_⟩|⟨hk',_⟩
    ·obtain⟨v,s,q1,q2,q3⟩:=hd' E ρ a w hm0 h3
     obtain⟨fr',p1,p2⟩:=fJ q3 h1 h3 q2
     exact aC2 ho' hsel fuel _ listed a w (λ_ _ _=>rfl) (Region.free_spec ho' hf) hr (v:=v) (.inl ⟨hw,λw' hw'=>q1 w' ⟨hw',λid x g hx=>by simp [aN]at hx⟩⟩)
      ((ih fuel _ fr' hp ρ _ w E hpin hEw hES p1 hm (by rw [cE];exact h1) (by rw [put_defers];exact h2) p2).1 hB (by omega))
    ·omega
    ·omega
   ·obtain⟨fr',p1,p2⟩:=fJ h h1 h3 (Rep.d _ undef (.lit undef))
    exact aC2 ho' hsel fuel _ listed a w (λ_ _ _=>rfl) (Region.free_spec ho' hf) hr (v:=undef) (.inr ⟨hw,rfl⟩) ((ih fuel _ fr' hp ρ _ w E hpin hEw hES p1 hm (by rw [cE];exact h1) (by rw [put_defers];exact h2) p2).1 hB (by omega))
  ·exact h.elim
 |alt i t r iht ihr=>
  intro fuel listed fr hp ρ a w E hpin hEw hES h hm h1 h2 h3
  have key: ∀inn,aKn all.toArray (.alt i t r) listed inn=true-> ∀n,(OT.alt i t r).depth<=n+1-> ∀j∈(OT.alt i t r).heads,aXw C all (λa w=> ∃fr hp,K fr hp/\Sat E C.nt ⟨fr,hp⟩ a w) n (cD ρ.S w) listed a w j:=by
   intro inn hB n hd j hj
   simp only [aKn,Bool.and_eq_true]at hB
   obtain⟨⟨⟨_,hsome⟩,hBt⟩,hBr⟩:=hB
   simp only [OT.depth]at hd
   simp only [jF]at h
   simp only [OT.heads,List.mem_cons]at hj
   rcases hj with rfl|hj
   ·have h:=h.1
    unfold aKe at h
    split at h
    ·rename_i o ho
     have ho':all.toArray[j]? =some o:=by simpa using ho
     unfold aXw
     simp only [ho']
     obtain⟨fr0,h3,hh⟩:=eY h h3
     rcases hh with⟨hw,h⟩|⟨hw,h⟩
     ·rw [if_pos hw]
      refine aYf hti h E ρ a w hpin hm h3 _ noX λv w' ρ' s hp' k1 k2 k3 k4=> ?_
      obtain⟨fr',p1,p2⟩:=fJ k1 h1 k3 k4
      have hkp:cD ρ.S w w':=by have:=k2.kp;rwa [hEw,hES]at this
      have hso: ∀b i,ρ.S b i->ρ'.S b i:=by have:=k2.sold;rwa [hES]at this
      refine⟨hkp, ?_⟩
      have hm2:Mem { cH w' ρ' hp' E.pin E.rd E.D with k:=E.k } ρ' hp' w':=by
       have:=k2.enter E.pin E.rd
       exact⟨this.os,this.tape,this.output,this.size,this.old,this.sold,this.snew,this.slt,this.kp,this.sat,this.inj,this.hb,this.mv,this.ro,this.md⟩
      have:=(iht n _ fr' hp' ρ' _ w' { cH w' ρ' hp' E.pin E.rd E.D with k:=E.k } hpin rfl rfl p1 hm2 (by rw [cE];exact h1) (by rw [put_defers];exact h2) p2).1 hBt (by omega)
      refine aG1 ?_ _ _ _ _ _ _ (λw2 hw2=>hkp.trans hso hw2) this
      rintro a3 w3 ⟨fr3,hp3,q1,q2,q3,ρ3,q4,q5⟩
      exact⟨fr3,hp3,q1,q2,q3,ρ3,k2.leave (pin:=E.pin) (rd:=E.rd) q4 ⟨rfl,rfl,rfl,rfl,rfl,λb hb=>hb⟩ (λid hid=>hid),q5⟩
     ·rw [if_neg (by rw [hw];decide)]
      obtain⟨fr',p1,p2⟩:=fJ h h1 h3 (Rep.d _ undef (.lit undef))
      exact(iht n _ fr' hp ρ _ w E hpin hEw hES p1 hm (by rw [cE];exact h1) (by rw [put_defers];exact h2) p2).1 hBt (by omega)
    ·exact h.elim
   ·exact(ihr n listed fr hp ρ a w E hpin hEw hES h.2 hm h1 h2 h3).2 true hBr (by omega) j hj
  refine⟨λhB hd=> ?_,λinn hB hd=>key inn hB fuel hd⟩
  have hd':=hd
  simp only [OT.depth]at hd'
  obtain⟨fuel,rfl⟩: ∃n,fuel=n+1:=⟨fuel - 1,by omega⟩
  have hc:=hB
  simp only [aKn,Bool.false_or,Bool.and_eq_true,Bool.not_eq_true',List.all_eq_true,List.contains_iff_mem]at hc
  obtain⟨⟨⟨⟨hne,hcov⟩,_⟩,_⟩,_⟩:=hc
  refine⟨λh0=> ?_,λj hj=> ?_⟩
  ·rw [h0]at hne;cases hne
  ·exact key false hB fuel hd j (hcov j hj)
theorem yZ {C:Cfg}(hti:dX C.P C.ti) {id:Nat}{l:List Oper}{fr:Fr}{hp:Hp}{K:Ex->Fr->Hp->Prop}(T:OT) (hm:C.P.follows .mixedOrders=true)
  (hB:(decide (T.depth<=l.length) && Region.noSelect l.toArray && aKn l.toArray T (Array.replicate l.length false) false && kQ l)=true) (h:jF C l (K .normal) T fr hp):aJ C (.region id l.toArray true) fr hp K:=by
 intro E a w hpin hrd ⟨h1,h2,ρ,h3,h4⟩
 simp only [Bool.and_eq_true,decide_eq_true_eq]at hB
 obtain⟨⟨⟨b1,b2⟩,b3⟩,hnd⟩:=hB
 refine fC hm hnd kK.noOut ?_
 obtain⟨m1,m2⟩:=h3.grow_same (Grew.drew w)
 generalize hw1:w.drew=w1 at *
 have hm2:Mem { cH w1 ρ hp E.pin E.rd E.D with k:=E.k } ρ hp w1:=by
  have:=m1.enter E.pin E.rd
  exact⟨this.os,this.tape,this.output,this.size,this.old,this.sold,this.snew,this.slt,this.kp,this.sat,this.inj,this.hb,this.mv,this.ro,this.md⟩
 have:=(aEg (C:=C) hti b2 T l.length (Array.replicate l.length false) fr hp ρ a w1 { cH w1 ρ hp E.pin E.rd E.D with k:=E.k } hpin rfl rfl h hm2 h1 h2 (m2 fr _ h4)).1 b3 b1
 have h5:=aI7 (Q:=kK C E K) _ _ _ _ _ (aG1 (Q':=kK C E K .normal) (λa w ⟨fr',hp',k1,q2,q3,ρ3,q4,q5⟩=>⟨.normal,fr',hp',E, .refl E,trivial,k1,q2,q3,ρ3,m1.leave (pin:=E.pin) (rd:=E.rd) q4 ⟨rfl,rfl,rfl,rfl,rfl,λb hb=>hb⟩ (λid hid=>hid),q5⟩) _ _ _ _ _ _ (λ_ h=>h) this)
 have e:l.toArray.size=l.length:=by simp
 rw [e]
 subst hw1
 exact h5
end
end Go.Proofs.YtbobcfjlbcgchaaGreatDoor
namespace Go.Proofs.YtbobcfjlbcgchaaGreatDoor
open Go.Proofs
theorem Mem.froze {E:Entry}{ρ:Env}{hp hp':Hp}{w:World}(h:Mem E ρ hp w) {id e z cap:Nat}{rows:List (List D)}(ho:aN hp id=some (.mrow e z cap rows)) (hsub:jK hp' hp) (hno:aN hp' id=none):
  ∃S':Nat->Nat->Prop,(∀b i,ρ.S b i->S' b i)/\Mem E (ρ.withS S') hp' w/\RepD w S' (.sl z rows) (ρ.tv id):=by
 have hat: ∀b,eM (ρ.tv id)=some b->ρ.at id (.mrow e z cap rows)=some b:= λb hb=>hb
 have hs0: ∀i o,aN hp' i=some o->aN hp i=some o:=iD _ _ hsub
 have hne: ∀i o,aN hp' i=some o->i≠id:= λi o hi e=>by rw [e,hno]at hi;cases hi
 refine⟨λb i=>ρ.S b i\/(eM (ρ.tv id)=some b/\i < rows.length * z),λb i hs=> .inl hs, ?_, ?_⟩
 ·refine⟨h.os,h.tape,h.output,h.size,h.old,λb i hs=> .inl (h.sold b i hs), ?_, ?_,h.kp, ?_,λi o i' o' g hi hi'=>h.inj i o i' o' g (hs0 i o hi) (hs0 i' o' hi'),λi o g hi=>h.hb i o g (hs0 i o hi),λi hi=>Env.moved_trans (h.mv i hi) (ρ.moved_withS _ i), ?_,h.md⟩
  ·rintro b i (hs|⟨hb,_⟩) hlt hB
   ·exact h.snew b i hs hlt hB
   ·rcases h.hb id _ b ho (hat b hb)with h1|h1
    ·omega
    ·exact absurd h1 hB
  ·rintro b i (hs|⟨hb,_⟩)
   ·exact h.slt b i hs
   ·exact h.blk_lt ho (hat b hb)
  ·intro i o hi
   refine(h.sat i o (hs0 i o hi)).keep (λ_ _ _=>rfl) (λb i hs=> .inl hs) (λi _=>ρ.moved_withS _ i) ⟨rfl,rfl⟩ (λg _=>rfl) ?_
   rintro g hg j (hs|⟨hb,_⟩)
   ·exact hs
   ·exact absurd (h.inj i o id _ g (hs0 i o hi) ho hg (hat g hb)) (hne i o hi)
  ·intro i oR g hi hrd hg i' o' hi'
   exact h.ro i oR g (hs0 _ _ hi) hrd hg i' o' (hs0 _ _ hi')
 ·obtain⟨_,h2⟩:=h.sat id _ ho
  rcases h2 with⟨rfl,_,A,e1⟩|⟨hc,g,cur,e1,q1,q2,q3,q4,q6,q7⟩
  ·rw [e1]
   exact RepD.mk_sl (b:=0) (off:=0) (by simp) (by simp) (λhne=>absurd rfl hne) ⟨by simp,by simp⟩ (by simp)
  ·have hb:eM (ρ.tv id)=some g:=by
    rw [e1];have:cap≠0:=by omega
    simp [eM,this]
   have key:RepD w (λb i=>ρ.S b i\/(eM (ρ.tv id)=some b/\i < rows.length * z)) (.sl z rows) (.slice (some ⟨g,0,none⟩) rows.length cap):=by
    refine RepD.mk_sl (b:=g) (off:=0) q2 q3 (λ_=>rfl) ?_ rfl
    refine q6.view (λk v hv=> ?_) (λk hk=> ?_) (λx v hx=>hx.mono (λ_ _ _=>rfl) λb i hs=> .inl hs)
    ·rw [Nat.zero_add,cell_of_row w g k cur e (0,0) q1]
     rw [List.getElem?_take]at hv
     split at hv
     ·simpa using hv
     ·cases hv
    ·rw [Nat.zero_add]
     right
     refine⟨hb, ?_⟩
     rw [q6.len]at hk;exact hk
   rw [e1]at key |-
   exact key
theorem aF.froz {P:Program}{pin:Pin}{fr:Fr}{hp hp':Hp}{f:FuncId}{asv:List SV}{K:SV->Hp->Prop}(j id:Nat) {e z cap n:Nat}{rows:List (List D)}(ho:aN hp id=some (.mrow e z cap rows)) (hn:n=rows.length) (hj:asv[j]? =some (.mw id z n))
  (hsub:jK hp' hp) (hno:aN hp' id=none) (h:aF P pin fr hp' f (asv.set j (.d (.sl z rows))) K):aF P pin fr hp f asv K:=by
 intro E ρ w tm hpin h3 h4 vs hargs
 obtain⟨S',s1,s2,s3⟩:=h3.froze ho hsub hno
 obtain⟨q1,_⟩:=h3.sat id _ ho
 refine h E _ w tm hpin s2 (h4.mono (λ_ _ _=>rfl) s1 λi _=>ρ.moved_withS S' i) vs ⟨by simpa using hargs.1, ?_⟩
 intro k s v hs hv
 by_cases e:j=k
 ·subst e
  have hjl:=(List.getElem?_eq_some_iff.1 hj).1
  rw [List.getElem?_set_self hjl]at hs
  injection hs with hs
  subst hs
  obtain⟨A,c,_,_,_,_,_,e2⟩:=(hargs.2 j _ v hj hv).mw_inv
  have:=e2 (hn.trans q1.symm)
  subst this
  exact .d _ _ s3
 ·rw [List.getElem?_set_ne e]at hs
  exact(hargs.2 k s v hs hv).mono (λ_ _ _=>rfl) s1 λi _=>ρ.moved_withS S' i
theorem aJ.froz {C:Cfg}{c:Code}{fr:Fr}{hp hp':Hp}{K:Ex->Fr->Hp->Prop}(t id:Nat) {e z cap n:Nat}{rows:List (List D)}(ht:gM fr t=some (.mw id z n)) (ho:aN hp id=some (.mrow e z cap rows)) (hn:n=rows.length)
  (hsub:jK hp' hp) (hno:aN hp' id=none) (h:aJ C c ((t, .d (.sl z rows))::fr) hp' K):aJ C c fr hp K:=by
 intro E a w hpin hrd hsat
 obtain⟨h1,h2,ρ,h3,h4⟩:=hsat
 obtain⟨S',s1,s2,s3⟩:=h3.froze ho hsub hno
 obtain⟨q1,_⟩:=h3.sat id _ ho
 refine h E a w hpin hrd ⟨h1,h2,_,s2, ?_⟩
 intro k s hs
 simp only [gM]at hs
 by_cases e:t=k
 ·rw [if_pos e]at hs
  injection hs with hs
  subst hs;subst e
  obtain⟨v,hv,hr⟩:=h4 t _ ht
  obtain⟨A,c,_,_,_,_,_,e2⟩:=hr.mw_inv
  have:=e2 (hn.trans q1.symm)
  subst this
  exact⟨_,hv, .d _ _ s3⟩
 ·rw [if_neg e]at hs
  obtain⟨v,hv,hr⟩:=h4 k _ hs
  exact⟨v,hv,hr.mono (λ_ _ _=>rfl) s1 λi _=>ρ.moved_withS S' i⟩
end Go.Proofs.YtbobcfjlbcgchaaGreatDoor
namespace Go.Proofs.YtbobcfjlbcgchaaGreatDoor
open Go.Proofs Go.RowKit
section
variable {P:Program}
theorem aAc {o:Oper}{t t' kt e:TypeId}{x y:Operand}(ho:o.op= .binOp .eql t x y t') (ht:aTc P t=some (kt,e)) {fr:Fr}{hp:Hp}{K:SV->Prop}{s:SV}(b:Bool) (hx:evO fr x=some s)
  (hs:(∃id,s= .xv id nK/\b=false)\/(s= .d (.lit (.map none))/\b=true)) (hy:evO fr y=some (.d (.lit (.map none)))) (hk:K (.d (.bool b))):bS P o fr hp K:=by
 intro E ρ a w hm hf
 have e2:=(aR hf hy).lit_inv
 have e1:(∃g,a.eval x= .map (some g)/\b=false)\/(a.eval x= .map none/\b=true):=by
  rcases hs with⟨id,rfl,hb⟩|⟨rfl,hb⟩
  ·obtain⟨g,_,e1,_⟩:=(aR hf hx).xv_inv
   exact .inl ⟨g,e1,hb⟩
  ·exact .inr ⟨(aR hf hx).lit_inv,hb⟩
 have hq: ∀(m:Option Nat) (w':World),(binOp .eql t (.map m) (.map none)).run P w'= .ok (.bool m.isNone) w':=by
  intro m w'
  have hb:binOp .eql t (.map m) (.map none)=(Op.equal t (.map m) (.map none)>>= λc=>pure (.bool c)):=rfl
  have he:(Op.equal t (.map m) (.map none)).run P w'= .ok m.isNone w':=by
   show (Op.equalIn (9999+1) t (.map m) (.map none)).run P w'=_
   rw [Op.equalIn]
   simp only [Sem.run_bind,run_underlying (wO ht),Result.andThen_ok]
   cases m<;>rfl
  rw [hb,Sem.run_bind,he]
  rfl
 have hgd: ∀(m:Option Nat) (w':World),(eqGuard .eql t x y (.map m) (.map none)).run P w'= .ok () w':= λm w'=>rfl
 refine⟨.bool b,_,λw' _=> ?_, .d _ _ (.bool _),hk⟩
 rcases e1 with⟨g,e1,rfl⟩|⟨e1,rfl⟩
 ·simp only [execOp,ho,e1,e2,Sem.run_bind,hgd,Result.andThen_ok,hq,Sem.run_pure,Option.isNone_some]
 ·simp only [execOp,ho,e1,e2,Sem.run_bind,hgd,Result.andThen_ok,hq,Sem.run_pure,Option.isNone_none]
theorem aJ.ownC {C:Cfg}{c:Code}{fr:Fr}{hp:Hp}{K:Ex->Fr->Hp->Prop}(i id t e z k:Nat) {cs:List SV}(hnil:aN hp i=some (.cells t cs)) (hk:cs[k]? =some (.d .nil)) (hfr:eN id C.pin fr hp)
  (h:aJ C c fr ((id, .own e z 0)::dU hp i (.cells t (cs.set k (.osl id z [])))) K):aJ C c fr hp K:=by
 intro E a w hpin hrd hsat
 obtain⟨h1,h2,ρ,h3,h4⟩:=hsat
 obtain⟨f1,f2,f3⟩:=hfr
 obtain⟨m1,m2,m3⟩:=h3.newNil (id:=id) e z f3 (by rw [hpin];exact f1)
 have hne:i≠id:= λe=>f3 (by subst e;exact bJ hnil (.inl rfl))
 have hi':aN ((id,HObj.own e z 0)::hp) i=some (.cells t cs):=by
  simp only [aN];rw [if_neg (Ne.symm hne)];exact hnil
 have hkl:k < cs.length:=(List.getElem?_eq_some_iff.1 hk).1
 have m4 := m1.recell hi' (cs' := cs.set k (.osl id z [])) (by simp) (λj s' v hs' hv => by
  by_cases e:j=k
  ·subst e
   rw [List.getElem?_set_self hkl]at hs'
   injection hs' with hs'
   subst hs'
   have:=(hv _ hk).nil_inv
   subst this
   exact m3
  ·rw [List.getElem?_set_ne (Ne.symm e)]at hs'
   exact hv _ hs')
 have e2:dU ((id,HObj.own e z 0)::hp) i (.cells t (cs.set k (.osl id z [])))=(id, .own e z 0)::dU hp i (.cells t (cs.set k (.osl id z []))):=by
  simp only [dU];rw [if_neg (Ne.symm hne)]
 rw [e2]at m4
 exact h E a w hpin hrd ⟨h1,h2,_,m4,m2 fr a.tmps f2 h4⟩
theorem aF.frozR {pin:Pin}{fr:Fr}{hp:Hp}{f:FuncId}{asv:List SV}{K:SV->Hp->Prop}
  (h:aF P pin fr hp f asv λs hp'=> ∃(id e z cap n:Nat) (rows:List (List D)) (hp'':Hp),s= .mw id z n/\aN hp' id=some (.mrow e z cap rows)/\n=rows.length/\jK hp'' hp'/\aN hp'' id=none/\K (.d (.sl z rows)) hp''):aF P pin fr hp f asv K:=by
 intro E ρ w tm hpin h3 h4 vs hargs
 refine(h E ρ w tm hpin h3 h4 vs hargs).mono ?_
 rintro e w' (⟨v,ρ',s,hp',rfl,⟨id,e,z,cap,n,rows,hp'',rfl,ho,hn,hsub,hno,hk⟩,k2,k3,k4⟩|q)
 case inr=>exact .inr q
 refine .inl ?_
 obtain⟨S',s1,s2,s3⟩:=k2.froze ho hsub hno
 obtain⟨q1,_⟩:=k2.sat id _ ho
 obtain⟨A,c,_,_,_,_,_,e2⟩:=k4.mw_inv
 have:=e2 (hn.trans q1.symm)
 subst this
 exact⟨_,_,_,_,rfl,hk,s2,k3.mono (λ_ _ _=>rfl) s1 (λi _=>ρ'.moved_withS S' i), .d _ _ s3⟩
end
abbrev Byt:=List UInt8
def aCa (l:Byt):D:= .str l
theorem aO {hp:Hp}{k d:Nat}{o:HObj}{r:Option HObj}(h:aN hp d=r) (hne:k≠d):aN ((k,o)::hp) d=r:=by
 rw [aN,if_neg hne,h]
theorem eT {hp:Hp}{k:Nat}{o:HObj}:aN ((k,o)::hp) k=some o:=by
 rw [aN,if_pos rfl]
theorem vO {hp:Hp}{k d:Nat}{o x:HObj}(hne:k≠d):dU ((k,o)::hp) d x=(k,o)::dU hp d x:=by
 rw [dU,if_neg hne]
theorem aEr {hp:Hp}{k:Nat}{o x:HObj}:dU ((k,o)::hp) k x=(k,x)::hp:=by
 rw [dU,if_pos rfl]
theorem qG: ∀{hp' hp:Hp},(∀p∈hp',aN hp p.1=some p.2)->jK hp' hp
 | [],_,_=>trivial
 |(k,x)::r,hp,h=>⟨h (k,x) (by simp),qG λp hp=>h p (List.mem_cons_of_mem _ hp)⟩
theorem qF: ∀{hp' hp:Hp},jK hp' hp-> ∀p∈hp',aN hp p.1=some p.2
 | [],_,_,p,hp=>by cases hp
 |(k,x)::r,hp,h,p,hm=>by
  rcases List.mem_cons.1 hm with rfl|hm
  ·exact h.1
  ·exact qF h.2 p hm
end Go.Proofs.YtbobcfjlbcgchaaGreatDoor
namespace Go.Proofs.YtbobcfjlbcgchaaGreatDoor
open Go.Proofs
def aRc (x:Ax) (i:Nat):Str:=(x.roles[i]?).getD []
def aF9 (x:Ax):Nat:=x.roles.countP λr=>decide (r=x.role)
def iN (x:Ax) (i:Nat):Bool:=
 decide (aRc x i=x.role) && ((decide (aF9 x=1) && (decide (i=0) || decide (i+1=x.roles.length))) || (decide (aF9 x=2) && decide (x.roles.length=2)))
def mX (x:Ax) (l:List Nat):List Stp:=l.flatMap λi=>if iN x i then []else [(aRc x i,x.role,true)]
def jP (x:Ax):List Stp:=
 if x.kind=5 then (if aRc x 0=x.role then []else [(aRc x 0,x.role,false)])
 else if x.kind=6 then mX x (List.range x.roles.length)else []
def gB (l:List Ax):List Stp:=l.flatMap jP
theorem aKb (x:Ax) (l:List Nat):(mX x l).length<=l.length:=by
 induction l with
 |nil=>simp [mX]
 |cons i r ih=>
  have e:mX x (i::r)=(if iN x i then []else [(aRc x i,x.role,true)])++mX x r:=rfl
  rw [e,List.length_append,List.length_cons]
  split<;>simp<;>omega
theorem aIl (x:Ax) (h:x.roles.length<=4):(jP x).length<=4:=by
 unfold jP
 split
 ·split<;>simp
 ·split
  ·have:=aKb x (List.range x.roles.length)
   rw [List.length_range]at this
   omega
  ·simp
theorem zB: ∀(l:List Ax),(∀x∈l,x.roles.length<=4)->(gB l).length<=4 * l.length
 | [],_=>by simp [gB]
 |x::r,h=>by
  have h1:=aIl x (h x (by simp))
  have h2:=zB r λy hy=>h y (List.mem_cons_of_mem _ hy)
  have e:gB (x::r)=jP x++gB r:=rfl
  rw [e,List.length_append,List.length_cons];omega
theorem aEm {l:List Ax}{j:Nat}(h:j < l.length):gB (l.take (j+1))=gB (l.take j)++jP l[j]:=by
 rw [List.take_succ_eq_append_getElem h]
 unfold gB
 rw [List.flatMap_append];simp
theorem aFs (x:Ax) (k:Nat):mX x (List.range (k+1))=mX x (List.range k)++(if iN x k then []else [(aRc x k,x.role,true)]):=by
 rw [List.range_succ]
 unfold mX
 rw [List.flatMap_append];simp
abbrev Inn:=List (Str×Bool)×(List Nat×Nat)
def aC0 (l:List (Str×Bool)):List (Str×SV):=l.map λp=>(p.1, .d (.bool p.2))
def inO (x:Inn):HObj:= .ext (yJ aCa (aC0 x.1) x.2.1 x.2.2)
def kL:Nat->List (Str×Inn)->List (Str×SV)
 |_,[]=>[]
 |n,(k,_)::r=>(k, .xv (1000+n) nK)::kL (n+1) r
def hpO:Nat->List (Str×Inn)->Hp
 |_,[]=>[]
 |n,(_,x)::r=>(1000+n,inO x)::hpO (n+1) r
def yH (k:Str):List (Str×Inn)->Option Nat
 | []=>none
 |(k',_)::r=>if k=k' then some 0 else (yH k r).map (· +1)
theorem vW {k:Str}: ∀{M:List (Str×Inn)}{i:Nat},yH k M=some i-> ∃x,M[i]? =some (k,x)
 |(k',x)::r,i,h=>by
  rw [yH]at h
  split at h
  ·rename_i e
   cases h
   exact⟨x,by rw [e];rfl⟩
  ·cases hp:yH k r with
   |none=>rw [hp]at h;cases h
   |some j=>
    rw [hp]at h
    cases h
    obtain⟨y,hy⟩:=vW hp
    exact⟨y,by simpa using hy⟩
theorem vX {k:Str}: ∀{M:List (Str×Inn)},yH k M=none↔k∉M.map (·.1)
 | []=>by simp [yH]
 |(k',x)::r=>by
  rw [yH]
  split
  ·rename_i e;simp [e]
  ·rename_i e
   rw [Option.map_eq_none_iff,vX]
   simp [e]
theorem mJ (k:Str): ∀(n:Nat) (M:List (Str×Inn)),mK (kL n M) k=(yH k M).map λi=>SV.xv (1000+(n+i)) nK
 |_,[]=>rfl
 |n,(k',x)::r=>by
  rw [kL,mK,yH]
  split
  ·rfl
  ·rw [mJ k (n+1) r]
   cases yH k r with
   |none=>rfl
   |some i=>simp [Nat.add_comm,Nat.add_left_comm]
theorem aHm: ∀(n:Nat) (M:List (Str×Inn)),(kL n M).length=M.length
 |_,[]=>rfl
 |n,(k,x)::r=>by rw [kL,List.length_cons,List.length_cons,aHm]
theorem aDk: ∀(n:Nat) (M:List (Str×Inn)),(kL n M).map (·.1)=M.map (·.1)
 |_,[]=>rfl
 |n,(k,x)::r=>by rw [kL,List.map_cons,List.map_cons,aDk]
theorem aFp: ∀(n:Nat) (M:List (Str×Inn)),∀k∈aOl (kL n M),1000+n<=k/\k < 1000+n+M.length
 |_,[],k,h=>by simp [kL,aOl]at h
 |n,(a,x)::r,k,h=>by
  have e:aOl (kL n ((a,x)::r))=[1000+n]++aOl (kL (n+1) r):=rfl
  rw [e]at h
  rw [List.length_cons]
  rcases List.mem_append.1 h with h|h
  ·simp at h;omega
  ·have:=aFp (n+1) r k h;omega
theorem aCw {k:Str}: ∀(n:Nat) (M:List (Str×Inn)) (x:Inn),yH k M=none->wK (kL n M) k (.xv (1000+(n+M.length)) nK)=kL n (M++[(k,x)])
 |_,[],_,_=>rfl
 |n,(k',y)::r,x,h=>by
  rw [yH]at h
  split at h
  ·cases h
  ·rename_i e
   rw [Option.map_eq_none_iff]at h
   rw [kL,wK,if_neg e,List.cons_append,kL,List.length_cons,show n+(r.length+1)=n+1+r.length by omega,aCw (n+1) r x h]
theorem aHl: ∀(n:Nat) (M:List (Str×Inn)) (i:Nat) (k:Str) (x y:Inn),M[i]? =some (k,x)->kL n (M.set i (k,y))=kL n M
 |_,[],_,_,_,_,h=>by cases h
 |n,(k',z)::r,0,k,x,y,h=>by
  simp at h
  obtain⟨rfl,rfl⟩:=h
  rfl
 |n,(k',z)::r,i+1,k,x,y,h=>by
  rw [List.set_cons_succ,kL,kL,aHl (n+1) r i k x y (by simpa using h)]
theorem wW: ∀(n:Nat) (M:List (Str×Inn)) (i:Nat) (p:Str×Inn) (rest:Hp),M[i]? =some p->aN (hpO n M++rest) (1000+(n+i))=some (inO p.2)
 |_,[],_,_,_,h=>by cases h
 |n,(k,x)::r,0,p,rest,h=>by
  simp at h;subst h
  rw [hpO,List.cons_append,Nat.add_zero]
  exact eT
 |n,(k,x)::r,i+1,p,rest,h=>by
  rw [hpO,List.cons_append]
  refine aO ?_ (by omega)
  rw [show n+(i+1)=n+1+i by omega]
  exact wW (n+1) r i p rest (by simpa using h)
theorem aFi: ∀(n:Nat) (M:List (Str×Inn)) (d:Nat) (rest:Hp),(d < 1000+n\/1000+n+M.length<=d)->aN (hpO n M++rest) d=aN rest d
 |_,[],_,_,_=>rfl
 |n,(k,x)::r,d,rest,h=>by
  rw [hpO,List.cons_append]
  refine aO (aFi (n+1) r d rest ?_) ?_
  ·rw [List.length_cons]at h;omega
  ·rw [List.length_cons]at h;omega
theorem aNg: ∀(n:Nat) (M:List (Str×Inn)) (i:Nat) (k:Str) (y:Inn) (rest:Hp),i < M.length->dU (hpO n M++rest) (1000+(n+i)) (inO y)=hpO n (M.set i (k,y))++rest
 |_,[],_,_,_,_,h=>by simp at h
 |n,(k',z)::r,0,k,y,rest,h=>by
  rw [List.set_cons_zero,hpO,hpO,List.cons_append,Nat.add_zero n,aEr];rfl
 |n,(k',z)::r,i+1,k,y,rest,h=>by
  rw [List.set_cons_succ,hpO,hpO,List.cons_append,vO (by omega),show n+(i+1)=n+1+i by omega,aNg (n+1) r i k y rest (by simpa using h)];rfl
theorem aHe: ∀(n:Nat) (M:List (Str×Inn)) (k:Str) (x:Inn),hpO n (M++[(k,x)])=hpO n M++[(1000+(n+M.length),inO x)]
 |_,[],_,_=>rfl
 |n,(k',z)::r,k,x=>by
  rw [List.cons_append,hpO,hpO,aHe (n+1) r k x,List.length_cons,show n+(r.length+1)=n+1+r.length by omega];rfl
theorem aBk: ∀(n:Nat) (M:List (Str×Inn)) (p:Nat×HObj),p∈hpO n M-> ∃i q,M[i]? =some q/\p=(1000+(n+i),inO q.2)
 |_,[],_,h=>by simp [hpO]at h
 |n,(k,x)::r,p,h=>by
  rw [hpO]at h
  rcases List.mem_cons.1 h with rfl|h
  ·exact⟨0,_,rfl,rfl⟩
  ·obtain⟨i,q,h1,rfl⟩:=aBk (n+1) r p h
   exact⟨i+1,q,by simpa using h1,by rw [show n+(i+1)=n+1+i by omega]⟩
theorem aNf (l:List (Str×Bool)):aOl (aC0 l)=[]:=by
 induction l with
 |nil=>rfl
 |cons p r ih=>simpa [aC0,aOl,SV.ids]using ih
theorem aTi (x:Inn):(inO x).ids=[]:=aNf x.1
theorem aNh (n:Nat) (M:List (Str×Inn)): ∀k∈fG (hpO n M),1000+n<=k/\k < 1000+n+M.length:=by
 intro k hk
 simp only [fG,List.mem_flatMap,List.mem_cons]at hk
 obtain⟨p,hp,hk⟩:=hk
 obtain⟨i,q,h1,rfl⟩:=aBk n M p hp
 have hi:=(List.getElem?_eq_some_iff.1 h1).1
 rcases hk with rfl|hk
 ·dsimp only;omega
 ·dsimp only at hk
  rw [aTi]at hk;cases hk
theorem aHd (a b:Hp):fG (a++b)=fG a++fG b:=List.flatMap_append
def ME (M:List (Str×Inn)) (a b:Str) (t:Bool):Prop:= ∃(i:Nat) (x:Inn),M[i]? =some (a,x)/\mK x.1 b=some t
def aE6 (x:Inn) (s:Str) (t:Bool) (g:List Nat×Nat):Inn:=(wK x.1 s (((mK x.1 s).getD false) || t),g)
structure MInv (T:List Stp) (M:List (Str×Inn)):Prop where
 nd:(M.map (·.1)).Nodup
 le:M.length<=T.length
 lei: ∀p∈M,p.2.1.length<=T.length
 sound: ∀a b t,ME M a b t-> ∃t',(a,b,t')∈T/\(t=true->t'=true)
 full: ∀a b t,(a,b,t)∈T-> ∃t',ME M a b t'/\(t=true->t'=true)
theorem MInv.nil:MInv [] [] where
 nd:= .nil
 le:=Nat.le_refl _
 lei:=by simp
 sound:=by
  rintro a b t ⟨i,x,h,_⟩
  cases h
 full:=by simp
theorem wL {β:Type}(l:List (Str×β)) (k k':Str) (v:β):mK (wK l k v) k'=if k'=k then some v else mK l k':=by
 induction l with
 |nil=>rfl
 |cons p r ih=>
  obtain⟨q,w⟩:=p
  rw [wK]
  by_cases h:k=q
  ·subst h
   rw [if_pos rfl,mK,mK]
   split<;>rfl
  ·rw [if_neg h,mK,mK,ih]
   by_cases h2:k'=q
   ·subst h2
    rw [if_pos rfl,if_pos rfl,if_neg (Ne.symm h)]
   ·rw [if_neg h2,if_neg h2]
theorem aQb {β:Type}(l:List (Str×β)) (k:Str) (v:β):(wK l k v).length<=l.length+1:=by
 induction l with
 |nil=>simp [wK]
 |cons p r ih=>
  obtain⟨q,w⟩:=p
  rw [wK]
  split
  ·simp
  ·simp only [List.length_cons];omega
theorem aB9 {M:List (Str×Inn)}(h:(M.map (·.1)).Nodup) {i j:Nat}{a:Str}{x y:Inn}(hi:M[i]? =some (a,x)) (hj:M[j]? =some (a,y)):i=j:=by
 have h1:(M.map (·.1))[i]? =some a:=by rw [List.getElem?_map,hi];rfl
 have h2:(M.map (·.1))[j]? =some a:=by rw [List.getElem?_map,hj];rfl
 obtain⟨l1,e1⟩:=List.getElem?_eq_some_iff.1 h1
 obtain⟨l2,e2⟩:=List.getElem?_eq_some_iff.1 h2
 exact(List.getElem_inj h).1 (e1.trans e2.symm)
theorem aV1 (a b:Bool):(b=true->(a || b)=true):=by cases a<;>cases b<;>decide
theorem MInv.new {T:List Stp}{M:List (Str×Inn)}(h:MInv T M) {r s:Str}(t:Bool) (g:List Nat×Nat) (hr:yH r M=none):MInv (T++[(r,s,t)]) (M++[(r,([(s,t)],g))]):=by
 have hr':=vX.1 hr
 have hME: ∀a b u,ME (M++[(r,([(s,t)],g))]) a b u↔ME M a b u\/(a=r/\b=s/\u=t):=by
  intro a b u
  constructor
  ·rintro⟨i,x,h1,h2⟩
   rw [List.getElem?_append]at h1
   split at h1
   ·exact .inl ⟨i,x,h1,h2⟩
   ·rename_i hi
    have hl:=(List.getElem?_eq_some_iff.1 h1).1
    simp only [List.length_singleton]at hl
    rw [show i - M.length=0 by omega]at h1
    simp at h1
    obtain⟨rfl,rfl⟩:=h1
    simp only [mK]at h2
    split at h2
    ·rename_i e
     cases h2
     exact .inr ⟨rfl,e,rfl⟩
    ·cases h2
  ·rintro(⟨i,x,h1,h2⟩|⟨rfl,rfl,rfl⟩)
   ·have hi:=(List.getElem?_eq_some_iff.1 h1).1
    exact⟨i,x,by rw [List.getElem?_append_left hi];exact h1,h2⟩
   ·exact⟨M.length,([(b,u)],g),by simp,by simp [mK]⟩
 refine⟨?_,by simp;exact h.le, ?_, ?_, ?_⟩
 ·rw [List.map_append,List.nodup_append]
  refine⟨h.nd,by simp,λa ha b hb=> ?_⟩
  simp at hb
  subst hb
  exact λe=>hr' (e ▸ ha)
 ·intro p hp
  rw [List.length_append,List.length_singleton]
  rcases List.mem_append.1 hp with hp|hp
  ·have:=h.lei p hp;omega
  ·simp at hp;subst hp;simp
 ·intro a b u hu
  rcases(hME a b u).1 hu with hu|⟨rfl,rfl,rfl⟩
  ·obtain⟨t',h1,h2⟩:=h.sound a b u hu
   exact⟨t',List.mem_append_left _ h1,h2⟩
  ·exact⟨u,by simp,id⟩
 ·intro a b u hu
  rcases List.mem_append.1 hu with hu|hu
  ·obtain⟨t',h1,h2⟩:=h.full a b u hu
   exact⟨t',(hME a b t').2 (.inl h1),h2⟩
  ·simp at hu
   obtain⟨rfl,rfl,rfl⟩:=hu
   exact⟨u,(hME _ _ _).2 (.inr ⟨rfl,rfl,rfl⟩),id⟩
theorem MInv.upd {T:List Stp}{M:List (Str×Inn)}(h:MInv T M) {r s:Str}(t:Bool) (g:List Nat×Nat) {i:Nat}{x:Inn}(hi:M[i]? =some (r,x)):MInv (T++[(r,s,t)]) (M.set i (r,aE6 x s t g)):=by
 have hil:=(List.getElem?_eq_some_iff.1 hi).1
 have hkeys:(M.set i (r,aE6 x s t g)).map (·.1)=M.map (·.1):=by
  rw [List.map_set]
  apply List.ext_getElem?
  intro j
  rw [List.getElem?_set]
  split
  ·rename_i e
   subst e
   rw [List.length_map,if_pos hil,List.getElem?_map,hi];rfl
  ·rfl
 have hME: ∀a b u,ME (M.set i (r,aE6 x s t g)) a b u↔(a=r/\b=s/\u=(((mK x.1 s).getD false) || t))\/(¬ (a=r/\b=s)/\ME M a b u):=by
  intro a b u
  constructor
  ·rintro⟨j,y,h1,h2⟩
   rw [List.getElem?_set]at h1
   split at h1
   ·rename_i e
    subst e
    try rw [if_pos hil]at h1
    simp at h1
    obtain⟨rfl,rfl⟩:=h1
    rw [aE6,wL]at h2
    split at h2
    ·rename_i e
     cases h2
     exact .inl ⟨rfl,e,rfl⟩
    ·rename_i e
     exact .inr ⟨λh=>e h.2,i,x,hi,h2⟩
   ·rename_i e
    refine .inr ⟨λh'=> ?_,j,y,h1,h2⟩
    obtain⟨rfl,_⟩:=h'
    exact e (aB9 h.nd hi h1)
  ·rintro(⟨rfl,rfl,rfl⟩|⟨hn,j,y,h1,h2⟩)
   ·exact⟨i,_,by rw [List.getElem?_set_self hil],by rw [aE6,wL,if_pos rfl]⟩
   ·by_cases e:i=j
    ·subst e
     rw [hi]at h1
     simp at h1
     obtain⟨rfl,rfl⟩:=h1
     refine⟨i,_,by rw [List.getElem?_set_self hil], ?_⟩
     rw [aE6,wL,if_neg λe=>hn ⟨rfl,e⟩]
     exact h2
    ·exact⟨j,y,by rw [List.getElem?_set_ne e];exact h1,h2⟩
 refine⟨by rw [hkeys];exact h.nd,by rw [List.length_set,List.length_append];have:=h.le;omega, ?_, ?_, ?_⟩
 ·intro p hp
  rw [List.length_append,List.length_singleton]
  rcases List.mem_or_eq_of_mem_set hp with hp|rfl
  ·have:=h.lei p hp;omega
  ·have h1:=h.lei _ (List.mem_of_getElem? hi)
   have h2:=aQb x.1 s (((mK x.1 s).getD false) || t)
   show (wK x.1 s _).length<=_
   dsimp only at h1
   omega
 ·intro a b u hu
  rcases(hME a b u).1 hu with⟨rfl,rfl,rfl⟩|⟨hn,hu⟩
  ·cases hx:mK x.1 b with
   |none=>exact⟨t,by simp,by simp⟩
   |some v=>
    obtain⟨t',h1,h2⟩:=h.sound a b v ⟨i,x,hi,hx⟩
    cases t with
    |true=>exact⟨true,by simp,by simp⟩
    |false=>exact⟨t',List.mem_append_left _ h1,by simpa using h2⟩
  ·obtain⟨t',h1,h2⟩:=h.sound a b u hu
   exact⟨t',List.mem_append_left _ h1,h2⟩
 ·intro a b u hu
  rcases List.mem_append.1 hu with hu|hu
  ·obtain⟨t',⟨j,y,h1,h3⟩,h2⟩:=h.full a b u hu
   by_cases e:a=r/\b=s
   ·obtain⟨rfl,rfl⟩:=e
    have hj:=aB9 h.nd hi h1
    subst hj
    rw [hi]at h1
    simp at h1
    subst h1
    refine⟨_,(hME _ _ _).2 (.inl ⟨rfl,rfl,rfl⟩),λhu=> ?_⟩
    rw [h3]
    simp [h2 hu]
   ·exact⟨t',(hME _ _ _).2 (.inr ⟨e,j,y,h1,h3⟩),h2⟩
  ·simp at hu
   obtain⟨rfl,rfl,rfl⟩:=hu
   exact⟨_,(hME _ _ _).2 (.inl ⟨rfl,rfl,rfl⟩),aV1 _ _⟩
theorem MInv.circ {T:List Stp}{M:List (Str×Inn)}(h:MInv T M):nR (ET T)↔nR (ME M):=
 ⟨nR.mono λa b t=>h.full a b t,nR.mono λa b t=>h.sound a b t⟩
structure GOk (M:List (Str×Inn)) (R:List Str) (G:Adj):Prop where
 len:G.length=R.length
 nd:R.Nodup
 mem: ∀a,a∈R↔a∈M.map (·.1)
 sound: ∀i j t,EG G i j t->j < R.length/\ ∃a b,R[i]? =some a/\R[j]? =some b/\ME M a b t
 full: ∀i j t a b,R[i]? =some a->R[j]? =some b->ME M a b t->EG G i j t
theorem GOk.circ {M:List (Str×Inn)}{R:List Str}{G:Adj}(h:GOk M R G):nR (ME M)↔nR (EG G):=by
 have key: ∀{a b:Str} {t:Bool},ME M a b t->a∈R:=by
  rintro a b t ⟨i,x,h1,_⟩
  exact(h.mem a).2 (List.mem_map.2 ⟨_,List.mem_of_getElem? h1,rfl⟩)
 have at_: ∀{a:Str},a∈R->R[R.idxOf a]? =some a:=by
  intro a ha
  have hl:=List.idxOf_lt_length_of_mem ha
  rw [List.getElem?_eq_getElem hl,List.getElem_idxOf hl]
 constructor
 ·intro hc
  refine nR.map (λa=>R.idxOf a) ?_ hc.dom
  rintro a b t ⟨h1,c,u,h2⟩
  exact h.full _ _ t a b (at_ (key h1)) (at_ (key h2)) h1
 ·refine nR.map (λi=>(R[i]?).getD []) ?_
  intro i j t he
  obtain⟨_,a,b,h1,h2,h3⟩:=h.sound i j t he
  show ME M ((R[i]?).getD []) ((R[j]?).getD []) t
  rw [h1,h2]
  exact h3
open Classical in
noncomputable def lW (l:List Ax):Int:=if dF l≠0 then dF l else if nR (ET (gB l))then 60 else 0
end Go.Proofs.YtbobcfjlbcgchaaGreatDoor
namespace Go.Proofs.YtbobcfjlbcgchaaGreatDoor
open Go.Proofs
set_option maxRecDepth 10000
attribute [local irreducible] aJ aF Tri aG YVC bS aQ
theorem aCf (l:List Ax):Tri Tryz.prog 107 [.d (.sl 16 (l.map axR))] NG (λr=>r= .d (.int .i64 (dF l))):=by
 refine Tri.len 0 rfl λhlen=> ?_
 rw [List.length_map]at hlen
 refine aH false [4] hty Tryz.func107 rfl (kp [0,2,4,5,6,7,8,9,15]) [] _ _ _ (by simp [Tryz.f107]) (by decide) ?_
 ((conv=>whnf);repeat ((first|(intro hq;try simp only [lnS]at hq)|refine sI ?_|refine .intro _ (.intro rfl ?_));(conv=>whnf)))
 refine aK hty (λj:Nat=>([(2, .d (.int .i64 0)),(6, .d (.sl 16 (l.map axR))),(7, .d (.int .i64 l.length)),(8, .d (.int .i64 j))],NG)) (λj=>j<=l.length/\ ∀x∈l.take j,bL x=0) (λj=>l.length - j) 0 ⟨by omega,by simp⟩ ⟨by repeat' (first|exact trivial|exact rfl|(rw [List.length_map];exact rfl)|refine And.intro ?_ ?_),⟨rfl,rfl,trivial⟩⟩ ?_
 rintro j ⟨hj,hz⟩
 ((conv=>whnf);repeat ((first|(intro hq;try simp only [lnS]at hq)|refine sI ?_|refine .intro _ (.intro rfl ?_));(conv=>whnf)))
 refine aA (λh1=> ?_) (λh1=> ?_)
 ·have hjl:j < l.length:=by omega
  have hrow:=jD hjl
  have hc:=iO l[j]
  have herr:=sR hjl hz
  have hz2:bL l[j]=0-> ∀x∈l.take (j+1),bL x=0:= λh2 x hx=>by
   rw [List.take_succ_eq_append_getElem hjl]at hx
   rcases List.mem_append.1 hx with hx|hx
   ·exact hz x hx
   ·simp at hx;subst hx;exact h2
  generalize bL l[j]=e at *
  generalize l[j]=x at *
  ((conv=>whnf);repeat ((first|(refine⟨_,hrow, ?_⟩)|(refine aD NG hc ⟨rfl,rfl,trivial⟩ (λr hs=> ?_);subst hs)|(intro hq;try simp only [lnS]at hq)|refine sI ?_|refine .intro _ (.intro rfl ?_));(conv=>whnf)))
  refine aC (λh2=> ?_) (λh2=> ?_)
  ·rw [herr h2]
   ((conv=>whnf);repeat' ((first|(intro hq;(try simp only [lnS]at hq);(try rewrite [List.length_map]))|refine sJ ?_|refine .intro _ (.intro rfl ?_)|refine exL (k:= ?_)|refine dwR ?_|((first|refine aA ?_ ?_|refine aC ?_ ?_)<;>intro hb<;>(first|exact ddX hb|try simp only [lnS]at hb))|(refine aB ?_ ?_<;>intro hb<;>try exact dsX hb))<;>(conv=>whnf)))
   rfl
  ·((conv=>whnf);repeat' ((first|(intro hq;(try simp only [lnS]at hq);(try rewrite [List.length_map]))|refine sJ ?_|refine .intro _ (.intro rfl ?_)|refine exL (k:= ?_)|refine dwR ?_|((first|refine aA ?_ ?_|refine aC ?_ ?_)<;>intro hb<;>(first|exact ddX hb|try simp only [lnS]at hb))|(refine aB ?_ ?_<;>intro hb<;>try exact dsX hb))<;>(conv=>whnf)))
   exact⟨j+1,⟨by omega,hz2 (by simpa using h2)⟩,by dsimp only;omega,⟨by repeat' (first|exact trivial|exact rfl|refine And.intro ?_ ?_),⟨rfl,rfl,trivial⟩⟩⟩
 ·have hjl:j=l.length:=by omega
  subst hjl
  rw [List.take_length]at hz
  rw [xG hz]
  ((conv=>whnf);repeat' ((first|(intro hq;(try simp only [lnS]at hq);(try rewrite [List.length_map]))|refine sJ ?_|refine .intro _ (.intro rfl ?_)|refine exL (k:= ?_)|refine dwR ?_|((first|refine aA ?_ ?_|refine aC ?_ ?_)<;>intro hb<;>(first|exact ddX hb|try simp only [lnS]at hb))|(refine aB ?_ ?_<;>intro hb<;>try exact dsX hb))<;>(conv=>whnf)))
  rfl
theorem aJi (x:Ax) {j:Nat}(h:j < x.roles.length):(x.roles.take (j+1)).countP (λr=>decide (r=x.role))=(x.roles.take j).countP (λr=>decide (r=x.role))+(if x.roles[j]=x.role then 1 else 0):=by
 rw [List.take_succ_eq_append_getElem h,List.countP_append,List.countP_singleton]
 simp
theorem kO {l:List (List UInt8)}{i:Nat}(h:i < l.length):(l.map eO)[((i:Nat):Int).toNat]? =some (eO l[i]):=by
 rw [Int.toNat_natCast,List.getElem?_map,List.getElem?_eq_getElem h];rfl
theorem aEw {x:Ax}{i:Nat}(h:i < x.roles.length):aRc x i=x.roles[i]:=by
 rw [aRc,List.getElem?_eq_getElem h];rfl
theorem aFn (x:Ax) (i:Nat) (hi:i < x.roles.length) (hl:x.roles.length<=1000000):Tri Tryz.prog 166 [.d (.agg (axR x)), .d (.int .i64 i)] [] (λr=>r= .d (.bool (iN x i))):=by
 have hrow:=kO hi
 have hr:=aEw hi
 have hx: ∀c:Nat,aF9 x=c-> ∀b,iN x i=b->iN x i=b:= λ_ _ _ h=>h
 refine aH false [2] hty Tryz.func166 rfl (kp [0,1,2,4,5,6,8,16,21,22,23,24,30]) [] _ _ _ (by simp [Tryz.f166]) (by simp) ?_
 ((conv=>whnf);repeat ((first|(intro hq;try simp only [lnS]at hq)|refine sI ?_|refine .intro _ (.intro rfl ?_));(conv=>whnf)))
 refine dwR ?_
 ((conv=>whnf);repeat ((first|(refine⟨_,hrow, ?_⟩)|(intro hq;try simp only [lnS]at hq)|refine sI ?_|refine .intro _ (.intro rfl ?_));(conv=>whnf)))
 refine aC (λh1=> ?_) (λh1=> ?_)
 ·have hv:iN x i=false:=by unfold iN;rw [hr];simp [h1]
  rw [hv]
  ((conv=>whnf);repeat' ((first|(intro hq;(try simp only [lnS]at hq);(try rewrite [List.length_map]))|refine sJ ?_|refine .intro _ (.intro rfl ?_)|refine exL (k:= ?_)|refine dwR ?_|((first|refine aA ?_ ?_|refine aC ?_ ?_)<;>intro hb<;>(first|exact ddX hb|try simp only [lnS]at hb))|(refine aB ?_ ?_<;>intro hb<;>try exact dsX hb))<;>(conv=>whnf)))
  rfl
 ·have h1:x.roles[i]=x.role:=by simpa using h1
  ((conv=>whnf);repeat ((first|(intro hq;try simp only [lnS]at hq)|refine sI ?_|refine .intro _ (.intro rfl ?_));(conv=>whnf)))
  refine aK hty (λj:Nat=>([(1, .d (.int .i64 i)),(2, .ea 16 [axR x] 0 0),(5, .d (.int .i64 x.roles.length)),(6, .d (.int .i64 ((x.roles.take j).countP λr=>decide (r=x.role):Nat))),(21, .d (.sl 1 (x.roles.map eO))),(22, .d (.int .i64 x.roles.length)),(23, .d (.int .i64 j))],[])) (λj=>j<=x.roles.length) (λj=>x.roles.length - j) 0 (by omega) ⟨by repeat' (first|exact trivial|exact rfl|(rw [List.length_map];exact rfl)|refine And.intro ?_ ?_),trivial⟩ ?_
  rintro j hj
  ((conv=>whnf);repeat ((first|(intro hq;try simp only [lnS]at hq)|refine sI ?_|refine .intro _ (.intro rfl ?_));(conv=>whnf)))
  refine aA (λh2=> ?_) (λh2=> ?_)
  ·have hjl:j < x.roles.length:=by omega
   have hrow2:=kO hjl
   have hm:=aJi x hjl
   have hcl:=List.countP_le_length (p:= λr=>decide (r=x.role)) (l:=x.roles.take j)
   rw [List.length_take]at hcl
   generalize (x.roles.take j).countP (λr=>decide (r=x.role))=c at *
   ((conv=>whnf);repeat ((first|(refine⟨_,hrow2, ?_⟩)|(intro hq;try simp only [lnS]at hq)|refine sI ?_|refine .intro _ (.intro rfl ?_));(conv=>whnf)))
   refine aA (λh3=> ?_) (λh3=> ?_)
   ·rw [if_pos h3]at hm
    ((conv=>whnf);repeat' ((first|(intro hq;(try simp only [lnS]at hq);(try rewrite [List.length_map]))|refine sJ ?_|refine .intro _ (.intro rfl ?_)|refine exL (k:= ?_)|refine dwR ?_|((first|refine aA ?_ ?_|refine aC ?_ ?_)<;>intro hb<;>(first|exact ddX hb|try simp only [lnS]at hb))|(refine aB ?_ ?_<;>intro hb<;>try exact dsX hb))<;>(conv=>whnf)))
    refine⟨j+1,by omega,by dsimp only;omega,⟨?_,trivial⟩⟩
    dsimp only
    rw [hm]
    exact by repeat' (first|exact trivial|exact rfl|refine And.intro ?_ ?_)
   ·rw [if_neg h3]at hm
    ((conv=>whnf);repeat' ((first|(intro hq;(try simp only [lnS]at hq);(try rewrite [List.length_map]))|refine sJ ?_|refine .intro _ (.intro rfl ?_)|refine exL (k:= ?_)|refine dwR ?_|((first|refine aA ?_ ?_|refine aC ?_ ?_)<;>intro hb<;>(first|exact ddX hb|try simp only [lnS]at hb))|(refine aB ?_ ?_<;>intro hb<;>try exact dsX hb))<;>(conv=>whnf)))
    refine⟨j+1,by omega,by dsimp only;omega,⟨?_,trivial⟩⟩
    dsimp only
    rw [hm]
    exact by repeat' (first|exact trivial|exact rfl|refine And.intro ?_ ?_)
  ·have hjl:j=x.roles.length:=by omega
   subst hjl
   rw [List.take_length]
   have hm:x.roles.countP (λr=>decide (r=x.role))=aF9 x:=rfl
   rw [hm]
   have hcl:=List.countP_le_length (p:= λr=>decide (r=x.role)) (l:=x.roles)
   rw [hm]at hcl
   have hv:iN x i=((decide (aF9 x=1) && (decide (i=0) || decide (i+1=x.roles.length))) || (decide (aF9 x=2) && decide (x.roles.length=2))):=by
    unfold iN;rw [hr,h1];simp
   rw [hv]
   generalize aF9 x=c at *
   clear hx hv
   ((conv=>whnf);repeat' ((first|(intro hq;(try simp only [lnS]at hq);(try rewrite [List.length_map]))|refine sJ ?_|refine .intro _ (.intro rfl ?_)|refine exL (k:= ?_)|refine dwR ?_|((first|refine aA ?_ ?_|refine aC ?_ ?_)<;>intro hb<;>(first|exact ddX hb|try simp only [lnS]at hb))|(refine aB ?_ ?_<;>intro hb<;>try exact dsX hb))<;>(conv=>whnf)))
   all_goals (refine bQ ?_;rw [Bool.eq_iff_iff];simp only [Bool.or_eq_true,Bool.and_eq_true,decide_eq_true_eq,Bool.false_eq_true,true_iff,false_iff];omega)
end Go.Proofs.YtbobcfjlbcgchaaGreatDoor
namespace Go.Proofs.YtbobcfjlbcgchaaGreatDoor
open Go.Proofs
set_option maxRecDepth 10000
attribute [local irreducible] aJ aF Tri aG YVC bS aQ
def stH (M:List (Str×Inn)) (g:List Nat×Nat) (hp0:Hp):Hp:=(23, .cells 160 [.xv 33 nK])::(33, .ext (yJ aCa (kL 0 M) g.1 g.2))::(hpO 0 M++hp0)
structure FarH (hp0:Hp):Prop where
 lo: ∀k∈fG hp0,80<=k/\k < 100
 s:jK hp0 hp0
theorem aEo {M:List (Str×Inn)}{g:List Nat×Nat}{hp0:Hp}(F:FarH hp0):jK (stH M g hp0) (stH M g hp0):=by
 refine qG λp hp=> ?_
 unfold stH at hp |-
 rcases List.mem_cons.1 hp with rfl|hp
 ·exact eT
 ·rcases List.mem_cons.1 hp with rfl|hp
  ·exact aO eT (show 23≠33 by decide)
  ·rcases List.mem_append.1 hp with hp|hp
   ·obtain⟨i,q,h1,rfl⟩:=aBk 0 M p hp
    exact aO (aO (wW 0 M i q hp0 h1) (by omega)) (by omega)
   ·have h1:=F.lo p.1 (mM hp)
    refine aO (aO ?_ (by omega)) (by omega)
    rw [aFi 0 M p.1 hp0 (.inl (by omega))]
    exact qF F.s p hp
theorem aAs (M:List (Str×Inn)) (g:List Nat×Nat) (hp0:Hp) (F:FarH hp0) (k:Nat) (hk:k∈fG (stH M g hp0)):k=23\/k=33\/(80<=k/\k < 100)\/(1000<=k/\k < 1000+M.length):=by
 unfold stH at hk
 rw [bO,bO,aHd]at hk
 simp only [List.mem_append,List.mem_cons]at hk
 rcases hk with(h|h)|(h|h)|h|h
 ·exact .inl h
 ·have:k∈([33]:List Nat):=h
  simp at this;exact .inr (.inl this)
 ·exact .inr (.inl h)
 ·have h:k∈aOl (kL 0 M):=h
  have:=aFp 0 M k h
  omega
 ·have:=aNh 0 M k h;omega
 ·have:=F.lo k h;omega
theorem aCn {k:Str}{x:Inn}: ∀{M:List (Str×Inn)},yH k M=none->yH k (M++[(k,x)])=some M.length
 | [],_=>by simp [yH]
 |(k',y)::r,h=>by
  rw [yH]at h
  split at h
  ·cases h
  ·rename_i e
   rw [Option.map_eq_none_iff]at h
   rw [List.cons_append,yH,if_neg e,aCn h];rfl
theorem aHn {k:Str}{x y:Inn}: ∀(n:Nat) (M:List (Str×Inn)),kL n (M++[(k,x)])=kL n (M++[(k,y)])
 |_,[]=>rfl
 |n,(k',z)::r=>by rw [List.cons_append,List.cons_append,kL,kL,aHn (n+1) r]
theorem wM (s:Str): ∀l:List (Str×Bool),mK (aC0 l) s=(mK l s).map λb=>SV.d (.bool b)
 | []=>rfl
 |(k,b)::r=>by
  show mK ((k,SV.d (.bool b))::aC0 r) s=_
  rw [mK,mK,wM s r]
  split<;>rfl
theorem aCx (s:Str) (v:Bool): ∀l:List (Str×Bool),wK (aC0 l) s (.d (.bool v))=aC0 (wK l s v)
 | []=>rfl
 |(k,b)::r=>by
  show wK ((k,SV.d (.bool b))::aC0 r) s _=_
  rw [wK,wK,aCx s v r]
  split<;>rfl
theorem aD1 (o:Option Bool):sL false (o.map λb=>SV.d (.bool b)) (.d (.bool false))= .d (.bool (o.getD false)):=by cases o<;>rfl
theorem aSj {M:List (Str×Inn)}{r:Str}{x:Inn}{g:List Nat×Nat}{hp0:Hp}(F:FarH hp0):jK (stH (M++[(r,x)]) g hp0) ((1000+(0+M.length),inO x)::(23, .cells 160 [.xv 33 nK])::(33, .ext (yJ aCa (kL 0 (M++[(r,x)])) g.1 g.2))::(hpO 0 M++hp0)):=by
 refine qG λp hp=> ?_
 unfold stH at hp
 rcases List.mem_cons.1 hp with rfl|hp
 ·exact aO eT (show 1000+(0+M.length)≠23 by omega)
 ·rcases List.mem_cons.1 hp with rfl|hp
  ·exact aO (aO eT (show 23≠33 by decide)) (show 1000+(0+M.length)≠33 by omega)
  ·rcases List.mem_append.1 hp with hp|hp
   ·rw [aHe]at hp
    rcases List.mem_append.1 hp with hp|hp
    ·obtain⟨i,q,h1,rfl⟩:=aBk 0 M p hp
     have hi:=(List.getElem?_eq_some_iff.1 h1).1
     exact aO (aO (aO (wW 0 M i q hp0 h1) (show 33≠1000+(0+i)by omega)) (show 23≠1000+(0+i)by omega)) (show 1000+(0+M.length)≠1000+(0+i)by omega)
    ·simp only [List.mem_singleton]at hp
     subst hp
     exact eT
   ·have h1:=F.lo p.1 (mM hp)
    refine aO (aO (aO ?_ (by omega)) (by omega)) (by omega)
    rw [aFi 0 M p.1 hp0 (.inl (by omega))]
    exact qF F.s p hp
theorem aI2 (M:List (Str×Inn)) (g:List Nat×Nat) (r s:Str) (t:Bool) (hp0:Hp) (F:FarH hp0) {pin:Pin}{fr:Fr}{K:SV->Hp->Prop}(hp1: ∀k,1000<=k->k∉pin) (hf: ∀k,1000<=k->k∉eQ fr)
  (hk: ∀M' g',(∀T,MInv T M->MInv (T++[(r,s,t)]) M')->K (cU []) (stH M' g' hp0)):
  aF Tryz.prog pin fr (stH M g hp0) 165 [.d (.str r), .d (.str s), .d (.bool t), .ptr 23 0] K:=by
 refine aF.weak ?_
 refine aI false [] hty Tryz.func165 rfl (kp [0,1,2,3,10]) 40 (by simp [Tryz.f165]) ?_
 cases hpos:yH r M with
 |none=>
  have hm:=mJ r 0 M
  rw [hpos]at hm
  have hm2:mK (kL 0 (M++[(r,(([],([],0)):Inn))])) r=some (.xv (1000+(0+M.length)) nK):=by
   rw [mJ,aCn hpos];rfl
  unfold stH
  ((conv=>whnf);repeat ((first|(intro hq;try simp only [lnS]at hq)|refine sI ?_|refine .intro _ (.intro rfl ?_));(conv=>whnf)))
  refine dI (id:=33) (ents:=kL 0 M) (k:=r) (bs:=g.1) (clock:=g.2) rfl rfl (dO rfl) rfl rfl rfl rfl ?_
  rw [hm]
  ((conv=>whnf);repeat ((first|(intro hq;try simp only [lnS]at hq)|refine sI ?_|refine .intro _ (.intro rfl ?_));(conv=>whnf)))
  refine aAc rfl rfl true rfl (.inr ⟨rfl,rfl⟩) rfl ?_
  ((conv=>whnf);repeat ((first|(intro hq;try simp only [lnS]at hq)|refine sI ?_|refine .intro _ (.intro rfl ?_));(conv=>whnf)))
  refine aHa rfl rfl aCa (1000+(0+M.length)) ⟨?_, ?_, ?_⟩ ?_
  ·rw [gH];exact λh=>h.elim (hp1 _ (by omega)) (hf _ (by omega))
  ·simp [aZ,aU,SV.ids];omega
  ·intro h
   have:=aAs M g hp0 F _ h
   omega
  ((conv=>whnf);repeat ((first|(intro hq;try simp only [lnS]at hq)|refine sI ?_|refine .intro _ (.intro rfl ?_));(conv=>whnf)))
  refine nD (id:=33) (ents:=kL 0 M) (k:=r) (.inl rfl) rfl (dO rfl) rfl (aO (aO eT (by decide)) (by omega)) rfl rfl (λbs ck=> ?_)
  rw [vO (by omega),vO (by decide),aEr,aCw 0 M ([],([],0)) hpos]
  generalize hE:kL 0 (M++[(r,(([],([],0)):Inn))])=EE at *
  ((conv=>whnf);repeat ((first|(intro hq;try simp only [lnS]at hq)|refine sI ?_|refine .intro _ (.intro rfl ?_));(conv=>whnf)))
  rw [aO eT (by omega)]
  ((conv=>whnf);repeat ((first|(intro hq;try simp only [lnS]at hq)|refine sI ?_|refine .intro _ (.intro rfl ?_));(conv=>whnf)))
  refine dI (id:=33) (ents:=EE) (k:=r) (bs:=bs) (clock:=ck) rfl rfl (dO rfl) rfl rfl (aO (aO eT (by decide)) (by omega)) rfl ?_
  rw [hm2]
  ((conv=>whnf);repeat ((first|(intro hq;try simp only [lnS]at hq)|refine sI ?_|refine .intro _ (.intro rfl ?_));(conv=>whnf)))
  rw [aO eT (by omega)]
  ((conv=>whnf);repeat ((first|(intro hq;try simp only [lnS]at hq)|refine sI ?_|refine .intro _ (.intro rfl ?_));(conv=>whnf)))
  refine dI (id:=33) (ents:=EE) (k:=r) (bs:=bs) (clock:=ck) rfl rfl (dO rfl) rfl rfl (aO (aO eT (by decide)) (by omega)) rfl ?_
  rw [hm2]
  ((conv=>whnf);repeat ((first|(intro hq;try simp only [lnS]at hq)|refine sI ?_|refine .intro _ (.intro rfl ?_));(conv=>whnf)))
  refine dI (id:=1000+(0+M.length)) (ents:=[]) (k:=s) (bs:=[]) (clock:=0) rfl rfl (dO rfl) rfl rfl eT rfl ?_
  ((conv=>whnf);repeat ((first|(intro hq;try simp only [lnS]at hq)|refine sI ?_|refine .intro _ (.intro rfl ?_));(conv=>whnf)))
  refine nD (id:=1000+(0+M.length)) (ents:=[]) (k:=s) (.inl rfl) rfl (dO rfl) rfl eT rfl rfl (λbs2 ck2=> ?_)
  rw [aEr]
  ((conv=>whnf);repeat ((first|(intro hq;try simp only [lnS]at hq)|refine sI ?_|refine .intro _ (.intro rfl ?_));(conv=>whnf)))
  have hE2:EE=kL 0 (M++[(r,(([(s,t)],(bs2,ck2)):Inn))]):=by rw [<-hE];exact aHn 0 M
  subst hE2
  exact⟨_,aSj F,hk _ (bs,ck) (λT h=>h.new t (bs2,ck2) hpos)⟩
 |some i=>
  obtain⟨x,hi⟩:=vW hpos
  have hil:=(List.getElem?_eq_some_iff.1 hi).1
  have hm:=mJ r 0 M
  rw [hpos]at hm
  have hgi:=wW 0 M i _ hp0 hi
  have hse:= λy=>aNg 0 M i r y hp0 hil
  have hes:= λy=>aHl 0 M i r x y hi
  have hl:=aD1 (mK x.1 s)
  rw [<-wM]at hl
  have hadd: ∀v bs ck,v=((mK x.1 s).getD false || t)->HObj.ext (yJ aCa (wK (aC0 x.1) s (.d (.bool v))) bs ck)=inO (aE6 x s t (bs,ck)):= λv bs ck h=>by
   rw [aCx,h];rfl
  generalize (mK x.1 s).getD false=old at *
  unfold stH
  ((conv=>whnf);repeat ((first|(intro hq;try simp only [lnS]at hq)|refine sI ?_|refine .intro _ (.intro rfl ?_));(conv=>whnf)))
  refine dI (id:=33) (ents:=kL 0 M) (k:=r) (bs:=g.1) (clock:=g.2) rfl rfl (dO rfl) rfl rfl rfl rfl ?_
  rw [hm]
  ((conv=>whnf);repeat ((first|(intro hq;try simp only [lnS]at hq)|refine sI ?_|refine .intro _ (.intro rfl ?_));(conv=>whnf)))
  refine aAc rfl rfl false rfl (.inl ⟨_,rfl,rfl⟩) rfl ?_
  ((conv=>whnf);repeat ((first|(intro hq;try simp only [lnS]at hq)|refine sI ?_|refine .intro _ (.intro rfl ?_));(conv=>whnf)))
  refine dI (id:=33) (ents:=kL 0 M) (k:=r) (bs:=g.1) (clock:=g.2) rfl rfl (dO rfl) rfl rfl rfl rfl ?_
  rw [hm]
  ((conv=>whnf);repeat ((first|(intro hq;try simp only [lnS]at hq)|refine sI ?_|refine .intro _ (.intro rfl ?_));(conv=>whnf)))
  refine dI (id:=33) (ents:=kL 0 M) (k:=r) (bs:=g.1) (clock:=g.2) rfl rfl (dO rfl) rfl rfl rfl rfl ?_
  rw [hm]
  ((conv=>whnf);repeat ((first|(intro hq;try simp only [lnS]at hq)|refine sI ?_|refine .intro _ (.intro rfl ?_));(conv=>whnf)))
  refine dI (id:=1000+(0+i)) (ents:=aC0 x.1) (k:=s) (bs:=x.2.1) (clock:=x.2.2) rfl rfl (dO rfl) rfl rfl (aO (aO hgi (by omega)) (by omega)) rfl ?_
  rw [show ofV (Value.bool false)=SV.d (.bool false)from rfl,hl]
  have fin: ∀v,v=(old || t)-> ∀bs ck,∃hp'',jK hp'' (dU ((23, .cells 160 [.xv 33 nK])::(33, .ext (yJ aCa (kL 0 M) g.1 g.2))::(hpO 0 M++hp0)) (1000+(0+i)) (.ext (yJ aCa (wK (aC0 x.1) s (.d (.bool v))) bs ck)))/\K (cU []) hp'':=by
   intro v hv bs ck
   rw [hadd v bs ck hv,vO (by omega),vO (by omega),hse,<-hes (aE6 x s t (bs,ck))]
   exact⟨_,aEo F,hk _ g (λT h=>h.upd t (bs,ck) hi)⟩
  cases old
  ·((conv=>whnf);repeat ((first|(intro hq;try simp only [lnS]at hq)|refine sI ?_|refine .intro _ (.intro rfl ?_));(conv=>whnf)))
   refine nD (id:=1000+(0+i)) (ents:=aC0 x.1) (k:=s) (.inl rfl) rfl (dO rfl) rfl (aO (aO hgi (by omega)) (by omega)) rfl rfl (λbs2 ck2=> ?_)
   ((conv=>whnf);repeat ((first|(intro hq;try simp only [lnS]at hq)|refine sI ?_|refine .intro _ (.intro rfl ?_));(conv=>whnf)))
   exact fin t (by simp) bs2 ck2
  ·((conv=>whnf);repeat ((first|(intro hq;try simp only [lnS]at hq)|refine sI ?_|refine .intro _ (.intro rfl ?_));(conv=>whnf)))
   refine nD (id:=1000+(0+i)) (ents:=aC0 x.1) (k:=s) (.inl rfl) rfl (dO rfl) rfl (aO (aO hgi (by omega)) (by omega)) rfl rfl (λbs2 ck2=> ?_)
   ((conv=>whnf);repeat ((first|(intro hq;try simp only [lnS]at hq)|refine sI ?_|refine .intro _ (.intro rfl ?_));(conv=>whnf)))
   exact fin true (by simp) bs2 ck2
end Go.Proofs.YtbobcfjlbcgchaaGreatDoor
namespace Go.Proofs.YtbobcfjlbcgchaaGreatDoor
open Go.Proofs
set_option maxRecDepth 10000
attribute [local irreducible] aJ aF Tri aG YVC bS aQ
def mpH (M:List (Str×Inn)) (g:List Nat×Nat) (hp0:Hp):Hp:=(33, .ext (yJ aCa (kL 0 M) g.1 g.2))::(hpO 0 M++hp0)
theorem aTb {M:List (Str×Inn)}{g:List Nat×Nat}{hp0:Hp}(F:FarH hp0):jK (mpH M g hp0) (stH M g hp0):=(aEo F).2
theorem aX0 {x:Ax}(h:bL x=0) (hk:x.kind=5):0 < x.roles.length:=by
 have h1:=((kI x).1 h).shaped
 rw [hk]at h1
 unfold bI at h1
 simp only [Bool.and_eq_true,decide_eq_true_eq]at h1
 have h2:=h1.2.2.2.2.2.1
 have e:(dB 5).least=1:=rfl
 omega
theorem aIk (l:List Ax) (hv: ∀x∈l,bL x=0) (hn:l.length<=1000000) (hp0:Hp) (F:FarH hp0) {pin:Pin}{fr:Fr}{K:SV->Hp->Prop}(hp1: ∀k,1000<=k\/k=23\/k=33\/k=26->k∉pin) (hf: ∀k,1000<=k\/k=23\/k=33\/k=26->k∉eQ fr)
  (hk: ∀M g,MInv (gB l) M->K (.xv 33 nK) (mpH M g hp0)):
  aF Tryz.prog pin fr hp0 109 [.d (.sl 16 (l.map axR))] K:=by
 have hF: ∀k,k=23\/k=33->k∉fG hp0:= λk hk h=>by have:=F.lo k h;omega
 refine aF.weak ?_
 refine aI false [6] hty Tryz.func109 rfl (kp [0,2,3,4,6,7,8,11,12,13,14,18,19,27,36,39,40,41,42,49]) 20 (by simp [Tryz.f109]) ?_
 ((conv=>whnf);repeat ((first|(intro hq;try simp only [lnS]at hq)|refine sI ?_|refine .intro _ (.intro rfl ?_));(conv=>whnf)))
 refine aHa rfl rfl aCa 33 ⟨?_, ?_,hF _ (.inr rfl)⟩ ?_
 ·rw [gH];exact λh=>h.elim (hp1 _ (.inr (.inr (.inl rfl)))) (hf _ (.inr (.inr (.inl rfl))))
 ·simp [aZ,aU,SV.ids,cT,bX]
 ((conv=>whnf);repeat ((first|(refine And.intro (show eN 23 _ _ _ from⟨by intro h;exact(gH.1 h).elim (hp1 _ (.inr (.inl rfl))) (hf _ (.inr (.inl rfl))),by simp [aZ,aU,SV.ids,cT,bX],λh=>by rw [bO]at h;exact(List.mem_append.1 h).elim (λh=>by simp [HObj.ids,yJ,aOl]at h) (hF _ (.inl rfl))⟩) ?_)|(intro hq;try simp only [lnS]at hq)|refine sI ?_|refine .intro _ (.intro rfl ?_));(conv=>whnf)))
 rw [List.length_map]
 refine cX hty (λy:Nat×List (Str×Inn)×(List Nat×Nat)=>([(3, .ptr 23 0),(4, .fn 165 [] [.ptr 23 0]),(11, .d (.sl 16 (l.map axR))),(12, .d (.int .i64 l.length)),(13, .d (.int .i64 y.1))],stH y.2.1 y.2.2 hp0)) (λy=>y.1<=l.length/\MInv (gB (l.take y.1)) y.2.1) (λy=>l.length - y.1) (0,[],([],0)) ⟨by dsimp only;omega,MInv.nil⟩ (by repeat' (first|exact trivial|exact rfl|refine And.intro ?_ ?_)) rfl ?_
 rintro⟨j,M,g⟩ ⟨hj,hM⟩
 dsimp only at hj hM
 have hp1': ∀k,1000<=k->k∉pin.under fr (eQ fr):= λk h=>by rw [gH];exact λq=>q.elim (hp1 k (.inl h)) (hf k (.inl h))
 ((conv=>whnf);repeat ((first|(intro hq;try simp only [lnS]at hq)|refine sI ?_|refine .intro _ (.intro rfl ?_));(conv=>whnf)))
 refine aA (λh1=> ?_) (λh1=> ?_)
 ·have hjl:j < l.length:=by dsimp only at h1;omega
  have hrow:=jD hjl
  have hst:=aEm hjl
  have hok:=hv _ (List.getElem_mem hjl)
  have h4:=(sW hok).2.2
  have h5:=aX0 hok
  generalize l[j]=x at *
  have fr26: ∀fr':Fr,26∉eQ fr'->eN 26 (pin.under fr (eQ fr)) fr' (stH M g hp0):= λfr' h=>⟨λh=>(gH.1 h).elim (hp1 _ (by simp)) (hf _ (by simp)),h,λh=>by have:=aAs M g hp0 F _ h;omega⟩
  have nm26:26∉fG (stH M g hp0):= λh=>by have:=aAs M g hp0 F _ h;omega
  ((conv=>whnf);repeat ((first|(refine⟨_,hrow, ?_⟩)|(refine And.intro nm26 ?_)|(refine And.intro (fr26 _ (by simp [aZ,aU,SV.ids,SV.idsL])) ?_)|(intro hq;try simp only [lnS]at hq)|refine sI ?_|refine .intro _ (.intro rfl ?_));(conv=>whnf)))
  refine aA (λh2=> ?_) (λh2=> ?_)
  ·have hl0:=h5 h2
   have hrow0:(x.roles.map eO)[(0:Int).toNat]? =some (eO x.roles[0]):=kO hl0
   have hr0:=aEw hl0
   ((conv=>whnf);repeat ((first|(intro hq;try simp only [lnS]at hq)|refine sI ?_|refine .intro _ (.intro rfl ?_));(conv=>whnf)))
   refine dwR ?_
   ((conv=>whnf);repeat ((first|(refine⟨_,hrow0, ?_⟩)|(intro hq;try simp only [lnS]at hq)|refine sI ?_|refine .intro _ (.intro rfl ?_));(conv=>whnf)))
   refine aC (λh3=> ?_) (λh3=> ?_)
   ·have hsa:jP x=[(x.roles[0],x.role,false)]:=by
     unfold jP
     rw [if_pos h2,hr0,if_neg h3]
    (conv=>whnf)
    (refine yZ (id:=9) hty (.first 0 (.first 1 (.first 2 (.first 3 (.first 4 (.first 5 (.first 6 (.alt 7 .done .stop)))))))) (by kernel_rfl) (by kernel_rfl) ?_)
    ((conv=>whnf);repeat ((first|(refine⟨_,hrow0, ?_⟩)|(intro hq;try simp only [lnS]at hq)|refine sI ?_|refine .intro _ (.intro rfl ?_));(conv=>whnf)))
    refine And.intro ?_ (by exact trivial)
    ((conv=>whnf);repeat ((first|(intro hq;try simp only [lnS]at hq)|refine sI ?_|refine .intro _ (.intro rfl ?_));(conv=>whnf)))
    refine aI2 M g x.roles[0] x.role false hp0 F hp1' (λk hk=>by simp [aZ,aU,SV.ids,SV.idsL];omega) (λM' g' hM'=> ?_)
    ((conv=>whnf);repeat ((first|(intro hq;try simp only [lnS]at hq)|refine sI ?_|refine .intro _ (.intro rfl ?_));(conv=>whnf)))
    exact⟨(j+1,M',g'),⟨by omega,by dsimp only;rw [hst,hsa];exact hM' _ hM⟩,by dsimp only;omega,by repeat' (first|exact trivial|exact rfl|refine And.intro ?_ ?_),rfl⟩
   ·have hsa:jP x=[]:=by
     unfold jP
     rw [if_pos h2,hr0,if_pos h3]
    ((conv=>whnf);repeat' ((first|(intro hq;(try simp only [lnS]at hq);(try rewrite [List.length_map]))|refine sJ ?_|refine .intro _ (.intro rfl ?_)|refine exL (k:= ?_)|refine dwR ?_|((first|refine aA ?_ ?_|refine aC ?_ ?_)<;>intro hb<;>(first|exact ddX hb|try simp only [lnS]at hb))|(refine aB ?_ ?_<;>intro hb<;>try exact dsX hb))<;>(conv=>whnf)))
    rw [hsa,List.append_nil]at hst
    refine⟨(j+1,M,g),⟨by omega,by rw [hst];exact hM⟩,by dsimp only;omega,by repeat' (first|exact trivial|exact rfl|refine And.intro ?_ ?_),rfl⟩
  ·((conv=>whnf);repeat ((first|(intro hq;try simp only [lnS]at hq)|refine sI ?_|refine .intro _ (.intro rfl ?_));(conv=>whnf)))
   refine aA (λh3=> ?_) (λh3=> ?_)
   ·have hsa:jP x=mX x (List.range x.roles.length):=by
     unfold jP
     rw [if_neg h2,if_pos h3]
    ((conv=>whnf);repeat ((first|(intro hq;try simp only [lnS]at hq)|refine sI ?_|refine .intro _ (.intro rfl ?_));(conv=>whnf)))
    rw [List.length_map]
    refine cX hty (λy:Nat×List (Str×Inn)×(List Nat×Nat)=>([(3, .ptr 23 0),(4, .fn 165 [] [.ptr 23 0]),(6, .ea 16 [axR x] 0 0),(11, .d (.sl 16 (l.map axR))),(12, .d (.int .i64 l.length)),(13, .d (.int .i64 j)),(39, .d (.sl 1 (x.roles.map eO))),(40, .d (.int .i64 x.roles.length)),(41, .d (.int .i64 y.1))],stH y.2.1 y.2.2 hp0)) (λy=>y.1<=x.roles.length/\MInv (gB (l.take j)++mX x (List.range y.1)) y.2.1) (λy=>x.roles.length - y.1) (0,M,g) ⟨by dsimp only;omega,by simpa [mX]using hM⟩ (by repeat' (first|exact trivial|exact rfl|refine And.intro ?_ ?_)) rfl ?_
    rintro⟨k,M2,g2⟩ ⟨hk2,hM2⟩
    dsimp only at hk2 hM2
    ((conv=>whnf);repeat ((first|(intro hq;try simp only [lnS]at hq)|refine sI ?_|refine .intro _ (.intro rfl ?_));(conv=>whnf)))
    refine aA (λh5=> ?_) (λh5=> ?_)
    ·have hkl:k < x.roles.length:=by dsimp only at h5;omega
     have hrow2:=kO hkl
     have hrk:=aEw hkl
     have hex:=aFn x k hkl (by omega)
     have hcs:=aFs x k
     rw [hrk]at hcs
     generalize iN x k=b at *
     ((conv=>whnf);repeat ((first|(refine⟨_,hrow2, ?_⟩)|(refine aD [] hex trivial (λr hs=> ?_);subst hs)|(intro hq;try simp only [lnS]at hq)|refine sI ?_|refine .intro _ (.intro rfl ?_));(conv=>whnf)))
     cases b
     ·rw [if_neg (by decide)]at hcs
      ((conv=>whnf);repeat ((first|(intro hq;try simp only [lnS]at hq)|refine sI ?_|refine .intro _ (.intro rfl ?_));(conv=>whnf)))
      refine aI2 M2 g2 x.roles[k] x.role true hp0 F hp1' (λk hk=>by simp [aZ,aU,SV.ids,SV.idsL];omega) (λM' g' hM'=> ?_)
      ((conv=>whnf);repeat ((first|(intro hq;try simp only [lnS]at hq)|refine sI ?_|refine .intro _ (.intro rfl ?_));(conv=>whnf)))
      exact⟨(k+1,M',g'),⟨by dsimp only;omega,by dsimp only;rw [hcs,<-List.append_assoc];exact hM' _ hM2⟩,by dsimp only;omega,by repeat' (first|exact trivial|exact rfl|refine And.intro ?_ ?_),rfl⟩
     ·rw [if_pos rfl,List.append_nil]at hcs
      ((conv=>whnf);repeat' ((first|(intro hq;(try simp only [lnS]at hq);(try rewrite [List.length_map]))|refine sJ ?_|refine .intro _ (.intro rfl ?_)|refine exL (k:= ?_)|refine dwR ?_|((first|refine aA ?_ ?_|refine aC ?_ ?_)<;>intro hb<;>(first|exact ddX hb|try simp only [lnS]at hb))|(refine aB ?_ ?_<;>intro hb<;>try exact dsX hb))<;>(conv=>whnf)))
      exact⟨(k+1,M2,g2),⟨by dsimp only;omega,by dsimp only;rw [hcs];exact hM2⟩,by dsimp only;omega,by repeat' (first|exact trivial|exact rfl|refine And.intro ?_ ?_),rfl⟩
    ·have hkl:k=x.roles.length:=by dsimp only at h5;omega
     subst hkl
     rw [<-hsa,<-hst]at hM2
     ((conv=>whnf);repeat' ((first|(intro hq;(try simp only [lnS]at hq);(try rewrite [List.length_map]))|refine sJ ?_|refine .intro _ (.intro rfl ?_)|refine exL (k:= ?_)|refine dwR ?_|((first|refine aA ?_ ?_|refine aC ?_ ?_)<;>intro hb<;>(first|exact ddX hb|try simp only [lnS]at hb))|(refine aB ?_ ?_<;>intro hb<;>try exact dsX hb))<;>(conv=>whnf)))
     exact⟨(j+1,M2,g2),⟨by dsimp only;omega,hM2⟩,by dsimp only;omega,by repeat' (first|exact trivial|exact rfl|refine And.intro ?_ ?_),rfl⟩
   ·have hsa:jP x=[]:=by
     unfold jP
     rw [if_neg h2,if_neg h3]
    ((conv=>whnf);repeat' ((first|(intro hq;(try simp only [lnS]at hq);(try rewrite [List.length_map]))|refine sJ ?_|refine .intro _ (.intro rfl ?_)|refine exL (k:= ?_)|refine dwR ?_|((first|refine aA ?_ ?_|refine aC ?_ ?_)<;>intro hb<;>(first|exact ddX hb|try simp only [lnS]at hb))|(refine aB ?_ ?_<;>intro hb<;>try exact dsX hb))<;>(conv=>whnf)))
    rw [hsa,List.append_nil]at hst
    exact⟨(j+1,M,g),⟨by omega,by dsimp only;rw [hst];exact hM⟩,by dsimp only;omega,by repeat' (first|exact trivial|exact rfl|refine And.intro ?_ ?_),rfl⟩
 ·have hjl:j=l.length:=by dsimp only at h1;omega
  subst hjl
  rw [List.take_length]at hM
  ((conv=>whnf);repeat ((first|(intro hq;try simp only [lnS]at hq)|refine sI ?_|refine .intro _ (.intro rfl ?_));(conv=>whnf)))
  exact⟨_,aTb F,hk M g hM⟩
end Go.Proofs.YtbobcfjlbcgchaaGreatDoor
