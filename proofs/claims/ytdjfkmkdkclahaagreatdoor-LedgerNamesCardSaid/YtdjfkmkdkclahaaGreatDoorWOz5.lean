/-
  Regions that draw their order, as a tree: reads of objects that no step writes are taken first, though rows may be written meanwhile. Ledgers, the law: the names of variables and the order of atoms do not matter.
  Conditions: none.
-/
import Derived.Test.YtdjfkmkdkclahaaGreatDoorWOh
import Derived.Test.YtdjfkmkdkclahaaGreatDoorWSzg
set_option linter.unnecessarySimpa false
set_option linter.unusedSectionVars false
set_option linter.unusedSimpArgs false
set_option linter.unusedVariables false
set_option maxHeartbeats 16000000
namespace Go.Proofs.YtdjfkmkdkclahaaGreatDoor
section
open Go.Proofs
section
variable {P:Program}
def iX (L:List Nat):Hp->Hp
 | []=>[]
 |p::r=>if L.elem p.1 then p::iX L r else iX L r
theorem fH {L:List Nat}{id:Nat}{o:HObj}: ∀{hp:Hp},aM (iX L hp) id=some o->L.elem id=true/\aM hp id=some o
 | [],h=>by simp [iX,aM]at h
 |(k,x)::r,h=>by
  unfold iX at h
  simp only [aM]
  split at h
  ·rename_i hk
   simp only [aM]at h
   split at h
   ·rename_i e;subst e;exact⟨hk,by rw [if_pos rfl];exact h⟩
   ·rename_i e;rw [if_neg e];exact fH h
  ·rename_i hk
   obtain⟨h1,h2⟩:=fH h
   rw [if_neg (λe=>hk (by rw [e];exact h1))]
   exact⟨h1,h2⟩
theorem pH {L:List Nat}{id:Nat}(hL:L.elem id=true): ∀(hp:Hp),aM (iX L hp) id=aM hp id
 | []=>rfl
 |(k,x)::r=>by
  unfold iX
  simp only [aM]
  split
  ·simp only [aM]
   split
   ·rfl
   ·exact pH hL r
  ·rename_i hk
   rw [if_neg (λe=>hk (by rw [e];exact hL))]
   exact pH hL r
def aJm (P:Program) (L:List Nat) (o:Oper) (fr:Fr) (hp:Hp) (K:SV->Hp->Prop):Prop:=
 ∀(E:Entry) (ρ:Env) (a:Act) (w:World),Mem E ρ hp w->bW ρ w fr a.tmps-> ∀(next:Act->World->Prop) (Q:Exit->Act->World->Prop),
  (∀v w' ρ' s hp',K s hp'->Mem E ρ' hp' w'->bW ρ' w' fr a.tmps->Rep w' ρ' s v->Kept ρ (iX L hp) w w'->(∀id,L.elem id=true->aM hp' id=aM hp id/\ ∀x g,aM hp id=some x->ρ.kb id x=some g->ρ'.kb id x=some g)->next (a.put o.dst v) w')->o.wp P a w next Q
theorem aOx {L:List Nat}{ρ ρ':Env}{hp hp':Hp}{w w' w2:World}(h1:Kept ρ (iX L hp) w w') (hS: ∀b i,ρ.S b i->ρ'.S b i) (h2: ∀id,L.elem id=true->aM hp' id=aM hp id/\ ∀x g,aM hp id=some x->ρ.kb id x=some g->ρ'.kb id x=some g) (h3:Kept ρ' (iX L hp') w' w2):Kept ρ (iX L hp) w w2:=by
 refine⟨λb i hs=>(h3.s b i (hS b i hs)).trans (h1.s b i hs),λid x g hx hg=> ?_⟩
 obtain⟨q1,q2⟩:=fH hx
 obtain⟨q3,q4⟩:=h2 id q1
 exact(h3.o id x g (by rw [pH q1,q3];exact q2) (q4 x g q2 hg)).trans (h1.o id x g hx hg)
theorem Kept.only {L:List Nat}{ρ:Env}{hp:Hp}{w w':World}(h:Kept ρ hp w w'):Kept ρ (iX L hp) w w':=⟨h.s,λid x g hx hg=>h.o id x g (fH hx).2 hg⟩
theorem aIg {L:List Nat}{o:Oper}{fr:Fr}{hp:Hp}{K:SV->Hp->Prop}(h:cP P o fr hp λs=>K s hp):aJm P L o fr hp K:=by
 intro E ρ a w hm hf next Q hn
 obtain⟨v,s,q1,q2,q3⟩:=h E ρ a w hm hf
 exact bN (q1 w (Kept.refl ..)) (hn v w ρ s hp q3 hm hf q2 (Kept.refl ..) λid _=>⟨rfl,λx g _ hg=>hg⟩)
theorem aFi {L:List Nat}{o:Oper}{f:Operand}{args:Array Operand}{ts:Array TypeId}(ho:o.op= .call { callee:= .value f,args:=args,argTypes:=ts }) {fr:Fr}{hp:Hp}{K:SV->Hp->Prop}
  (h:wA P fr hp f args.toList λs=>K s hp):aJm P L o fr hp K:=by
 intro E ρ a w hm hf next Q hn
 obtain⟨s,hs,hv⟩:=bR h
 have hr:=aR hf hs
 split at hv
 ·rename_i g first cap hfn
  obtain⟨fv,cv,e,h1,h2⟩:=rF hfn hr
  split at hv
  ·rename_i l hl
   obtain⟨hcall,hpc,post,hsub,htri,hk⟩:=hv
   obtain⟨l1,l2⟩:=nD hf _ _ hl
   have hargs:bU w ρ (first++l++cap) (fv++args.map a.eval++cv):=by
    refine(h1.append ⟨?_, ?_⟩).append h2
    ·simpa using l1
    ·intro j s' v hs' hv'
     refine l2 j s' v hs' ?_
     rw [<-Array.toList_map];simpa using hv'
   unfold Oper.wp
   rw [eK ho e hcall]
   simp only [Oper.upon]
   refine(htri w ρ _ hm.slt hargs λid o ho=>(hm.sat id o (eV _ _ hsub id o ho)).ro_).mono ?_
   rintro e' w' ⟨v,S',s',q1,q2,q3,q4,q5,q6,q7⟩
   subst q1
   obtain⟨m1,m2⟩:=hm.grow q3 S' q4 q5 q6
   exact hn v w' _ s' hp (hk s' q2) m1 (m2 fr _ hf) q7 (hm.kept_grew q3).only λid _=>⟨rfl,λx g _ hg=>by cases x<;>exact hg⟩
  ·exact hv.elim
 ·exact hv.elim
def aEm (ti:TypeId->Option TI) (t:TypeId) (id z i off ver:Nat) (x:SV) (hp:Hp) (K:Hp->Prop):Prop:=
 match ti t with
 |some T=>
  (match aM hp id with
  |some (.mrow e z' cap rows)=>z=z'/\ver=rows.length/\ ∃row,rows[i]? =some row/\T.td.isAgg=false/\
   (match asD x with
    |some y=>T.size=1/\yF y=true/\off < z/\gB hp id (.mrow e z cap (rows.set i (row.set off y))) K
    |none=>aD "store: no datum")
  |_=>aD "store: no such rows")
 |none=>aD "store: a type"
theorem aFe {L:List Nat}{ti:TypeId->Option TI}(hti:cG P ti) {o:Oper}{t:TypeId}{x y:Operand}(ho:o.op= .store t x y) {fr:Fr}{hp:Hp}{K:SV->Hp->Prop}{id z i off ver:Nat}{r:SV}(hs:evO fr x=some (.mp id z i off ver)) (hr:evO fr y=some r) (hid:L.elem id=false)
  (hv:aEm ti t id z i off ver r hp λhp'=>K (.d (.lit undef)) hp'):aJm P L o fr hp K:=by
 intro E ρ a w hm hf next Q hn
 have h1:=aR hf hs
 have h2:=aR hf hr
 unfold aEm at hv
 split at hv
 ·rename_i T hT
  obtain⟨d,i0,z0,hT⟩:=aL (hti _ _ hT)
  split at hv
  ·rename_i e0 z' cap rows hoo
   obtain⟨rfl,hver,row,hrow,hag,hv⟩:=hv
   obtain⟨n0,m0⟩:=hm.sat id _ hoo
   obtain⟨ad,e1,_,hg0⟩:=h1.mp_inv
   obtain⟨g,hg,rfl⟩:=hg0 (by omega)
   have hrl:row.length=z:=by obtain⟨_,_,_,_,q,_⟩:=m0.row hrow;exact q
   split at hv
   ·rename_i y' hy'
    obtain⟨k1,k2,k3,hk⟩:=hv
    have hd:=aCf hy' h2
    have ho1:=lH hd k2
    have hcells:(a.eval y).cells= #[a.eval y]:=by
     generalize a.eval y=u at *
     cases u<;>simp_all [Value.oneCell',Value.cells]
    obtain ⟨g', cur, c1, c2, c3, c4⟩ := m0.set (off := off) (ns := [y']) (nv := [a.eval y]) hrow (by simp) (by simp only [List.length_singleton]; omega) (by intro u hu; simp at hu; subst hu; exact ho1) (by
     intro j s u hs' hu
     cases j with
     |zero=>simp at hs' hu;subst hs';subst hu;exact hd
     |succ j=>simp at hs')
    rw [hg]at c1;injection c1 with c1;subst c1
    have e2:row.take off++[y']++row.drop (off+[y'].length)=row.set off y':=by
     rw [List.set_eq_take_append_cons_drop,if_pos (by omega)]
     simp
    rw [e2]at c4
    have hlen:(rows.set i (row.set off y')).length=rows.length:=List.length_set
    obtain⟨s1,s2,s3⟩:=hm.setMrow hoo (w':=w.setRow g (cur.toList.take (i * z+off)++[a.eval y]++cur.toList.drop (i * z+off+[a.eval y].length)).toArray) (v':=ρ.tv id) rfl rfl ⟨rfl,Nat.le_refl _⟩ (by simp [World.setRow]) (λb _ hb=>setRow_other w g b _ (λe=>hb (e ▸ hg))) c4 (λg hg=> .inl hg) (.inl ⟨hlen,rfl⟩)
    rw [cM]at hk
    have hne: ∀k,L.elem k=true->k≠id:= λk hk e=>by rw [e,hid]at hk;cases hk
    refine nU ?_ (hn undef _ _ _ _ hk s1 (hf.mono s2 (λ_ _ x=>x) λi _=>s3 i) (.d _ _ (.lit _)) ⟨s2,λk x g2 hx hg2=> ?_⟩ λk hk=>⟨?_,λx g2 hx hg2=> ?_⟩)
    ·simp [execOp,ho,Instr.storeAt,e1,Instr.sureAddr,iP hT w g (i * z+off) (a.eval y) (by simp [hcells,k1]) cur e0 c2 (by simpa [hcells]using c3) (by simp [hcells,ho1]),hcells]
    ·obtain⟨q1,q2⟩:=fH hx
     refine setRow_other w g g2 _ λe=> ?_
     have hat:ρ.at id (.mrow e0 z cap rows)=some g2:=by rw [e];exact hg
     cases x<;>first|exact hne k q1 (hm.inj k _ id _ g2 q2 hoo hg2 hat)|exact hm.ro k _ g2 q2 trivial hg2 id _ hoo hat|cases hg2
    ·rw [aX _ hoo,if_neg (hne k hk)]
    ·cases x<;>first|exact hg2|(simp only [Env.kb,Env.retop]at hg2 |-;rw [if_neg (hne k hk)];exact hg2)
   ·exact hv.elim
  ·exact hv.elim
 ·exact hv.elim
def lVC (P:Program) (ti:TypeId->Option TI) (L:List Nat) (fr:Fr) (hp:Hp) (o:Oper) (K:SV->Hp->Prop):Prop:=
 match o.op with
 | .call { callee:= .value f,args:=args,argTypes:=_ }=>wA P fr hp f args.toList λs=>K s hp
 | .store t x y => ev fr x λs => ev fr y λr => (match s with
   | .mp id z i off ver=>L.elem id=false/\aEm ti t id z i off ver r hp λhp'=>K (.d (.lit undef)) hp'
   |_=>aD "store: not into rows")
 |_=>jZ P ti fr hp o λs=>K s hp
theorem aQ5 {L:List Nat}{ti:TypeId->Option TI}(hti:cG P ti) {o:Oper}{fr:Fr}{hp:Hp}{K:SV->Hp->Prop}(h:lVC P ti L fr hp o K):aJm P L o fr hp K:=by
 unfold lVC at h
 split at h
 ·rename_i ho;exact aFi ho h
 ·rename_i ho
  obtain⟨s,hs,h⟩:=bR h
  obtain⟨r,hr,h⟩:=bR h
  split at h
  ·exact aFe hti ho hs hr h.1 h.2
  ·exact h.elim
 ·exact aIg (vI hti h)
def aNh (L:List Nat) (C:Cfg) (all:List Oper) (i:Nat) (fr:Fr) (hp:Hp) (k:Fr->Hp->Prop):Prop:=
 match all[i]? with
 |some o=>
  hX all fr o.guard
   (λfr=>lVC C.P C.ti L fr hp o λs hp'=>put C o.dst s fr λfr'=>k fr' hp')
   (λfr=>put C o.dst (.d (.lit undef)) fr λfr'=>k fr' hp)
 |none=>aD "no such operation"
def iL (L:List Nat) (C:Cfg) (all:List Oper) (K:Fr->Hp->Prop):OT->Fr->Hp->Prop
 | .done,fr,hp=>iU C.keep fr λfr'=>K fr' hp
 | .stop,_,_=>True
 | .first i t,fr,hp=>yV C all i fr (iX L hp) λfr' _=>iL L C all K t fr' hp
 | .alt i t r,fr,hp=>aNh L C all i fr hp (λfr' hp'=>iL L C all K t fr' hp')/\iL L C all K r fr hp
theorem zT {L:List Nat}{C:Cfg}(hti:cG C.P C.ti) {all:List Oper}{K:Fr->Hp->Prop}(hsel:Region.noSelect all.toArray=true):
  ∀(T:OT) (fuel:Nat) (listed:Array Bool) (fr:Fr) (hp:Hp) (ρ:Env) (a:Act) (w:World) (E:Entry),E.pin=C.pin->E.w=w->E.S=ρ.S->iL L C all K T fr hp->Mem E ρ hp w->a.tmps.size=C.nt->a.defers=(E.D.take E.k).map tZ++E.pin.pre->bW ρ w fr a.tmps->
  (kA all.toArray T listed false=true->T.depth<=fuel->wpS C.P all.toArray (λa w=> ∃fr hp,K fr hp/\Sat E C.nt ⟨fr,hp⟩ a w) fuel (Kept ρ (iX L hp) w) listed a w)/\
  (∀inn,kA all.toArray T listed inn=true->T.depth<=fuel+1-> ∀i∈T.heads,aJi C all (λa w=> ∃fr hp,K fr hp/\Sat E C.nt ⟨fr,hp⟩ a w) fuel (Kept ρ (iX L hp) w) listed a w i):=by
 intro T
 induction T with
 |done=>
  intro fuel listed fr hp ρ a w E hpin hEw hES h hm h1 h2 h3
  refine⟨λhB _=> ?_,λ_ _ _ i hi=>by simp [OT.heads]at hi⟩
  simp only [kA,Bool.not_false,Bool.true_and,List.isEmpty_iff]at hB
  simp only [iL,fO]at h
  have hq: ∃fr hp,K fr hp/\Sat E C.nt ⟨fr,hp⟩ a w:=⟨_,hp,h,h1,h2,ρ,hm,λt s hts=>h3 t s (eE _ _ t s hts)⟩
  cases fuel with
  |zero=>exact⟨hB,hq⟩
  |succ n=>exact⟨λ_=>hq,λi hi=>by rw [hB]at hi;cases hi⟩
 |stop=>
  intro fuel listed fr hp ρ a w E hpin hEw hES h hm h1 h2 h3
  exact⟨λhB=>by simp [kA]at hB,λ_ _ _ i hi=>by simp [OT.heads]at hi⟩
 |first i t ih=>
  intro fuel listed fr hp ρ a w E hpin hEw hES h hm h1 h2 h3
  refine⟨λhB hd=> ?_,λ_ _ _ i hi=>by simp [OT.heads]at hi⟩
  simp only [iL,yV]at h
  split at h
  ·rename_i o ho
   have ho':all.toArray[i]? =some o:=by simpa using ho
   simp only [kA,ho',Bool.not_false,Bool.true_and,Bool.and_eq_true,decide_eq_true_eq,List.contains_iff_mem]at hB
   obtain⟨⟨⟨hk,hr⟩,hf⟩,hB⟩:=hB
   simp only [OT.depth]at hd
   obtain⟨fuel,rfl⟩: ∃n,fuel=n+1:=⟨fuel - 1,by omega⟩
   have hm0:Mem E ρ (iX L hp) w:=hm.sub (λid o ho=>(fH ho).2)
   obtain⟨fr0,h3,hh⟩:=cC h h3
   rcases hh with⟨hw,h⟩|⟨hw,h⟩
   ·rcases aNq hti h with⟨_,hd',_⟩|⟨hk',_⟩|⟨hk',_⟩
    ·obtain⟨v,s,q1,q2,q3⟩:=hd' E ρ a w hm0 h3
     obtain⟨fr',p1,p2⟩:=cN q3 h1 h3 q2
     exact gH ho' hsel fuel _ listed a w (Kept.refl ..) (Region.free_spec ho' hf) hr (v:=v) (.inl ⟨hw,λw' hw'=>q1 w' hw'⟩)
      ((ih fuel _ fr' hp ρ _ w E hpin hEw hES p1 hm (by rw [aU];exact h1) (by rw [put_defers];exact h2) p2).1 hB (by omega))
    ·omega
    ·omega
   ·obtain⟨fr',p1,p2⟩:=cN h h1 h3 (Rep.d _ undef (.lit undef))
    exact gH ho' hsel fuel _ listed a w (Kept.refl ..) (Region.free_spec ho' hf) hr (v:=undef) (.inr ⟨hw,rfl⟩) ((ih fuel _ fr' hp ρ _ w E hpin hEw hES p1 hm (by rw [aU];exact h1) (by rw [put_defers];exact h2) p2).1 hB (by omega))
  ·exact h.elim
 |alt i t r iht ihr=>
  intro fuel listed fr hp ρ a w E hpin hEw hES h hm h1 h2 h3
  have key: ∀inn,kA all.toArray (.alt i t r) listed inn=true-> ∀n,(OT.alt i t r).depth<=n+1-> ∀j∈(OT.alt i t r).heads,aJi C all (λa w=> ∃fr hp,K fr hp/\Sat E C.nt ⟨fr,hp⟩ a w) n (Kept ρ (iX L hp) w) listed a w j:=by
   intro inn hB n hd j hj
   simp only [kA,Bool.and_eq_true]at hB
   obtain⟨⟨⟨_,hsome⟩,hBt⟩,hBr⟩:=hB
   simp only [OT.depth]at hd
   simp only [iL]at h
   simp only [OT.heads,List.mem_cons]at hj
   rcases hj with rfl|hj
   ·have h:=h.1
    unfold aNh at h
    split at h
    ·rename_i o ho
     have ho':all.toArray[j]? =some o:=by simpa using ho
     unfold aJi
     simp only [ho']
     obtain⟨fr0,h3,hh⟩:=cC h h3
     rcases hh with⟨hw,h⟩|⟨hw,h⟩
     ·rw [if_pos hw]
      refine aQ5 hti h E ρ a w hm h3 _ noX λv w' ρ' s hp' k1 k2 k3 k4 k5 k6=> ?_
      obtain⟨fr',p1,p2⟩:=cN k1 h1 k3 k4
      have hso: ∀b i,ρ.S b i->ρ'.S b i:=by have:=k2.sold;rwa [hES]at this
      refine⟨k5, ?_⟩
      have hm2:Mem { aV w' ρ' hp' E.pin E.rd E.D with k:=E.k } ρ' hp' w':=by
       have:=k2.enter E.pin E.rd
       exact⟨this.os,this.tape,this.output,this.size,this.old,this.sold,this.snew,this.slt,this.kp,this.sat,this.inj,this.hb,this.mv,this.ro,this.md⟩
      have:=(iht n _ fr' hp' ρ' _ w' { aV w' ρ' hp' E.pin E.rd E.D with k:=E.k } hpin rfl rfl p1 hm2 (by rw [aU];exact h1) (by rw [put_defers];exact h2) p2).1 hBt (by omega)
      refine gS ?_ _ _ _ _ _ _ (λw2 hw2=>aOx k5 hso k6 hw2) this
      rintro a3 w3 ⟨fr3,hp3,q1,q2,q3,ρ3,q4,q5⟩
      exact⟨fr3,hp3,q1,q2,q3,ρ3,k2.leave (pin:=E.pin) (rd:=E.rd) q4 ⟨rfl,rfl,rfl,rfl,rfl,λb hb=>hb⟩ (λid hid=>hid),q5⟩
     ·rw [if_neg (by rw [hw];decide)]
      obtain⟨fr',p1,p2⟩:=cN h h1 h3 (Rep.d _ undef (.lit undef))
      exact(iht n _ fr' hp ρ _ w E hpin hEw hES p1 hm (by rw [aU];exact h1) (by rw [put_defers];exact h2) p2).1 hBt (by omega)
    ·exact h.elim
   ·exact(ihr n listed fr hp ρ a w E hpin hEw hES h.2 hm h1 h2 h3).2 true hBr (by omega) j hj
  refine⟨λhB hd=> ?_,λinn hB hd=>key inn hB fuel hd⟩
  have hd':=hd
  simp only [OT.depth]at hd'
  obtain⟨fuel,rfl⟩: ∃n,fuel=n+1:=⟨fuel - 1,by omega⟩
  have hc:=hB
  simp only [kA,Bool.false_or,Bool.and_eq_true,Bool.not_eq_true',List.all_eq_true,List.contains_iff_mem]at hc
  obtain⟨⟨⟨⟨hne,hcov⟩,_⟩,_⟩,_⟩:=hc
  refine⟨λh0=> ?_,λj hj=> ?_⟩
  ·rw [h0]at hne;cases hne
  ·exact key false hB fuel hd j (hcov j hj)
theorem aCq (L:List Nat) {C:Cfg}(hti:cG C.P C.ti) {id:Nat}{l:List Oper}{fr:Fr}{hp:Hp}{K:Ex->Fr->Hp->Prop}(T:OT) (hm:C.P.follows .mixedOrders=true)
  (hB:(decide (T.depth<=l.length) && Region.noSelect l.toArray && kA l.toArray T (Array.replicate l.length false) false && eZ l)=true) (h:iL L C l (K .normal) T fr hp):aH C (.region id l.toArray true) fr hp K:=by
 intro E a w hpin hrd ⟨h1,h2,ρ,h3,h4⟩
 simp only [Bool.and_eq_true,decide_eq_true_eq]at hB
 obtain⟨⟨⟨b1,b2⟩,b3⟩,hnd⟩:=hB
 refine cH hm hnd fV.noOut ?_
 obtain⟨m1,m2⟩:=h3.grow_same (Grew.drew w)
 generalize hw1:w.drew=w1 at *
 have hm2:Mem { aV w1 ρ hp E.pin E.rd E.D with k:=E.k } ρ hp w1:=by
  have:=m1.enter E.pin E.rd
  exact⟨this.os,this.tape,this.output,this.size,this.old,this.sold,this.snew,this.slt,this.kp,this.sat,this.inj,this.hb,this.mv,this.ro,this.md⟩
 have:=(zT (L:=L) (C:=C) hti b2 T l.length (Array.replicate l.length false) fr hp ρ a w1 { aV w1 ρ hp E.pin E.rd E.D with k:=E.k } hpin rfl rfl h hm2 h1 h2 (m2 fr _ h4)).1 b3 b1
 have h5:=jD (Q:=fV C E K) _ _ _ _ _ (gS (Q':=fV C E K .normal) (λa w ⟨fr',hp',k1,q2,q3,ρ3,q4,q5⟩=>⟨.normal,fr',hp',E, .refl E,trivial,k1,q2,q3,ρ3,m1.leave (pin:=E.pin) (rd:=E.rd) q4 ⟨rfl,rfl,rfl,rfl,rfl,λb hb=>hb⟩ (λid hid=>hid),q5⟩) _ _ _ _ _ _ (λ_ h=>h) this)
 have e:l.toArray.size=l.length:=by simp
 rw [e]
 subst hw1
 exact h5
end
end
section
open Go.Proofs Go.RowKit
set_option maxRecDepth 10000
attribute [local irreducible] aH aF Tri aD YVC bO aP
theorem aAe (ps:List (List At)) (p:List At) (w x y z:UInt8) (turn:Int):Tri Tryz.prog 7 [.d (.sl 1 (ps.map aI)), .d (.agg (aI p)), .d (.agg [.int .u8 w.toNat, .int .u8 x.toNat, .int .u8 y.toNat, .int .u8 z.toNat]), .d (.int .i64 turn)] [] (λr=>r= .d (.bool true)):=by
 have f1:=vV ps
 have g1:=sG ps
 generalize yD ps=L at *
 generalize aIz ps=b1 at *
 have hpl:(p.map atR).length=p.length:=List.length_map ..
 obtain⟨m,hm,hm1⟩:=aJh turn
 rw [show lgR L=[.str L.reader, .int .i64 L.version, .sl 2 (L.entries.map bM)]from rfl]at g1
 rw [show aI p=[.sl 6 (p.map atR)]from rfl]
 by_cases h5:¬ (b1=true/\p≠[]/\p.length<=5)
 ·refine qG [5,6] hty Tryz.func7 [0,1,2,3,5,6,8,9,10,11,12,13,14,15,16,17,18,19,21,36,41,68,69,70] ?_
  cases b1
  ·((conv=>whnf);repeat' ((first|(intro hq;(try simp only [lnS]at hq);(try rewrite [List.length_map]))|refine sJ ?_|refine qE_ ?_|refine exL (k:=?_)| refine qT mK ?_|refine qT f1 ?_|refine dwR ?_|((first|refine aB ?_ ?_|refine aC ?_ ?_)<;>intro hb<;>(first|exact ddX hb|try simp only [lnS]at hb))|(refine aA ?_ ?_<;>intro hb<;>try exact dsX hb))<;>(conv=>whnf)))
   rfl
  ·((conv=>whnf);repeat' ((first|(intro hq;(try simp only [lnS]at hq);(try rewrite [List.length_map]))|refine sJ ?_|refine qE_ ?_|refine exL (k:=?_)| refine qT mK ?_|refine qT f1 ?_|refine dwR ?_|((first|refine aB ?_ ?_|refine aC ?_ ?_)<;>intro hb<;>(first|exact ddX hb|try simp only [lnS]at hb))|(refine aA ?_ ?_<;>intro hb<;>try exact dsX hb))<;>(conv=>whnf)))
   all_goals first|rfl|exact absurd ⟨rfl,by rintro rfl;simp_all,by omega⟩ h5
 have h5:=Decidable.not_not.1 h5
 obtain⟨rfl,hp0,hp5⟩:=h5
 have hp1:1<=p.length:=by cases p with
  |nil=>exact absurd rfl hp0
  |cons a r=>simp
 have hv:=eG p (by omega)
 rw [show aI p=[.sl 6 (p.map atR)]from rfl]at hv
 have hvm:((aQ p).map aT).length=(aQ p).length:=List.length_map ..
 refine mR true [5,6,13,14,17] hty Tryz.func7 rfl (kp [0,1,2,3,5,6,8,9,10,11,12,13,14,15,16,17,18,19,21,36,41,68,69,70]) [] _ _ _ (by simp [Tryz.f7]) (by decide) ?_
 refine aZ (cV hty ?_)
 ((conv=>whnf);repeat ((first |(intro hq;try simp only [lnS]at hq)|refine sI ?_|refine qE_ ?_);conv=>whnf))
 refine aZ (cV hty ?_)
 ((conv=>whnf);repeat ((first|refine qT mK ?_ |(intro hq;try simp only [lnS]at hq)|refine sI ?_|refine qE_ ?_);conv=>whnf))
 refine aZ (cV hty ?_)
 ((conv=>whnf);repeat ((first|refine qT f1 ?_ |(intro hq;try simp only [lnS]at hq)|refine sI ?_|refine qE_ ?_);conv=>whnf))
 rw [hpl,decide_eq_false (by omega)]
 ((conv=>whnf);repeat ((first |(intro hq;try simp only [lnS]at hq)|refine sI ?_|refine qE_ ?_);conv=>whnf))
 rw [decide_eq_false (by omega)]
 ((conv=>whnf);repeat ((first |(intro hq;try simp only [lnS]at hq)|refine sI ?_|refine qE_ ?_);conv=>whnf))
 refine aZ (cV hty ?_)
 ((conv=>whnf);repeat ((first|refine qT hv ?_ |(intro hq;try simp only [lnS]at hq)|refine sI ?_|refine qE_ ?_);conv=>whnf))
 refine aZ (cV hty ?_)
 ((conv=>whnf);repeat ((first |(intro hq;try simp only [lnS]at hq)|refine sI ?_|refine qE_ ?_);conv=>whnf))
 rw [hvm]
 refine aB (λh4=> ?_) (λh4=> ?_)
 ·((conv=>whnf);repeat ((first |(intro hq;try simp only [lnS]at hq)|refine sI ?_|refine qE_ ?_);conv=>whnf))
  rfl
 have ht:((m:Int)).tmod ((p.map atR).length:Int)=((m % p.length:Nat):Int):=by rw [hpl,Int.tmod_eq_emod_of_nonneg (Int.natCast_nonneg m),Int.natCast_emod]
 have hk:m % p.length < p.length:=Nat.mod_lt _ (by omega)
 ((conv=>whnf);repeat ((first |(intro hq;try simp only [lnS]at hq)|refine sI ?_|refine qE_ ?_);conv=>whnf))
 refine aZ (cV hty ?_)
 ((conv=>whnf);repeat ((first|(refine And.intro (by rw [hpl];omega) ?_) |(intro hq;try simp only [lnS]at hq)|refine sI ?_|refine qE_ ?_);conv=>whnf))
 rw [hm,ht]
 generalize m % p.length=k at *
 refine aZ ?_
 have hrow0:(p.map atR)[((0:Nat):Int).toNat]? =some (atR p[0]):=aK hp1
 rw [cT]at hrow0
 obtain⟨base,hB⟩: ∃base:List At,base=p.drop k++p.take k++p.take 1:=⟨_,rfl⟩
 have hBm:base.map atR=(p.map atR).drop k++(p.map atR).take k++[[.int .i64 p[0].kind, .str p[0].name, .str p[0].x, .str p[0].y, .int .i64 p[0].lo, .int .i64 p[0].hi]]:=by
  rw [hB,List.map_append,List.map_append,List.map_drop,List.map_take,show p.take 1=[p[0]]from by rw [List.take_succ_eq_append_getElem hp1];rfl]
  rfl
 have hta:(p.map atR).take p.length=p.map atR:=List.take_of_length_le (by simp)
 refine aH.midE (λa:Nat×Nat×List (List D)=>a.2.1=a.2.2.length/\a.2.2=base.map atR) (λ_=>[(0, .d (.sl 1 (ps.map aI))),(5, .ea 1 [[.sl 6 (p.map atR)]] 0 0),(6, .ea 4 [[.int .u8 w.toNat, .int .u8 x.toNat, .int .u8 y.toNat, .int .u8 z.toNat]] 0 0),(9, .d (.sl 1 ((aQ p).map aT))),(11, .ptr 11 0)]) (λa=>[(11, .cells 35 [.mw 53 6 a.2.1]),(53, .mrow 60 6 a.1 a.2.2)]) ?_ ?_
 ·(refine aCr (id:=9) hty (.first 1 (.first 2 (.first 3 (.first 4 (.first 6 (.first 7 (.first 8 (.first 9 (.first 11 (.first 12 (.first 13 (.first 14 (.alt 0 (.alt 5 (.alt 10 (.alt 15 (.alt 16 (.first 17 (.alt 18 (.alt 19 .done .stop) .stop)) (.alt 18 (.alt 16 (.first 17 (.alt 19 .done .stop)) .stop) .stop)) (.alt 18 (.alt 15 (.alt 16 (.first 17 (.alt 19 .done .stop)) .stop) .stop) .stop)) (.alt 15 (.alt 10 (.alt 16 (.first 17 (.alt 18 (.alt 19 .done .stop) .stop)) (.alt 18 (.alt 16 (.first 17 (.alt 19 .done .stop)) .stop) .stop)) (.alt 18 (.alt 10 (.alt 16 (.first 17 (.alt 19 .done .stop)) .stop) .stop) .stop)) (.alt 18 (.alt 10 (.alt 15 (.alt 16 (.first 17 (.alt 19 .done .stop)) .stop) .stop) (.alt 15 (.alt 10 (.alt 16 (.first 17 (.alt 19 .done .stop)) .stop) .stop) .stop)) .stop))) (.alt 15 (.alt 5 (.alt 10 (.alt 16 (.first 17 (.alt 18 (.alt 19 .done .stop) .stop)) (.alt 18 (.alt 16 (.first 17 (.alt 19 .done .stop)) .stop) .stop)) (.alt 18 (.alt 10 (.alt 16 (.first 17 (.alt 19 .done .stop)) .stop) .stop) .stop)) (.alt 18 (.alt 5 (.alt 10 (.alt 16 (.first 17 (.alt 19 .done .stop)) .stop) .stop) .stop) .stop)) (.alt 18 (.alt 5 (.alt 10 (.alt 15 (.alt 16 (.first 17 (.alt 19 .done .stop)) .stop) .stop) (.alt 15 (.alt 10 (.alt 16 (.first 17 (.alt 19 .done .stop)) .stop) .stop) .stop)) (.alt 15 (.alt 5 (.alt 10 (.alt 16 (.first 17 (.alt 19 .done .stop)) .stop) .stop) .stop) .stop)) .stop))) (.alt 15 (.alt 0 (.alt 5 (.alt 10 (.alt 16 (.first 17 (.alt 18 (.alt 19 .done .stop) .stop)) (.alt 18 (.alt 16 (.first 17 (.alt 19 .done .stop)) .stop) .stop)) (.alt 18 (.alt 10 (.alt 16 (.first 17 (.alt 19 .done .stop)) .stop) .stop) .stop)) (.alt 18 (.alt 5 (.alt 10 (.alt 16 (.first 17 (.alt 19 .done .stop)) .stop) .stop) .stop) .stop)) (.alt 18 (.alt 0 (.alt 5 (.alt 10 (.alt 16 (.first 17 (.alt 19 .done .stop)) .stop) .stop) .stop) .stop) .stop)) (.alt 18 (.alt 0 (.alt 5 (.alt 10 (.alt 15 (.alt 16 (.first 17 (.alt 19 .done .stop)) .stop) .stop) (.alt 15 (.alt 10 (.alt 16 (.first 17 (.alt 19 .done .stop)) .stop) .stop) .stop)) (.alt 15 (.alt 5 (.alt 10 (.alt 16 (.first 17 (.alt 19 .done .stop)) .stop) .stop) .stop) .stop)) (.alt 15 (.alt 0 (.alt 5 (.alt 10 (.alt 16 (.first 17 (.alt 19 .done .stop)) .stop) .stop) .stop) .stop) .stop)) .stop))))))))))))))) (by kernel_rfl) (by kernel_rfl) ?_)
  ((conv=>whnf);repeat' ((first|(intro hq;(try simp only [lnS]at hq);(try rewrite [List.length_map]))|refine sJ ?_|refine qE_ ?_|refine exL (k:=?_)| (refine⟨_,hrow0, ?_⟩)|intro cap' hcap'|(refine And.intro (List.length_append ..).symm ?_)|exact trivial|(refine And.intro (by simp only [List.length_replicate,List.length_drop,List.length_take,List.length_map,List.length_append,List.length_cons,List.length_nil];omega) ?_)|(refine And.intro ?_ ?_)|refine dwR ?_|((first|refine aB ?_ ?_|refine aC ?_ ?_)<;>intro hb<;>(first|exact ddX hb|try simp only [lnS]at hb))|(refine aA ?_ ?_<;>intro hb<;>try exact dsX hb))<;>(conv=>whnf)))
  all_goals
   refine⟨(_,_,_),⟨qB,qB⟩, ?_, ?_⟩
  all_goals first|exact(List.length_append ..).symm|(dsimp only;rw [hta,hBm,Int.toNat_natCast,List.drop_zero];rfl)
 rintro⟨cap,n,rows⟩ ⟨hn,hrows⟩
 have hbm:(base.map atR).length=base.length:=List.length_map ..
 dsimp only at hn hrows
 rw [hrows,hbm]at hn
 subst hn
 subst hrows
 have hbl:base.length<=6:=by
  rw [hB,List.length_append,List.length_append,List.length_drop,List.length_take,List.length_take]
  omega
 have hoth:aF7 w x y z p k=base.map (rpA (ltF w x y z (aQ p) 0)):=by rw [hB];rfl
 refine aZ (cV hty ?_)
 ((conv=>whnf);repeat ((first |(intro hq;try simp only [lnS]at hq)|refine sI ?_|refine qE_ ?_);conv=>whnf))
 generalize hρ:ltF w x y z (aQ p) 0=g at *
 have hq0:(base.take 0).map (rpA g)++base.drop 0=base:=by simp
 refine aG hty (λj:Nat=>([(0, .d (.sl 1 (ps.map aI))),(5, .ea 1 [[.sl 6 (p.map atR)]] 0 0),(6, .ea 4 [[.int .u8 w.toNat, .int .u8 x.toNat, .int .u8 y.toNat, .int .u8 z.toNat]] 0 0),(9, .d (.sl 1 ((aQ p).map aT))),(11, .ptr 11 0),(68, .d (.int .i64 base.length)),(69, .d (.int .i64 j))],[(11, .cells 35 [.mw 53 6 base.length]),(53, .mrow 60 6 cap (((base.take j).map (rpA g)++base.drop j).map atR))])) (λj=>j<=base.length) (λj=>base.length - j) 0 (Nat.zero_le _) ⟨qB,by rw [hq0];repeat' (first|exact trivial|exact rfl|refine And.intro ?_ ?_)⟩ ?_
 intro j hj
 ((conv=>whnf);repeat ((first |(intro hq;try simp only [lnS]at hq)|refine sI ?_|refine qE_ ?_);conv=>whnf))
 refine aB (λh1=> ?_) (λh1=> ?_)
 ·have hjl:j < base.length:=by omega
  have hlen:(((base.take j).map (rpA g)++base.drop j).map atR).length=base.length:=by rw [List.length_map,List.length_append,List.length_map,List.length_take,List.length_drop];omega
  have hrow:(((base.take j).map (rpA g)++base.drop j).map atR)[((j:Nat):Int).toNat]? =some (atR base[j]):=by
   rw [Int.toNat_natCast,List.getElem?_map,List.getElem?_append_right (by rw [List.length_map,List.length_take];omega),List.length_map,List.length_take,List.getElem?_drop,show j+(j - min j base.length)=j by omega,List.getElem?_eq_getElem hjl]
   rfl
  have hnx:((base.take (j+1)).map (rpA g)++base.drop (j+1)).map atR=(((base.take j).map (rpA g)++base.drop j).map atR).set j (atR (rpA g base[j])):=by
   rw [<-List.map_set]
   refine congrArg (List.map atR) ?_
   rw [List.take_succ_eq_append_getElem hjl,List.map_append,List.append_assoc,List.set_append_right j _ (by rw [List.length_map,List.length_take];omega),List.length_map,List.length_take,show j - min j base.length=0 by omega,List.drop_eq_getElem_cons hjl]
   rfl
  have t1:=uB (aQ p) (by omega) w x y z base[j].x
  have t2:=uB (aQ p) (by omega) w x y z base[j].y
  rw [hρ]at t1 t2
  generalize ((base.take j).map (rpA g)++base.drop j).map atR=rows at *
  generalize base[j]=a at *
  rw [cT]at hrow
  have hrow2: ∀r,(rows.set ((j:Nat):Int).toNat r)[((j:Nat):Int).toNat]? =some r:= λr=>by
   rw [Int.toNat_natCast,List.getElem?_set_self (by rw [hlen];exact hjl)]
  have hss: ∀r1 r2,(rows.set ((j:Nat):Int).toNat r1).set ((j:Nat):Int).toNat r2=rows.set j r2:= λr1 r2=>by rw [Int.toNat_natCast,List.set_set]
  ((conv=>whnf);repeat ((first |(intro hq;try simp only [lnS]at hq)|refine sI ?_|refine qE_ ?_);conv=>whnf))
  (refine aCq [11] (id:=13) hty (.first 0 (.first 1 (.first 2 (.first 3 (.first 4 (.first 5 (.first 6 (.first 7 (.first 8 (.first 9 (.first 10 (.first 11 (.first 12 (.first 15 (.first 16 (.first 17 (.first 18 (.first 19 (.first 20 (.first 21 (.alt 13 (.alt 14 (.alt 22 (.alt 23 (.first 24 (.first 25 (.alt 26 (.first 27 (.first 28 (.alt 29 .done .stop))) .stop))) .stop) .stop) (.alt 22 (.alt 14 (.alt 23 (.first 24 (.first 25 (.alt 26 (.first 27 (.first 28 (.alt 29 .done .stop))) .stop))) .stop) .stop) .stop)) (.alt 22 (.alt 13 (.alt 14 (.alt 23 (.first 24 (.first 25 (.alt 26 (.first 27 (.first 28 (.alt 29 .done .stop))) .stop))) .stop) .stop) .stop) .stop)))))))))))))))))))))) (by kernel_rfl) (by kernel_rfl) ?_)
  ((conv=>whnf);repeat' ((first|(intro hq;(try simp only [lnS]at hq);(try rewrite [List.length_map]))|refine sJ ?_|refine qE_ ?_|refine exL (k:=?_)| (refine⟨_,hrow2 _, ?_⟩)|(refine⟨_,hrow, ?_⟩)|(refine⟨[],_,trivial,t1,λr hs=> ?_⟩;subst hs)|(refine⟨[],_,trivial,t2,λr hs=> ?_⟩;subst hs)|(refine And.intro hlen.symm ?_)|exact trivial|(refine And.intro ?_ ?_)|refine dwR ?_|((first|refine aB ?_ ?_|refine aC ?_ ?_)<;>intro hb<;>(first|exact ddX hb|try simp only [lnS]at hb))|(refine aA ?_ ?_<;>intro hb<;>try exact dsX hb))<;>(conv=>whnf)))
  all_goals
   refine⟨j+1,qO,qO, ?_⟩
   dsimp only
   rw [hss,hnx]
   exact⟨qB,qB⟩
 ·have hjl:j=base.length:=by omega
  subst hjl
  rw [List.take_length,List.drop_length,List.append_nil,<-hoth]
  have hol:base.length=((aF7 w x y z p k).map atR).length:=by rw [hoth,List.length_map,List.length_map]
  have a1:=lI L p
  have a2:=lI L (aF7 w x y z p k)
  have hpt:= @aMc L p
  have hadd:= λh=>aLa w x y z (k:=k) hp5 (show (aQ p).length<=4 by omega) h L
  generalize aF7 w x y z p k=q at *
  ((conv=>whnf);repeat ((first |(intro hq;try simp only [lnS]at hq)|refine sI ?_|refine qE_ ?_);conv=>whnf))
  refine aH.frozC (id:=53) (i:=11) (hp1:=[(11, .cells 35 [.mw 53 6 base.length])]) rfl hol qB rfl rfl ?_
  refine cV hty ?_
  rw [show lgR L=[.str L.reader, .int .i64 L.version, .sl 2 (L.entries.map bM)]from rfl,show aI p=[.sl 6 (p.map atR)]from rfl]at a1
  rw [show lgR L=[.str L.reader, .int .i64 L.version, .sl 2 (L.entries.map bM)]from rfl,show aI q=[.sl 6 (q.map atR)]from rfl]at a2
  by_cases he:(mN L p).2.2=0
  ·rw [hadd (hpt he)]at a2
   clear hadd hpt
   generalize mN L p=r at *
   obtain⟨X,n,e⟩:=r
   dsimp only at a1 a2 he
   subst he
   have hs:=tS X X
   rw [aEu.2 rfl]at hs
   rw [show lgR X=[.str X.reader, .int .i64 X.version, .sl 2 (X.entries.map bM)]from rfl]at a1 a2 hs
   ((conv=>whnf);repeat ((first|refine qT g1 ?_|refine qT a1 ?_|refine qT a2 ?_|refine qT hs ?_ |(intro hq;try simp only [lnS]at hq)|refine sI ?_|refine qE_ ?_);conv=>whnf))
   rw [decide_eq_true rfl]
   ((conv=>whnf);repeat ((first|refine qT hs ?_ |(intro hq;try simp only [lnS]at hq)|refine sI ?_|refine qE_ ?_);conv=>whnf))
   rfl
  ·clear hadd hpt
   generalize mN L p=r at *
   obtain⟨X,n,e⟩:=r
   generalize mN L q=r at *
   obtain⟨Y,m2,e2⟩:=r
   dsimp only at a1 a2 he
   rw [show lgR X=[.str X.reader, .int .i64 X.version, .sl 2 (X.entries.map bM)]from rfl]at a1
   rw [show lgR Y=[.str Y.reader, .int .i64 Y.version, .sl 2 (Y.entries.map bM)]from rfl]at a2
   ((conv=>whnf);repeat ((first|refine qT g1 ?_|refine qT a1 ?_|refine qT a2 ?_ |(intro hq;try simp only [lnS]at hq)|refine sI ?_|refine qE_ ?_);conv=>whnf))
   rw [decide_eq_false he]
   ((conv=>whnf);repeat ((first |(intro hq;try simp only [lnS]at hq)|refine sI ?_|refine qE_ ?_);conv=>whnf))
   rfl
end
end Go.Proofs.YtdjfkmkdkclahaaGreatDoor
