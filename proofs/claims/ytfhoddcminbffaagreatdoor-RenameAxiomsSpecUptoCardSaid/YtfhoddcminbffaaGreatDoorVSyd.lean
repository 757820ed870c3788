/-
  Maps whose keys are a number and a text. Rename: other names in concepts and axioms, plainly. A statement whose ends are many: what they have in common is told once, and the rest follows from there. Regions that draw their order: reads of data and pure operations are taken first; the rest as a tree.
  Conditions: none.
-/
import Derived.Test.YtfhoddcminbffaaGreatDoorVSne
import Derived.WideKeyRuns
import Derived.Test.YtfhoddcminbffaaGreatDoorVA1
import Derived.Test.YtfhoddcminbffaaGreatDoorVSna
set_option linter.unusedSectionVars false
set_option linter.unusedSimpArgs false
set_option linter.unusedVariables false
namespace Go.Proofs.YtfhoddcminbffaaGreatDoor
open Go.RowKit
section
variable {P:Program}
def jK (k:Int×List UInt8):D:= .agg [.int .i64 k.1, .str k.2]
def vO (k:Int×List UInt8):Value:= .agg #[aJq k.1,aJc k.2]
theorem aH8 {w:World}{S:Nat->Nat->Prop}{k:Int×List UInt8}{v:Value}(h:RepD w S (jK k) v):v=vO k:=by
 cases h with
 |agg cs vs hl hh=>
  rcases vs with⟨l⟩
  match l,hl with
  | [u,v],_=>
   have h0:=hh 0 _ u rfl rfl
   have h1:=hh 1 _ v rfl rfl
   cases h0
   cases h1
   rfl
structure PairT (P:Program) (kt ta tb:TypeId):Prop where
 ok:aKa P kt=true
 und: ∃gs:Array Field,P.underlying kt=some (.struct gs)/\gs.toList.map (λf=>(f.type,f.offset))=[(ta,0),(tb,1)]
 ta: ∃T d i z,TIok P ta T d i z/\T.td= .int .i64
 tb: ∃T d i z,TIok P tb T d i z/\T.td= .string
theorem aAs {ti:TypeId->Option TI}(hti:dS P ti) {kt ta tb:TypeId}{n b:Nat}{z:List D}{na ba:Nat}{za:List D}{nb bb:Nat}{zb:List D}(h:ti kt=some ⟨.struct [(ta,0),(tb,1)],n,b,z⟩) (hok:aKa P kt=true)
  (ha:ti ta=some ⟨.int .i64,na,ba,za⟩) (hb:ti tb=some ⟨.string,nb,bb,zb⟩):PairT P kt ta tb:=by
 obtain⟨d,i,z,hT⟩:=aP (hti _ _ h)
 obtain⟨gs,rfl,hfs⟩:=iE hT.td
 obtain⟨da,ia,za,hA⟩:=aP (hti _ _ ha)
 obtain⟨db,ib,zb,hB⟩:=aP (hti _ _ hb)
 exact⟨hok,⟨gs,hT.und,hfs.symm⟩,⟨_,da,ia,za,hA,rfl⟩,⟨_,db,ib,zb,hB,rfl⟩⟩
theorem PairT.fields {kt ta tb:TypeId}(h:PairT P kt ta tb): ∃gs f g,P.underlying kt=some (.struct gs)/\gs.toList=[f,g]/\f.type=ta/\f.offset=0/\g.type=tb/\g.offset=1/\f.name≠ "_" /\g.name≠ "_" /\P.stoodInHeld kt=false:=by
 obtain⟨gs,hu,hm⟩:=h.und
 have hok:=h.ok
 unfold aKa at hok
 rw [hu]at hok
 simp only [Bool.and_eq_true,Bool.not_eq_true',List.all_eq_true,bne_iff_ne]at hok
 obtain⟨⟨k1,_⟩,k3⟩:=hok
 have hlen:gs.toList.length=2:=by
  have:=congrArg List.length hm
  rwa [List.length_map]at this
 obtain⟨f,g,hl⟩: ∃f g,gs.toList=[f,g]:=by
  revert hlen
  generalize gs.toList=l
  intro hlen
  match l,hlen with
  | [f,g],_=>exact⟨f,g,rfl⟩
 rw [hl]at hm
 simp only [List.map_cons,List.map_nil,List.cons.injEq,Prod.mk.injEq,and_true]at hm
 obtain⟨⟨a1,a2⟩,a3,a4⟩:=hm
 exact⟨gs,f,g,hu,hl,a1,a2,a3,a4,k3 f (by simp [hl]),k3 g (by simp [hl]),k1⟩
theorem aC2 {kt ta tb:TypeId}(h:PairT P kt ta tb) (k k':Int×List UInt8) (w:World):(Op.equal kt (vO k) (vO k')).run P w= .ok (decide (k=k')) w:=by
 obtain⟨gs,f,g,hu,hl,rfl,h2,rfl,h4,h5,h6,h7⟩:=h.fields
 obtain⟨TA,dA,iA,zA,hA,eA⟩:=h.ta
 obtain⟨TB,dB,iB,zB,hB,eB⟩:=h.tb
 have hdA:=hA.td
 rw [eA]at hdA
 have:=gP hdA
 subst this
 have hdB:=hB.td
 rw [eB]at hdB
 have:=dN hdB
 subst this
 have hfo:P.fieldsOf kt=gs:=by simp [Program.fieldsOf,hu]
 have heq:=run_equalIn_struct (P:=P) w 9999 kt #[aJq k.1,aJc k.2] #[aJq k'.1,aJc k'.2] (by rw [hfo];exact hu) h7
 rw [hfo,hl]at heq
 have hd:decide (k=k')=(decide (k.1=k'.1) && decide (k.2=k'.2)):=by
  rw [<-Bool.decide_and,decide_eq_decide]
  exact Prod.ext_iff
 refine Eq.trans heq ?_
 rw [hd]
 have aA:TA.td.isAgg=false:=by rw [eA];rfl
 have aB:TB.td.isAgg=false:=by rw [eB];rfl
 simp only [Op.eqFields,h5,h6,ne_eq,not_false_eq_true,if_true,Sem.run_bind,eI hA,eI hB,aA,aB,Bool.false_eq_true,if_false,h2,h4,List.getElem?_toArray,List.getElem?_cons_zero,List.getElem?_cons_succ,Result.andThen_ok,aJq,aJc]
 rw [run_equalIn_int w 9998 _ _ _ _ _ hA.und]
 simp only [Result.andThen_ok]
 by_cases hk:k.1=k'.1
 ·simp only [hk,beq_self_eq_true,Bool.not_true,Bool.false_eq_true,if_false,decide_true,Bool.true_and]
  simp only [Sem.run_bind,eI hB,aB,Bool.false_eq_true,if_false,List.getElem?_toArray,List.getElem?_cons_zero,List.getElem?_cons_succ,Result.andThen_ok]
  rw [run_equalIn_string w 9998 _ _ _ hB.und,gG,gG,oC]
  simp only [Result.andThen_ok]
  cases decide (k.2=k'.2)<;>simp
 ·have e:(k.1==k'.1)=false:=by simpa using hk
  simp [e,hk]
theorem zH {kt ta tb:TypeId}(h:PairT P kt ta tb) (b:Bool) (k:Int×List UInt8) (w:World):(Instr.checkKey b 10000 kt (vO k)).run P w= .ok () w:=by
 obtain⟨gs,f,g,hu,hl,rfl,h2,rfl,h4,h5,h6,h7⟩:=h.fields
 obtain⟨TA,dA,iA,zA,hA,eA⟩:=h.ta
 obtain⟨TB,dB,iB,zB,hB,eB⟩:=h.tb
 have hdA:=hA.td
 rw [eA]at hdA
 have:=gP hdA
 subst this
 have hdB:=hB.td
 rw [eB]at hdB
 have:=dN hdB
 subst this
 have aA:TA.td.isAgg=false:=by rw [eA];rfl
 have aB:TB.td.isAgg=false:=by rw [eB];rfl
 have c1:(Instr.checkKey b 9999 f.type (aJq k.1)).run P w= .ok () w:=by
  rw [Instr.checkKey]
  simp only [Sem.run_bind,run_underlying hA.und,Result.andThen_ok,aJq]
  rfl
 have c2:(Instr.checkKey b 9999 g.type (aJc k.2)).run P w= .ok () w:=by
  rw [Instr.checkKey]
  simp only [Sem.run_bind,run_underlying hB.und,Result.andThen_ok,aJc]
  rfl
 rw [vO,Instr.checkKey]
 simp only [Sem.run_bind,run_underlying hu,Result.andThen_ok]
 rw [<-Array.forIn_toList,hl]
 simp only [List.forIn_cons,List.forIn_nil,h5,h6,ne_eq,not_false_eq_true,if_true,Sem.run_bind,eI hA,eI hB,aA,aB,Bool.false_eq_true,if_false,h2,h4,List.getElem?_toArray,List.getElem?_cons_zero,List.getElem?_cons_succ,Result.andThen_ok,c1,c2,Sem.run_pure]
theorem oJ {kt ta tb:TypeId}(h:PairT P kt ta tb) (k:Int×List UInt8) (w:World): ∀(ks:List (Int×List UInt8)) (es:List MapEntry) (i:Nat),es.map (·.key)=ks.map vO->
  (Instr.findAsking kt (vO k) es i).run P w= .ok ((ks.findIdx? (λx=>decide (k=x))).bind λj=>(es[j]?).map λe=>(i+j,e.val)) w
 | [],[],_,_=>by simp [Instr.findAsking]
 | [],_::_,_,e=>by simp at e
 |_::_,[],_,e=>by simp at e
 |x::ks,e::es,i,he=>by
  simp only [List.map_cons,List.cons.injEq]at he
  rw [Instr.findAsking,Sem.run_bind,he.1,aC2 h,findIdx?_cons']
  simp only [Result.andThen_ok]
  by_cases hx:k=x
  ·simp [hx]
  ·simp only [hx,decide_false,Bool.false_eq_true,if_false]
   rw [oJ h k w ks es (i+1) he.2]
   cases ks.findIdx? (λx=>decide (k=x))with
   |none=>rfl
   |some j=>simp [Nat.add_assoc,Nat.add_comm 1 j]
theorem eT {kt ta tb:TypeId}(h:PairT P kt ta tb):KeyT P kt jK vO where
 rep:=aH8
 chk:= λb k w=>zH h b k w
 find:= λk ks es w he=>by
  obtain⟨gs,_,_,hu,_⟩:=h.fields
  rw [run_findKey_eq w (by rw [hu]),oJ h k w ks es 0 he]
  simp
 bits:= λk=>by simp [Instr.sameBits,vO,aJq,aJc,beq_toListBytes,gG]
end
end Go.Proofs.YtfhoddcminbffaaGreatDoor
namespace Go.Proofs.YtfhoddcminbffaaGreatDoor
open Go.Proofs
def vL (g:Int->List UInt8->List UInt8) (k:Int) (n:List UInt8):List UInt8:=
 if k=3 then g 1 n else if k=6 then g 2 n else if k=7 then g 3 n else if k=4 then g 4 n else n
mutual
def cI (g:Int->List UInt8->List UInt8):Cn->Cn
 | .mk k n lo hi ps=> .mk k (vL g k n) lo hi (aLb g ps)
def aLb (g:Int->List UInt8->List UInt8):List Cn->List Cn
 | []=>[]
 |c::r=>cI g c::aLb g r
end
theorem aAp (g:Int->List UInt8->List UInt8): ∀l,aLb g l=l.map (cI g)
 | []=>rfl
 |c::r=>by rw [aLb,aAp g r];rfl
theorem zN (g:Int->List UInt8->List UInt8) (c:Cn):cI g c= .mk c.kind (vL g c.kind c.name) c.lo c.hi (c.parts.map (cI g)):=by
 cases c;rw [cI,aAp];rfl
theorem aC7 (g:Int->List UInt8->List UInt8) (c:Cn):(cI g c).parts=c.parts.map (cI g):=by rw [zN];rfl
def gE (g:Int->List UInt8->List UInt8) (x:Ax):Ax:={ x with left:=cI g x.left,right:=cI g x.right,roles:=x.roles.map (g 2),role:=g 2 x.role,a:=g 4 x.a,b:=g 4 x.b }
end Go.Proofs.YtfhoddcminbffaaGreatDoor
namespace Go.Proofs.YtfhoddcminbffaaGreatDoor
open Go.Proofs
theorem aV.mid {C:Cfg}{c:Code}{fr:Fr}{hp:Hp}{K:Ex->Fr->Hp->Prop}(FR:Fr) (HP:Hp) (h:aV C c fr hp (λe fr' hp'=>e= .normal/\Sub fr' hp' FR HP)) (hk:K .normal FR HP):aV C c fr hp K:=
 λE a w hpin hrd hsat=>wpIn_mono (h E a w hpin hrd hsat) λ_ _ _ ⟨_,_,_,E',h0,h1,h2,h3⟩=>by
  obtain⟨rfl,hs⟩:=h2
  exact⟨_,FR,HP,E',h0,h1,hk,h3.sub hs⟩
end Go.Proofs.YtfhoddcminbffaaGreatDoor
namespace Go.Proofs.YtfhoddcminbffaaGreatDoor
open Go.Proofs
section
variable {P:Program}
def wpS (P:Program) (ops:Array Oper) (Q:Act->World->Prop):Nat->(World->Prop)->Array Bool->Act->World->Prop
 | 0,_,listed,a,w=>Region.ready .any ops listed=[]/\Q a w
 |fuel+1,Cl,listed,a,w=>
  (Region.ready .any ops listed=[]->Q a w)/\
  ∀i∈Region.ready .any ops listed,
   match ops[i]? with
   |none=>wpS P ops Q fuel Cl (listed.setIfInBounds i true) a w
   |some o=>
    if Region.wanted o (yielded ops a.tmps)then
     o.wp P a w (λa' w'=>Cl w'/\wpS P ops Q fuel Cl (listed.setIfInBounds i true) a' w') noX
    else wpS P ops Q fuel Cl (listed.setIfInBounds i true) (a.put o.dst undef) w
theorem aAi {ops:Array Oper}{Q Q':Act->World->Prop}(hQ: ∀a w,Q a w->Q' a w): ∀(fuel:Nat) (Cl Cl':World->Prop) (listed:Array Bool) (a:Act) (w:World),(∀w,Cl' w->Cl w)->wpS P ops Q fuel Cl' listed a w->wpS P ops Q' fuel Cl listed a w:=by
 intro fuel
 induction fuel with
 |zero=>intro Cl Cl' listed a w _ h;exact⟨h.1,hQ _ _ h.2⟩
 |succ fuel ih=>
  intro Cl Cl' listed a w hc h
  refine⟨λh0=>hQ _ _ (h.1 h0),λi hi=> ?_⟩
  have:=h.2 i hi
  split
  ·rename_i ho;simp only [ho]at this;exact ih _ _ _ _ _ hc this
  ·rename_i o ho
   simp only [ho]at this
   split
   ·rename_i hw
    simp only [hw,if_true]at this
    exact qD (λa' w' hk=>⟨hc _ hk.1,ih _ _ _ _ _ hc hk.2⟩) this
   ·rename_i hw;simp only [hw]at this;exact ih _ _ _ _ _ hc this
theorem aBp {ops:Array Oper}{Q:Exit->Act->World->Prop}: ∀(fuel:Nat) (Cl:World->Prop) (listed:Array Bool) (a:Act) (w:World),wpS P ops (Q .normal) fuel Cl listed a w->wpAny P .any ops Q fuel listed a w:=by
 intro fuel
 induction fuel with
 |zero=>intro Cl listed a w h;exact h
 |succ fuel ih=>
  intro Cl listed a w h
  refine⟨h.1,λi hi=> ?_⟩
  have:=h.2 i hi
  unfold wpOp
  split
  ·rename_i ho;simp only [ho]at this;exact ih _ _ _ _ this
  ·rename_i o ho
   simp only [ho]at this
   split
   ·rename_i hw
    simp only [hw,if_true]at this
    left
    exact qD (λa' w' hk=>ih _ _ _ _ hk.2) this
   ·rename_i hw;simp only [hw]at this;exact ih _ _ _ _ this
def YS (P:Program) (ops:Array Oper) (Cl:World->Prop) (o:Oper) (v:Value) (a:Act):Prop:=
 (Region.wanted o (yielded ops a.tmps)=true/\ ∀w,Cl w->(execOp a.eval o).run P w= .ok (.value v) w)\/(Region.wanted o (yielded ops a.tmps)=false/\v=undef)
theorem YS.of_same {ops:Array Oper}{Cl:World->Prop}{o:Oper}{v:Value}{a a':Act}(hy:YS P ops Cl o v a) (he:execOp a'.eval o=execOp a.eval o)
  (hw:Region.wanted o (yielded ops a'.tmps)=Region.wanted o (yielded ops a.tmps)):YS P ops Cl o v a':=by
 unfold YS at *
 rw [he,hw]
 exact hy
theorem wK {ops:Array Oper}{Q:Act->World->Prop}{i:Nat}{oi:Oper}{v:Value}(hi:ops[i]? =some oi) (hsel:Region.noSelect ops=true):
  ∀(fuel:Nat) (Cl:World->Prop) (listed:Array Bool) (a:Act) (w:World),Cl w->
   (∀j oj,ops[j]? =some oj->j≠i->listed.getD j true=false->(∀e∈oj.after,Region.binds .any e=true->e.on≠i)->oi.apart ops oj=true)->
   i∈Region.ready .any ops listed->YS P ops Cl oi v a->
   wpS P ops Q fuel Cl (listed.setIfInBounds i true) (a.put oi.dst v) w->wpS P ops Q (fuel+1) Cl listed a w:=by
 have own: ∀(fuel:Nat) (Cl:World->Prop) (listed:Array Bool) (a:Act) (w:World),Cl w->YS P ops Cl oi v a->wpS P ops Q fuel Cl (listed.setIfInBounds i true) (a.put oi.dst v) w->
   (match ops[i]? with
   |none=>wpS P ops Q fuel Cl (listed.setIfInBounds i true) a w
   |some o=>if Region.wanted o (yielded ops a.tmps)then o.wp P a w (λa' w'=>Cl w'/\wpS P ops Q fuel Cl (listed.setIfInBounds i true) a' w') noX
    else wpS P ops Q fuel Cl (listed.setIfInBounds i true) (a.put o.dst undef) w):=by
  intro fuel Cl listed a w hc hy H
  simp only [hi]
  rcases hy with⟨hw,hrun⟩|⟨hw,rfl⟩
  ·simp only [hw,if_true]
   exact cN (hrun w hc) ⟨hc,H⟩
  ·simp only [hw,Bool.false_eq_true,if_false];exact H
 intro fuel
 induction fuel with
 |zero=>
  intro Cl listed a w hc _ hr hy H
  refine⟨λh=>(by rw [h]at hr;cases hr),λj hj=> ?_⟩
  by_cases hji:j=i
  ·subst hji;exact own 0 Cl listed a w hc hy H
  ·have:=ready_mono hj hji
   rw [H.1]at this
   cases this
 |succ fuel ih=>
  intro Cl listed a w hc hfree hr hy H
  refine⟨λh=>(by rw [h]at hr;cases hr),λj hj=> ?_⟩
  by_cases hji:j=i
  ·subst hji;exact own _ Cl listed a w hc hy H
  ·have h1:=H.2 j (ready_mono hj hji)
   obtain⟨hjun,oj,hoj,hall⟩:=mem_ready.1 hj
   have hnot: ∀e∈oj.after,Region.binds .any e=true->e.on≠i:= λe he hb heq=>by
    have h1:=hall e he hb
    have h0:=(mem_ready.1 hr).1
    rw [heq]at h1
    rcases Nat.lt_or_ge i listed.size with h'|h'
    ·simp [h']at h0 h1;rw [h0]at h1;cases h1
    ·simp [Array.getElem?_eq_none h']at h1
   obtain⟨p1,p2,p3⟩:=Oper.apart_spec (hfree j oj hoj hji hjun hnot)
   have si:= λcs b=>Region.noSelect_spec hsel i oi cs b hi
   have sj:= λcs b=>Region.noSelect_spec hsel j oj cs b hoj
   have keepY:YS P ops Cl oi v a-> ∀u,YS P ops Cl oi v (a.put oj.dst u):= λhy u=>hy.of_same (execOp_put oi si a oj.dst u p3) (wanted_put oi a oj.dst u p3)
   have hfree': ∀k ok,ops[k]? =some ok->k≠i->(listed.setIfInBounds j true).getD k true=false->
     (∀e∈ok.after,Region.binds .any e=true->e.on≠i)->oi.apart ops ok=true:= λk ok hk hki hun hno=>by
    refine hfree k ok hk hki ?_ hno
    by_cases hjk:j=k
    ·subst hjk;exact hjun
    ·rw [getD_set_ne true hjk]at hun;exact hun
   have hrj:=ready_mono hr (Ne.symm hji)
   simp only [hoj]at h1 |-
   rw [wanted_put oj a oi.dst v p1]at h1
   split
   ·rename_i hw
    simp only [hw,if_true]at h1
    have h2:oj.wp P a w (λa' w'=>(Cl w'/\wpS P ops Q fuel Cl ((listed.setIfInBounds i true).setIfInBounds j true) (a'.put oi.dst v) w')) noX:=by
     unfold Oper.wp at h1 |-
     rw [execOp_put oj sj a oi.dst v p1]at h1
     exact aAj (K:= λa' w'=>Cl w'/\wpS P ops Q fuel Cl ((listed.setIfInBounds i true).setIfInBounds j true) a' w') p2 h1
    have h3:oj.wp P a w (λa' w'=>YS P ops Cl oi v a'/\(Cl w'/\wpS P ops Q fuel Cl ((listed.setIfInBounds i true).setIfInBounds j true) (a'.put oi.dst v) w')) noX:=by
     have hput: ∀u,YS P ops Cl oi v (a.put oj.dst u):= λu=>keepY hy u
     unfold Oper.wp at h2 |-
     generalize (execOp a.eval oj).run P w=r at h2
     cases r with
     |ok n w'=>
      cases n<;>simp only [Oper.upon]at h2 |-
      all_goals first
       |exact⟨hput _,h2⟩
       |exact h2.elim
       |exact Calls.mono h2 (λe w'' he=>by cases e<;>first|exact⟨hput _,he⟩|exact he)
       |exact Rows.mono h2 (λ_ _ he=>⟨hput _,he⟩)
       |exact⟨(keepY hy undef).of_same (by cases oj.dst<;>rfl) (by cases oj.dst<;>rfl),h2⟩
       |exact h2
     |halt x w'=>cases x<;>simp only [Oper.upon]at h2 |-<;>exact h2
    refine qD (λa' w' ⟨hyk,hk⟩=> ?_) h3
    refine⟨hk.1,ih Cl (listed.setIfInBounds j true) a' w' hk.1 hfree' hrj hyk ?_⟩
    rw [Array.setIfInBounds_comm _ _ hji];exact hk.2
   ·rename_i hw
    simp only [hw]at h1
    refine ih Cl (listed.setIfInBounds j true) (a.put oj.dst undef) w hc hfree' hrj (keepY hy undef) ?_
    rw [Array.setIfInBounds_comm _ _ hji,<-Act.put_comm a v _ p2]
    simpa using h1
def aDi (ops:Array Oper):OT->Array Bool->Bool->Bool
 | .done,listed,inn=> !inn && (Region.ready .any ops listed).isEmpty
 | .stop,_,inn=>inn
 | .first i t, listed, inn => !inn && (match ops[i]? with
   |some o=>decide (kd o.op<=1) && (Region.ready .any ops listed).contains i && Region.free .any ops listed i && aDi ops t (listed.setIfInBounds i true) false
   |none=>false)
 | .alt i t r,listed,inn=>(inn || (!(Region.ready .any ops listed).isEmpty && (Region.ready .any ops listed).all λj=>(i::r.heads).contains j)) && (ops[i]?).isSome && aDi ops t (listed.setIfInBounds i true) false && aDi ops r listed true
def gV (C:Cfg) (all:List Oper) (K:Fr->Hp->Prop):OT->Fr->Hp->Prop
 | .done,fr,hp=>mL C.keep fr λfr'=>K fr' hp
 | .stop,_,_=>True
 | .first i t,fr,hp=>aD6 C all i fr [] λfr' _=>gV C all K t fr' hp
 | .alt i t r,fr,hp=>aDh C all i fr hp (λfr' hp'=>gV C all K t fr' hp')/\gV C all K r fr hp
def aMf (C:Cfg) (all:List Oper) (R:Act->World->Prop) (fuel:Nat) (Cl:World->Prop) (listed:Array Bool) (a:Act) (w:World) (i:Nat):Prop:=
 match all.toArray[i]? with
 |none=>wpS C.P all.toArray R fuel Cl (listed.setIfInBounds i true) a w
 |some o=>
  if Region.wanted o (yielded all.toArray a.tmps)then
   o.wp C.P a w (λa' w'=>Cl w'/\wpS C.P all.toArray R fuel Cl (listed.setIfInBounds i true) a' w') noX
  else wpS C.P all.toArray R fuel Cl (listed.setIfInBounds i true) (a.put o.dst undef) w
theorem yU {C:Cfg}(hti:dS C.P C.ti) {all:List Oper}{K:Fr->Hp->Prop}(hsel:Region.noSelect all.toArray=true):
  ∀(T:OT) (fuel:Nat) (listed:Array Bool) (fr:Fr) (hp:Hp) (ρ:Env) (a:Act) (w:World) (E:Entry),E.pin=C.pin->E.w=w->E.S=ρ.S->gV C all K T fr hp->Mem E ρ hp w->a.tmps.size=C.nt->a.defers=(E.D.take E.k).map oP->cZ ρ w fr a.tmps->
  (aDi all.toArray T listed false=true->T.depth<=fuel->wpS C.P all.toArray (λa w=> ∃fr hp,K fr hp/\Sat E C.nt ⟨fr,hp⟩ a w) fuel (bV ρ.S w) listed a w)/\
  (∀inn,aDi all.toArray T listed inn=true->T.depth<=fuel+1-> ∀i∈T.heads,aMf C all (λa w=> ∃fr hp,K fr hp/\Sat E C.nt ⟨fr,hp⟩ a w) fuel (bV ρ.S w) listed a w i):=by
 intro T
 induction T with
 |done=>
  intro fuel listed fr hp ρ a w E hpin hEw hES h hm h1 h2 h3
  refine⟨λhB _=> ?_,λ_ _ _ i hi=>by simp [OT.heads]at hi⟩
  simp only [aDi,Bool.not_false,Bool.true_and,List.isEmpty_iff]at hB
  simp only [gV,jT]at h
  have hq: ∃fr hp,K fr hp/\Sat E C.nt ⟨fr,hp⟩ a w:=⟨_,hp,h,h1,h2,ρ,hm,λt s hts=>h3 t s (iN _ _ t s hts)⟩
  cases fuel with
  |zero=>exact⟨hB,hq⟩
  |succ n=>exact⟨λ_=>hq,λi hi=>by rw [hB]at hi;cases hi⟩
 |stop=>
  intro fuel listed fr hp ρ a w E hpin hEw hES h hm h1 h2 h3
  exact⟨λhB=>by simp [aDi]at hB,λ_ _ _ i hi=>by simp [OT.heads]at hi⟩
 |first i t ih=>
  intro fuel listed fr hp ρ a w E hpin hEw hES h hm h1 h2 h3
  refine⟨λhB hd=> ?_,λ_ _ _ i hi=>by simp [OT.heads]at hi⟩
  simp only [gV,aD6]at h
  split at h
  ·rename_i o ho
   have ho':all.toArray[i]? =some o:=by simpa using ho
   simp only [aDi,ho',Bool.not_false,Bool.true_and,Bool.and_eq_true,decide_eq_true_eq,List.contains_iff_mem]at hB
   obtain⟨⟨⟨hk,hr⟩,hf⟩,hB⟩:=hB
   simp only [OT.depth]at hd
   obtain⟨fuel,rfl⟩: ∃n,fuel=n+1:=⟨fuel - 1,by omega⟩
   have hm0:Mem E ρ [] w:=hm.sub (λid o ho=>by simp [bB]at ho)
   obtain⟨fr0,h3,hh⟩:=eE h h3
   rcases hh with⟨hw,h⟩|⟨hw,h⟩
   ·rcases aLi hti h with⟨_,hd',_⟩|⟨hk',_⟩|⟨hk',_⟩
    ·obtain⟨v,s,q1,q2,q3⟩:=hd' E ρ a w hm0 h3
     obtain⟨fr',p1,p2⟩:=fC q3 h1 h3 q2
     exact wK ho' hsel fuel _ listed a w (λ_ _ _=>rfl) (Region.free_spec ho' hf) hr (v:=v) (.inl ⟨hw,λw' hw'=>q1 w' ⟨hw',λid x g hx=>by simp [bB]at hx⟩⟩)
      ((ih fuel _ fr' hp ρ _ w E hpin hEw hES p1 hm (by rw [bW];exact h1) (by rw [put_defers];exact h2) p2).1 hB (by omega))
    ·omega
    ·omega
   ·obtain⟨fr',p1,p2⟩:=fC h h1 h3 (Rep.d _ undef (.lit undef))
    exact wK ho' hsel fuel _ listed a w (λ_ _ _=>rfl) (Region.free_spec ho' hf) hr (v:=undef) (.inr ⟨hw,rfl⟩) ((ih fuel _ fr' hp ρ _ w E hpin hEw hES p1 hm (by rw [bW];exact h1) (by rw [put_defers];exact h2) p2).1 hB (by omega))
  ·exact h.elim
 |alt i t r iht ihr=>
  intro fuel listed fr hp ρ a w E hpin hEw hES h hm h1 h2 h3
  have key: ∀inn,aDi all.toArray (.alt i t r) listed inn=true-> ∀n,(OT.alt i t r).depth<=n+1-> ∀j∈(OT.alt i t r).heads,aMf C all (λa w=> ∃fr hp,K fr hp/\Sat E C.nt ⟨fr,hp⟩ a w) n (bV ρ.S w) listed a w j:=by
   intro inn hB n hd j hj
   simp only [aDi,Bool.and_eq_true]at hB
   obtain⟨⟨⟨_,hsome⟩,hBt⟩,hBr⟩:=hB
   simp only [OT.depth]at hd
   simp only [gV]at h
   simp only [OT.heads,List.mem_cons]at hj
   rcases hj with rfl|hj
   ·have h:=h.1
    unfold aDh at h
    split at h
    ·rename_i o ho
     have ho':all.toArray[j]? =some o:=by simpa using ho
     unfold aMf
     simp only [ho']
     obtain⟨fr0,h3,hh⟩:=eE h h3
     rcases hh with⟨hw,h⟩|⟨hw,h⟩
     ·rw [if_pos hw]
      refine aMr hti h E ρ a w hpin hm h3 _ noX λv w' ρ' s hp' k1 k2 k3 k4=> ?_
      obtain⟨fr',p1,p2⟩:=fC k1 h1 k3 k4
      have hkp:bV ρ.S w w':=by have:=k2.kp;rwa [hEw,hES]at this
      have hso: ∀b i,ρ.S b i->ρ'.S b i:=by have:=k2.sold;rwa [hES]at this
      refine⟨hkp, ?_⟩
      have hm2:Mem { eZ w' ρ' hp' E.pin E.rd E.D with k:=E.k } ρ' hp' w':=by
       have:=k2.enter E.pin E.rd
       exact⟨this.os,this.tape,this.output,this.size,this.old,this.sold,this.snew,this.slt,this.kp,this.sat,this.inj,this.hb,this.mv,this.ro,this.md⟩
      have:=(iht n _ fr' hp' ρ' _ w' { eZ w' ρ' hp' E.pin E.rd E.D with k:=E.k } hpin rfl rfl p1 hm2 (by rw [bW];exact h1) (by rw [put_defers];exact h2) p2).1 hBt (by omega)
      refine aAi ?_ _ _ _ _ _ _ (λw2 hw2=>hkp.trans hso hw2) this
      rintro a3 w3 ⟨fr3,hp3,q1,q2,q3,ρ3,q4,q5⟩
      exact⟨fr3,hp3,q1,q2,q3,ρ3,k2.leave (pin:=E.pin) (rd:=E.rd) q4 ⟨rfl,rfl,rfl,rfl,rfl,λb hb=>hb⟩ (λid hid=>hid),q5⟩
     ·rw [if_neg (by rw [hw];decide)]
      obtain⟨fr',p1,p2⟩:=fC h h1 h3 (Rep.d _ undef (.lit undef))
      exact(iht n _ fr' hp ρ _ w E hpin hEw hES p1 hm (by rw [bW];exact h1) (by rw [put_defers];exact h2) p2).1 hBt (by omega)
    ·exact h.elim
   ·exact(ihr n listed fr hp ρ a w E hpin hEw hES h.2 hm h1 h2 h3).2 true hBr (by omega) j hj
  refine⟨λhB hd=> ?_,λinn hB hd=>key inn hB fuel hd⟩
  have hd':=hd
  simp only [OT.depth]at hd'
  obtain⟨fuel,rfl⟩: ∃n,fuel=n+1:=⟨fuel - 1,by omega⟩
  have hc:=hB
  simp only [aDi,Bool.false_or,Bool.and_eq_true,Bool.not_eq_true',List.all_eq_true,List.contains_iff_mem]at hc
  obtain⟨⟨⟨⟨hne,hcov⟩,_⟩,_⟩,_⟩:=hc
  refine⟨λh0=> ?_,λj hj=> ?_⟩
  ·rw [h0]at hne;cases hne
  ·exact key false hB fuel hd j (hcov j hj)
theorem fD {C:Cfg}(hti:dS C.P C.ti) {id:Nat}{l:List Oper}{fr:Fr}{hp:Hp}{K:Ex->Fr->Hp->Prop}(T:OT) (hm:C.P.follows .mixedOrders=true)
  (hB:(decide (T.depth<=l.length) && Region.noSelect l.toArray && aDi l.toArray T (Array.replicate l.length false) false && jB l)=true) (h:gV C l (K .normal) T fr hp):aV C (.region id l.toArray true) fr hp K:=by
 intro E a w hpin hrd ⟨h1,h2,ρ,h3,h4⟩
 simp only [Bool.and_eq_true,decide_eq_true_eq]at hB
 obtain⟨⟨⟨b1,b2⟩,b3⟩,hnd⟩:=hB
 refine eJ hm hnd iU.noOut ?_
 obtain⟨m1,m2⟩:=h3.grow_same (Grew.drew w)
 generalize hw1:w.drew=w1 at *
 have hm2:Mem { eZ w1 ρ hp E.pin E.rd E.D with k:=E.k } ρ hp w1:=by
  have:=m1.enter E.pin E.rd
  exact⟨this.os,this.tape,this.output,this.size,this.old,this.sold,this.snew,this.slt,this.kp,this.sat,this.inj,this.hb,this.mv,this.ro,this.md⟩
 have:=(yU (C:=C) hti b2 T l.length (Array.replicate l.length false) fr hp ρ a w1 { eZ w1 ρ hp E.pin E.rd E.D with k:=E.k } hpin rfl rfl h hm2 h1 h2 (m2 fr _ h4)).1 b3 b1
 have h5:=aBp (Q:=iU C E K) _ _ _ _ _ (aAi (Q':=iU C E K .normal) (λa w ⟨fr',hp',k1,q2,q3,ρ3,q4,q5⟩=>⟨.normal,fr',hp',E, .refl E,trivial,k1,q2,q3,ρ3,m1.leave (pin:=E.pin) (rd:=E.rd) q4 ⟨rfl,rfl,rfl,rfl,rfl,λb hb=>hb⟩ (λid hid=>hid),q5⟩) _ _ _ _ _ _ (λ_ h=>h) this)
 have e:l.toArray.size=l.length:=by simp
 rw [e]
 subst hw1
 exact h5
end
end Go.Proofs.YtfhoddcminbffaaGreatDoor
