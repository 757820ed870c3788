/-
  Statements whose order is open, and that make memory, append, call or store: the rule. Contracts at other objects. What came in, opened: a value that reads as a datum stands for data without addresses, whose form its type tells.
  Conditions: none.
-/
import Derived.Test.YtfhoddcminbffaaGreatDoorVSq
import Derived.ChangeArms
import Derived.ChangeSlices
import Derived.RowKit3
import Derived.Carry
import Derived.Handed
set_option linter.unusedSectionVars false
set_option linter.unusedSimpArgs false
set_option linter.unusedVariables false
namespace Go.Proofs.YtfhoddcminbffaaGreatDoor
open Go.RowKit
section
variable {P:Program}
def aK5 (ops:Array Oper):List Nat->Array Bool->Bool->Bool
 | [],listed,_=>(Region.ready .any ops listed).isEmpty
 |i::r,listed,late=>
  (match ops[i]? with
  |none=>false
  |some o=>
   (match kd o.op with
   | 0=>(Region.ready .any ops listed).contains i && Region.free .any ops listed i
   | 1 => (!late && (Region.ready .any ops listed).contains i && Region.free .any ops listed i &&
     (List.range ops.size).all λj=>listed.getD j true || (match ops[j]? with|some oj=>kd oj.op !=3 || oj.after.any (λe=>Region.binds .any e && e.on==i)|none=>true)) ||
     (Region.ready .any ops listed==[i])
   | 2=> !late && (Region.ready .any ops listed==[i])
   |_=>o.guard.isNone && (Region.ready .any ops listed==[i])) &&
   aK5 ops r (listed.setIfInBounds i true) (late || kd o.op==3))
def aFp (P:Program) (fr:Fr) (hp:Hp) (f:Operand) (args:List Operand) (K:SV->Prop):Prop:=
 ev fr f λs=>match aIv s with
  | some (g, first, cap) => (match evL fr args with
   |some l=>cY P g=true/\ ∃hpc post,yX hpc hp/\Tri P g (first++l++cap) hpc post/\ ∀r,post r->K r
   |none=>aI "call: an argument")
  |none=>aI "call: no function"
def aK1 (op:BinOp) (fr:Fr) (x y:Operand) (K:SV->Prop):Prop:=
 ev fr x λs=>ev fr y λr=>match s,r with
  | .d (.int k a), .d (.int k' b)=>aB2 op k a k' b K
  | .d (.str a), .d (.str b)=>aAm op a b K
  |_,_=>aI "add"
theorem aAv {o:Oper}{op:BinOp}{t t':TypeId}{x y:Operand}(ho:o.op= .binOp op t x y t') {fr:Fr}{K:SV->Prop}(h:aK1 op fr x y K) {ρ:Env}{a:Act}{w:World}(hf:cZ ρ w fr a.tmps):
  ∃v s,(∀w',(execOp a.eval o).run P w'= .ok (.value v) w')/\Rep w ρ s v/\K s:=by
 obtain⟨s,hs,hv0⟩:=cH h
 obtain⟨r,hr,hv⟩:=cH hv0
 clear hv0
 have h1:=aX hf hs
 have h2:=aX hf hr
 split at hv
 ·obtain⟨v,q,a1,a2,a3⟩:=tK (P:=P) t hv
  exact⟨v,_,λw'=>by simp [execOp,ho,h1.int_inv,h2.int_inv,rT,a1], .d _ _ (a3 w ρ.S),a2⟩
 ·obtain⟨v,q,a1,a2,a3⟩:=tJ (P:=P) t hv
  exact⟨v,_,λw'=>by simp [execOp,ho,h1.str_inv.1,h2.str_inv.1,rS,a1], .d _ _ (a3 w ρ.S),a2⟩
 ·exact hv.elim
def dVC (P:Program) (ti:TypeId->Option TI) (pin:List Nat) (fr:Fr) (hp:Hp) (dst:Nat) (o:Oper) (K:SV->Hp->Prop):Prop:=
 match o.op with
 | .alloc t => (match ti t with
   |some T=>fB dst pin fr hp/\K (.ptr dst 0) ((dst, .cells t (T.zero.map .d))::hp)
   |none=>aI "alloc: a type")
 | .box t x => ev fr x λs => (match gK s with
   |some cs=>fB dst pin fr hp/\dst∉SV.idsL cs/\K (.ptr dst 0) ((dst, .cells t cs)::hp)
   |none=>aI "box: cells")
 | .buildSlice t len parts=>(match evP fr parts.toList with|some l=>iW ti t len dst l pin fr hp K|none=>aI "buildSlice: a part")
 | .makeSlice t x y=>ev fr x λl=>ev fr y λc=>aGn ti t dst l c pin fr hp K
 | .store t x y=>ev fr x λs=>ev fr y λr=>vB ti t s r hp λhp'=>K (.d (.lit undef)) hp'
 | .call { callee:= .builtin .append,args:=⟨[x,y]⟩,argTypes:=⟨[t,tx]⟩ }=>ev fr x λs=>ev fr y λr=>wE ti t tx dst s r pin fr hp K
 | .call { callee:= .value f,args:=args,argTypes:=_ }=>aFp P fr hp f args.toList λs=>K s hp
 | .call { callee:= .builtin .copy,args:=_,argTypes:=_ }=>bN P o pin fr hp K
 | .binOp .add _ x y _=>aK1 .add fr x y λs=>K s hp
 | .binOp .sub _ x y _=>aK1 .sub fr x y λs=>K s hp
 |_=>mK P ti fr hp o λs=>K s hp
theorem aHj {o:Oper}{f:Operand}{args:Array Operand}{ts:Array TypeId}(ho:o.op= .call { callee:= .value f,args:=args,argTypes:=ts }) {pin:List Nat}{fr:Fr}{hp:Hp}{K:SV->Hp->Prop}
  (h:aFp P fr hp f args.toList λs=>K s hp):sE P o pin fr hp K:=by
 intro E ρ a w hpin hm hf next Q hn
 obtain⟨s,hs,hv⟩:=cH h
 have hr:=aX hf hs
 split at hv
 ·rename_i g first cap hfn
  obtain⟨fv,cv,e,h1,h2⟩:=rK hfn hr
  split at hv
  ·rename_i l hl
   obtain⟨hcall,hpc,post,hsub,htri,hk⟩:=hv
   obtain⟨l1,l2⟩:=rR hf _ _ hl
   have hargs:cS w ρ (first++l++cap) (fv++args.map a.eval++cv):=by
    refine(h1.append ⟨?_, ?_⟩).append h2
    ·simpa using l1
    ·intro j s' v hs' hv'
     refine l2 j s' v hs' ?_
     rw [<-Array.toList_map];simpa using hv'
   unfold Oper.wp
   rw [gW ho e hcall]
   simp only [Oper.upon]
   refine(htri w ρ _ hm.slt hargs λid o ho=>(hm.sat id o (iY _ _ hsub id o ho)).ro_).mono ?_
   rintro e' w' ⟨v,S',s',q1,q2,q3,q4,q5,q6,q7⟩
   subst q1
   obtain⟨m1,m2⟩:=hm.grow q3 S' q4 q5 q6
   exact hn v w' _ s' hp (hk s' q2) m1 (m2 fr _ hf) q7 (KInfo.mk_ (hm.kept_grew q3) q4 λid x g hx hg=>⟨hx,by cases x<;>exact hg⟩)
  ·exact hv.elim
 ·exact hv.elim
theorem aJi {ti:TypeId->Option TI}{fr:Fr}{hp:Hp}{o:Oper}{K:SV->Prop}(h:mK P ti fr hp o K):kd o.op<=1:=by
 unfold mK at h
 split at h<;>first|exact h.elim|(rename_i e;rw [e];simp [kd];done)|(rename_i e;rw [e];unfold kd;split<;>first|exact Nat.zero_le _|exact Nat.le_refl _|(rename_i q;cases q))
theorem aLi {ti:TypeId->Option TI}(hti:dS P ti) {o:Oper}{pin:List Nat}{fr:Fr}{hp:Hp}{dst:Nat}{K:SV->Hp->Prop}(h:dVC P ti pin fr hp dst o K):
  (kd o.op<=1/\dM P o fr hp (λs=>K s hp)/\(kd o.op=0-> ∀(ρ:Env) (a:Act) (w:World) (v:Value),cZ ρ w fr a.tmps->(execOp a.eval o).run P w= .ok (.value v) w-> ∀w',(execOp a.eval o).run P w'= .ok (.value v) w'))\/(kd o.op=2/\sE P o pin fr hp K)\/(kd o.op=3/\uP P o pin fr hp K):=by
 unfold dVC at h
 split at h
 ·rename_i ho;exact .inr (.inl ⟨by rw [ho];rfl,aAu hti ho h⟩)
 ·rename_i ho;exact .inr (.inl ⟨by rw [ho];rfl,aIq ho h⟩)
 ·rename_i ho;exact .inr (.inl ⟨by rw [ho];rfl,mM hti ho h⟩)
 ·rename_i ho;exact .inr (.inl ⟨by rw [ho];rfl,aEy hti ho h⟩)
 ·rename_i ho;exact .inr (.inr ⟨by rw [ho];rfl,tQ hti ho h⟩)
 ·rename_i ho;exact .inr (.inl ⟨by rw [ho];rfl,tS hti ho h⟩)
 ·rename_i ho;exact .inr (.inl ⟨by rw [ho];rfl,aHj ho h⟩)
 ·rename_i ho;exact .inr (.inr ⟨by rw [ho];rfl,h⟩)
 ·rename_i ho
  exact .inl ⟨by rw [ho]; simp [kd], λE ρ a w hm hf => by
   obtain⟨v,s,q1,q2,q3⟩:=aAv (P:=P) ho h hf
   exact⟨v,s,λw' _=>q1 w',q2,q3⟩,λ_ ρ a w v hf hv w'=>by
   obtain⟨u,s,q1,_⟩:=aAv (P:=P) ho h hf
   rw [q1 w]at hv
   injection hv with hv
   rw [q1 w',hv]⟩
 ·rename_i ho
  exact .inl ⟨by rw [ho]; simp [kd], λE ρ a w hm hf => by
   obtain⟨v,s,q1,q2,q3⟩:=aAv (P:=P) ho h hf
   exact⟨v,s,λw' _=>q1 w',q2,q3⟩,λ_ ρ a w v hf hv w'=>by
   obtain⟨u,s,q1,_⟩:=aAv (P:=P) ho h hf
   rw [q1 w]at hv
   injection hv with hv
   rw [q1 w',hv]⟩
 ·rename_i n1 n2
  have hp:=zR hti (o:=o) h
  refine .inl ⟨aJi h,hp,λe0 ρ a w v hf h0 w'=> ?_⟩
  have hany: ∀x,(o.op= .move x\/o.op= .assign x)-> ∀w':World,(execOp a.eval o).run P w'= .ok (.value (a.eval x)) w':=by
   rintro x (e|e) w'<;>simp [execOp,e]
  have hx: ∃x,o.op= .move x\/o.op= .assign x:=by
   generalize o.op=p at *
   unfold kd at e0
   split at e0<;>first|exact⟨_, .inl rfl⟩|exact⟨_, .inr rfl⟩|(exfalso;exact n1 _ _ _ _ rfl)|(exfalso;exact n2 _ _ _ _ rfl)|cases e0
  obtain⟨x,hx⟩:=hx
  rw [hany x hx w]at h0
  injection h0 with h0
  rw [hany x hx w',h0]
theorem aJ4 {ops:Array Oper}{Q Q':Act->World->Prop}(hQ: ∀a w,Q a w->Q' a w): ∀(fuel:Nat) (Cl:World->Prop) (listed:Array Bool) (a:Act) (w:World),wpE P ops Q fuel Cl listed a w->wpE P ops Q' fuel Cl listed a w:=by
 intro fuel
 induction fuel with
 |zero=>intro Cl listed a w h;exact⟨h.1,hQ _ _ h.2⟩
 |succ fuel ih=>
  intro Cl listed a w h
  refine⟨λh0=>hQ _ _ (h.1 h0),λi hi=> ?_⟩
  have:=h.2 i hi
  split
  ·rename_i ho;simp only [ho]at this;exact ih _ _ _ _ this
  ·rename_i o ho
   simp only [ho]at this
   split
   ·rename_i hw
    simp only [hw,if_true]at this
    refine qD (λa' w' hk=> ?_) this
    split
    ·rename_i h3;simp only [h3,if_true]at hk;exact ih _ _ _ _ hk
    ·rename_i h3;simp only [h3,if_false]at hk;exact⟨hk.1,ih _ _ _ _ hk.2⟩
   ·rename_i hw;simp only [hw]at this;exact ih _ _ _ _ this
def aD6 (C:Cfg) (all:List Oper) (i:Nat) (fr:Fr) (hp:Hp) (k:Fr->Hp->Prop):Prop:=
 match all[i]? with
 |some o=>
  nV all fr o.guard
   (λfr=>dVC C.P C.ti C.pin fr hp (C.off+o.dst.getD 0) o λs hp'=>put C o.dst s fr λfr'=>k fr' hp')
   (λfr=>put C o.dst (.d (.lit undef)) fr λfr'=>k fr' hp)
 |none=>aI "no such operation"
def uI (C:Cfg) (all:List Oper) (K:Fr->Hp->Prop):List Nat->Fr->Hp->Prop
 | [],fr,hp=>mL C.keep fr λfr'=>K fr' hp
 |i::r,fr,hp=>aD6 C all i fr hp λfr' hp'=>uI C all K r fr' hp'
theorem uH {C:Cfg}(hti:dS C.P C.ti) {all:List Oper}{K:Fr->Hp->Prop}{E:Entry}(hpin:E.pin=C.pin) (hsel:Region.noSelect all.toArray=true):
  ∀(ord:List Nat) (listed:Array Bool) (late:Bool) (fr:Fr) (hp:Hp) (ρ:Env) (a:Act) (w:World),aK5 all.toArray ord listed late=true->uI C all K ord fr hp->Mem E ρ hp w->a.tmps.size=C.nt->a.defers=(E.D.take E.k).map oP->cZ ρ w fr a.tmps->
  wpE C.P all.toArray (λa w=> ∃fr hp,K fr hp/\Sat E C.nt ⟨fr,hp⟩ a w) ord.length (if late then λ_=>True else Kept ρ hp w) listed a w:=by
 intro ord
 induction ord with
 |nil=>
  intro listed late fr hp ρ a w hB h hm h1 h2 h3
  simp only [aK5,List.isEmpty_iff]at hB
  simp only [uI,jT]at h
  exact⟨hB,_,hp,h,h1,h2,ρ,hm,λt s hts=>h3 t s (iN _ _ t s hts)⟩
 |cons i r ih=>
  intro listed late fr hp ρ a w hB h hm h1 h2 h3
  simp only [aK5]at hB
  simp only [uI,aD6]at h
  split at h
  ·rename_i o ho
   have ho':all.toArray[i]? =some o:=by simpa using ho
   simp only [ho',Bool.and_eq_true]at hB
   obtain⟨hBk,hBr⟩:=hB
   obtain⟨fr0,h3,hh⟩:=eE h h3
   have hcl:(if late then λ_=>True else Kept ρ hp w) w:=by
    cases late
    ·exact Kept.refl ρ hp w
    ·trivial
   -- an operation that is alone
   have alone: ∀(hone:Region.ready .any all.toArray listed=[i]) (Cl:World->Prop),
     (if Region.wanted o (yielded all.toArray a.tmps) then
      o.wp C.P a w (λa' w'=>if kd o.op=3 then wpE C.P all.toArray (λa w=> ∃fr hp,K fr hp/\Sat E C.nt ⟨fr,hp⟩ a w) r.length (λ_=>True) (listed.setIfInBounds i true) a' w' else Cl w'/\wpE C.P all.toArray (λa w=> ∃fr hp,K fr hp/\Sat E C.nt ⟨fr,hp⟩ a w) r.length Cl (listed.setIfInBounds i true) a' w') noX
     else wpE C.P all.toArray (λa w=> ∃fr hp,K fr hp/\Sat E C.nt ⟨fr,hp⟩ a w) r.length Cl (listed.setIfInBounds i true) (a.put o.dst undef) w)->
     wpE C.P all.toArray (λa w=> ∃fr hp,K fr hp/\Sat E C.nt ⟨fr,hp⟩ a w) (i::r).length Cl listed a w:=by
    intro hone Cl hx
    refine⟨λh0=>(by rw [hone]at h0;cases h0),λj hj=> ?_⟩
    rw [hone]at hj
    simp at hj
    subst hj
    simp only [ho']
    exact hx
   -- an operation that may be taken first
   have quiet: ∀(hk:kd o.op<=1) (hnl:kd o.op=1->¬ Region.ready .any all.toArray listed=[i]) (v:Value),YE C.P all.toArray (if late then λ_=>True else Kept ρ hp w) o v a->(kd o.op=0\/kd o.op=1)->
     wpE C.P all.toArray (λa w=> ∃fr hp,K fr hp/\Sat E C.nt ⟨fr,hp⟩ a w) r.length (if late then λ_=>True else Kept ρ hp w) (listed.setIfInBounds i true) (a.put o.dst v) w->
     wpE C.P all.toArray (λa w=> ∃fr hp,K fr hp/\Sat E C.nt ⟨fr,hp⟩ a w) (i::r).length (if late then λ_=>True else Kept ρ hp w) listed a w:=by
    intro hk hnl v hy hk01 H
    have hpre:i∈Region.ready .any all.toArray listed/\Region.free .any all.toArray listed i=true/\(kd o.op≠0-> ∀j oj,all.toArray[j]? =some oj->listed.getD j true=false->kd oj.op=3-> ∃e∈oj.after,Region.binds .any e=true/\e.on=i):=by
     rcases hk01 with e|e
     ·rw [e]at hBk
      simp only [Bool.and_eq_true,List.contains_iff_mem]at hBk
      exact⟨hBk.1,hBk.2,λh0=>absurd e h0⟩
     ·have hnl:=hnl e
      rw [e]at hBk
      simp only [Bool.and_eq_true,Bool.or_eq_true,beq_iff_eq,List.contains_iff_mem]at hBk
      obtain⟨⟨⟨_,q1⟩,q2⟩,q3⟩:=hBk.resolve_right hnl
      refine⟨q1,q2,λ_ j oj hj hun h3'=> ?_⟩
      rw [List.all_eq_true]at q3
      have:=q3 j (List.mem_range.2 (Array.getElem?_eq_some_iff.1 hj).1)
      simp only [hun,Bool.false_or,hj,h3',bne_self_eq_false]at this
      obtain⟨e',he',hb'⟩:=Array.any_eq_true'.1 this
      simp only [Bool.and_eq_true,beq_iff_eq]at hb'
      exact⟨e',he',hb'.1,hb'.2⟩
    exact qE ho' hsel (by omega) r.length _ listed a w hcl (Region.free_spec ho' hpre.2.1) hpre.2.2 hpre.1 hy H
   rcases hh with⟨hw,h⟩|⟨hw,h⟩
   ·rcases aLi hti h with⟨hk,hd,hd0⟩|⟨hk,hd⟩|⟨hk,hd⟩
    ·obtain⟨v,s,q1,q2,q3⟩:=hd E ρ a w hm h3
     obtain⟨fr',p1,p2⟩:=fC q3 h1 h3 q2
     have hne3:(kd o.op==3)=false:=by simp;omega
     rw [hne3,Bool.or_false]at hBr
     have hk01:kd o.op=0\/kd o.op=1:=by omega
     by_cases hone:kd o.op=1/\Region.ready .any all.toArray listed=[i]
     ·refine alone hone.2 _ ?_
      rw [if_pos hw]
      unfold Oper.wp
      rw [q1 w (Kept.refl ρ hp w)]
      simp only [Oper.upon]
      rw [if_neg (by omega)]
      exact⟨hcl,ih _ late fr' hp ρ _ w hBr p1 hm (by rw [bW];exact h1) (by rw [put_defers];exact h2) p2⟩
     have hnl:kd o.op=1->¬ Region.ready .any all.toArray listed=[i]:= λa b=>hone ⟨a,b⟩
     refine quiet hk hnl v (.inl ⟨hw,λw' hc=> ?_⟩) hk01 (ih _ late fr' hp ρ _ w hBr p1 hm (by rw [bW];exact h1) (by rw [put_defers];exact h2) p2)
     by_cases e0:kd o.op=0
     · -- it moves a value: in every world
      exact hd0 e0 ρ a w v h3 (q1 w (Kept.refl ρ hp w)) w'
     ·have hl:late=false:=by
       have e1:kd o.op=1:=by omega
       have hnl:=hnl e1
       rw [e1]at hBk
       simp only [Bool.and_eq_true,Bool.or_eq_true,beq_iff_eq,Bool.not_eq_true']at hBk
       exact(hBk.resolve_right hnl).1.1.1
      subst hl
      rcases hc with hc|hc
      ·exact q1 w' hc
      ·exact absurd hc e0
    ·have hl:late=false/\Region.ready .any all.toArray listed=[i]:=by
      rw [hk]at hBk
      simp only [Bool.and_eq_true,Bool.not_eq_true',beq_iff_eq]at hBk
      exact hBk
     obtain⟨rfl,hone⟩:=hl
     have hne3:(kd o.op==3)=false:=by rw [hk];rfl
     rw [hne3,Bool.or_false]at hBr
     refine alone hone _ ?_
     rw [if_pos hw]
     refine hd E ρ a w hpin hm h3 _ noX λv w' ρ' s hp' k1 k2 k3 k4 k5=> ?_
     rw [if_neg (by rw [hk];decide)]
     obtain⟨fr',p1,p2⟩:=fC k1 h1 k3 k4
     have:=ih _ false fr' hp' ρ' _ w' hBr p1 k2 (by rw [bW];exact h1) (by rw [put_defers];exact h2) p2
     exact⟨k5.k,aGk _ _ _ _ _ _ k5.b this⟩
    ·have hone:Region.ready .any all.toArray listed=[i]:=by
      rw [hk]at hBk
      simp only [Bool.and_eq_true,beq_iff_eq]at hBk
      exact hBk.2
     have he3:(kd o.op==3)=true:=by rw [hk];rfl
     rw [he3,Bool.or_true]at hBr
     refine alone hone _ ?_
     rw [if_pos hw]
     refine hd E ρ a w hpin hm h3 _ noX λv w' ρ' s hp' k1 k2 k3 k4=> ?_
     rw [if_pos hk]
     obtain⟨fr',p1,p2⟩:=fC k1 h1 k3 k4
     exact ih _ true fr' hp' ρ' _ w' hBr p1 k2 (by rw [bW];exact h1) (by rw [put_defers];exact h2) p2
   ·obtain⟨fr',p1,p2⟩:=fC h h1 h3 (Rep.d _ undef (.lit undef))
    by_cases hk:kd o.op<=1
    ·have hne3:(kd o.op==3)=false:=by simp;omega
     rw [hne3,Bool.or_false]at hBr
     by_cases hone:kd o.op=1/\Region.ready .any all.toArray listed=[i]
     ·refine alone hone.2 _ ?_
      rw [if_neg (by rw [hw];decide)]
      exact ih _ late fr' hp ρ _ w hBr p1 hm (by rw [bW];exact h1) (by rw [put_defers];exact h2) p2
     exact quiet hk (λa b=>hone ⟨a,b⟩) undef (.inr ⟨hw,rfl⟩) (by omega) (ih _ late fr' hp ρ _ w hBr p1 hm (by rw [bW];exact h1) (by rw [put_defers];exact h2) p2)
    ·have hone:kd o.op=2/\Region.ready .any all.toArray listed=[i]:=by
      generalize kd o.op=n at hBk hk
      match n,hk with
      | 2,_=>simp only [Bool.and_eq_true,beq_iff_eq]at hBk;exact⟨rfl,hBk.2⟩
      |n+3,_=>
       exfalso
       simp only [Bool.and_eq_true,beq_iff_eq,Option.isNone_iff_eq_none]at hBk
       simp [Region.wanted,hBk.1]at hw
     have hne3:(kd o.op==3)=false:=by rw [hone.1];rfl
     rw [hne3,Bool.or_false]at hBr
     refine alone hone.2 _ ?_
     rw [if_neg (by rw [hw];decide)]
     exact ih _ late fr' hp ρ _ w hBr p1 hm (by rw [bW];exact h1) (by rw [put_defers];exact h2) p2
  ·exact h.elim
theorem pM {C:Cfg}(hti:dS C.P C.ti) {id:Nat}{l:List Oper}{fr:Fr}{hp:Hp}{K:Ex->Fr->Hp->Prop}(ord:List Nat) (hm:C.P.follows .mixedOrders=true)
  (hB:(ord.length==l.length && Region.noSelect l.toArray && aK5 l.toArray ord (Array.replicate l.length false) false && jB l)=true) (h:uI C l (K .normal) ord fr hp):aV C (.region id l.toArray true) fr hp K:=by
 intro E a w hpin hrd ⟨h1,h2,ρ,h3,h4⟩
 simp only [Bool.and_eq_true,beq_iff_eq]at hB
 obtain⟨⟨⟨b1,b2⟩,b3⟩,hnd⟩:=hB
 refine eJ hm hnd iU.noOut ?_
 obtain⟨m1,m2⟩:=h3.grow_same (Grew.drew w)
 have:=uH (C:=C) hti (E:=E) hpin b2 ord (Array.replicate l.length false) false fr hp ρ a _ b3 h m1 h1 h2 (m2 fr _ h4)
 have e:l.toArray.size=ord.length:=by rw [b1];rfl
 have h5:=nN (Q:=iU C E K) _ _ _ _ _ (aJ4 (Q':=iU C E K .normal) (λa w ⟨fr',hp',k1,k2⟩=>⟨.normal,fr',hp',E, .refl E,trivial,k1,k2⟩) _ _ _ _ _ this)
 rw [e]
 rw [<-b1]at h5
 exact h5
theorem Mem.recell {E:Entry}{ρ:Env}{hp:Hp}{w:World}(h:Mem E ρ hp w) {i:Nat}{t:TypeId}{cs cs':List SV}(hi:bB hp i=some (.cells t cs)) (hl:cs'.length=cs.length)
  (hr: ∀(j:Nat) (s':SV) (v:Value),cs'[j]? =some s'->(∀s,cs[j]? =some s->Rep w ρ s v)->Rep w ρ s' v):Mem E ρ (nT hp i (.cells t cs')) w:=by
 refine⟨h.os,h.tape,h.output,h.size,h.old,h.sold,h.snew,h.slt,h.kp, ?_, ?_, ?_,h.mv, ?_,h.md⟩
 ·intro id o ho
  rw [cO _ hi]at ho
  split at ho
  ·rename_i e;subst e
   injection ho with ho;subst ho
   obtain⟨g,h1,⟨cur,c1,c2,c3,c4⟩,h3⟩:=h.sat id _ hi
   exact⟨g,h1,⟨cur,c1,c2.trans hl.symm,c3,λj s' v hs' hv=>hr j s' v hs' λs hs=>c4 j s v hs hv⟩,h3⟩
  ·exact h.sat id o ho
 ·intro id o id' o' g h1 h2 h3 h4
  rw [cO _ hi]at h1 h2
  have key: ∀k x,(if k=i then some (HObj.cells t cs')else bB hp k)=some x->ρ.at k x=some g-> ∃x',bB hp k=some x'/\ρ.at k x'=some g:=by
   intro k x hx hg
   split at hx
   ·rename_i e;subst e
    injection hx with hx;subst hx
    exact⟨_,hi,hg⟩
   ·exact⟨x,hx,hg⟩
  obtain⟨x,a1,a2⟩:=key id o h1 h3
  obtain⟨x',b1,b2⟩:=key id' o' h2 h4
  exact h.inj id x id' x' g a1 b1 a2 b2
 ·intro id o g h1 h3
  rw [cO _ hi]at h1
  split at h1
  ·rename_i e;subst e
   injection h1 with h1;subst h1
   exact h.hb id _ g hi h3
  ·exact h.hb id o g h1 h3
 ·intro id oR g h1 hrd h2 id' o' h3 h4
  rw [cO _ hi]at h1 h3
  split at h1
  ·injection h1 with h1;subst h1;exact hrd.elim
  ·split at h3
   ·rename_i e;subst e
    injection h3 with h3;subst h3
    exact h.ro id oR g h1 hrd h2 id' _ hi h4
   ·exact h.ro id oR g h1 hrd h2 id' o' h3 h4
end
end Go.Proofs.YtfhoddcminbffaaGreatDoor
namespace Go.Proofs.YtfhoddcminbffaaGreatDoor
open Go.RowKit
section
variable {P:Program}
theorem Rep.closed {w:World}{ρ ρ':Env}{s:SV}{v:Value}(h:Rep w ρ s v) (hs:ρ'.S=ρ.S) (hi:s.ids=[]):Rep w ρ' s v:=
 h.mono (λ_ _ _=>rfl) (λb i x=>by rw [hs];exact x) (λid hid=>by rw [hi]at hid;cases hid)
theorem Tri.at {f:FuncId}{o:Nat}{asv:List SV}{t:TypeId}{cs:List SV}{post:SV->Prop}(h:Tri P f (.ptr 0 o::asv) [(0, .cells t cs)] post) (ha:SV.idsL asv=[]) (hc:SV.idsL cs=[]) (hpost: ∀s,post s->s.ids=[])
  (i:Nat):Tri P f (.ptr i o::asv) [(i, .cells t cs)] post:=by
 intro w ρ vs h1 h2 h3
 let ρ0:Env:={ ρ with blk:= λk=>if k=0 then ρ.blk i else ρ.blk k }
 have hcl: ∀(l:List SV),SV.idsL l=[]-> ∀(j:Nat) (s:SV),l[j]? =some s->s.ids=[]:=by
  intro l hl j s hs
  cases e:s.ids with
  |nil=>rfl
  |cons a r=>
   have:=SV.mem_idsL hs (id:=a) (by rw [e];exact List.mem_cons_self ..)
   rw [hl]at this
   cases this
 refine(h w ρ0 vs h1 ⟨h2.1, ?_⟩ ?_).mono ?_
 ·intro j s v hs hv
  cases j with
  |zero=>
   simp at hs
   subst hs
   have:=h2.2 0 _ v rfl hv
   cases this with
   |ptr _ _ g hg=>exact .ptr 0 o g hg
  |succ j=>
   exact(h2.2 (j+1) s v hs hv).closed rfl (hcl asv ha j s hs)
 ·intro id x hx
  simp only [bB]at hx
  split at hx
  ·rename_i e;subst e
   injection hx with hx;subst hx
   obtain⟨g,g1,cur,c1,c2,c3,c4⟩:=h3 i (.cells t cs) (by simp [bB])
   exact⟨g,g1,cur,c1,c2,c3,λj s v hs hv=>(c4 j s v hs hv).closed rfl (hcl cs hc j s hs)⟩
  ·cases hx
 ·rintro e w' ⟨v,S',s,k1,k2,k3,k4,k5,k6,k7⟩
  exact⟨v,S',s,k1,k2,k3,k4,k5,k6,k7.closed rfl (hpost s k2)⟩
theorem Tri.len {f:FuncId}{args:List SV}{hp:Hp}{post:SV->Prop}(j:Nat) {z:Nat}{rows:List (List D)}(hj:args[j]? =some (.d (.sl z rows))) (h:rows.length<=9223372036854775807->Tri P f args hp post):Tri P f args hp post:=by
 intro w ρ vs h1 h2 h3
 have hlt:j < vs.size:=by rw [h2.1];exact(List.getElem?_eq_some_iff.1 hj).1
 have hr:=h2.2 j _ _ hj (Array.getElem?_eq_getElem hlt)
 cases hr with
 |d x v hd=>
  obtain⟨A,cap,b,off,_,hn,hc,_⟩:=hd.of_sl
  exact h (Nat.le_trans hn hc) w ρ vs h1 h2 h3
theorem Tri.lenS {f:FuncId}{args:List SV}{hp:Hp}{post:SV->Prop}(j:Nat) {l:List UInt8}(hj:args[j]? =some (.d (.str l))) (h:l.length<=9223372036854775807->Tri P f args hp post):Tri P f args hp post:=by
 intro w ρ vs h1 h2 h3
 have hlt:j < vs.size:=by rw [h2.1];exact(List.getElem?_eq_some_iff.1 hj).1
 have hr:=h2.2 j _ _ hj (Array.getElem?_eq_getElem hlt)
 generalize vs[j]=v at hr
 cases hr with
 |d x v hd=>
  cases hd with
  |str l hl=>exact h hl w ρ vs h1 h2 h3
theorem qU {id:Nat}{l:List Nat}(h:l.elem id=false):id∉l:=by
 intro hm
 rw [List.elem_eq_contains,List.contains_eq_mem,decide_eq_false_iff_not]at h
 exact h hm
theorem aF7 {l:List SV}(h:l.all sT=true): ∀n∈l,sT n=true:= λn hn=>List.all_eq_true.1 h n hn
theorem aH2 (b:List UInt8) (i j:Nat):List.drop i (List.take j (List.map sH b))=((b.take j).drop i).map sH:=by rw [List.map_drop,List.map_take]
theorem aDx (b:List UInt8) (i j:Nat):List.drop i (List.take j (List.map sH b))=(unb (List.drop i (List.take j (List.map sH b)))).map sH:=by rw [aH2,yT]
def aIu (id:Nat) (pin:List Nat) (fr:Fr) (hp:Hp):Bool:= !(pin.elem id) && !((fN fr).elem id) && !((iL hp).elem id)
theorem dV {id:Nat}{pin:List Nat}{fr:Fr}{hp:Hp}(h:aIu id pin fr hp=true):fB id pin fr hp:=by
 simp only [aIu,Bool.and_eq_true,Bool.not_eq_true',List.elem_eq_contains,List.contains_eq_mem,decide_eq_false_iff_not]at h
 exact⟨h.1.1,h.1.2,h.2⟩
theorem sI {a b:Prop}(k:b) (h:a:=by first|exact rfl|exact trivial|exact dV (by with_unfolding_all exact rfl)|exact List.cons_ne_nil _ _|exact aF7 rfl|exact aDx _ _ _|exact Nat.le_of_ble_eq_true rfl|exact qU (by with_unfolding_all exact rfl)|omega|(rw [yT])|exact aFy _|(simp only [lnS,Int.toNat_natCast];omega)|(simp only [lnS,Int.toNat_natCast]at *;omega)):a/\b:=⟨h,k⟩
theorem bT {b:Bool}{C:Prop}(h:b=false) (k:b=true):C:=by rw [h]at k;cases k
theorem bF {b:Bool}{C:Prop}(h:b=true) (k:b=false):C:=by rw [h]at k;cases k
theorem exL {α:Type}{a:Nat}{l:List α}{K:a < l.length->Prop}(h:a < l.length:=by first|omega|(simp only [lnS];omega)|simp) (k:K h): ∃h,K h:=⟨h,k⟩
theorem ddX {p G:Prop}(h:p) (f:p->False:=by intro hb;first|contradiction|(simp only [lnS]at hb;omega)|omega):G:=(f h).elim
theorem dsX {p G:Prop}(h:p) (f:p->False:=by intro hb;first|contradiction|exact bT hb (by assumption)|exact bF hb (by assumption)):G:=(f h).elim
theorem sJ {a b:Prop}(k:b) (h:a:=by first|exact rfl|exact trivial|exact dV (by with_unfolding_all exact rfl)|exact List.cons_ne_nil _ _|exact aF7 rfl|exact aDx _ _ _|exact Nat.le_of_ble_eq_true rfl|exact qU (by with_unfolding_all exact rfl)|omega|(rw [yT])|exact aFy _|(simp only [lnS,Int.toNat_natCast];omega)|(simp only [lnS,Int.toNat_natCast]at *;omega)|(show aKa _ _=true;kernel_rfl)|(rw [List.length_append];exact rfl)|(simp only [List.length_map,List.length_append];exact rfl)):a/\b:=⟨h,k⟩
end
end Go.Proofs.YtfhoddcminbffaaGreatDoor
namespace Go.Proofs.YtfhoddcminbffaaGreatDoor
open Go.RowKit Go.ChangeShapes
section
variable {H:Type} {enc:TypeId×Value->H} {P:Program} {w:World} {spare:Nat->Bool} {held:Bool}
def jM (P:Program):Nat->List Field->Nat->Prop
 |off,[],n=>off=n
 |off,f::r,n=>f.offset=off/\jM P (off+P.cellsOf f.type) r n
def Cl (P:Program) (T:TypeId->Prop):Prop:= ∀t,T t->match P.underlying t with
 |some .bool=>True
 |some (.int _)=>True
 |some .string=>True
 |some (.slice e)=>(0 < P.cellsOf e/\0 < P.bytesOf e)/\T e
 |some (.struct fs)=>jM P 0 fs.toList (P.cellsOf t)/\ ∀f∈fs.toList,T f.type
 |some (.array n e)=>P.cellsOf t=n * P.cellsOf e/\T e
 |_=>False
def aK2 (R:TypeId->List D->Prop):List Field->List D->Prop
 | [],ds=>ds=[]
 |f::r,ds=> ∃a b,ds=a++b/\R f.type a/\aK2 R r b
def aMi (R:List D->Prop):Nat->List D->Prop
 | 0,ds=>ds=[]
 |n+1,ds=> ∃a b,ds=a++b/\R a/\aMi R n b
def aAg (P:Program) (t:TypeId) (d:DataW H):Prop:= ∀n∈d.weights P t,n<=reachBytes
theorem vM {e:TypeId}: ∀(l:List (DataW H)),(∀n∈DataW.weightsAll P e l,n<=reachBytes)-> ∀d∈l,aAg P e d
 | [],_,_,h=>by cases h
 |x::r,h,d,hd=>by
  rw [DataW.weightsAll]at h
  rcases List.mem_cons.1 hd with rfl|hd
  ·exact λn hn=>h n (List.mem_append_left _ hn)
  ·exact vM r (λn hn=>h n (List.mem_append_right _ hn)) d hd
theorem xA: ∀(ts:List TypeId) (l:List (DataW H)),(∀n∈DataW.weightsEach P ts l,n<=reachBytes)-> ∀(i:Nat) t d,ts[i]? =some t->l[i]? =some d->aAg P t d
 | [],_,_,i,t,d,h,_=>by simp at h
 |_::_,[],_,i,t,d,_,h=>by simp at h
 |u::ts,x::r,h,i,t,d,h1,h2=>by
  rw [DataW.weightsEach]at h
  cases i with
  |zero=>simp at h1 h2;subst h1 h2;exact λn hn=>h n (List.mem_append_left _ hn)
  |succ i=>exact xA ts r (λn hn=>h n (List.mem_append_right _ hn)) i t d (by simpa using h1) (by simpa using h2)
def TyD (P:Program):Nat->TypeId->List D->Prop
 | 0,_,_=>False
 |n+1,t,ds=>
  match P.underlying t with
  |some .bool=> ∃b,ds=[.bool b]
  |some (.int k)=> ∃z,ds=[.int k z]/\(Lit.int k z).wf=true
  |some .string=> ∃l,ds=[.str l]/\l.length<=reachBytes
  |some (.slice e)=> ∃rows,ds=[.sl (P.cellsOf e) rows]/\rows.length<=reachBytes/\ ∀r∈rows,TyD P n e r
  |some (.struct fs)=>aK2 (TyD P n) fs.toList ds
  |some (.array m e)=>aMi (TyD P n e) m ds
  |_=>True
def aBn (w:World) (S:Nat->Nat->Prop) (ds:List D) (cs:List Value):Prop:=
 ds.length=cs.length/\ ∀(j:Nat) (d:D) (v:Value),ds[j]? =some d->cs[j]? =some v->RepD w S d v/\v.oneCell'=true
theorem aBn.one {S:Nat->Nat->Prop}{d:D}{v:Value}(h:RepD w S d v) (h1:v.oneCell'=true):aBn w S [d] [v]:=by
 refine⟨rfl,λj d' v' a b=> ?_⟩
 cases j with
 |zero=>simp at a b;subst a b;exact⟨h,h1⟩
 |succ j=>simp at a
theorem aBn.append {S:Nat->Nat->Prop}{a b:List D}{u v:List Value}(h:aBn w S a u) (k:aBn w S b v):aBn w S (a++b) (u++v):=by
 refine⟨by simp [h.1,k.1],λj d x hd hx=> ?_⟩
 by_cases hj:j < a.length
 ·rw [List.getElem?_append_left hj]at hd
  rw [List.getElem?_append_left (by rw [<-h.1];exact hj)]at hx
  exact h.2 j d x hd hx
 ·rw [List.getElem?_append_right (by omega)]at hd
  rw [List.getElem?_append_right (by rw [<-h.1];omega),<-h.1]at hx
  exact k.2 _ d x hd hx
def below (w:World):Nat->Nat->Prop:= λb _=>b < w.heap.size
theorem tY {a:Addr}{v:Value}(h:w.cell? a=some v):a.block < w.heap.size:=by
 unfold World.cell? at h
 split at h
 ·rename_i c t q hc
  exact aW hc
 ·cases h
theorem cells?_get {base:Nat}{a:Addr}{n:Nat}{cs:List Value}(h:w.cells? base a n=some cs):cs.length=n/\ ∀i,i < n->w.cell? (a.add i)=cs[i]? :=by
 unfold World.cells? at h
 split at h
 ·exact⟨by simpa using mapM_some_length h,λi hi=>mapM_some_get h i i (by simp [hi])⟩
 ·cases h
theorem aBm {a:Addr}(h:a.spot=none) (n:Nat):a.add n=⟨a.block,a.off+n,none⟩:=by
 obtain⟨b,o,s⟩:=a
 simp only at h
 subst h
 unfold Addr.add
 by_cases hn:n=0
 ·subst hn;simp
 ·simp [hn]
end
end Go.Proofs.YtfhoddcminbffaaGreatDoor
