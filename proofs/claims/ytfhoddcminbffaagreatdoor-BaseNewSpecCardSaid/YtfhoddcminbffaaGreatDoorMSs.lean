/-
  Statements whose order is open, and that make memory, append, call or store: the rule. Contracts at other objects. What came in, opened: a value that reads as a datum stands for data without addresses, whose form its type tells. The closing: a contract over data without addresses proves a law's call over every input. What comes in, by its types: a check by reckoning that types lead to plain ones only, and the data of structs, arrays and slices. Laid variables: a package-level variable that reads as a table of numbers and truths is seen row by row.
  Conditions: none.
-/
import Derived.Test.YtfhoddcminbffaaGreatDoorMSq
import Derived.ChangeArms
import Derived.ChangeSlices
import Derived.RowKit3
import Derived.Carry
import Derived.Handed
import Derived.ProofKit
import Derived.LaidMore
set_option linter.unusedSectionVars false
set_option linter.unusedSimpArgs false
set_option linter.unusedVariables false
namespace Go.Proofs.YtfhoddcminbffaaGreatDoor
open Go.RowKit
section
variable {P:Program}
def aSw (ops:Array Oper):List Nat->Array Bool->Bool->Bool
 | [],listed,_=>(Region.ready .any ops listed).isEmpty
 |i::r,listed,late=>
  (match ops[i]? with
  |none=>false
  |some o=>
   (match kd o.op with
   | 0=>(Region.ready .any ops listed).contains i && Region.free .any ops listed i
   | 1 => (!late && (Region.ready .any ops listed).contains i && Region.free .any ops listed i &&
     (List.range ops.size).all λj=>listed.getD j true || (match ops[j]? with|some oj=>kd oj.op !=3 || oj.after.any (λe=>Region.binds .any e && e.on==i)|none=>true)) ||
     (Region.ready .any ops listed==[i])
   | 2=> !late && (Region.ready .any ops listed==[i])
   |_=>o.guard.isNone && (Region.ready .any ops listed==[i])) &&
   aSw ops r (listed.setIfInBounds i true) (late || kd o.op==3))
def aNp (P:Program) (fr:Fr) (hp:Hp) (f:Operand) (args:List Operand) (K:SV->Prop):Prop:=
 ev fr f λs=>match aQw s with
  | some (g, first, cap) => (match evL fr args with
   |some l=>dV P g=true/\ ∃hpc post,kE hpc hp/\Tri P g (first++l++cap) hpc post/\ ∀r,post r->K r
   |none=>aH "call: an argument")
  |none=>aH "call: no function"
def aSp (op:BinOp) (fr:Fr) (x y:Operand) (K:SV->Prop):Prop:=
 ev fr x λs=>ev fr y λr=>match s,r with
  | .d (.int k a), .d (.int k' b)=>aHd op k a k' b K
  | .d (.str a), .d (.str b)=>aGj op a b K
  |_,_=>aH "add"
theorem aH0 {o:Oper}{op:BinOp}{t t':TypeId}{x y:Operand}(ho:o.op= .binOp op t x y t') {fr:Fr}{K:SV->Prop}(h:aSp op fr x y K) {ρ:Env}{a:Act}{w:World}(hf:dY ρ w fr a.tmps):
  ∃v s,(∀w',(execOp a.eval o).run P w'= .ok (.value v) w')/\Rep w ρ s v/\K s:=by
 obtain⟨s,hs,hv0⟩:=cX h
 obtain⟨r,hr,hv⟩:=cX hv0
 clear hv0
 have h1:=aV hf hs
 have h2:=aV hf hr
 split at hv
 ·obtain⟨v,q,a1,a2,a3⟩:=yE (P:=P) t hv
  exact⟨v,_,λw'=>by simp [execOp,ho,h1.int_inv,h2.int_inv,wF,a1], .d _ _ (a3 w ρ.S),a2⟩
 ·obtain⟨v,q,a1,a2,a3⟩:=yD (P:=P) t hv
  exact⟨v,_,λw'=>by simp [execOp,ho,h1.str_inv.1,h2.str_inv.1,wE,a1], .d _ _ (a3 w ρ.S),a2⟩
 ·exact hv.elim
def dVC (P:Program) (ti:TypeId->Option TI) (pin:List Nat) (fr:Fr) (hp:Hp) (dst:Nat) (o:Oper) (K:SV->Hp->Prop):Prop:=
 match o.op with
 | .alloc t => (match ti t with
   |some T=>fX dst pin fr hp/\K (.ptr dst 0) ((dst, .cells t (T.zero.map .d))::hp)
   |none=>aH "alloc: a type")
 | .box t x => ev fr x λs => (match iX s with
   |some cs=>fX dst pin fr hp/\dst∉SV.idsL cs/\K (.ptr dst 0) ((dst, .cells t cs)::hp)
   |none=>aH "box: cells")
 | .buildSlice t len parts=>(match evP fr parts.toList with|some l=>kY ti t len dst l pin fr hp K|none=>aH "buildSlice: a part")
 | .makeSlice t x y=>ev fr x λl=>ev fr y λc=>aOl ti t dst l c pin fr hp K
 | .store t x y=>ev fr x λs=>ev fr y λr=>aAg ti t s r hp λhp'=>K (.d (.lit undef)) hp'
 | .call { callee:= .builtin .append,args:=⟨[x,y]⟩,argTypes:=⟨[t,tx]⟩ }=>ev fr x λs=>ev fr y λr=>aBq ti t tx dst s r pin fr hp K
 | .call { callee:= .value f,args:=args,argTypes:=_ }=>aNp P fr hp f args.toList λs=>K s hp
 | .call { callee:= .builtin .copy,args:=_,argTypes:=_ }=>bI P o pin fr hp K
 | .binOp .add _ x y _=>aSp .add fr x y λs=>K s hp
 | .binOp .sub _ x y _=>aSp .sub fr x y λs=>K s hp
 |_=>pM P ti fr hp o λs=>K s hp
theorem aPi {o:Oper}{f:Operand}{args:Array Operand}{ts:Array TypeId}(ho:o.op= .call { callee:= .value f,args:=args,argTypes:=ts }) {pin:List Nat}{fr:Fr}{hp:Hp}{K:SV->Hp->Prop}
  (h:aNp P fr hp f args.toList λs=>K s hp):wU P o pin fr hp K:=by
 intro E ρ a w hpin hm hf next Q hn
 obtain⟨s,hs,hv⟩:=cX h
 have hr:=aV hf hs
 split at hv
 ·rename_i g first cap hfn
  obtain⟨fv,cv,e,h1,h2⟩:=vV hfn hr
  split at hv
  ·rename_i l hl
   obtain⟨hcall,hpc,post,hsub,htri,hk⟩:=hv
   obtain⟨l1,l2⟩:=wD hf _ _ hl
   have hargs:cW w ρ (first++l++cap) (fv++args.map a.eval++cv):=by
    refine(h1.append ⟨?_, ?_⟩).append h2
    ·simpa using l1
    ·intro j s' v hs' hv'
     refine l2 j s' v hs' ?_
     rw [<-Array.toList_map];simpa using hv'
   unfold Oper.wp
   rw [jS ho e hcall]
   simp only [Oper.upon]
   refine(htri w ρ _ hm.slt hargs λid o ho=>(hm.sat id o (iO _ _ hsub id o ho)).ro_).mono ?_
   rintro e' w' ⟨v,S',s',q1,q2,q3,q4,q5,q6,q7⟩
   subst q1
   obtain⟨m1,m2⟩:=hm.grow q3 S' q4 q5 q6
   exact hn v w' _ s' hp (hk s' q2) m1 (m2 fr _ hf) q7 (KInfo.mk_ (hm.kept_grew q3) q4 λid x g hx hg=>⟨hx,by cases x<;>exact hg⟩)
  ·exact hv.elim
 ·exact hv.elim
theorem aRv {ti:TypeId->Option TI}{fr:Fr}{hp:Hp}{o:Oper}{K:SV->Prop}(h:pM P ti fr hp o K):kd o.op<=1:=by
 unfold pM at h
 split at h<;>first|exact h.elim|(rename_i e;rw [e];simp [kd];done)|(rename_i e;rw [e];unfold kd;split<;>first|exact Nat.zero_le _|exact Nat.le_refl _|(rename_i q;cases q))
theorem aUi {ti:TypeId->Option TI}(hti:fD P ti) {o:Oper}{pin:List Nat}{fr:Fr}{hp:Hp}{dst:Nat}{K:SV->Hp->Prop}(h:dVC P ti pin fr hp dst o K):
  (kd o.op<=1/\eO P o fr hp (λs=>K s hp)/\(kd o.op=0-> ∀(ρ:Env) (a:Act) (w:World) (v:Value),dY ρ w fr a.tmps->(execOp a.eval o).run P w= .ok (.value v) w-> ∀w',(execOp a.eval o).run P w'= .ok (.value v) w'))\/(kd o.op=2/\wU P o pin fr hp K)\/(kd o.op=3/\aA1 P o pin fr hp K):=by
 unfold dVC at h
 split at h
 ·rename_i ho;exact .inr (.inl ⟨by rw [ho];rfl,aGz hti ho h⟩)
 ·rename_i ho;exact .inr (.inl ⟨by rw [ho];rfl,aQp ho h⟩)
 ·rename_i ho;exact .inr (.inl ⟨by rw [ho];rfl,pP hti ho h⟩)
 ·rename_i ho;exact .inr (.inl ⟨by rw [ho];rfl,aMj hti ho h⟩)
 ·rename_i ho;exact .inr (.inr ⟨by rw [ho];rfl,yP hti ho h⟩)
 ·rename_i ho;exact .inr (.inl ⟨by rw [ho];rfl,yR hti ho h⟩)
 ·rename_i ho;exact .inr (.inl ⟨by rw [ho];rfl,aPi ho h⟩)
 ·rename_i ho;exact .inr (.inr ⟨by rw [ho];rfl,h⟩)
 ·rename_i ho
  exact .inl ⟨by rw [ho]; simp [kd], λE ρ a w hm hf => by
   obtain⟨v,s,q1,q2,q3⟩:=aH0 (P:=P) ho h hf
   exact⟨v,s,λw' _=>q1 w',q2,q3⟩,λ_ ρ a w v hf hv w'=>by
   obtain⟨u,s,q1,_⟩:=aH0 (P:=P) ho h hf
   rw [q1 w]at hv
   injection hv with hv
   rw [q1 w',hv]⟩
 ·rename_i ho
  exact .inl ⟨by rw [ho]; simp [kd], λE ρ a w hm hf => by
   obtain⟨v,s,q1,q2,q3⟩:=aH0 (P:=P) ho h hf
   exact⟨v,s,λw' _=>q1 w',q2,q3⟩,λ_ ρ a w v hf hv w'=>by
   obtain⟨u,s,q1,_⟩:=aH0 (P:=P) ho h hf
   rw [q1 w]at hv
   injection hv with hv
   rw [q1 w',hv]⟩
 ·rename_i n1 n2
  have hp:=aF9 hti (o:=o) h
  refine .inl ⟨aRv h,hp,λe0 ρ a w v hf h0 w'=> ?_⟩
  have hany: ∀x,(o.op= .move x\/o.op= .assign x)-> ∀w':World,(execOp a.eval o).run P w'= .ok (.value (a.eval x)) w':=by
   rintro x (e|e) w'<;>simp [execOp,e]
  have hx: ∃x,o.op= .move x\/o.op= .assign x:=by
   generalize o.op=p at *
   unfold kd at e0
   split at e0<;>first|exact⟨_, .inl rfl⟩|exact⟨_, .inr rfl⟩|(exfalso;exact n1 _ _ _ _ rfl)|(exfalso;exact n2 _ _ _ _ rfl)|cases e0
  obtain⟨x,hx⟩:=hx
  rw [hany x hx w]at h0
  injection h0 with h0
  rw [hany x hx w',h0]
theorem aRb {ops:Array Oper}{Q Q':Act->World->Prop}(hQ: ∀a w,Q a w->Q' a w): ∀(fuel:Nat) (Cl:World->Prop) (listed:Array Bool) (a:Act) (w:World),wpE P ops Q fuel Cl listed a w->wpE P ops Q' fuel Cl listed a w:=by
 intro fuel
 induction fuel with
 |zero=>intro Cl listed a w h;exact⟨h.1,hQ _ _ h.2⟩
 |succ fuel ih=>
  intro Cl listed a w h
  refine⟨λh0=>hQ _ _ (h.1 h0),λi hi=> ?_⟩
  have:=h.2 i hi
  split
  ·rename_i ho;simp only [ho]at this;exact ih _ _ _ _ this
  ·rename_i o ho
   simp only [ho]at this
   split
   ·rename_i hw
    simp only [hw,if_true]at this
    refine tY (λa' w' hk=> ?_) this
    split
    ·rename_i h3;simp only [h3,if_true]at hk;exact ih _ _ _ _ hk
    ·rename_i h3;simp only [h3,if_false]at hk;exact⟨hk.1,ih _ _ _ _ hk.2⟩
   ·rename_i hw;simp only [hw]at this;exact ih _ _ _ _ this
def aKd (C:Cfg) (all:List Oper) (i:Nat) (fr:Fr) (hp:Hp) (k:Fr->Hp->Prop):Prop:=
 match all[i]? with
 |some o=>
  rE all fr o.guard
   (λfr=>dVC C.P C.ti C.pin fr hp (C.off+o.dst.getD 0) o λs hp'=>put C o.dst s fr λfr'=>k fr' hp')
   (λfr=>put C o.dst (.d (.lit undef)) fr λfr'=>k fr' hp)
 |none=>aH "no such operation"
def zP (C:Cfg) (all:List Oper) (K:Fr->Hp->Prop):List Nat->Fr->Hp->Prop
 | [],fr,hp=>pN C.keep fr λfr'=>K fr' hp
 |i::r,fr,hp=>aKd C all i fr hp λfr' hp'=>zP C all K r fr' hp'
theorem zO {C:Cfg}(hti:fD C.P C.ti) {all:List Oper}{K:Fr->Hp->Prop}{E:Entry}(hpin:E.pin=C.pin) (hsel:Region.noSelect all.toArray=true):
  ∀(ord:List Nat) (listed:Array Bool) (late:Bool) (fr:Fr) (hp:Hp) (ρ:Env) (a:Act) (w:World),aSw all.toArray ord listed late=true->zP C all K ord fr hp->Mem E ρ hp w->a.tmps.size=C.nt->a.defers=(E.D.take E.k).map sK->dY ρ w fr a.tmps->
  wpE C.P all.toArray (λa w=> ∃fr hp,K fr hp/\Sat E C.nt ⟨fr,hp⟩ a w) ord.length (if late then λ_=>True else Kept ρ hp w) listed a w:=by
 intro ord
 induction ord with
 |nil=>
  intro listed late fr hp ρ a w hB h hm h1 h2 h3
  simp only [aSw,List.isEmpty_iff]at hB
  simp only [zP,mF]at h
  exact⟨hB,_,hp,h,h1,h2,ρ,hm,λt s hts=>h3 t s (kM _ _ t s hts)⟩
 |cons i r ih=>
  intro listed late fr hp ρ a w hB h hm h1 h2 h3
  simp only [aSw]at hB
  simp only [zP,aKd]at h
  split at h
  ·rename_i o ho
   have ho':all.toArray[i]? =some o:=by simpa using ho
   simp only [ho',Bool.and_eq_true]at hB
   obtain⟨hBk,hBr⟩:=hB
   obtain⟨fr0,h3,hh⟩:=fI h h3
   have hcl:(if late then λ_=>True else Kept ρ hp w) w:=by
    cases late
    ·exact Kept.refl ρ hp w
    ·trivial
   -- an operation that is alone
   have alone: ∀(hone:Region.ready .any all.toArray listed=[i]) (Cl:World->Prop),
     (if Region.wanted o (yielded all.toArray a.tmps) then
      o.wp C.P a w (λa' w'=>if kd o.op=3 then wpE C.P all.toArray (λa w=> ∃fr hp,K fr hp/\Sat E C.nt ⟨fr,hp⟩ a w) r.length (λ_=>True) (listed.setIfInBounds i true) a' w' else Cl w'/\wpE C.P all.toArray (λa w=> ∃fr hp,K fr hp/\Sat E C.nt ⟨fr,hp⟩ a w) r.length Cl (listed.setIfInBounds i true) a' w') noX
     else wpE C.P all.toArray (λa w=> ∃fr hp,K fr hp/\Sat E C.nt ⟨fr,hp⟩ a w) r.length Cl (listed.setIfInBounds i true) (a.put o.dst undef) w)->
     wpE C.P all.toArray (λa w=> ∃fr hp,K fr hp/\Sat E C.nt ⟨fr,hp⟩ a w) (i::r).length Cl listed a w:=by
    intro hone Cl hx
    refine⟨λh0=>(by rw [hone]at h0;cases h0),λj hj=> ?_⟩
    rw [hone]at hj
    simp at hj
    subst hj
    simp only [ho']
    exact hx
   -- an operation that may be taken first
   have quiet: ∀(hk:kd o.op<=1) (hnl:kd o.op=1->¬ Region.ready .any all.toArray listed=[i]) (v:Value),YE C.P all.toArray (if late then λ_=>True else Kept ρ hp w) o v a->(kd o.op=0\/kd o.op=1)->
     wpE C.P all.toArray (λa w=> ∃fr hp,K fr hp/\Sat E C.nt ⟨fr,hp⟩ a w) r.length (if late then λ_=>True else Kept ρ hp w) (listed.setIfInBounds i true) (a.put o.dst v) w->
     wpE C.P all.toArray (λa w=> ∃fr hp,K fr hp/\Sat E C.nt ⟨fr,hp⟩ a w) (i::r).length (if late then λ_=>True else Kept ρ hp w) listed a w:=by
    intro hk hnl v hy hk01 H
    have hpre:i∈Region.ready .any all.toArray listed/\Region.free .any all.toArray listed i=true/\(kd o.op≠0-> ∀j oj,all.toArray[j]? =some oj->listed.getD j true=false->kd oj.op=3-> ∃e∈oj.after,Region.binds .any e=true/\e.on=i):=by
     rcases hk01 with e|e
     ·rw [e]at hBk
      simp only [Bool.and_eq_true,List.contains_iff_mem]at hBk
      exact⟨hBk.1,hBk.2,λh0=>absurd e h0⟩
     ·have hnl:=hnl e
      rw [e]at hBk
      simp only [Bool.and_eq_true,Bool.or_eq_true,beq_iff_eq,List.contains_iff_mem]at hBk
      obtain⟨⟨⟨_,q1⟩,q2⟩,q3⟩:=hBk.resolve_right hnl
      refine⟨q1,q2,λ_ j oj hj hun h3'=> ?_⟩
      rw [List.all_eq_true]at q3
      have:=q3 j (List.mem_range.2 (Array.getElem?_eq_some_iff.1 hj).1)
      simp only [hun,Bool.false_or,hj,h3',bne_self_eq_false]at this
      obtain⟨e',he',hb'⟩:=Array.any_eq_true'.1 this
      simp only [Bool.and_eq_true,beq_iff_eq]at hb'
      exact⟨e',he',hb'.1,hb'.2⟩
    exact tZ ho' hsel (by omega) r.length _ listed a w hcl (Region.free_spec ho' hpre.2.1) hpre.2.2 hpre.1 hy H
   rcases hh with⟨hw,h⟩|⟨hw,h⟩
   ·rcases aUi hti h with⟨hk,hd,hd0⟩|⟨hk,hd⟩|⟨hk,hd⟩
    ·obtain⟨v,s,q1,q2,q3⟩:=hd E ρ a w hm h3
     obtain⟨fr',p1,p2⟩:=gA q3 h1 h3 q2
     have hne3:(kd o.op==3)=false:=by simp;omega
     rw [hne3,Bool.or_false]at hBr
     have hk01:kd o.op=0\/kd o.op=1:=by omega
     by_cases hone:kd o.op=1/\Region.ready .any all.toArray listed=[i]
     ·refine alone hone.2 _ ?_
      rw [if_pos hw]
      unfold Oper.wp
      rw [q1 w (Kept.refl ρ hp w)]
      simp only [Oper.upon]
      rw [if_neg (by omega)]
      exact⟨hcl,ih _ late fr' hp ρ _ w hBr p1 hm (by rw [cE];exact h1) (by rw [put_defers];exact h2) p2⟩
     have hnl:kd o.op=1->¬ Region.ready .any all.toArray listed=[i]:= λa b=>hone ⟨a,b⟩
     refine quiet hk hnl v (.inl ⟨hw,λw' hc=> ?_⟩) hk01 (ih _ late fr' hp ρ _ w hBr p1 hm (by rw [cE];exact h1) (by rw [put_defers];exact h2) p2)
     by_cases e0:kd o.op=0
     · -- it moves a value: in every world
      exact hd0 e0 ρ a w v h3 (q1 w (Kept.refl ρ hp w)) w'
     ·have hl:late=false:=by
       have e1:kd o.op=1:=by omega
       have hnl:=hnl e1
       rw [e1]at hBk
       simp only [Bool.and_eq_true,Bool.or_eq_true,beq_iff_eq,Bool.not_eq_true']at hBk
       exact(hBk.resolve_right hnl).1.1.1
      subst hl
      rcases hc with hc|hc
      ·exact q1 w' hc
      ·exact absurd hc e0
    ·have hl:late=false/\Region.ready .any all.toArray listed=[i]:=by
      rw [hk]at hBk
      simp only [Bool.and_eq_true,Bool.not_eq_true',beq_iff_eq]at hBk
      exact hBk
     obtain⟨rfl,hone⟩:=hl
     have hne3:(kd o.op==3)=false:=by rw [hk];rfl
     rw [hne3,Bool.or_false]at hBr
     refine alone hone _ ?_
     rw [if_pos hw]
     refine hd E ρ a w hpin hm h3 _ noX λv w' ρ' s hp' k1 k2 k3 k4 k5=> ?_
     rw [if_neg (by rw [hk];decide)]
     obtain⟨fr',p1,p2⟩:=gA k1 h1 k3 k4
     have:=ih _ false fr' hp' ρ' _ w' hBr p1 k2 (by rw [cE];exact h1) (by rw [put_defers];exact h2) p2
     exact⟨k5.k,aOi _ _ _ _ _ _ k5.b this⟩
    ·have hone:Region.ready .any all.toArray listed=[i]:=by
      rw [hk]at hBk
      simp only [Bool.and_eq_true,beq_iff_eq]at hBk
      exact hBk.2
     have he3:(kd o.op==3)=true:=by rw [hk];rfl
     rw [he3,Bool.or_true]at hBr
     refine alone hone _ ?_
     rw [if_pos hw]
     refine hd E ρ a w hpin hm h3 _ noX λv w' ρ' s hp' k1 k2 k3 k4=> ?_
     rw [if_pos hk]
     obtain⟨fr',p1,p2⟩:=gA k1 h1 k3 k4
     exact ih _ true fr' hp' ρ' _ w' hBr p1 k2 (by rw [cE];exact h1) (by rw [put_defers];exact h2) p2
   ·obtain⟨fr',p1,p2⟩:=gA h h1 h3 (Rep.d _ undef (.lit undef))
    by_cases hk:kd o.op<=1
    ·have hne3:(kd o.op==3)=false:=by simp;omega
     rw [hne3,Bool.or_false]at hBr
     by_cases hone:kd o.op=1/\Region.ready .any all.toArray listed=[i]
     ·refine alone hone.2 _ ?_
      rw [if_neg (by rw [hw];decide)]
      exact ih _ late fr' hp ρ _ w hBr p1 hm (by rw [cE];exact h1) (by rw [put_defers];exact h2) p2
     exact quiet hk (λa b=>hone ⟨a,b⟩) undef (.inr ⟨hw,rfl⟩) (by omega) (ih _ late fr' hp ρ _ w hBr p1 hm (by rw [cE];exact h1) (by rw [put_defers];exact h2) p2)
    ·have hone:kd o.op=2/\Region.ready .any all.toArray listed=[i]:=by
      generalize kd o.op=n at hBk hk
      match n,hk with
      | 2,_=>simp only [Bool.and_eq_true,beq_iff_eq]at hBk;exact⟨rfl,hBk.2⟩
      |n+3,_=>
       exfalso
       simp only [Bool.and_eq_true,beq_iff_eq,Option.isNone_iff_eq_none]at hBk
       simp [Region.wanted,hBk.1]at hw
     have hne3:(kd o.op==3)=false:=by rw [hone.1];rfl
     rw [hne3,Bool.or_false]at hBr
     refine alone hone.2 _ ?_
     rw [if_neg (by rw [hw];decide)]
     exact ih _ late fr' hp ρ _ w hBr p1 hm (by rw [cE];exact h1) (by rw [put_defers];exact h2) p2
  ·exact h.elim
theorem fR {C:Cfg}(hti:fD C.P C.ti) {id:Nat}{l:List Oper}{fr:Fr}{hp:Hp}{K:Ex->Fr->Hp->Prop}(ord:List Nat) (hm:C.P.follows .mixedOrders=true)
  (hB:(ord.length==l.length && Region.noSelect l.toArray && aSw l.toArray ord (Array.replicate l.length false) false && lD l)=true) (h:zP C l (K .normal) ord fr hp):aM C (.region id l.toArray true) fr hp K:=by
 intro E a w hpin hrd ⟨h1,h2,ρ,h3,h4⟩
 simp only [Bool.and_eq_true,beq_iff_eq]at hB
 obtain⟨⟨⟨b1,b2⟩,b3⟩,hnd⟩:=hB
 refine fP hm hnd kW.noOut ?_
 obtain⟨m1,m2⟩:=h3.grow_same (Grew.drew w)
 have:=zO (C:=C) hti (E:=E) hpin b2 ord (Array.replicate l.length false) false fr hp ρ a _ b3 h m1 h1 h2 (m2 fr _ h4)
 have e:l.toArray.size=ord.length:=by rw [b1];rfl
 have h5:=qR (Q:=kW C E K) _ _ _ _ _ (aRb (Q':=kW C E K .normal) (λa w ⟨fr',hp',k1,k2⟩=>⟨.normal,fr',hp',E, .refl E,trivial,k1,k2⟩) _ _ _ _ _ this)
 rw [e]
 rw [<-b1]at h5
 exact h5
theorem Mem.recell {E:Entry}{ρ:Env}{hp:Hp}{w:World}(h:Mem E ρ hp w) {i:Nat}{t:TypeId}{cs cs':List SV}(hi:aU hp i=some (.cells t cs)) (hl:cs'.length=cs.length)
  (hr: ∀(j:Nat) (s':SV) (v:Value),cs'[j]? =some s'->(∀s,cs[j]? =some s->Rep w ρ s v)->Rep w ρ s' v):Mem E ρ (hY hp i (.cells t cs')) w:=by
 refine⟨h.os,h.tape,h.output,h.size,h.old,h.sold,h.snew,h.slt,h.kp, ?_, ?_, ?_,h.mv, ?_,h.md⟩
 ·intro id o ho
  rw [dC _ hi]at ho
  split at ho
  ·rename_i e;subst e
   injection ho with ho;subst ho
   obtain⟨g,h1,⟨cur,c1,c2,c3,c4⟩,h3⟩:=h.sat id _ hi
   exact⟨g,h1,⟨cur,c1,c2.trans hl.symm,c3,λj s' v hs' hv=>hr j s' v hs' λs hs=>c4 j s v hs hv⟩,h3⟩
  ·exact h.sat id o ho
 ·intro id o id' o' g h1 h2 h3 h4
  rw [dC _ hi]at h1 h2
  have key: ∀k x,(if k=i then some (HObj.cells t cs')else aU hp k)=some x->ρ.at k x=some g-> ∃x',aU hp k=some x'/\ρ.at k x'=some g:=by
   intro k x hx hg
   split at hx
   ·rename_i e;subst e
    injection hx with hx;subst hx
    exact⟨_,hi,hg⟩
   ·exact⟨x,hx,hg⟩
  obtain⟨x,a1,a2⟩:=key id o h1 h3
  obtain⟨x',b1,b2⟩:=key id' o' h2 h4
  exact h.inj id x id' x' g a1 b1 a2 b2
 ·intro id o g h1 h3
  rw [dC _ hi]at h1
  split at h1
  ·rename_i e;subst e
   injection h1 with h1;subst h1
   exact h.hb id _ g hi h3
  ·exact h.hb id o g h1 h3
 ·intro id oR g h1 hrd h2 id' o' h3 h4
  rw [dC _ hi]at h1 h3
  split at h1
  ·injection h1 with h1;subst h1;exact hrd.elim
  ·split at h3
   ·rename_i e;subst e
    injection h3 with h3;subst h3
    exact h.ro id oR g h1 hrd h2 id' _ hi h4
   ·exact h.ro id oR g h1 hrd h2 id' o' h3 h4
end
end Go.Proofs.YtfhoddcminbffaaGreatDoor
namespace Go.Proofs.YtfhoddcminbffaaGreatDoor
open Go.RowKit
section
variable {P:Program}
theorem Rep.closed {w:World}{ρ ρ':Env}{s:SV}{v:Value}(h:Rep w ρ s v) (hs:ρ'.S=ρ.S) (hi:s.ids=[]):Rep w ρ' s v:=
 h.mono (λ_ _ _=>rfl) (λb i x=>by rw [hs];exact x) (λid hid=>by rw [hi]at hid;cases hid)
theorem Tri.at {f:FuncId}{o:Nat}{asv:List SV}{t:TypeId}{cs:List SV}{post:SV->Prop}(h:Tri P f (.ptr 0 o::asv) [(0, .cells t cs)] post) (ha:SV.idsL asv=[]) (hc:SV.idsL cs=[]) (hpost: ∀s,post s->s.ids=[])
  (i:Nat):Tri P f (.ptr i o::asv) [(i, .cells t cs)] post:=by
 intro w ρ vs h1 h2 h3
 let ρ0:Env:={ ρ with blk:= λk=>if k=0 then ρ.blk i else ρ.blk k }
 have hcl: ∀(l:List SV),SV.idsL l=[]-> ∀(j:Nat) (s:SV),l[j]? =some s->s.ids=[]:=by
  intro l hl j s hs
  cases e:s.ids with
  |nil=>rfl
  |cons a r=>
   have:=SV.mem_idsL hs (id:=a) (by rw [e];exact List.mem_cons_self ..)
   rw [hl]at this
   cases this
 refine(h w ρ0 vs h1 ⟨h2.1, ?_⟩ ?_).mono ?_
 ·intro j s v hs hv
  cases j with
  |zero=>
   simp at hs
   subst hs
   have:=h2.2 0 _ v rfl hv
   cases this with
   |ptr _ _ g hg=>exact .ptr 0 o g hg
  |succ j=>
   exact(h2.2 (j+1) s v hs hv).closed rfl (hcl asv ha j s hs)
 ·intro id x hx
  simp only [aU]at hx
  split at hx
  ·rename_i e;subst e
   injection hx with hx;subst hx
   obtain⟨g,g1,cur,c1,c2,c3,c4⟩:=h3 i (.cells t cs) (by simp [aU])
   exact⟨g,g1,cur,c1,c2,c3,λj s v hs hv=>(c4 j s v hs hv).closed rfl (hcl cs hc j s hs)⟩
  ·cases hx
 ·rintro e w' ⟨v,S',s,k1,k2,k3,k4,k5,k6,k7⟩
  exact⟨v,S',s,k1,k2,k3,k4,k5,k6,k7.closed rfl (hpost s k2)⟩
theorem Tri.len {f:FuncId}{args:List SV}{hp:Hp}{post:SV->Prop}(j:Nat) {z:Nat}{rows:List (List D)}(hj:args[j]? =some (.d (.sl z rows))) (h:rows.length<=9223372036854775807->Tri P f args hp post):Tri P f args hp post:=by
 intro w ρ vs h1 h2 h3
 have hlt:j < vs.size:=by rw [h2.1];exact(List.getElem?_eq_some_iff.1 hj).1
 have hr:=h2.2 j _ _ hj (Array.getElem?_eq_getElem hlt)
 cases hr with
 |d x v hd=>
  obtain⟨A,cap,b,off,_,hn,hc,_⟩:=hd.of_sl
  exact h (Nat.le_trans hn hc) w ρ vs h1 h2 h3
theorem Tri.lenS {f:FuncId}{args:List SV}{hp:Hp}{post:SV->Prop}(j:Nat) {l:List UInt8}(hj:args[j]? =some (.d (.str l))) (h:l.length<=9223372036854775807->Tri P f args hp post):Tri P f args hp post:=by
 intro w ρ vs h1 h2 h3
 have hlt:j < vs.size:=by rw [h2.1];exact(List.getElem?_eq_some_iff.1 hj).1
 have hr:=h2.2 j _ _ hj (Array.getElem?_eq_getElem hlt)
 generalize vs[j]=v at hr
 cases hr with
 |d x v hd=>
  cases hd with
  |str l hl=>exact h hl w ρ vs h1 h2 h3
theorem uX {id:Nat}{l:List Nat}(h:l.elem id=false):id∉l:=by
 intro hm
 rw [List.elem_eq_contains,List.contains_eq_mem,decide_eq_false_iff_not]at h
 exact h hm
theorem aN3 {l:List SV}(h:l.all xN=true): ∀n∈l,xN n=true:= λn hn=>List.all_eq_true.1 h n hn
theorem aOw (b:List UInt8) (i j:Nat):List.drop i (List.take j (List.map wZ b))=((b.take j).drop i).map wZ:=by rw [List.map_drop,List.map_take]
theorem aL5 (b:List UInt8) (i j:Nat):List.drop i (List.take j (List.map wZ b))=(unb (List.drop i (List.take j (List.map wZ b)))).map wZ:=by rw [aOw,aEf]
def aQv (id:Nat) (pin:List Nat) (fr:Fr) (hp:Hp):Bool:= !(pin.elem id) && !((fV fr).elem id) && !((gG hp).elem id)
theorem bW {id:Nat}{pin:List Nat}{fr:Fr}{hp:Hp}(h:aQv id pin fr hp=true):fX id pin fr hp:=by
 simp only [aQv,Bool.and_eq_true,Bool.not_eq_true',List.elem_eq_contains,List.contains_eq_mem,decide_eq_false_iff_not]at h
 exact⟨h.1.1,h.1.2,h.2⟩
theorem sI {a b:Prop}(k:b) (h:a:=by first|exact rfl|exact trivial|exact bW (by with_unfolding_all exact rfl)|exact List.cons_ne_nil _ _|exact aN3 rfl|exact aL5 _ _ _|exact Nat.le_of_ble_eq_true rfl|exact uX (by with_unfolding_all exact rfl)|omega|(rw [aEf])|exact aO2 _|(simp only [lnS,Int.toNat_natCast];omega)|(simp only [lnS,Int.toNat_natCast]at *;omega)):a/\b:=⟨h,k⟩
theorem bT {b:Bool}{C:Prop}(h:b=false) (k:b=true):C:=by rw [h]at k;cases k
theorem bF {b:Bool}{C:Prop}(h:b=true) (k:b=false):C:=by rw [h]at k;cases k
theorem exL {α:Type}{a:Nat}{l:List α}{K:a < l.length->Prop}(h:a < l.length:=by first|omega|(simp only [lnS];omega)|simp) (k:K h): ∃h,K h:=⟨h,k⟩
theorem ddX {p G:Prop}(h:p) (f:p->False:=by intro hb;first|contradiction|(simp only [lnS]at hb;omega)|omega):G:=(f h).elim
theorem dsX {p G:Prop}(h:p) (f:p->False:=by intro hb;first|contradiction|exact bT hb (by assumption)|exact bF hb (by assumption)):G:=(f h).elim
theorem sJ {a b:Prop}(k:b) (h:a:=by first|exact rfl|exact trivial|exact bW (by with_unfolding_all exact rfl)|exact List.cons_ne_nil _ _|exact aN3 rfl|exact aL5 _ _ _|exact Nat.le_of_ble_eq_true rfl|exact uX (by with_unfolding_all exact rfl)|omega|(rw [aEf])|exact aO2 _|(simp only [lnS,Int.toNat_natCast];omega)|(simp only [lnS,Int.toNat_natCast]at *;omega)|(show aV9 _ _=true;kernel_rfl)|(rw [List.length_append];exact rfl)|(simp only [List.length_map,List.length_append];exact rfl)):a/\b:=⟨h,k⟩
end
end Go.Proofs.YtfhoddcminbffaaGreatDoor
namespace Go.Proofs.YtfhoddcminbffaaGreatDoor
open Go.RowKit Go.ChangeShapes
section
variable {H:Type} {enc:TypeId×Value->H} {P:Program} {w:World} {spare:Nat->Bool} {held:Bool}
def lW (P:Program):Nat->List Field->Nat->Prop
 |off,[],n=>off=n
 |off,f::r,n=>f.offset=off/\lW P (off+P.cellsOf f.type) r n
def Cl (P:Program) (T:TypeId->Prop):Prop:= ∀t,T t->match P.underlying t with
 |some .bool=>True
 |some (.int _)=>True
 |some .string=>True
 |some (.slice e)=>(0 < P.cellsOf e/\0 < P.bytesOf e)/\T e
 |some (.struct fs)=>lW P 0 fs.toList (P.cellsOf t)/\ ∀f∈fs.toList,T f.type
 |some (.array n e)=>P.cellsOf t=n * P.cellsOf e/\T e
 |_=>False
def aSs (R:TypeId->List D->Prop):List Field->List D->Prop
 | [],ds=>ds=[]
 |f::r,ds=> ∃a b,ds=a++b/\R f.type a/\aSs R r b
def aVj (R:List D->Prop):Nat->List D->Prop
 | 0,ds=>ds=[]
 |n+1,ds=> ∃a b,ds=a++b/\R a/\aVj R n b
def aG9 (P:Program) (t:TypeId) (d:DataW H):Prop:= ∀n∈d.weights P t,n<=reachBytes
theorem aAs {e:TypeId}: ∀(l:List (DataW H)),(∀n∈DataW.weightsAll P e l,n<=reachBytes)-> ∀d∈l,aG9 P e d
 | [],_,_,h=>by cases h
 |x::r,h,d,hd=>by
  rw [DataW.weightsAll]at h
  rcases List.mem_cons.1 hd with rfl|hd
  ·exact λn hn=>h n (List.mem_append_left _ hn)
  ·exact aAs r (λn hn=>h n (List.mem_append_right _ hn)) d hd
theorem aCa: ∀(ts:List TypeId) (l:List (DataW H)),(∀n∈DataW.weightsEach P ts l,n<=reachBytes)-> ∀(i:Nat) t d,ts[i]? =some t->l[i]? =some d->aG9 P t d
 | [],_,_,i,t,d,h,_=>by simp at h
 |_::_,[],_,i,t,d,_,h=>by simp at h
 |u::ts,x::r,h,i,t,d,h1,h2=>by
  rw [DataW.weightsEach]at h
  cases i with
  |zero=>simp at h1 h2;subst h1 h2;exact λn hn=>h n (List.mem_append_left _ hn)
  |succ i=>exact aCa ts r (λn hn=>h n (List.mem_append_right _ hn)) i t d (by simpa using h1) (by simpa using h2)
def TyD (P:Program):Nat->TypeId->List D->Prop
 | 0,_,_=>False
 |n+1,t,ds=>
  match P.underlying t with
  |some .bool=> ∃b,ds=[.bool b]
  |some (.int k)=> ∃z,ds=[.int k z]/\(Lit.int k z).wf=true
  |some .string=> ∃l,ds=[.str l]/\l.length<=reachBytes
  |some (.slice e)=> ∃rows,ds=[.sl (P.cellsOf e) rows]/\rows.length<=reachBytes/\ ∀r∈rows,TyD P n e r
  |some (.struct fs)=>aSs (TyD P n) fs.toList ds
  |some (.array m e)=>aVj (TyD P n e) m ds
  |_=>True
def aIc (w:World) (S:Nat->Nat->Prop) (ds:List D) (cs:List Value):Prop:=
 ds.length=cs.length/\ ∀(j:Nat) (d:D) (v:Value),ds[j]? =some d->cs[j]? =some v->RepD w S d v/\v.oneCell'=true
theorem aIc.one {S:Nat->Nat->Prop}{d:D}{v:Value}(h:RepD w S d v) (h1:v.oneCell'=true):aIc w S [d] [v]:=by
 refine⟨rfl,λj d' v' a b=> ?_⟩
 cases j with
 |zero=>simp at a b;subst a b;exact⟨h,h1⟩
 |succ j=>simp at a
theorem aIc.append {S:Nat->Nat->Prop}{a b:List D}{u v:List Value}(h:aIc w S a u) (k:aIc w S b v):aIc w S (a++b) (u++v):=by
 refine⟨by simp [h.1,k.1],λj d x hd hx=> ?_⟩
 by_cases hj:j < a.length
 ·rw [List.getElem?_append_left hj]at hd
  rw [List.getElem?_append_left (by rw [<-h.1];exact hj)]at hx
  exact h.2 j d x hd hx
 ·rw [List.getElem?_append_right (by omega)]at hd
  rw [List.getElem?_append_right (by rw [<-h.1];omega),<-h.1]at hx
  exact k.2 _ d x hd hx
def below (w:World):Nat->Nat->Prop:= λb _=>b < w.heap.size
theorem yY {a:Addr}{v:Value}(h:w.cell? a=some v):a.block < w.heap.size:=by
 unfold World.cell? at h
 split at h
 ·rename_i c t q hc
  exact aW hc
 ·cases h
theorem cells?_get {base:Nat}{a:Addr}{n:Nat}{cs:List Value}(h:w.cells? base a n=some cs):cs.length=n/\ ∀i,i < n->w.cell? (a.add i)=cs[i]? :=by
 unfold World.cells? at h
 split at h
 ·exact⟨by simpa using mapM_some_length h,λi hi=>mapM_some_get h i i (by simp [hi])⟩
 ·cases h
theorem aIa {a:Addr}(h:a.spot=none) (n:Nat):a.add n=⟨a.block,a.off+n,none⟩:=by
 obtain⟨b,o,s⟩:=a
 simp only at h
 subst h
 unfold Addr.add
 by_cases hn:n=0
 ·subst hn;simp
 ·simp [hn]
theorem aEz {T:TypeId->Prop}(hT:Cl P T): ∀(fuel:Nat) (t:TypeId) (cs:List Value) (x:DataW H×List MemPlace),T t->DataW.trod enc P w 0 spare held fuel t cs=some x->aG9 P t x.1->
  ∃ds,TyD P fuel t ds/\aIc w (below w) ds cs:=by
 intro fuel
 induction fuel with
 |zero=>intro t cs x _ h _;simp [DataW.trod]at h
 |succ n ih=>
  intro t cs x ht h hw0
  have hc:=hT t ht
  cases hu:P.underlying t with
  |none=>rw [hu]at hc;exact hc.elim
  |some d=>
   rw [hu]at hc
   cases d with
   |bool=>
    obtain⟨b,rfl,_⟩:=DataW.trod_bool hu h
    exact⟨[.bool b],by simp [TyD,hu], .one (.bool b) rfl⟩
   |int k=>
    obtain⟨z,rfl,_,hw⟩:=DataW.trod_int hu h
    exact⟨[.int k z],by simp [TyD,hu,hw], .one (.int k z) rfl⟩
   |string=>
    obtain⟨s,rfl,hx,hl⟩:=DataW.trod_string hu h
    have hl':s.data.toList.length<=maxLen:=by rw [Array.length_toList];exact hl
    have hr':s.data.toList.length<=reachBytes:=by
     rw [hx]at hw0
     exact hw0 _ (by simp only [DataW.weights];exact List.mem_singleton.2 rfl)
    refine⟨[.str s.data.toList],by simp only [TyD,hu];exact⟨_,rfl,hr'⟩, .one ?_ rfl⟩
    exact RepD.str (w:=w) (S:=below w) s.data.toList hl'
   |slice e=>
    simp only at hc
    obtain⟨⟨hpos,hby⟩,he⟩:=hc
    rcases DataW.trod_slice hu h with⟨rfl,_⟩|⟨a,len,cap,elems,rest,m,hm,rfl,hx,_,hlc,hcm,hlen,hel,_,_⟩
    ·refine⟨[.sl (P.cellsOf e) []],by simp [TyD,hu], .one ?_ rfl⟩
     exact RepD.mk_sl (b:=0) (off:=0) (by simp) (by simp) (λhne=>absurd rfl hne) ⟨by simp,by simp⟩ (by simp)
    ·obtain rfl:n=m:=by omega
     have hws: ∀k∈(elems.length+rest.length)* P.bytesOf e::(DataW.weightsAll P e (elems.map (·.1))++DataW.weightsAll P e (rest.map (·.1))),k<=reachBytes:=by
      intro k hk
      refine hw0 k ?_
      rw [hx]
      simp only [DataW.weights,hu,List.length_map]
      exact hk
     have hreach: ∀y∈elems,aG9 P e y.1:= λy hy=>aAs _ (λk hk=>hws k (List.mem_cons_of_mem _ (List.mem_append_left _ hk))) _ (List.mem_map_of_mem hy)
     have hlr:len<=reachBytes:=by
      have h1:=hws _ (List.mem_cons_self ..)
      have h2:(elems.length+rest.length)* 1<=(elems.length+rest.length)* P.bytesOf e:=Nat.mul_le_mul_left _ hby
      omega
     -- each element
     have hex: ∀i,i < len-> ∃ds cs',w.cells? 0 (a.add (i * P.cellsOf e)) (P.cellsOf e)=some cs'/\TyD P n e ds/\aIc w (below w) ds cs':=by
      intro i hi
      have h1:=hel i hi
      have h2:elems[i]? =some elems[i]:=List.getElem?_eq_getElem (by omega)
      rw [h2,Option.bind_eq_some_iff]at h1
      obtain⟨cs',q1,q2⟩:=h1
      obtain⟨ds,q3,q4⟩:=ih e cs' _ he q2 (hreach _ (List.getElem_mem _))
      exact⟨ds,cs',q1,q3,q4⟩
     have hrows: ∀m,m<=len-> ∃rows:List (List D),rows.length=m/\ ∀i,i < m-> ∃ds cs',rows[i]? =some ds/\w.cells? 0 (a.add (i * P.cellsOf e)) (P.cellsOf e)=some cs'/\TyD P n e ds/\aIc w (below w) ds cs':=by
      intro m
      induction m with
      |zero=>intro _;exact⟨[],rfl,λi hi=>absurd hi (by omega)⟩
      |succ m ihm=>
       intro hm
       obtain⟨rows,r1,r2⟩:=ihm (by omega)
       obtain⟨ds,cs',q1,q2,q3⟩:=hex m (by omega)
       refine⟨rows++[ds],by simp [r1],λi hi=> ?_⟩
       by_cases him:i < m
       ·obtain⟨ds',cs'',p1,p2,p3⟩:=r2 i him
        exact⟨ds',cs'',by rw [List.getElem?_append_left (by omega)];exact p1,p2,p3⟩
       ·obtain rfl:i=m:=by omega
        exact⟨ds,cs',by rw [List.getElem?_append_right (by omega),r1];simp,q1,q2,q3⟩
     obtain⟨rows,r1,r2⟩:=hrows len (Nat.le_refl _)
     refine⟨[.sl (P.cellsOf e) rows], ?_, .one ?_ rfl⟩
     ·simp only [TyD,hu]
      refine⟨rows,rfl,by omega,λr hr=> ?_⟩
      obtain⟨i,hi⟩:=List.getElem?_of_mem hr
      have hil:=(List.getElem?_eq_some_iff.1 hi).1
      obtain⟨ds,cs',p1,_,p3,_⟩:=r2 i (by omega)
      rw [hi]at p1
      injection p1 with p1
      rw [p1];exact p3
     ·have hspot:rows≠[]->a.spot=none:=by
       intro hne
       have hlpos:0 < len:=by rw [<-r1];exact List.length_pos_iff.2 hne
       obtain⟨ds,cs',_,p2,_⟩:=r2 0 hlpos
       obtain⟨c1,c2⟩:=cells?_get p2
       have c3:=c2 0 hpos
       rw [List.getElem?_eq_getElem (by omega)]at c3
       simp only [Nat.zero_mul]at c3
       have e0:(a.add 0).add 0=a:=by simp [Addr.add]
       rw [e0]at c3
       unfold World.cell? at c3
       split at c3
       ·split at c3
        ·cases c3
        ·rename_i hs
         cases hq:a.spot with
         |none=>rfl
         |some _=>rw [hq]at hs;exact absurd rfl hs
       ·cases c3
      refine RepD.mk_sl (b:=a.block) (off:=a.off) (by omega) hcm (λhne=> ?_) ⟨?_, ?_⟩ r1.symm
      ·have:=hspot hne
       obtain⟨b,o,s⟩:=a
       simp only at this
       rw [this]
      ·intro row hr
       obtain⟨i,hi⟩:=List.getElem?_of_mem hr
       have hil:=(List.getElem?_eq_some_iff.1 hi).1
       obtain⟨ds,cs',p1,p2,_,p4⟩:=r2 i (by omega)
       rw [hi]at p1
       injection p1 with p1
       rw [p1,p4.1];exact(cells?_get p2).1
      ·intro i row j d hi hj
       have hil:=(List.getElem?_eq_some_iff.1 hi).1
       have hsp:=hspot (List.ne_nil_of_length_pos (by omega))
       obtain⟨ds,cs',p1,p2,_,p4⟩:=r2 i (by omega)
       rw [hi]at p1
       injection p1 with p1
       subst p1
       obtain⟨c1,c2⟩:=cells?_get p2
       have hjl:=(List.getElem?_eq_some_iff.1 hj).1
       rw [p4.1,c1]at hjl
       have hv:cs'[j]? =some (cs'[j]'(by omega)):=List.getElem?_eq_getElem (by omega)
       have c3:=c2 j hjl
       rw [hv,aIa hsp,aIa rfl]at c3
       obtain⟨q1,q2⟩:=p4.2 j d _ hj hv
       refine⟨cs'[j]'(by omega), ?_, ?_,q2,q1⟩
       ·rw [<-Nat.add_assoc];exact c3
       ·exact yY (a:=⟨a.block,a.off+i * P.cellsOf e+j,none⟩) c3
   |struct fs=>
    simp only at hc
    obtain⟨htile,hfs⟩:=hc
    obtain⟨xs,m,hm,hx,hlen,hxl,hf⟩:=DataW.trod_struct hu h
    obtain rfl:n=m:=by omega
    have hws: ∀k∈DataW.weightsEach P (fs.toList.map (·.type)) (xs.map (·.1)),k<=reachBytes:=by
     intro k hk
     refine hw0 k ?_
     rw [hx]
     simp only [DataW.weights,hu]
     exact hk
    have key: ∀(l:List Field) (off:Nat),lW P off l (P.cellsOf t)->off<=P.cellsOf t->(∀f∈l,T f.type)->(∀f∈l,∃y,DataW.trod enc P w 0 spare held n f.type ((cs.drop f.offset).take (P.cellsOf f.type))=some y/\aG9 P f.type y.1)->
      ∃ds,aSs (TyD P n) l ds/\aIc w (below w) ds (cs.drop off):=by
     intro l
     induction l with
     |nil=>
      intro off ht _ _ _
      simp only [lW]at ht
      refine⟨[],rfl, ?_⟩
      rw [List.drop_eq_nil_of_le (by omega)]
      exact⟨rfl,by simp⟩
     |cons f r ihl=>
      intro off ht hle hTl hy
      simp only [lW]at ht
      obtain⟨ho,htr⟩:=ht
      have hle2: ∀(l:List Field) (o n:Nat),lW P o l n->o<=n:=by
       intro l
       induction l with
       |nil=>intro o n h;simp only [lW]at h;omega
       |cons g s ihs=>intro o n h;simp only [lW]at h;have:=ihs _ _ h.2;omega
      have hle3:=hle2 _ _ _ htr
      obtain⟨y,hy1,hy2⟩:=hy f (List.mem_cons_self ..)
      obtain⟨a,a1,a2⟩:=ih f.type _ y (hTl f (List.mem_cons_self ..)) hy1 hy2
      obtain⟨b,b1,b2⟩:=ihl _ htr hle3 (λg hg=>hTl g (List.mem_cons_of_mem _ hg)) (λg hg=>hy g (List.mem_cons_of_mem _ hg))
      refine⟨a++b,⟨a,b,rfl,a1,b1⟩, ?_⟩
      rw [ho]at a2
      have e:cs.drop off=(cs.drop off).take (P.cellsOf f.type)++cs.drop (off+P.cellsOf f.type):=by
       rw [<-List.drop_drop,List.take_append_drop]
      rw [e]
      exact a2.append b2
    obtain ⟨ds, d1, d2⟩ := key fs.toList 0 htile (Nat.zero_le _) hfs (λf hfm => by
     obtain⟨i,hi⟩:=List.getElem?_of_mem hfm
     have hi':fs[i]? =some f:=by simpa using hi
     have hil:i < fs.size:=by simpa using (List.getElem?_eq_some_iff.1 hi).1
     exact⟨xs[i]'(by omega),by rw [hf i f hi',List.getElem?_eq_getElem (by omega)],aCa _ _ hws i _ _ (by rw [List.getElem?_map,hi];rfl) (by rw [List.getElem?_map,List.getElem?_eq_getElem (by omega)];rfl)⟩)
    refine⟨ds,by simp only [TyD,hu];exact d1, ?_⟩
    simpa using d2
   |array m e=>
    simp only at hc
    obtain⟨hsz,he⟩:=hc
    unfold DataW.trod at h
    rw [hu]at h
    simp only at h
    split at h
    ·rename_i hlen
     obtain⟨xs,hxs,hx⟩:=Option.map_eq_some_iff.1 h
     have hreach : ∀ y ∈ xs, aG9 P e y.1 := λy hy => aAs (xs.map (·.1)) (λk hk => hw0 k (by
      rw [<-hx]
      simp only [DataW.weights,hu]
      exact hk)) _ (List.mem_map_of_mem hy)
     have hget: ∀i,i < m-> ∃y,DataW.trod enc P w 0 spare held n e ((cs.drop (i * P.cellsOf e)).take (P.cellsOf e))=some y/\aG9 P e y.1:=by
      intro i hi
      have hl:xs.length=m:=by simpa using mapM_some_length hxs
      have:=mapM_some_get hxs i i (by simp [hi])
      exact⟨xs[i]'(by omega),by rw [this,List.getElem?_eq_getElem (by omega)],hreach _ (List.getElem_mem _)⟩
     have key: ∀k,k<=m-> ∃ds,aVj (TyD P n e) k ds/\aIc w (below w) ds (cs.drop ((m - k)* P.cellsOf e)):=by
      intro k
      induction k with
      |zero=>
       intro _
       refine⟨[],rfl, ?_⟩
       rw [List.drop_eq_nil_of_le (by rw [hlen,hsz];simp)]
       exact⟨rfl,by simp⟩
      |succ k ihk=>
       intro hk
       obtain⟨y,hy,hy2⟩:=hget (m - (k+1)) (by omega)
       obtain⟨a,a1,a2⟩:=ih e _ y he hy hy2
       obtain⟨b,b1,b2⟩:=ihk (by omega)
       refine⟨a++b,⟨a,b,rfl,a1,b1⟩, ?_⟩
       have e1:(m - k)* P.cellsOf e=(m - (k+1))* P.cellsOf e+P.cellsOf e:=by
        rw [show m - k=(m - (k+1))+1 from by omega,Nat.add_mul,Nat.one_mul]
       rw [e1,<-List.drop_drop]at b2
       have e2:cs.drop ((m - (k+1))* P.cellsOf e)=(cs.drop ((m - (k+1))* P.cellsOf e)).take (P.cellsOf e)++(cs.drop ((m - (k+1))* P.cellsOf e)).drop (P.cellsOf e):=by
        rw [List.take_append_drop]
       rw [e2]
       exact a2.append b2
     obtain⟨ds,d1,d2⟩:=key m (Nat.le_refl _)
     refine⟨ds,by simp only [TyD,hu];exact d1, ?_⟩
     simpa using d2
    ·cases h
   |_=>exact hc.elim
end
end Go.Proofs.YtfhoddcminbffaaGreatDoor
namespace Go.Proofs.YtfhoddcminbffaaGreatDoor
open Go.RowKit Go.ChangeShapes
section
variable {H:Type} {enc:TypeId×Value->H} {P:Program}
theorem Grew.below0 {W W':World}(h:Grew W W'):Below W.heap.size W W':=⟨h.os,h.tape,h.output.1,h.size,h.block⟩
theorem Grew.kept {W W':World}(h:Grew W W') (may:MemPlace->Prop):W.keptBut W' may:=by
 refine⟨h.os,h.output.1,λi hi=> ?_⟩
 rw [h.block i hi]
 split
 ·rename_i h1 h2
  rw [h1]at h2
  injection h2 with h2
  injection h2 with e1 e2 e3
  subst e1 e2 e3
  exact⟨rfl,rfl,rfl,λ_ _=>rfl⟩
 ·rename_i h1 h2
  rw [h1]at h2
  injection h2 with h2
  injection h2 with e1 e2
  exact .inr ⟨e1.symm,e2.symm⟩
 ·rfl
theorem aA8 (hl:laidOutB P=true) {W W':World}(hb:Below W.heap.size W W'): ∀(ts:List TypeId) (vs:List Value) (ds:List (DataW H)) (ps:List MemPlace),(∀t∈ts,P.readableRec t=true/\t < P.types.size)->
  DataW.TrodAll enc P W 0 (λ_=>true) true ts vs ds ps->(∀x∈ps,x.block < W.heap.size)->DataW.TrodAll enc P W' 0 (λb=>decide (b < W.heap.size)) true ts vs ds ps:=by
 intro ts
 induction ts with
 |nil=>
  intro vs ds ps _ h _
  obtain⟨rfl,rfl,rfl⟩:=trodAll_nil h
  rfl
 |cons t r ih=>
  intro vs ds ps hr h hlt
  obtain⟨v,vs1,d,ds1,a,b,rfl,rfl,rfl,h1,h2⟩:=trodAll_cons h
  refine⟨a,b,Below.trod hl (hr t (List.mem_cons_self ..)).1 (hr t (List.mem_cons_self ..)).2 h1 hb (λx hx=>hlt x (List.mem_append_left _ hx)),ih vs1 ds1 b (λu hu=>hr u (List.mem_cons_of_mem _ hu)) h2 (λx hx=>hlt x (List.mem_append_right _ hx)),rfl⟩
def wS (P:Program) (t:TypeId) (ds:List D):SV:=
 match P.underlying t with
 |some (.struct _)=> .d (.agg ds)
 |some (.array _ _)=> .d (.agg ds)
 |_=>match ds with| [d]=> .d d|_=> .d (.lit undef)
inductive ArgsD (P:Program):List TypeId->List SV->Prop
 |nil:ArgsD P [] []
 |cons {t:TypeId} {ts:List TypeId} {ds:List D} {n:Nat} {asv:List SV} (h:TyD P n t ds) (r:ArgsD P ts asv):ArgsD P (t::ts) (wS P t ds::asv)
theorem wR {T:TypeId->Prop}(hT:Cl P T) {W:World}{base:Nat}: ∀(ts:List TypeId) (vs:List Value) (ds:List (DataW H)) (ps:List MemPlace),(∀t∈ts,T t)->
  DataW.TrodAll enc P W 0 (λ_=>true) true ts vs ds ps->(∀n∈DataW.weightsEach P ts ds,n<=reachBytes)->(∀(j:Nat) t v,ts[j]? =some t->vs[j]? =some v->Value.okWide P W .any base t v)->
  ∃asv,ArgsD P ts asv/\asv.length=vs.length/\ ∀(ρ:Env),ρ.S=below W-> ∀(j:Nat) (s:SV) (v:Value),asv[j]? =some s->vs[j]? =some v->Rep W ρ s v:=by
 intro ts
 induction ts with
 |nil=>
  intro vs ds ps _ h _ _
  obtain⟨rfl,rfl,rfl⟩:=trodAll_nil h
  exact⟨[], .nil,rfl,by simp⟩
 |cons t r ih=>
  intro vs ds ps hTs h hws hok
  obtain⟨v,vs1,d,ds1,a,b,rfl,rfl,rfl,h1,h2⟩:=trodAll_cons h
  obtain⟨asv,a1,a2,a3⟩:=ih vs1 ds1 b (λu hu=>hTs u (List.mem_cons_of_mem _ hu)) h2 (λn hn=>hws n (by rw [DataW.weightsEach];exact List.mem_append_right _ hn)) (λj t v x y=>hok (j+1) t v (by simpa using x) (by simpa using y))
  obtain⟨fuel,hf⟩:=h1
  obtain⟨cs,c1,c2⟩:=aEz hT fuel t _ _ (hTs t (List.mem_cons_self ..)) hf (λn hn=>hws n (by rw [DataW.weightsEach];exact List.mem_append_left _ hn))
  have hv:=hok 0 t v rfl rfl
  refine⟨wS P t cs::asv, .cons c1 a1,by simp [a2],λρ hS j s u hs hu=> ?_⟩
  cases j with
  |succ j=>exact a3 ρ hS j s u (by simpa using hs) (by simpa using hu)
  |zero=>
   simp at hs hu
   subst hs hu
   have hagg: ∀vs:Array Value,v= .agg vs->Rep W ρ (.d (.agg cs)) v:=by
    rintro vs rfl
    refine .d _ _ (.agg cs vs ?_ ?_)
    ·simpa [Value.cells]using c2.1.symm
    ·intro j x u hx hu
     rw [hS]
     exact(c2.2 j x u hx (by simpa [Value.cells]using hu)).1
   unfold wS
   split
   ·rename_i fs hu
    simp only [Value.okWide,hu]at hv
    obtain⟨vs,rfl,_⟩:=hv
    exact hagg vs rfl
   ·rename_i n e hu
    simp only [Value.okWide,hu]at hv
    obtain⟨vs,rfl,_⟩:=hv
    exact hagg vs rfl
   ·rename_i hn1 hn2
    split
    ·rename_i d'
     have hl:=c2.1
     have hcell:v.cells= #[v]:=by
      cases v with
      |agg cs=>
       exfalso
       have hc:=hT t (hTs t (List.mem_cons_self ..))
       cases hu:P.underlying t with
       |none=>rw [hu]at hc;exact hc
       |some ud=>
        rw [hu]at hc
        simp only [Value.okWide,hu]at hv
        cases ud with
        |struct fs=>exact hn1 fs hu
        |array n e=>exact hn2 n e hu
        |_=>first|exact hc.elim|simp [Cell.okWide,hu,Cell.ok]at hv
      |_=>rfl
     rw [hcell]at c2
     have:=c2.2 0 d' v rfl rfl
     exact .d _ _ (by rw [hS];exact this.1)
    ·rename_i hno
     exfalso
     have hc:=hT t (hTs t (List.mem_cons_self ..))
     cases fuel with
     |zero=>simp [TyD]at c1
     |succ fuel=>
      simp only [TyD]at c1
      cases hu:P.underlying t with
      |none=>rw [hu]at hc;exact hc
      |some ud=>
       rw [hu]at hc c1
       cases ud with
       |bool=>obtain⟨_,rfl⟩:=c1;exact hno _ rfl
       |int k=>obtain⟨_,rfl,_⟩:=c1;exact hno _ rfl
       |string=>obtain⟨_,rfl,_⟩:=c1;exact hno _ rfl
       |slice e=>obtain⟨_,rfl,_⟩:=c1;exact hno _ rfl
       |struct fs=>exact hn1 fs hu
       |array n e=>exact hn2 n e hu
       |_=>exact hc.elim
theorem mN {T:TypeId->Prop}(hT:Cl P T) (hl:laidOutB P=true) {f:FuncId}{fn:Func}{s:ChangeSpec}{tb:TypeId}(hr:fn.resultTypes= #[tb]) (hb:P.underlying tb=some .bool)
  (hTs: ∀t∈fn.params.toList,T t) (hrd: ∀t∈fn.params.toList,P.readableRec t=true/\t < P.types.size) (hvars:s.vars=[])
  (hs: ∀ds:List (DataW H),ds.length=fn.params.size->s.fn H ds={ results:=[.lit (.bool true)],args:=ds })
  {hp:Hp} (tri: ∀asv,ArgsD P fn.params.toList asv->Tri P f asv hp (λr=>r= .d (.bool true)))
  (W:World) (base:Nat) (args:Array Value) (ds gs:List (DataW H)) (before:List MemPlace)
  (hval: ∀(j:Nat) t v,fn.params[j]? =some t->args[j]? =some v->Value.okWide P W .any base t v)
  (hW:DataW.Whole enc P fn.params.toList s.vars false W args.toList ds gs before)
  (hws:(DataW.weightsEach P (fn.params.toList++s.plain.varTypes P) (ds++gs)).all (· <=reachBytes)=true)
  (hgl: ∀ρ:Env,ρ.S=below W-> ∀id o,aU hp id=some o->RO W ρ id o):
  Calls P f args W λe W'=> ∃v,e= .returned v/\s.post enc P fn false true false false W args v W':=by
 have hlt:=hW.lt
 have hW0:=hW
 obtain⟨p,q,hA,hV,rfl,_,_⟩:=hW
 rw [hvars]at hV
 obtain⟨rfl,rfl⟩:=trodVars_none hV
 have hvt:s.plain.varTypes P=[]:=by
  unfold ChangeSpec.plain DataSpec.varTypes
  simp [hvars]
 have hws1: ∀n∈DataW.weightsEach P fn.params.toList ds,n<=reachBytes:=by
  rw [hvt,List.append_nil,List.append_nil]at hws
  exact λn hn=>of_decide_eq_true (List.all_eq_true.1 hws n hn)
 obtain⟨asv,a1,a2,a3⟩:=wR (base:=base) hT _ _ _ _ hTs hA hws1 (λj t v x y=>hval j t v (by simpa using x) (by simpa using y))
 let ρ:Env:=⟨below W,λ_=>none,λ_=>0,λ_=>undef⟩
 refine(tri asv a1 W ρ args (λb i h=>h) ⟨by simpa using a2.symm,λj x v h1 h2=>a3 ρ rfl j x v h1 (by simpa using h2)⟩ (hgl ρ rfl)).mono ?_
 rintro e W' ⟨v,S',r,rfl,rfl,hg,_,_,_,hrep⟩
 have hv:=hrep.bool_inv
 subst hv
 have hlen:ds.length=fn.params.size:=by
  have: ∀(ts:List TypeId) (vs:List Value) (ds:List (DataW H)) (ps:List MemPlace),DataW.TrodAll enc P W 0 (λ_=>true) true ts vs ds ps->ds.length=ts.length:=by
   intro ts
   induction ts with
   |nil=>intro vs ds ps h;obtain⟨rfl,rfl,rfl⟩:=trodAll_nil h;rfl
   |cons t r ih=>
    intro vs ds ps h
    obtain⟨v,vs1,d,ds1,a,b,rfl,rfl,rfl,h1,h2⟩:=trodAll_cons h
    simp [ih _ _ _ h2]
  simpa using this _ _ _ _ hA
 refine⟨_,rfl,ds,[],_,[],p,[],hW0, ?_, ?_, ?_,hg.kept _,λh=>by cases h⟩
 ·rw [List.append_nil,hs ds hlen,hr]
  exact⟨[],[],shut_bool hb _,rfl,rfl⟩
 ·rw [List.append_nil,hs ds hlen]
  exact aA8 hl hg.below0 _ _ _ _ hrd hA (λx hx=>hlt x (List.mem_append_left _ hx))
 ·rw [List.append_nil,hs ds hlen,hvars];rfl
end
end Go.Proofs.YtfhoddcminbffaaGreatDoor
namespace Go.Proofs.YtfhoddcminbffaaGreatDoor
open Go.Proofs
section
variable {P:Program}
def xV (P:Program):Nat->List Field->Nat->Bool
 |off,[],n=>off==n
 |off,f::r,n=>f.offset==off && xV P (off+P.cellsOf f.type) r n
theorem aA9: ∀(l:List Field) (off n:Nat),xV P off l n=true->lW P off l n
 | [],off,n,h=>by simpa [xV,lW]using h
 |f::r,off,n,h=>by
  simp only [xV,Bool.and_eq_true,beq_iff_eq]at h
  exact⟨h.1,aA9 r _ n h.2⟩
def clB (P:Program) (ts:List TypeId):Bool:=ts.all λt=>match P.underlying t with
 |some .bool=>true
 |some (.int _)=>true
 |some .string=>true
 |some (.slice e)=>(decide (0 < P.cellsOf e) && decide (0 < P.bytesOf e)) && ts.contains e
 |some (.struct fs)=>xV P 0 fs.toList (P.cellsOf t) && fs.toList.all (λf=>ts.contains f.type)
 |some (.array n e)=>(P.cellsOf t==n * P.cellsOf e) && ts.contains e
 |_=>false
theorem aTy {ts:List TypeId}(h:clB P ts=true):Cl P (· ∈ts):=by
 intro t ht
 have h1:=List.all_eq_true.1 h t ht
 revert h1
 cases hu:P.underlying t with
 |none=>simp
 |some d=>
  cases d with
  |slice e=>simp only [Bool.and_eq_true,decide_eq_true_eq,List.contains_iff_mem];exact id
  |struct fs=>
   simp only [Bool.and_eq_true]
   rintro⟨h1,h2⟩
   exact⟨aA9 _ _ _ h1,λf hf=>by simpa using List.all_eq_true.1 h2 f hf⟩
  |array n e=>simp only [Bool.and_eq_true,beq_iff_eq,List.contains_iff_mem];exact id
  |_=>simp
def aEh (P:Program) (t:TypeId):Option (List TypeId):=match P.underlying t with
 |some (.struct fs)=>some (fs.toList.map (·.type))
 |_=>none
def aVi (R:TypeId->List D->Prop):List TypeId->List D->Prop
 | [],ds=>ds=[]
 |t::r,ds=> ∃a b,ds=a++b/\R t a/\aVi R r b
theorem aSs.types {R:TypeId->List D->Prop}: ∀(l:List Field) (ds:List D),aSs R l ds->aVi R (l.map (·.type)) ds
 | [],_,h=>h
 |_::r,_,⟨a,b,e,h1,h2⟩=>⟨a,b,e,h1,aSs.types r b h2⟩
theorem qU {t:TypeId}{ts:List TypeId}(h:aEh P t=some ts) {n:Nat}{ds:List D}(k:TyD P n t ds): ∃m,n=m+1/\aVi (TyD P m) ts ds:=by
 cases n with
 |zero=>exact k.elim
 |succ n=>
  refine⟨n,rfl, ?_⟩
  unfold aEh at h
  split at h
  ·rename_i fs hu
   simp only [TyD,hu]at k
   have:=aSs.types _ _ k
   injection h with h
   rw [h]at this
   exact this
  ·cases h
theorem lV {t e:TypeId}(h:P.underlying t=some (.slice e)) {n:Nat}{ds:List D}(k:TyD P n t ds): ∃m,n=m+1/\ ∃rows,ds=[.sl (P.cellsOf e) rows]/\rows.length<=reachBytes/\ ∀r∈rows,TyD P m e r:=by
 cases n with
 |zero=>exact k.elim
 |succ n=>simp only [TyD,h]at k;exact⟨n,rfl,k⟩
theorem kA {t:TypeId}(h:P.underlying t=some .string) {n:Nat}{ds:List D}(k:TyD P n t ds): ∃l,ds=[.str l]/\l.length<=reachBytes:=by
 cases n with
 |zero=>exact k.elim
 |succ n=>simp only [TyD,h]at k;exact k
theorem aOo {t:TypeId}(h:P.underlying t=some .bool) {n:Nat}{ds:List D}(k:TyD P n t ds): ∃b,ds=[.bool b]:=by
 cases n with
 |zero=>exact k.elim
 |succ n=>simp only [TyD,h]at k;exact k
theorem uB {t:TypeId}(h:P.underlying t=some (.int .i64)) {n:Nat}{ds:List D}(k:TyD P n t ds): ∃z,ds=[.int .i64 z]/\ -9223372036854775808<=z/\z<=9223372036854775807:=by
 cases n with
 |zero=>exact k.elim
 |succ n=>
  simp only [TyD,h]at k
  obtain⟨z,rfl,hw⟩:=k
  exact⟨z,rfl,by simpa [Lit.wf,IntKind.min,IntKind.max,IntKind.signed,IntKind.bits]using hw⟩
theorem aEw {α:Type}{R:List D->Prop}{f:α->List D}(h: ∀r,R r-> ∃x,r=f x): ∀rows:List (List D),(∀r∈rows,R r)-> ∃l:List α,rows=l.map f
 | [],_=>⟨[],rfl⟩
 |r::rest,hr=>by
  obtain⟨x,rfl⟩:=h r (hr r (List.mem_cons_self ..))
  obtain⟨l,rfl⟩:=aEw h rest (λq hq=>hr q (List.mem_cons_of_mem _ hq))
  exact⟨x::l,rfl⟩
end
end Go.Proofs.YtfhoddcminbffaaGreatDoor
namespace Go.Proofs.YtfhoddcminbffaaGreatDoor
open Go.RowKit Go.ChangeShapes
section
variable {P:Program} {w:World}
mutual
def aNi {H:Type}:DataW H->List D
 | .lit (.int k z)=>[.int k z]
 | .lit (.bool b)=>[.bool b]
 | .agg parts=>vW parts
 |_=>[]
def vW {H:Type}:List (DataW H)->List D
 | []=>[]
 |d::r=>aNi d++vW r
end
def Fl (P:Program) (T:TypeId->Prop):Prop:= ∀t,T t->match P.underlying t with
 |some .bool=>True
 |some (.int _)=>True
 |some (.struct fs)=>lW P 0 fs.toList (P.cellsOf t)/\ ∀f∈fs.toList,T f.type
 |some (.array n e)=>P.cellsOf t=n * P.cellsOf e/\T e
 |_=>False
def flB (P:Program) (ts:List TypeId):Bool:=ts.all λt=>match P.underlying t with
 |some .bool=>true
 |some (.int _)=>true
 |some (.struct fs)=>xV P 0 fs.toList (P.cellsOf t) && fs.toList.all (λf=>ts.contains f.type)
 |some (.array n e)=>(P.cellsOf t==n * P.cellsOf e) && ts.contains e
 |_=>false
theorem aV8 {ts:List TypeId}(h:flB P ts=true):Fl P (· ∈ts):=by
 intro t ht
 have h1:=List.all_eq_true.1 h t ht
 revert h1
 cases hu:P.underlying t with
 |none=>simp
 |some d=>
  cases d with
  |struct fs=>
   simp only [Bool.and_eq_true]
   rintro⟨h1,h2⟩
   exact⟨aA9 _ _ _ h1,λf hf=>by simpa using List.all_eq_true.1 h2 f hf⟩
  |array n e=>simp only [Bool.and_eq_true,beq_iff_eq,List.contains_iff_mem];exact id
  |_=>simp
theorem aD9 {H:Type}{enc:TypeId×Value->H}{spare:Nat->Bool}{held:Bool}{S:Nat->Nat->Prop}{T:TypeId->Prop}(hT:Fl P T): ∀(fuel:Nat) (t:TypeId) (cs:List Value) (x:DataW H×List MemPlace),T t->DataW.trod enc P w 0 spare held fuel t cs=some x->
  aIc w S (aNi x.1) cs:=by
 intro fuel
 induction fuel with
 |zero=>intro t cs x _ h;simp [DataW.trod]at h
 |succ n ih=>
  intro t cs x ht h
  have hc:=hT t ht
  cases hu:P.underlying t with
  |none=>rw [hu]at hc;exact hc.elim
  |some d=>
   rw [hu]at hc
   cases d with
   |bool=>
    obtain⟨b,rfl,hx,_⟩:=DataW.trod_bool hu h
    exact .one (.bool b) rfl
   |int k=>
    obtain⟨z,rfl,hx,_⟩:=DataW.trod_int hu h
    rw [hx]
    exact .one (.int k z) rfl
   |struct fs=>
    simp only at hc
    obtain⟨htile,hfs⟩:=hc
    obtain⟨xs,m,hm,hx,hlen,hxl,hf⟩:=DataW.trod_struct hu h
    obtain rfl:n=m:=by omega
    have hle2: ∀(l:List Field) (o n:Nat),lW P o l n->o<=n:=by
     intro l
     induction l with
     |nil=>intro o n h;simp only [lW]at h;omega
     |cons g s ihs=>intro o n h;simp only [lW]at h;have:=ihs _ _ h.2;omega
    have key: ∀(l:List Field) (ys:List (DataW H×List MemPlace)) (off:Nat),lW P off l (P.cellsOf t)->(∀f∈l,T f.type)->l.length=ys.length->
      (∀(i:Nat) (f:Field),l[i]? =some f->DataW.trod enc P w 0 spare held n f.type ((cs.drop f.offset).take (P.cellsOf f.type))=ys[i]?)->
      aIc w S (vW (ys.map (·.1))) (cs.drop off):=by
     intro l
     induction l with
     |nil=>
      intro ys off ht _ hl _
      obtain rfl:ys=[]:=List.length_eq_zero_iff.1 hl.symm
      simp only [lW]at ht
      rw [List.drop_eq_nil_of_le (by omega)]
      exact⟨rfl,by simp [vW]⟩
     |cons f r ihl=>
      intro ys off ht hTl hl hy
      cases ys with
      |nil=>simp at hl
      |cons y ys=>
       simp only [lW]at ht
       obtain⟨ho,htr⟩:=ht
       have a2:=ih f.type _ y (hTl f (List.mem_cons_self ..)) (hy 0 f rfl)
       have b2:=ihl ys _ htr (λg hg=>hTl g (List.mem_cons_of_mem _ hg)) (by simpa using hl) (λi g hg=>hy (i+1) g (by simpa using hg))
       rw [ho]at a2
       have e:cs.drop off=(cs.drop off).take (P.cellsOf f.type)++cs.drop (off+P.cellsOf f.type):=by
        rw [<-List.drop_drop,List.take_append_drop]
       rw [e]
       exact a2.append b2
    have:=key fs.toList xs 0 htile hfs (by simp [hxl]) (λi f hf'=>hf i f (by simpa using hf'))
    rw [hx]
    simpa [aNi]using this
   |array m e=>
    simp only at hc
    obtain⟨hsz,he⟩:=hc
    unfold DataW.trod at h
    rw [hu]at h
    simp only at h
    split at h
    ·rename_i hlen
     obtain⟨xs,hxs,hx⟩:=Option.map_eq_some_iff.1 h
     have hl:xs.length=m:=by simpa using mapM_some_length hxs
     have key: ∀k,k<=m->aIc w S (vW ((xs.drop (m - k)).map (·.1))) (cs.drop ((m - k)* P.cellsOf e)):=by
      intro k
      induction k with
      |zero=>
       intro _
       have z1:xs.drop (m - 0)=[]:=List.drop_eq_nil_of_le (by omega)
       have z2:cs.drop ((m - 0)* P.cellsOf e)=[]:=List.drop_eq_nil_of_le (by rw [hlen,hsz];simp)
       rw [z1,z2]
       exact⟨rfl,by simp [vW]⟩
      |succ k ihk=>
       intro hk
       have hi:m - (k+1) < xs.length:=by omega
       have hy:=mapM_some_get hxs (m - (k+1)) (m - (k+1)) (by rw [List.getElem?_range (by omega)])
       rw [List.getElem?_eq_getElem hi]at hy
       have a2:=ih e _ _ he hy
       have b2:=ihk (by omega)
       have e0:m - k=(m - (k+1))+1:=by omega
       have e1:(m - k)* P.cellsOf e=(m - (k+1))* P.cellsOf e+P.cellsOf e:=by
        rw [e0,Nat.add_mul,Nat.one_mul]
       rw [e1,<-List.drop_drop]at b2
       have e2:cs.drop ((m - (k+1))* P.cellsOf e)=(cs.drop ((m - (k+1))* P.cellsOf e)).take (P.cellsOf e)++(cs.drop ((m - (k+1))* P.cellsOf e)).drop (P.cellsOf e):=by
        rw [List.take_append_drop]
       rw [e2,List.drop_eq_getElem_cons hi,<-e0,List.map_cons,vW]
       exact a2.append b2
     have:=key m (Nat.le_refl _)
     rw [<-hx]
     simpa [aNi]using this
    ·cases h
   |_=>exact hc.elim
theorem getElem?_flatten {α:Type}{z:Nat}: ∀(rows:List (List α)),(∀r∈rows,r.length=z)-> ∀(i:Nat) (row:List α) (j:Nat) (d:α),rows[i]? =some row->row[j]? =some d->rows.flatten[i * z+j]? =some d
 | [],_,i,row,j,d,h,_=>by simp at h
 |r::rest,hz,0,row,j,d,h,h2=>by
  simp at h;subst h
  have hj:=(List.getElem?_eq_some_iff.1 h2).1
  rw [List.flatten_cons,Nat.zero_mul,Nat.zero_add,List.getElem?_append_left hj];exact h2
 |r::rest,hz,i+1,row,j,d,h,h2=>by
  have e:(i+1)* z+j=r.length+(i * z+j):=by rw [hz r (List.mem_cons_self ..),Nat.add_mul,Nat.one_mul];omega
  rw [List.flatten_cons,e,List.getElem?_append_right (by omega),Nat.add_sub_cancel_left]
  exact getElem?_flatten rest (λq hq=>hz q (List.mem_cons_of_mem _ hq)) i row j d (by simpa using h) h2
theorem rT {T:TypeId->Prop}(hT:Fl P T) {n:String}{g:Nat}{t:TypeId}{cs:Array Value}{fuel:Nat}{d:DataW Unit}{p:List MemPlace}{z:Nat}{rows:List (List D)}
  (hg:P.globalNamed n=some g) (ht:T t) (hv:w.var? P n=some cs) (hd:DataW.trod (λ_=>()) P w 0 (λ_=>true) false fuel t cs.toList=some (d,p))
  (hz: ∀r∈rows,r.length=z) (hr:aNi d=rows.flatten):View w (below w) z rows g 0:=by
 have h:=aD9 (S:=below w) hT fuel t _ _ ht hd
 simp only at h
 rw [hr]at h
 refine⟨hz,λi row j x hi hj=> ?_⟩
 have hf:=getElem?_flatten rows hz i row j x hi hj
 have hlt:=(List.getElem?_eq_some_iff.1 hf).1
 have hv2:cs.toList[i * z+j]? =some (cs.toList[i * z+j]'(by rw [<-h.1];exact hlt)):=List.getElem?_eq_getElem _
 obtain⟨q1,q2⟩:=h.2 _ _ _ hf hv2
 have hc:w.cell? ⟨g,i * z+j,none⟩=some (cs.toList[i * z+j]'(by rw [<-h.1];exact hlt)):=by
  rw [World.var?_cell hg hv,<-Array.getElem?_toList];exact hv2
 rw [Nat.zero_add]
 exact⟨_,hc,yY hc,q2,q1⟩
end
end Go.Proofs.YtfhoddcminbffaaGreatDoor
