/-
  Laid variables: a package-level variable that reads as a table of numbers and truths is seen row by row.
  Conditions: none.
-/
import Derived.Test.YtbobcfjlbcgchaaGreatDoorWSq
import Derived.ChangeArms
import Derived.ChangeSlices
import Derived.RowKit3
import Derived.Carry
import Derived.Handed
import Derived.ProofKit
import Derived.LaidMore
set_option linter.unusedSectionVars false
set_option linter.unusedSimpArgs false
set_option linter.unusedVariables false
namespace Go.Proofs.YtbobcfjlbcgchaaGreatDoor
section
open Go.RowKit
section
variable {P:Program}
def bB6 (ops:Array Oper):List Nat->Array Bool->Bool->Bool
 | [],listed,_=>(Region.ready .any ops listed).isEmpty
 |i::r,listed,late=>
  (match ops[i]? with
  |none=>false
  |some o=>
   (match kd o.op with
   | 0=>(Region.ready .any ops listed).contains i && Region.free .any ops listed i
   | 1 => (!late && (Region.ready .any ops listed).contains i && Region.free .any ops listed i &&
     (List.range ops.size).all λj=>listed.getD j true || (match ops[j]? with|some oj=>kd oj.op !=3 || oj.after.any (λe=>Region.binds .any e && e.on==i)|none=>true)) ||
     (Region.ready .any ops listed==[i])
   | 2=> !late && (Region.ready .any ops listed==[i])
   |_=>o.guard.isNone && (Region.ready .any ops listed==[i])) &&
   bB6 ops r (listed.setIfInBounds i true) (late || kd o.op==3))
def aU4 (P:Program) (fr:Fr) (hp:Hp) (f:Operand) (args:List Operand) (K:SV->Prop):Prop:=
 ev fr f λs=>match aYl s with
  | some (g, first, cap) => (match evL fr args with
   |some l=>dY P g=true/\ ∃hpc post,lU hpc hp/\Tri P g (first++l++cap) hpc post/\ ∀r,post r->K r
   |none=>aH "call: an argument")
  |none=>aH "call: no function"
def bB0 (op:BinOp) (fr:Fr) (x y:Operand) (K:SV->Prop):Prop:=
 ev fr x λs=>ev fr y λr=>match s,r with
  | .d (.int k a), .d (.int k' b)=>aMs op k a k' b K
  | .d (.str a), .d (.str b)=>aLu op a b K
  |_,_=>aH "add"
theorem aMi {o:Oper}{op:BinOp}{t t':TypeId}{x y:Operand}(ho:o.op= .binOp op t x y t') {fr:Fr}{K:SV->Prop}(h:bB0 op fr x y K) {ρ:Env}{a:Act}{w:World}(hf:dV ρ w fr a.tmps):
  ∃v s,(∀w',(execOp a.eval o).run P w'= .ok (.value v) w')/\Rep w ρ s v/\K s:=by
 obtain⟨s,k,b⟩:=dB h
 obtain⟨r,l,c⟩:=dB b
 clear b
 have i:=aV hf k
 have j:=aV hf l
 split at c
 ·obtain⟨v,q,f,e,g⟩:=aD4 (P:=P) t c
  exact⟨v,_,λw'=>by simp [execOp,ho,i.int_inv,j.int_inv,aBd,f], .d _ _ (g w ρ.S),e⟩
 ·obtain⟨v,q,f,e,g⟩:=aD3 (P:=P) t c
  exact⟨v,_,λw'=>by simp [execOp,ho,i.str_inv.1,j.str_inv.1,aBc,f], .d _ _ (g w ρ.S),e⟩
 ·exact c.elim
def dVC (P:Program) (ti:TypeId->Option TI) (pin:Pin) (fr:Fr) (hp:Hp) (dst:Nat) (o:Oper) (K:SV->Hp->Prop):Prop:=
 match o.op with
 | .alloc t => (match ti t with
   |some T=>fE dst pin fr hp/\K (.ptr dst 0) ((dst, .cells t (T.zero.map .d))::hp)
   |none=>aH "alloc: a type")
 | .box t x => ev fr x λs => (match kF s with
   |some cs=>fE dst pin fr hp/\dst∉SV.idsL cs/\K (.ptr dst 0) ((dst, .cells t cs)::hp)
   |none=>aH "box: cells")
 | .buildSlice t len parts=>(match evP fr parts.toList with|some l=>mW ti t len dst l pin fr hp K|none=>aH "buildSlice: a part")
 | .makeSlice t x y=>ev fr x λl=>ev fr y λc=>aV3 ti t dst l c pin fr hp K
 | .store t x y=>ev fr x λs=>ev fr y λr=>aEt ti t s r hp λhp'=>K (.d (.lit undef)) hp'
 | .call { callee:= .builtin .append,args:=⟨[x,y]⟩,argTypes:=⟨[t,tx]⟩ }=>ev fr x λs=>ev fr y λr=>aGe ti t tx dst s r pin fr hp K
 | .call { callee:= .value f,args:=args,argTypes:=_ }=>aU4 P fr hp f args.toList λs=>K s hp
 | .call { callee:= .builtin .copy,args:=_,argTypes:=_ }=>aT P o pin fr hp K
 | .binOp .add _ x y _=>bB0 .add fr x y λs=>K s hp
 | .binOp .sub _ x y _=>bB0 .sub fr x y λs=>K s hp
 |_=>uS P ti fr hp o λs=>K s hp
theorem aWn {o:Oper}{f:Operand}{args:Array Operand}{ts:Array TypeId}(q:o.op= .call { callee:= .value f,args:=args,argTypes:=ts }) {pin:Pin}{fr:Fr}{hp:Hp}{K:SV->Hp->Prop}
  (h:aU4 P fr hp f args.toList λs=>K s hp):aBu P o pin fr hp K:=by
 intro E ρ a w hpin m r next Q R
 obtain⟨s,N,i⟩:=dB h
 have O:=aV r N
 split at i
 ·rename_i g first cap u
  obtain⟨J,cv,e,C,M⟩:=aB4 u O
  split at i
  ·rename_i l hl
   obtain⟨c,hpc,post,k,d,T⟩:=i
   obtain⟨H,A⟩:=aBb r _ _ hl
   have b:cS w ρ (first++l++cap) (J++args.map a.eval++cv):=by
    refine(C.append ⟨?_, ?_⟩).append M
    ·simpa using H
    ·intro j n v p t
     refine A j n v p ?_
     rw [<-Array.toList_map];simpa using t
   unfold Oper.wp
   rw [lO q e c]
   simp only [Oper.upon]
   refine(d w ρ _ m.slt b λid o q=>(m.sat id o (jU _ _ k id o q)).ro_).mono ?_
   rintro e' w' ⟨v,S',n,U,L,z,y,F,G,S⟩
   subst U
   obtain⟨I,B⟩:=m.grow z S' y F G
   exact R v w' _ n hp (T n L) I (B fr _ r) S (KInfo.mk_ (m.kept_grew z) y λid x g hx D=>⟨hx,by cases x<;>exact D⟩)
  ·exact i.elim
 ·exact i.elim
theorem aZw {ti:TypeId->Option TI}{fr:Fr}{hp:Hp}{o:Oper}{K:SV->Prop}(h:uS P ti fr hp o K):kd o.op<=1:=by
 unfold uS at h
 split at h<;>first|exact h.elim|(rename_i e;rw [e];simp [kd];done)|(rename_i e;rw [e];unfold kd;split<;>first|exact Nat.zero_le _|exact Nat.le_refl _|(rename_i q;cases q))
theorem bDr {ti:TypeId->Option TI}(hti:fH P ti) {o:Oper}{pin:Pin}{fr:Fr}{hp:Hp}{dst:Nat}{K:SV->Hp->Prop}(h:dVC P ti pin fr hp dst o K):
  (kd o.op<=1/\fI P o fr hp (λs=>K s hp)/\(kd o.op=0-> ∀(ρ:Env) (a:Act) (w:World) (v:Value),dV ρ w fr a.tmps->(execOp a.eval o).run P w= .ok (.value v) w-> ∀w',(execOp a.eval o).run P w'= .ok (.value v) w'))\/(kd o.op=2/\aBu P o pin fr hp K)\/(kd o.op=3/\aEb P o pin fr hp K):=by
 unfold dVC at h
 split at h
 ·rename_i b;exact .inr (.inl ⟨by rw [b];rfl,aMh hti b h⟩)
 ·rename_i b;exact .inr (.inl ⟨by rw [b];rfl,aYa b h⟩)
 ·rename_i b;exact .inr (.inl ⟨by rw [b];rfl,uX hti b h⟩)
 ·rename_i b;exact .inr (.inl ⟨by rw [b];rfl,aSw hti b h⟩)
 ·rename_i b;exact .inr (.inr ⟨by rw [b];rfl,aDf hti b h⟩)
 ·rename_i b;exact .inr (.inl ⟨by rw [b];rfl,aDh hti b h⟩)
 ·rename_i b;exact .inr (.inl ⟨by rw [b];rfl,aWn b h⟩)
 ·rename_i b;exact .inr (.inr ⟨by rw [b];rfl,h⟩)
 ·rename_i b
  exact .inl ⟨by rw [b]; simp [kd], λE ρ a w m g => by
   obtain⟨v,s,d,j,l⟩:=aMi (P:=P) b h g
   exact⟨v,s,λw' _=>d w',j,l⟩,λ_ ρ a w v g c w'=>by
   obtain⟨u,s,d,_⟩:=aMi (P:=P) b h g
   rw [d w]at c
   injection c with c
   rw [d w',c]⟩
 ·rename_i b
  exact .inl ⟨by rw [b]; simp [kd], λE ρ a w m g => by
   obtain⟨v,s,d,j,l⟩:=aMi (P:=P) b h g
   exact⟨v,s,λw' _=>d w',j,l⟩,λ_ ρ a w v g c w'=>by
   obtain⟨u,s,d,_⟩:=aMi (P:=P) b h g
   rw [d w]at c
   injection c with c
   rw [d w',c]⟩
 ·rename_i q n
  have hp:=aKc hti (o:=o) h
  refine .inl ⟨aZw h,hp,λk ρ a w v g i w'=> ?_⟩
  have f: ∀x,(o.op= .move x\/o.op= .assign x)-> ∀w':World,(execOp a.eval o).run P w'= .ok (.value (a.eval x)) w':=by
   rintro x (e|e) w'<;>simp [execOp,e]
  have hx: ∃x,o.op= .move x\/o.op= .assign x:=by
   generalize o.op=p at *
   unfold kd at k
   split at k<;>first|exact⟨_, .inl rfl⟩|exact⟨_, .inr rfl⟩|(exfalso;exact q _ _ _ _ rfl)|(exfalso;exact n _ _ _ _ rfl)|cases k
  obtain⟨x,hx⟩:=hx
  rw [f x hx w]at i
  injection i with i
  rw [f x hx w',i]
theorem aZ4 {ops:Array Oper}{Q Q':Act->World->Prop}(hQ: ∀a w,Q a w->Q' a w): ∀(fuel:Nat) (Cl:World->Prop) (b:Array Bool) (a:Act) (w:World),wpE P ops Q fuel Cl b a w->wpE P ops Q' fuel Cl b a w:=by
 intro fuel
 induction fuel with
 |zero=>intro Cl b a w h;exact⟨h.1,hQ _ _ h.2⟩
 |succ fuel ih=>
  intro Cl b a w h
  refine⟨λg=>hQ _ _ (h.1 g),λi hi=> ?_⟩
  have:=h.2 i hi
  split
  ·rename_i d;simp only [d]at this;exact ih _ _ _ _ this
  ·rename_i o d
   simp only [d]at this
   split
   ·rename_i e
    simp only [e,if_true]at this
    refine zK (λa' w' c=> ?_) this
    split
    ·rename_i f;simp only [f,if_true]at c;exact ih _ _ _ _ c
    ·rename_i f;simp only [f,if_false]at c;exact⟨c.1,ih _ _ _ _ c.2⟩
   ·rename_i e;simp only [e]at this;exact ih _ _ _ _ this
def aPy (C:Cfg) (all:List Oper) (i:Nat) (fr:Fr) (hp:Hp) (k:Fr->Hp->Prop):Prop:=
 match all[i]? with
 |some o=>
  wX all fr o.guard
   (λfr=>dVC C.P C.ti C.pin fr hp (C.off+o.dst.getD 0) o λs hp'=>put C o.dst s fr λfr'=>k fr' hp')
   (λfr=>put C o.dst (.d (.lit undef)) fr λfr'=>k fr' hp)
 |none=>aH "no such operation"
def aE0 (C:Cfg) (all:List Oper) (K:Fr->Hp->Prop):List Nat->Fr->Hp->Prop
 | [],fr,hp=>uT C.keep fr λfr'=>K fr' hp
 |i::r,fr,hp=>aPy C all i fr hp λfr' hp'=>aE0 C all K r fr' hp'
theorem aDz {C:Cfg}(hti:fH C.P C.ti) {all:List Oper}{K:Fr->Hp->Prop}{E:Entry}(hpin:E.pin=C.pin) (hsel:Region.noSelect all.toArray=true):
  ∀(G:List Nat) (c:Array Bool) (f:Bool) (fr:Fr) (hp:Hp) (ρ:Env) (a:Act) (w:World),bB6 all.toArray G c f=true->aE0 C all K G fr hp->Mem E ρ hp w->a.tmps.size=C.nt->a.defers=(E.D.take E.k).map xP++E.pin.pre->dV ρ w fr a.tmps->
  wpE C.P all.toArray (λa w=> ∃fr hp,K fr hp/\Sat E C.nt ⟨fr,hp⟩ a w) G.length (if f then λ_=>True else Kept ρ hp w) c a w:=by
 intro G
 induction G with
 |nil=>
  intro c f fr hp ρ a w S h L z O J
  simp only [bB6,List.isEmpty_iff]at S
  simp only [aE0,oU]at h
  exact⟨S,_,hp,h,z,O,ρ,L,λt s a5=>J t s (mI _ _ t s a5)⟩
 |cons i r ih=>
  intro c f fr hp ρ a w S h L z O J
  simp only [bB6]at S
  simp only [aE0,aPy]at h
  split at h
  ·rename_i o ho
   have Q:all.toArray[i]? =some o:=by simpa using ho
   simp only [Q,Bool.and_eq_true]at S
   obtain⟨l,m⟩:=S
   obtain⟨fr0,J,hh⟩:=gI h J
   have Y:(if f then λ_=>True else Kept ρ hp w) w:=by
    cases f
    ·exact Kept.refl ρ hp w
    ·trivial
   -- an operation that is alone
   have p: ∀(g:Region.ready .any all.toArray c=[i]) (Cl:World->Prop),
     (if Region.wanted o (yielded all.toArray a.tmps) then
      o.wp C.P a w (λa' w'=>if kd o.op=3 then wpE C.P all.toArray (λa w=> ∃fr hp,K fr hp/\Sat E C.nt ⟨fr,hp⟩ a w) r.length (λ_=>True) (c.setIfInBounds i true) a' w' else Cl w'/\wpE C.P all.toArray (λa w=> ∃fr hp,K fr hp/\Sat E C.nt ⟨fr,hp⟩ a w) r.length Cl (c.setIfInBounds i true) a' w') noX
     else wpE C.P all.toArray (λa w=> ∃fr hp,K fr hp/\Sat E C.nt ⟨fr,hp⟩ a w) r.length Cl (c.setIfInBounds i true) (a.put o.dst undef) w)->
     wpE C.P all.toArray (λa w=> ∃fr hp,K fr hp/\Sat E C.nt ⟨fr,hp⟩ a w) (i::r).length Cl c a w:=by
    intro g Cl hx
    refine⟨λh0=>(by rw [g]at h0;cases h0),λj T=> ?_⟩
    rw [g]at T
    simp at T
    subst T
    simp only [Q]
    exact hx
   -- an operation that may be taken first
   have A: ∀(y:kd o.op<=1) (x:kd o.op=1->¬ Region.ready .any all.toArray c=[i]) (v:Value),YE C.P all.toArray (if f then λ_=>True else Kept ρ hp w) o v a->(kd o.op=0\/kd o.op=1)->
     wpE C.P all.toArray (λa w=> ∃fr hp,K fr hp/\Sat E C.nt ⟨fr,hp⟩ a w) r.length (if f then λ_=>True else Kept ρ hp w) (c.setIfInBounds i true) (a.put o.dst v) w->
     wpE C.P all.toArray (λa w=> ∃fr hp,K fr hp/\Sat E C.nt ⟨fr,hp⟩ a w) (i::r).length (if f then λ_=>True else Kept ρ hp w) c a w:=by
    intro y x v hy B H
    have F:i∈Region.ready .any all.toArray c/\Region.free .any all.toArray c i=true/\(kd o.op≠0-> ∀j Z,all.toArray[j]? =some Z->c.getD j true=false->kd Z.op=3-> ∃e∈Z.after,Region.binds .any e=true/\e.on=i):=by
     rcases B with e|e
     ·rw [e]at l
      simp only [Bool.and_eq_true,List.contains_iff_mem]at l
      exact⟨l.1,l.2,λh0=>absurd e h0⟩
     ·have x:=x e
      rw [e]at l
      simp only [Bool.and_eq_true,Bool.or_eq_true,beq_iff_eq,List.contains_iff_mem]at l
      obtain⟨⟨⟨_,W⟩,q2⟩,q3⟩:=l.resolve_right x
      refine⟨W,q2,λ_ j Z T a3 a4=> ?_⟩
      rw [List.all_eq_true]at q3
      have:=q3 j (List.mem_range.2 (Array.getElem?_eq_some_iff.1 T).1)
      simp only [a3,Bool.false_or,T,a4,bne_self_eq_false]at this
      obtain⟨e',a2,R⟩:=Array.any_eq_true'.1 this
      simp only [Bool.and_eq_true,beq_iff_eq]at R
      exact⟨e',a2,R.1,R.2⟩
    exact zL Q hsel (by omega) r.length _ c a w Y (Region.free_spec Q F.2.1) F.2.2 F.1 hy H
   rcases hh with⟨N,h⟩|⟨N,h⟩
   ·rcases bDr hti h with⟨y,V,a6⟩|⟨y,V⟩|⟨y,V⟩
    ·obtain⟨v,s,W,q2,q3⟩:=V E ρ a w L J
     obtain⟨u,I,M⟩:=gY q3 z J q2
     have q:(kd o.op==3)=false:=by simp;omega
     rw [q,Bool.or_false]at m
     have B:kd o.op=0\/kd o.op=1:=by omega
     by_cases g:kd o.op=1/\Region.ready .any all.toArray c=[i]
     ·refine p g.2 _ ?_
      rw [if_pos N]
      unfold Oper.wp
      rw [W w (Kept.refl ρ hp w)]
      simp only [Oper.upon]
      rw [if_neg (by omega)]
      exact⟨Y,ih _ f u hp ρ _ w m I L (by rw [cH];exact z) (by rw [put_defers];exact O) M⟩
     have x:kd o.op=1->¬ Region.ready .any all.toArray c=[i]:= λa b=>g ⟨a,b⟩
     refine A y x v (.inl ⟨N,λw' U=> ?_⟩) B (ih _ f u hp ρ _ w m I L (by rw [cH];exact z) (by rw [put_defers];exact O) M)
     by_cases e0:kd o.op=0
     ·-- it moves a value: in every world
      exact a6 e0 ρ a w v J (W w (Kept.refl ρ hp w)) w'
     ·have hl:f=false:=by
       have e1:kd o.op=1:=by omega
       have x:=x e1
       rw [e1]at l
       simp only [Bool.and_eq_true,Bool.or_eq_true,beq_iff_eq,Bool.not_eq_true']at l
       exact(l.resolve_right x).1.1.1
      subst hl
      rcases U with U|U
      ·exact W w' U
      ·exact absurd U e0
    ·have hl:f=false/\Region.ready .any all.toArray c=[i]:=by
      rw [y]at l
      simp only [Bool.and_eq_true,Bool.not_eq_true',beq_iff_eq]at l
      exact l
     obtain⟨rfl,g⟩:=hl
     have q:(kd o.op==3)=false:=by rw [y];rfl
     rw [q,Bool.or_false]at m
     refine p g _ ?_
     rw [if_pos N]
     refine V E ρ a w hpin L J _ noX λv w' ρ' s hp' k1 k2 k3 k4 k5=> ?_
     rw [if_neg (by rw [y];decide)]
     obtain⟨u,I,M⟩:=gY k1 z k3 k4
     have:=ih _ false u hp' ρ' _ w' m I k2 (by rw [cH];exact z) (by rw [put_defers];exact O) M
     exact⟨k5.k,aUz _ _ _ _ _ _ k5.b this⟩
    ·have g:Region.ready .any all.toArray c=[i]:=by
      rw [y]at l
      simp only [Bool.and_eq_true,beq_iff_eq]at l
      exact l.2
     have a1:(kd o.op==3)=true:=by rw [y];rfl
     rw [a1,Bool.or_true]at m
     refine p g _ ?_
     rw [if_pos N]
     refine V E ρ a w hpin L J _ noX λv w' ρ' s hp' k1 k2 k3 k4=> ?_
     rw [if_pos y]
     obtain⟨u,I,M⟩:=gY k1 z k3 k4
     exact ih _ true u hp' ρ' _ w' m I k2 (by rw [cH];exact z) (by rw [put_defers];exact O) M
   ·obtain⟨u,I,M⟩:=gY h z J (Rep.d _ undef (.lit undef))
    by_cases y:kd o.op<=1
    ·have q:(kd o.op==3)=false:=by simp;omega
     rw [q,Bool.or_false]at m
     by_cases g:kd o.op=1/\Region.ready .any all.toArray c=[i]
     ·refine p g.2 _ ?_
      rw [if_neg (by rw [N];decide)]
      exact ih _ f u hp ρ _ w m I L (by rw [cH];exact z) (by rw [put_defers];exact O) M
     exact A y (λa b=>g ⟨a,b⟩) undef (.inr ⟨N,rfl⟩) (by omega) (ih _ f u hp ρ _ w m I L (by rw [cH];exact z) (by rw [put_defers];exact O) M)
    ·have g:kd o.op=2/\Region.ready .any all.toArray c=[i]:=by
      generalize kd o.op=n at l y
      match n,y with
      | 2,_=>simp only [Bool.and_eq_true,beq_iff_eq]at l;exact⟨rfl,l.2⟩
      |n+3,_=>
       exfalso
       simp only [Bool.and_eq_true,beq_iff_eq,Option.isNone_iff_eq_none]at l
       simp [Region.wanted,l.1]at N
     have q:(kd o.op==3)=false:=by rw [g.1];rfl
     rw [q,Bool.or_false]at m
     refine p g.2 _ ?_
     rw [if_neg (by rw [N];decide)]
     exact ih _ f u hp ρ _ w m I L (by rw [cH];exact z) (by rw [put_defers];exact O) M
  ·exact h.elim
theorem yR {C:Cfg}(hti:fH C.P C.ti) {id:Nat}{l:List Oper}{fr:Fr}{hp:Hp}{K:Ex->Fr->Hp->Prop}(ord:List Nat) (hm:C.P.follows .mixedOrders=true)
  (hB:(ord.length==l.length && Region.noSelect l.toArray && bB6 l.toArray ord (Array.replicate l.length false) false && nD l)=true) (h:aE0 C l (K .normal) ord fr hp):aK C (.region id l.toArray true) fr hp K:=by
 intro E a w b hrd ⟨g,i,ρ,p,j⟩
 simp only [Bool.and_eq_true,beq_iff_eq]at hB
 obtain⟨⟨⟨d,k⟩,n⟩,c⟩:=hB
 refine gP hm c mS.noOut ?_
 obtain⟨m,o⟩:=p.grow_same (Grew.drew w)
 have:=aDz (C:=C) hti (E:=E) b k ord (Array.replicate l.length false) false fr hp ρ a _ n h m g i (o fr _ j)
 have e:l.toArray.size=ord.length:=by rw [d];rfl
 have f:=wF (Q:=mS C E K) _ _ _ _ _ (aZ4 (Q':=mS C E K .normal) (λa w ⟨fr',hp',k1,k2⟩=>⟨.normal,fr',hp',E, .refl E,trivial,k1,k2⟩) _ _ _ _ _ this)
 rw [e]
 rw [<-d]at f
 exact f
theorem Mem.recell {E:Entry}{ρ:Env}{hp:Hp}{w:World}(h:Mem E ρ hp w) {i:Nat}{t:TypeId}{cs cs':List SV}(hi:aP hp i=some (.cells t cs)) (hl:cs'.length=cs.length)
  (hr: ∀(j:Nat) (n:SV) (v:Value),cs'[j]? =some n->(∀s,cs[j]? =some s->Rep w ρ s v)->Rep w ρ n v):Mem E ρ (eY hp i (.cells t cs')) w:=by
 refine⟨h.os,h.tape,h.output,h.size,h.old,h.sold,h.snew,h.slt,h.kp, ?_, ?_, ?_,h.mv, ?_,h.md⟩
 ·intro id o f
  rw [bN _ hi]at f
  split at f
  ·rename_i e;subst e
   injection f with f;subst f
   obtain⟨g,a,⟨cur,A,y,C,I⟩,b⟩:=h.sat id _ hi
   exact⟨g,a,⟨cur,A,y.trans hl.symm,C,λj n v q G=>hr j n v q λs H=>I j s v H G⟩,b⟩
  ·exact h.sat id o f
 ·intro id o c o' g a l b p
  rw [bN _ hi]at a l
  have key: ∀k x,(if k=i then some (HObj.cells t cs')else aP hp k)=some x->ρ.at k x=some g-> ∃m,aP hp k=some m/\ρ.at k m=some g:=by
   intro k x hx u
   split at hx
   ·rename_i e;subst e
    injection hx with hx;subst hx
    exact⟨_,hi,u⟩
   ·exact⟨x,hx,u⟩
  obtain⟨x,B,z⟩:=key id o a b
  obtain⟨m,F,D⟩:=key c o' l p
  exact h.inj id x c m g B F z D
 ·intro id o g a b
  rw [bN _ hi]at a
  split at a
  ·rename_i e;subst e
   injection a with a;subst a
   exact h.hb id _ g hi b
  ·exact h.hb id o g a b
 ·intro id r g a d l c o' b p
  rw [bN _ hi]at a b
  split at a
  ·injection a with a;subst a;exact d.elim
  ·split at b
   ·rename_i e;subst e
    injection b with b;subst b
    exact h.ro id r g a d l c _ hi p
   ·exact h.ro id r g a d l c o' b p
theorem aK.ownH {C:Cfg}{c:Code}{fr:Fr}{hp:Hp}{K:Ex->Fr->Hp->Prop}(i id t e z:Nat) (hnil:aP hp i=some (.cells t [.d .nil])) (hfr:fE id C.pin fr hp)
  (h:aK C c fr ((id, .own e z 0)::eY hp i (.cells t [.osl id z []])) K):aK C c fr hp K:=by
 intro E a w b m g
 obtain⟨u,s,ρ,D,A⟩:=g
 obtain⟨q,y,o⟩:=hfr
 obtain⟨p,r,B⟩:=D.newNil (id:=id) e z o (by rw [b];exact q)
 have k:i≠id:= λe=>o (by subst e;exact bR hnil (.inl rfl))
 have l:aP ((id,HObj.own e z 0)::hp) i=some (.cells t [.d .nil]):=by
  simp only [aP];rw [if_neg (Ne.symm k)];exact hnil
 have n := p.recell l (cs' := [.osl id z []]) rfl (λj s' v f x => by
  cases j with
  |zero=>
   simp at f
   subst f
   have:=(x _ rfl).nil_inv
   subst this
   exact B
  |succ j=>simp at f)
 have e2:eY ((id,HObj.own e z 0)::hp) i (.cells t [.osl id z []])=(id, .own e z 0)::eY hp i (.cells t [.osl id z []]):=by
  simp only [eY];rw [if_neg (Ne.symm k)]
 rw [e2]at n
 exact h E a w b m ⟨u,s,_,n,r fr a.tmps y A⟩
end
section
variable {P:Program}
theorem Rep.closed {w:World}{ρ ρ':Env}{s:SV}{v:Value}(h:Rep w ρ s v) (hs:ρ'.S=ρ.S) (hi:s.ids=[]):Rep w ρ' s v:=
 h.mono (λ_ _ _=>rfl) (λb i x=>by rw [hs];exact x) (λid a=>by rw [hi]at a;cases a)
theorem Tri.at {f:FuncId}{o:Nat}{asv:List SV}{t:TypeId}{cs:List SV}{post:SV->Prop}(h:Tri P f (.ptr 0 o::asv) [(0, .cells t cs)] post) (ha:SV.idsL asv=[]) (hc:SV.idsL cs=[]) (hpost: ∀s,post s->s.ids=[])
  (i:Nat):Tri P f (.ptr i o::asv) [(i, .cells t cs)] post:=by
 intro w ρ vs y m B
 let ρ0:Env:={ ρ with blk:= λk=>if k=0 then ρ.blk i else ρ.blk k }
 have c: ∀(l:List SV),SV.idsL l=[]-> ∀(j:Nat) (s:SV),l[j]? =some s->s.ids=[]:=by
  intro l hl j s b
  cases e:s.ids with
  |nil=>rfl
  |cons a r=>
   have:=SV.mem_idsL b (id:=a) (by rw [e];exact List.mem_cons_self ..)
   rw [hl]at this
   cases this
 refine(h w ρ0 vs y ⟨m.1, ?_⟩ ?_).mono ?_
 ·intro j s v b d
  cases j with
  |zero=>
   simp at b
   subst b
   have:=m.2 0 _ v rfl d
   cases this with
   |ptr _ _ g hg=>exact .ptr 0 o g hg
  |succ j=>
   exact(m.2 (j+1) s v b d).closed rfl (c asv ha j s b)
 ·intro id x hx
  simp only [aP]at hx
  split at hx
  ·rename_i e;subst e
   injection hx with hx;subst hx
   obtain⟨g,q,cur,D,C,E,H⟩:=B i (.cells t cs) (by simp [aP])
   exact⟨g,q,cur,D,C,E,λj s v b d=>(H j s v b d).closed rfl (c cs hc j s b)⟩
  ·cases hx
 ·rintro e w' ⟨v,S',s,G,n,F,z,p,u,A⟩
  exact⟨v,S',s,G,n,F,z,p,u,A.closed rfl (hpost s n)⟩
theorem Tri.len {f:FuncId}{args:List SV}{hp:Hp}{post:SV->Prop}(j:Nat) {z:Nat}{rows:List (List D)}(hj:args[j]? =some (.d (.sl z rows))) (h:rows.length<=9223372036854775807->Tri P f args hp post):Tri P f args hp post:=by
 intro w ρ vs e a i
 have c:j < vs.size:=by rw [a.1];exact(List.getElem?_eq_some_iff.1 hj).1
 have g:=a.2 j _ _ hj (Array.getElem?_eq_getElem c)
 cases g with
 |d x v hd=>
  obtain⟨A,cap,b,off,_,k,l,_⟩:=hd.of_sl
  exact h (Nat.le_trans k l) w ρ vs e a i
theorem Tri.lenS {f:FuncId}{args:List SV}{hp:Hp}{post:SV->Prop}(j:Nat) {l:List UInt8}(hj:args[j]? =some (.d (.str l))) (h:l.length<=9223372036854775807->Tri P f args hp post):Tri P f args hp post:=by
 intro w ρ vs e a g
 have b:j < vs.size:=by rw [a.1];exact(List.getElem?_eq_some_iff.1 hj).1
 have c:=a.2 j _ _ hj (Array.getElem?_eq_getElem b)
 generalize vs[j]=v at c
 cases c with
 |d x v hd=>
  cases hd with
  |str l hl=>exact h hl w ρ vs e a g
theorem mF {id:Nat}{l:List Nat}(h:l.elem id=false):id∉l:=by
 intro a
 rw [List.elem_eq_contains,List.contains_eq_mem,decide_eq_false_iff_not]at h
 exact h a
theorem aTe {l:List SV}(h:l.all aC9=true): ∀n∈l,aC9 n=true:= λn a=>List.all_eq_true.1 h n a
theorem aVj (b:List UInt8) (i j:Nat):List.drop i (List.take j (List.map aN b))=((b.take j).drop i).map aN:=by rw [List.map_drop,List.map_take]
theorem aR3 (b:List UInt8) (i j:Nat):List.drop i (List.take j (List.map aN b))=(unb (List.drop i (List.take j (List.map aN b)))).map aN:=by rw [aVj,lL]
def aYk (id:Nat) (pin:Pin) (fr:Fr) (hp:Hp):Bool:= !(pin.ids.elem id) && !((gD fr).elem id) && !((gH hp).elem id)
theorem bQ {id:Nat}{pin:Pin}{fr:Fr}{hp:Hp}(h:aYk id pin fr hp=true):fE id pin fr hp:=by
 simp only [aYk,Bool.and_eq_true,Bool.not_eq_true',List.elem_eq_contains,List.contains_eq_mem,decide_eq_false_iff_not]at h
 exact⟨h.1.1,h.1.2,h.2⟩
theorem sI {a b:Prop}(k:b) (h:a:=by first|exact rfl|exact trivial|exact bQ (by with_unfolding_all exact rfl)|exact List.cons_ne_nil _ _|exact aTe rfl|exact aR3 _ _ _|exact Nat.le_of_ble_eq_true rfl|exact mF (by with_unfolding_all exact rfl)|omega|(rw [lL])|exact aUf _|(simp only [lnS,Int.toNat_natCast];omega)|(simp only [lnS,Int.toNat_natCast]at *;omega)):a/\b:=⟨h,k⟩
theorem bT {b:Bool}{C:Prop}(h:b=false) (k:b=true):C:=by rw [h]at k;cases k
theorem bF {b:Bool}{C:Prop}(h:b=true) (k:b=false):C:=by rw [h]at k;cases k
theorem exL {α:Type}{a:Nat}{l:List α}{K:a < l.length->Prop}(h:a < l.length:=by first|omega|(simp only [lnS];omega)|simp) (k:K h): ∃h,K h:=⟨h,k⟩
theorem ddX {p G:Prop}(h:p) (f:p->False:=by intro hb;first|contradiction|(simp only [lnS]at hb;omega)|omega):G:=(f h).elim
theorem dsX {p G:Prop}(h:p) (f:p->False:=by intro hb;first|contradiction|exact bT hb (by assumption)|exact bF hb (by assumption)):G:=(f h).elim
theorem qE2 {α:Type _}{e:Option α}{K:α->Prop}{s:α}(k:K s) (h:e=some s:=by assumption): ∃s,e=some s/\K s:=⟨s,h,k⟩
theorem qT2 {P:Program}{pin:Pin}{fr:Fr}{hp:Hp}{f:FuncId}{args:List SV}{K:SV->Hp->Prop}{s:SV}(k:K s hp) (hc:Tri P f args [] (λr=>r=s):=by assumption):aF P pin fr hp f args K:=aL [] hc trivial λr a=>by subst a;exact k
theorem qQ {P:Program}{f:FuncId}{args:List SV}{hp:Hp}{K:SV->Prop}{r:SV}{u:Value}(k:K r) (hc:Tri P f args [] (λx=>x=r):=by assumption) (hv:aNz r=some u:=by exact rfl): ∃r u hpc,aNz r=some u/\lU hpc hp/\Tri P f args hpc (λx=>x=r)/\K r:=⟨r,u,[],hv,trivial,hc,k⟩
theorem qX {p q:Prop}(k:q) (h:PLift q->p:=by intro qk;((conv=>whnf);repeat ((first|(intro qh;try simp only [lnS]at qh)|refine sI ?_|refine qE_ ?_);(conv=>whnf)));(repeat revert qh);exact qk.down):p:=h ⟨k⟩
theorem qZ {p q:Prop}(k:q) (h:PLift q->p:=by intro qk;((conv=>whnf);repeat ((first|(intro qh;try simp only [lnS]at qh)|refine sI ?_|refine qE_ ?_|refine qE2 ?_|refine qT2 ?_|refine qQ ?_);(conv=>whnf)));(repeat revert qh);exact qk.down):p:=h ⟨k⟩
theorem sJ {a b:Prop}(k:b) (h:a:=by first|exact rfl|exact trivial|exact bQ (by with_unfolding_all exact rfl)|exact List.cons_ne_nil _ _|exact aTe rfl|exact aR3 _ _ _|exact Nat.le_of_ble_eq_true rfl|exact mF (by with_unfolding_all exact rfl)|omega|(rw [lL])|exact aUf _|(simp only [lnS,Int.toNat_natCast];omega)|(simp only [lnS,Int.toNat_natCast]at *;omega)|(show bEu _ _=true;kernel_rfl)|(rw [List.length_append];exact rfl)|(simp only [List.length_map,List.length_append];exact rfl)):a/\b:=⟨h,k⟩
end
end
section
open Go.RowKit Go.ChangeShapes
section
variable {H:Type} {enc:TypeId×Value->H} {P:Program} {w:World} {spare:Nat->Bool} {held:Bool}
def oG (P:Program):Nat->List Field->Nat->Prop
 |off,[],n=>off=n
 |off,f::r,n=>f.offset=off/\oG P (off+P.cellsOf f.type) r n
def Cl (P:Program) (T:TypeId->Prop):Prop:= ∀t,T t->match P.underlying t with
 |some .bool=>True
 |some (.int _)=>True
 |some .string=>True
 |some (.slice e)=>(0 < P.cellsOf e/\0 < P.bytesOf e)/\T e
 |some (.struct fs)=>oG P 0 fs.toList (P.cellsOf t)/\ ∀f∈fs.toList,T f.type
 |some (.array n e)=>P.cellsOf t=n * P.cellsOf e/\T e
 |_=>False
def bB3 (R:TypeId->List D->Prop):List Field->List D->Prop
 | [],ds=>ds=[]
 |f::r,ds=> ∃a b,ds=a++b/\R f.type a/\bB3 R r b
def bF7 (R:List D->Prop):Nat->List D->Prop
 | 0,ds=>ds=[]
 |n+1,ds=> ∃a b,ds=a++b/\R a/\bF7 R n b
def aLe (P:Program) (t:TypeId) (d:DataW H):Prop:= ∀n∈d.weights P t,n<=reachBytes
theorem aFa {e:TypeId}: ∀(l:List (DataW H)),(∀n∈DataW.weightsAll P e l,n<=reachBytes)-> ∀d∈l,aLe P e d
 | [],_,_,h=>by cases h
 |x::r,h,d,b=>by
  rw [DataW.weightsAll]at h
  rcases List.mem_cons.1 b with rfl|b
  ·exact λn a=>h n (List.mem_append_left _ a)
  ·exact aFa r (λn a=>h n (List.mem_append_right _ a)) d b
theorem aH6: ∀(ts:List TypeId) (l:List (DataW H)),(∀n∈DataW.weightsEach P ts l,n<=reachBytes)-> ∀(i:Nat) t d,ts[i]? =some t->l[i]? =some d->aLe P t d
 | [],_,_,i,t,d,h,_=>by simp at h
 |_::_,[],_,i,t,d,_,h=>by simp at h
 |u::ts,x::r,h,i,t,d,h1,h2=>by
  rw [DataW.weightsEach]at h
  cases i with
  |zero=>simp at h1 h2;subst h1 h2;exact λn a=>h n (List.mem_append_left _ a)
  |succ i=>exact aH6 ts r (λn a=>h n (List.mem_append_right _ a)) i t d (by simpa using h1) (by simpa using h2)
def TyD (P:Program):Nat->TypeId->List D->Prop
 | 0,_,_=>False
 |n+1,t,ds=>
  match P.underlying t with
  |some .bool=> ∃b,ds=[.bool b]
  |some (.int k)=> ∃z,ds=[.int k z]/\(Lit.int k z).wf=true
  |some .string=> ∃l,ds=[.str l]/\l.length<=reachBytes
  |some (.slice e)=> ∃rows,ds=[.sl (P.cellsOf e) rows]/\rows.length<=reachBytes/\ ∀r∈rows,TyD P n e r
  |some (.struct fs)=>bB3 (TyD P n) fs.toList ds
  |some (.array m e)=>bF7 (TyD P n e) m ds
  |_=>True
def aNr (w:World) (S:Nat->Nat->Prop) (ds:List D) (cs:List Value):Prop:=
 ds.length=cs.length/\ ∀(j:Nat) (d:D) (v:Value),ds[j]? =some d->cs[j]? =some v->RepD w S d v/\v.oneCell'=true
theorem aNr.one {S:Nat->Nat->Prop}{d:D}{v:Value}(h:RepD w S d v) (h1:v.oneCell'=true):aNr w S [d] [v]:=by
 refine⟨rfl,λj d' v' a b=> ?_⟩
 cases j with
 |zero=>simp at a b;subst a b;exact⟨h,h1⟩
 |succ j=>simp at a
theorem aNr.append {S:Nat->Nat->Prop}{a b:List D}{u v:List Value}(h:aNr w S a u) (k:aNr w S b v):aNr w S (a++b) (u++v):=by
 refine⟨by simp [h.1,k.1],λj d x c hx=> ?_⟩
 by_cases e:j < a.length
 ·rw [List.getElem?_append_left e]at c
  rw [List.getElem?_append_left (by rw [<-h.1];exact e)]at hx
  exact h.2 j d x c hx
 ·rw [List.getElem?_append_right (by omega)]at c
  rw [List.getElem?_append_right (by rw [<-h.1];omega),<-h.1]at hx
  exact k.2 _ d x c hx
def below (w:World):Nat->Nat->Prop:= λb _=>b < w.heap.size
theorem aDm {a:Addr}{v:Value}(h:w.cell? a=some v):a.block < w.heap.size:=by
 unfold World.cell? at h
 split at h
 ·rename_i c t q b
  exact bD b
 ·cases h
theorem cells?_get {base:Nat}{a:Addr}{n:Nat}{cs:List Value}(h:w.cells? base a n=some cs):cs.length=n/\ ∀i,i < n->w.cell? (a.add i)=cs[i]? :=by
 unfold World.cells? at h
 split at h
 ·exact⟨by simpa using mapM_some_length h,λi hi=>mapM_some_get h i i (by simp [hi])⟩
 ·cases h
theorem aNo {a:Addr}(h:a.spot=none) (n:Nat):a.add n=⟨a.block,a.off+n,none⟩:=by
 obtain⟨b,o,s⟩:=a
 simp only at h
 subst h
 unfold Addr.add
 by_cases c:n=0
 ·subst c;simp
 ·simp [c]
theorem aK2 {T:TypeId->Prop}(hT:Cl P T): ∀(fuel:Nat) (t:TypeId) (cs:List Value) (x:DataW H×List MemPlace),T t->DataW.trod enc P w 0 spare held fuel t cs=some x->aLe P t x.1->
  ∃p,TyD P fuel t p/\aNr w (below w) p cs:=by
 intro fuel
 induction fuel with
 |zero=>intro t cs x _ h _;simp [DataW.trod]at h
 |succ n ih=>
  intro t cs x R h E
  have F:=hT t R
  cases hu:P.underlying t with
  |none=>rw [hu]at F;exact F.elim
  |some d=>
   rw [hu]at F
   cases d with
   |bool=>
    obtain⟨b,rfl,_⟩:=DataW.trod_bool hu h
    exact⟨[.bool b],by simp [TyD,hu], .one (.bool b) rfl⟩
   |int k=>
    obtain⟨z,rfl,_,hw⟩:=DataW.trod_int hu h
    exact⟨[.int k z],by simp [TyD,hu,hw], .one (.int k z) rfl⟩
   |string=>
    obtain⟨s,rfl,hx,hl⟩:=DataW.trod_string hu h
    have c6:s.data.toList.length<=maxLen:=by rw [Array.length_toList];exact hl
    have b4:s.data.toList.length<=reachBytes:=by
     rw [hx]at E
     exact E _ (by simp only [DataW.weights];exact List.mem_singleton.2 rfl)
    refine⟨[.str s.data.toList],by simp only [TyD,hu];exact⟨_,rfl,b4⟩, .one ?_ rfl⟩
    exact RepD.str (w:=w) (S:=below w) s.data.toList c6
   |slice e=>
    simp only at F
    obtain⟨⟨a5,c7⟩,he⟩:=F
    rcases DataW.trod_slice hu h with⟨rfl,_⟩|⟨a,len,cap,c,rest,m,hm,rfl,hx,_,hlc,c4,A,a9,_,_⟩
    ·refine⟨[.sl (P.cellsOf e) []],by simp [TyD,hu], .one ?_ rfl⟩
     exact RepD.mk_sl (b:=0) (off:=0) (by simp) (by simp) (λB=>absurd rfl B) ⟨by simp,by simp⟩ (by simp)
    ·obtain rfl:n=m:=by omega
     have G: ∀k∈(c.length+rest.length)* P.bytesOf e::(DataW.weightsAll P e (c.map (·.1))++DataW.weightsAll P e (rest.map (·.1))),k<=reachBytes:=by
      intro k J
      refine E k ?_
      rw [hx]
      simp only [DataW.weights,hu,List.length_map]
      exact J
     have q: ∀y∈c,aLe P e y.1:= λy I=>aFa _ (λk J=>G k (List.mem_cons_of_mem _ (List.mem_append_left _ J))) _ (List.mem_map_of_mem I)
     have hlr:len<=reachBytes:=by
      have h1:=G _ (List.mem_cons_self ..)
      have h2:(c.length+rest.length)* 1<=(c.length+rest.length)* P.bytesOf e:=Nat.mul_le_mul_left _ c7
      omega
     -- each element
     have b9: ∀i,i < len-> ∃p cs',w.cells? 0 (a.add (i * P.cellsOf e)) (P.cellsOf e)=some cs'/\TyD P n e p/\aNr w (below w) p cs':=by
      intro i hi
      have h1:=a9 i hi
      have h2:c[i]? =some c[i]:=List.getElem?_eq_getElem (by omega)
      rw [h2,Option.bind_eq_some_iff]at h1
      obtain⟨cs',q1,q2⟩:=h1
      obtain⟨p,q3,q4⟩:=ih e cs' _ he q2 (q _ (List.getElem_mem _))
      exact⟨p,cs',q1,q3,q4⟩
     have N: ∀m,m<=len-> ∃rows:List (List D),rows.length=m/\ ∀i,i < m-> ∃p cs',rows[i]? =some p/\w.cells? 0 (a.add (i * P.cellsOf e)) (P.cellsOf e)=some cs'/\TyD P n e p/\aNr w (below w) p cs':=by
      intro m
      induction m with
      |zero=>intro _;exact⟨[],rfl,λi hi=>absurd hi (by omega)⟩
      |succ m ihm=>
       intro hm
       obtain⟨rows,Z,U⟩:=ihm (by omega)
       obtain⟨p,cs',q1,q2,q3⟩:=b9 m (by omega)
       refine⟨rows++[p],by simp [Z],λi hi=> ?_⟩
       by_cases c8:i < m
       ·obtain⟨b8,a4,u,Q,p3⟩:=U i c8
        exact⟨b8,a4,by rw [List.getElem?_append_left (by omega)];exact u,Q,p3⟩
       ·obtain rfl:i=m:=by omega
        exact⟨p,cs',by rw [List.getElem?_append_right (by omega),Z];simp,q1,q2,q3⟩
     obtain⟨rows,Z,U⟩:=N len (Nat.le_refl _)
     refine⟨[.sl (P.cellsOf e) rows], ?_, .one ?_ rfl⟩
     ·simp only [TyD,hu]
      refine⟨rows,rfl,by omega,λr hr=> ?_⟩
      obtain⟨i,hi⟩:=List.getElem?_of_mem hr
      have M:=(List.getElem?_eq_some_iff.1 hi).1
      obtain⟨p,cs',u,_,p3,_⟩:=U i (by omega)
      rw [hi]at u
      injection u with u
      rw [u];exact p3
     ·have C:rows≠[]->a.spot=none:=by
       intro B
       have L:0 < len:=by rw [<-Z];exact List.length_pos_iff.2 B
       obtain⟨p,cs',_,Q,_⟩:=U 0 L
       obtain⟨c1,c2⟩:=cells?_get Q
       have v:=c2 0 a5
       rw [List.getElem?_eq_getElem (by omega)]at v
       simp only [Nat.zero_mul]at v
       have e0:(a.add 0).add 0=a:=by simp [Addr.add]
       rw [e0]at v
       unfold World.cell? at v
       split at v
       ·split at v
        ·cases v
        ·rename_i hs
         cases hq:a.spot with
         |none=>rfl
         |some _=>rw [hq]at hs;exact absurd rfl hs
       ·cases v
      refine RepD.mk_sl (b:=a.block) (off:=a.off) (by omega) c4 (λB=> ?_) ⟨?_, ?_⟩ Z.symm
      ·have:=C B
       obtain⟨b,o,s⟩:=a
       simp only at this
       rw [this]
      ·intro b0 hr
       obtain⟨i,hi⟩:=List.getElem?_of_mem hr
       have M:=(List.getElem?_eq_some_iff.1 hi).1
       obtain⟨p,cs',u,Q,_,p4⟩:=U i (by omega)
       rw [hi]at u
       injection u with u
       rw [u,p4.1];exact(cells?_get Q).1
      ·intro i b0 j d hi hj
       have M:=(List.getElem?_eq_some_iff.1 hi).1
       have b6:=C (List.ne_nil_of_length_pos (by omega))
       obtain⟨p,cs',u,Q,_,p4⟩:=U i (by omega)
       rw [hi]at u
       injection u with u
       subst u
       obtain⟨c1,c2⟩:=cells?_get Q
       have V:=(List.getElem?_eq_some_iff.1 hj).1
       rw [p4.1,c1]at V
       have hv:cs'[j]? =some (cs'[j]'(by omega)):=List.getElem?_eq_getElem (by omega)
       have v:=c2 j V
       rw [hv,aNo b6,aNo rfl]at v
       obtain⟨q1,q2⟩:=p4.2 j d _ hj hv
       refine⟨cs'[j]'(by omega), ?_, ?_,q2,q1⟩
       ·rw [<-Nat.add_assoc];exact v
       ·exact aDm (a:=⟨a.block,a.off+i * P.cellsOf e+j,none⟩) v
   |struct fs=>
    simp only at F
    obtain⟨O,b5⟩:=F
    obtain⟨xs,m,hm,hx,A,hxl,hf⟩:=DataW.trod_struct hu h
    obtain rfl:n=m:=by omega
    have G: ∀k∈DataW.weightsEach P (fs.toList.map (·.type)) (xs.map (·.1)),k<=reachBytes:=by
     intro k J
     refine E k ?_
     rw [hx]
     simp only [DataW.weights,hu]
     exact J
    have key: ∀(l:List Field) (off:Nat),oG P off l (P.cellsOf t)->off<=P.cellsOf t->(∀f∈l,T f.type)->(∀f∈l,∃y,DataW.trod enc P w 0 spare held n f.type ((cs.drop f.offset).take (P.cellsOf f.type))=some y/\aLe P f.type y.1)->
      ∃p,bB3 (TyD P n) l p/\aNr w (below w) p (cs.drop off):=by
     intro l
     induction l with
     |nil=>
      intro off R _ _ _
      simp only [oG]at R
      refine⟨[],rfl, ?_⟩
      rw [List.drop_eq_nil_of_le (by omega)]
      exact⟨rfl,by simp⟩
     |cons f r ihl=>
      intro off R hle Y I
      simp only [oG]at R
      obtain⟨ho,a7⟩:=R
      have W: ∀(l:List Field) (o n:Nat),oG P o l n->o<=n:=by
       intro l
       induction l with
       |nil=>intro o n h;simp only [oG]at h;omega
       |cons g s ihs=>intro o n h;simp only [oG]at h;have:=ihs _ _ h.2;omega
      have a8:=W _ _ _ a7
      obtain⟨y,c5,K⟩:=I f (List.mem_cons_self ..)
      obtain⟨a,a1,a2⟩:=ih f.type _ y (Y f (List.mem_cons_self ..)) c5 K
      obtain⟨b,b1,b2⟩:=ihl _ a7 a8 (λg hg=>Y g (List.mem_cons_of_mem _ hg)) (λg hg=>I g (List.mem_cons_of_mem _ hg))
      refine⟨a++b,⟨a,b,rfl,a1,b1⟩, ?_⟩
      rw [ho]at a2
      have e:cs.drop off=(cs.drop off).take (P.cellsOf f.type)++cs.drop (off+P.cellsOf f.type):=by
       rw [<-List.drop_drop,List.take_append_drop]
      rw [e]
      exact a2.append b2
    obtain ⟨p, d1, d2⟩ := key fs.toList 0 O (Nat.zero_le _) b5 (λf b7 => by
     obtain⟨i,hi⟩:=List.getElem?_of_mem b7
     have c9:fs[i]? =some f:=by simpa using hi
     have M:i < fs.size:=by simpa using (List.getElem?_eq_some_iff.1 hi).1
     exact⟨xs[i]'(by omega),by rw [hf i f c9,List.getElem?_eq_getElem (by omega)],aH6 _ _ G i _ _ (by rw [List.getElem?_map,hi];rfl) (by rw [List.getElem?_map,List.getElem?_eq_getElem (by omega)];rfl)⟩)
    refine⟨p,by simp only [TyD,hu];exact d1, ?_⟩
    simpa using d2
   |array m e=>
    simp only at F
    obtain⟨b3,he⟩:=F
    unfold DataW.trod at h
    rw [hu]at h
    simp only at h
    split at h
    ·rename_i A
     obtain⟨xs,a6,hx⟩:=Option.map_eq_some_iff.1 h
     have q : ∀ y ∈ xs, aLe P e y.1 := λy I => aFa (xs.map (·.1)) (λk J => E k (by
      rw [<-hx]
      simp only [DataW.weights,hu]
      exact J)) _ (List.mem_map_of_mem I)
     have a3: ∀i,i < m-> ∃y,DataW.trod enc P w 0 spare held n e ((cs.drop (i * P.cellsOf e)).take (P.cellsOf e))=some y/\aLe P e y.1:=by
      intro i hi
      have hl:xs.length=m:=by simpa using mapM_some_length a6
      have:=mapM_some_get a6 i i (by simp [hi])
      exact⟨xs[i]'(by omega),by rw [this,List.getElem?_eq_getElem (by omega)],q _ (List.getElem_mem _)⟩
     have key: ∀k,k<=m-> ∃p,bF7 (TyD P n e) k p/\aNr w (below w) p (cs.drop ((m - k)* P.cellsOf e)):=by
      intro k
      induction k with
      |zero=>
       intro _
       refine⟨[],rfl, ?_⟩
       rw [List.drop_eq_nil_of_le (by rw [A,b3];simp)]
       exact⟨rfl,by simp⟩
      |succ k ihk=>
       intro J
       obtain⟨y,I,K⟩:=a3 (m - (k+1)) (by omega)
       obtain⟨a,a1,a2⟩:=ih e _ y he I K
       obtain⟨b,b1,b2⟩:=ihk (by omega)
       refine⟨a++b,⟨a,b,rfl,a1,b1⟩, ?_⟩
       have e1:(m - k)* P.cellsOf e=(m - (k+1))* P.cellsOf e+P.cellsOf e:=by
        rw [show m - k=(m - (k+1))+1 from by omega,Nat.add_mul,Nat.one_mul]
       rw [e1,<-List.drop_drop]at b2
       have e2:cs.drop ((m - (k+1))* P.cellsOf e)=(cs.drop ((m - (k+1))* P.cellsOf e)).take (P.cellsOf e)++(cs.drop ((m - (k+1))* P.cellsOf e)).drop (P.cellsOf e):=by
        rw [List.take_append_drop]
       rw [e2]
       exact a2.append b2
     obtain⟨p,d1,d2⟩:=key m (Nat.le_refl _)
     refine⟨p,by simp only [TyD,hu];exact d1, ?_⟩
     simpa using d2
    ·cases h
   |_=>exact F.elim
end
section
variable {H:Type} {enc:TypeId×Value->H} {P:Program}
theorem Grew.below0 {W W':World}(h:Grew W W'):Below W.heap.size W W':=⟨h.os,h.tape,h.output.1,h.size,h.block⟩
theorem Grew.kept {W W':World}(h:Grew W W') (may:MemPlace->Prop):W.keptBut W' may:=by
 refine⟨h.os,h.output.1,λi hi=> ?_⟩
 rw [h.block i hi]
 split
 ·rename_i b a
  rw [b]at a
  injection a with a
  injection a with e1 e2 e3
  subst e1 e2 e3
  exact⟨rfl,rfl,rfl,λ_ _=>rfl⟩
 ·rename_i b a
  rw [b]at a
  injection a with a
  injection a with e1 e2
  exact .inr ⟨e1.symm,e2.symm⟩
 ·rfl
theorem aEk (hl:laidOutB P=true) {W W':World}(hb:Below W.heap.size W W'): ∀(c:List TypeId) (vs:List Value) (f:List (DataW H)) (ps:List MemPlace),(∀t∈c,P.readableRec t=true/\t < P.types.size)->
  DataW.TrodAll enc P W 0 (λ_=>true) true c vs f ps->(∀x∈ps,x.block < W.heap.size)->DataW.TrodAll enc P W' 0 (λb=>decide (b < W.heap.size)) true c vs f ps:=by
 intro c
 induction c with
 |nil=>
  intro vs f ps _ h _
  obtain⟨rfl,rfl,rfl⟩:=trodAll_nil h
  rfl
 |cons t r ih=>
  intro vs f ps i h e
  obtain⟨v,j,d,g,a,b,rfl,rfl,rfl,m,l⟩:=trodAll_cons h
  refine⟨a,b,Below.trod hl (i t (List.mem_cons_self ..)).1 (i t (List.mem_cons_self ..)).2 m hb (λx hx=>e x (List.mem_append_left _ hx)),ih j g b (λu k=>i u (List.mem_cons_of_mem _ k)) l (λx hx=>e x (List.mem_append_right _ hx)),rfl⟩
def aL9 (P:Program) (t:TypeId) (ds:List D):SV:=
 match P.underlying t with
 |some (.struct _)=> .d (.agg ds)
 |some (.array _ _)=> .d (.agg ds)
 |_=>match ds with| [d]=> .d d|_=> .d (.lit undef)
inductive ArgsD (P:Program):List TypeId->List SV->Prop
 |nil:ArgsD P [] []
 |cons {t:TypeId} {ts:List TypeId} {ds:List D} {n:Nat} {asv:List SV} (h:TyD P n t ds) (r:ArgsD P ts asv):ArgsD P (t::ts) (aL9 P t ds::asv)
theorem aBr {T:TypeId->Prop}(hT:Cl P T) {W:World}{base:Nat}: ∀(p:List TypeId) (vs:List Value) (F:List (DataW H)) (ps:List MemPlace),(∀t∈p,T t)->
  DataW.TrodAll enc P W 0 (λ_=>true) true p vs F ps->(∀n∈DataW.weightsEach P p F,n<=reachBytes)->(∀(j:Nat) t v,p[j]? =some t->vs[j]? =some v->Value.okWide P W .any base t v)->
  ∃f,ArgsD P p f/\f.length=vs.length/\ ∀(ρ:Env),ρ.S=below W-> ∀(j:Nat) (s:SV) (v:Value),f[j]? =some s->vs[j]? =some v->Rep W ρ s v:=by
 intro p
 induction p with
 |nil=>
  intro vs F ps _ h _ _
  obtain⟨rfl,rfl,rfl⟩:=trodAll_nil h
  exact⟨[], .nil,rfl,by simp⟩
 |cons t r ih=>
  intro vs F ps i h z D
  obtain⟨v,K,d,G,a,b,rfl,rfl,rfl,N,R⟩:=trodAll_cons h
  obtain⟨f,O,M,U⟩:=ih K G b (λu c=>i u (List.mem_cons_of_mem _ c)) R (λn L=>z n (by rw [DataW.weightsEach];exact List.mem_append_right _ L)) (λj t v x y=>D (j+1) t v (by simpa using x) (by simpa using y))
  obtain⟨fuel,V⟩:=N
  obtain⟨cs,o,C⟩:=aK2 hT fuel t _ _ (i t (List.mem_cons_self ..)) V (λn L=>z n (by rw [DataW.weightsEach];exact List.mem_append_left _ L))
  have w:=D 0 t v rfl rfl
  refine⟨aL9 P t cs::f, .cons o O,by simp [M],λρ I j s u J c=> ?_⟩
  cases j with
  |succ j=>exact U ρ I j s u (by simpa using J) (by simpa using c)
  |zero=>
   simp at J c
   subst J c
   have m: ∀vs:Array Value,v= .agg vs->Rep W ρ (.d (.agg cs)) v:=by
    rintro vs rfl
    refine .d _ _ (.agg cs vs ?_ ?_)
    ·simpa [Value.cells]using C.1.symm
    ·intro j x u hx c
     rw [I]
     exact(C.2 j x u hx (by simpa [Value.cells]using c)).1
   unfold aL9
   split
   ·rename_i E c
    simp only [Value.okWide,c]at w
    obtain⟨vs,rfl,_⟩:=w
    exact m vs rfl
   ·rename_i n e c
    simp only [Value.okWide,c]at w
    obtain⟨vs,rfl,_⟩:=w
    exact m vs rfl
   ·rename_i B A
    split
    ·rename_i Q
     have hl:=C.1
     have q:v.cells= #[v]:=by
      cases v with
      |agg cs=>
       exfalso
       have g:=hT t (i t (List.mem_cons_self ..))
       cases c:P.underlying t with
       |none=>rw [c]at g;exact g
       |some ud=>
        rw [c]at g
        simp only [Value.okWide,c]at w
        cases ud with
        |struct E=>exact B E c
        |array n e=>exact A n e c
        |_=>first|exact g.elim|simp [Cell.okWide,c,Cell.ok]at w
      |_=>rfl
     rw [q]at C
     have:=C.2 0 Q v rfl rfl
     exact .d _ _ (by rw [I];exact this.1)
    ·rename_i l
     exfalso
     have g:=hT t (i t (List.mem_cons_self ..))
     cases fuel with
     |zero=>simp [TyD]at o
     |succ fuel=>
      simp only [TyD]at o
      cases c:P.underlying t with
      |none=>rw [c]at g;exact g
      |some ud=>
       rw [c]at g o
       cases ud with
       |bool=>obtain⟨_,rfl⟩:=o;exact l _ rfl
       |int k=>obtain⟨_,rfl,_⟩:=o;exact l _ rfl
       |string=>obtain⟨_,rfl,_⟩:=o;exact l _ rfl
       |slice e=>obtain⟨_,rfl,_⟩:=o;exact l _ rfl
       |struct E=>exact B E c
       |array n e=>exact A n e c
       |_=>exact g.elim
theorem aI3 {T:TypeId->Prop}(hT:Cl P T) (hl:laidOutB P=true) {f:FuncId}{fn:Func}{s:ChangeSpec}{tb:TypeId}(hr:fn.resultTypes= #[tb]) (hb:P.underlying tb=some .bool)
  (hTs: ∀t∈fn.params.toList,T t) (hrd: ∀t∈fn.params.toList,P.readableRec t=true/\t < P.types.size) (hvars:s.vars=[])
  (hs: ∀c:List (DataW H),c.length=fn.params.size->s.fn H c={ results:=[.lit (.bool true)],args:=c })
  {hp:Hp} (tri: ∀k,ArgsD P fn.params.toList k->Tri P f k hp (λr=>r= .d (.bool true)))
  (W:World) (base:Nat) (args:Array Value) (c gs:List (DataW H)) (before:List MemPlace)
  (hval: ∀(j:Nat) t v,fn.params[j]? =some t->args[j]? =some v->Value.okWide P W .any base t v)
  (hW:DataW.Whole enc P fn.params.toList s.vars false W args.toList c gs before)
  (hws:(DataW.weightsEach P (fn.params.toList++s.plain.varTypes P) (c++gs)).all (· <=reachBytes)=true)
  (hgl: ∀ρ:Env,ρ.S=below W-> ∀id o,aP hp id=some o->RO W ρ id o):
  Calls P f args W λe W'=> ∃v,e= .returned v/\s.post enc P fn false true false false W args v W':=by
 have z:=hW.lt
 have C:=hW
 obtain⟨p,q,A,F,rfl,_,_⟩:=hW
 rw [hvars]at F
 obtain⟨rfl,rfl⟩:=trodVars_none F
 have w:s.plain.varTypes P=[]:=by
  unfold ChangeSpec.plain DataSpec.varTypes
  simp [hvars]
 have m: ∀n∈DataW.weightsEach P fn.params.toList c,n<=reachBytes:=by
  rw [w,List.append_nil,List.append_nil]at hws
  exact λn L=>of_decide_eq_true (List.all_eq_true.1 hws n L)
 obtain⟨k,J,G,K⟩:=aBr (base:=base) hT _ _ _ _ hTs A m (λj t v x y=>hval j t v (by simpa using x) (by simpa using y))
 let ρ:Env:=⟨below W,λ_=>none,λ_=>0,λ_=>undef⟩
 refine(tri k J W ρ args (λb i h=>h) ⟨by simpa using G.symm,λj x v E B=>K ρ rfl j x v E (by simpa using B)⟩ (hgl ρ rfl)).mono ?_
 rintro e W' ⟨v,S',r,rfl,rfl,D,_,_,_,l⟩
 have I:=l.bool_inv
 subst I
 have g:c.length=fn.params.size:=by
  have: ∀(u:List TypeId) (vs:List Value) (c:List (DataW H)) (ps:List MemPlace),DataW.TrodAll enc P W 0 (λ_=>true) true u vs c ps->c.length=u.length:=by
   intro u
   induction u with
   |nil=>intro vs c ps h;obtain⟨rfl,rfl,rfl⟩:=trodAll_nil h;rfl
   |cons t r ih=>
    intro vs c ps h
    obtain⟨v,vs1,d,ds1,a,b,rfl,rfl,rfl,E,B⟩:=trodAll_cons h
    simp [ih _ _ _ B]
  simpa using this _ _ _ _ A
 refine⟨_,rfl,c,[],_,[],p,[],C, ?_, ?_, ?_,D.kept _,λh=>by cases h⟩
 ·rw [List.append_nil,hs c g,hr]
  exact⟨[],[],shut_bool hb _,rfl,rfl⟩
 ·rw [List.append_nil,hs c g]
  exact aEk hl D.below0 _ _ _ _ hrd A (λx hx=>z x (List.mem_append_left _ hx))
 ·rw [List.append_nil,hs c g,hvars];rfl
end
end
section
section
variable {P:Program}
def aCs (P:Program):Nat->List Field->Nat->Bool
 |off,[],n=>off==n
 |off,f::r,n=>f.offset==off && aCs P (off+P.cellsOf f.type) r n
theorem aEl: ∀(l:List Field) (off n:Nat),aCs P off l n=true->oG P off l n
 | [],off,n,h=>by simpa [aCs,oG]using h
 |f::r,off,n,h=>by
  simp only [aCs,Bool.and_eq_true,beq_iff_eq]at h
  exact⟨h.1,aEl r _ n h.2⟩
def clB (P:Program) (ts:List TypeId):Bool:=ts.all λt=>match P.underlying t with
 |some .bool=>true
 |some (.int _)=>true
 |some .string=>true
 |some (.slice e)=>(decide (0 < P.cellsOf e) && decide (0 < P.bytesOf e)) && ts.contains e
 |some (.struct fs)=>aCs P 0 fs.toList (P.cellsOf t) && fs.toList.all (λf=>ts.contains f.type)
 |some (.array n e)=>(P.cellsOf t==n * P.cellsOf e) && ts.contains e
 |_=>false
theorem bEy {ts:List TypeId}(h:clB P ts=true):Cl P (· ∈ts):=by
 intro t c
 have a:=List.all_eq_true.1 h t c
 revert a
 cases hu:P.underlying t with
 |none=>simp
 |some d=>
  cases d with
  |slice e=>simp only [Bool.and_eq_true,decide_eq_true_eq,List.contains_iff_mem];exact id
  |struct fs=>
   simp only [Bool.and_eq_true]
   rintro⟨a,g⟩
   exact⟨aEl _ _ _ a,λf b=>by simpa using List.all_eq_true.1 g f b⟩
  |array n e=>simp only [Bool.and_eq_true,beq_iff_eq,List.contains_iff_mem];exact id
  |_=>simp
def aV6 (P:Program) (t:TypeId):Option (List TypeId):=match P.underlying t with
 |some (.struct fs)=>some (fs.toList.map (·.type))
 |_=>none
def bF6 (R:TypeId->List D->Prop):List TypeId->List D->Prop
 | [],ds=>ds=[]
 |t::r,ds=> ∃a b,ds=a++b/\R t a/\bF6 R r b
theorem bB3.types {R:TypeId->List D->Prop}: ∀(l:List Field) (ds:List D),bB3 R l ds->bF6 R (l.map (·.type)) ds
 | [],_,h=>h
 |_::r,_,⟨a,b,e,h1,h2⟩=>⟨a,b,e,h1,bB3.types r b h2⟩
theorem aCr {t:TypeId}{ts:List TypeId}(h:aV6 P t=some ts) {n:Nat}{ds:List D}(k:TyD P n t ds): ∃m,n=m+1/\bF6 (TyD P m) ts ds:=by
 cases n with
 |zero=>exact k.elim
 |succ n=>
  refine⟨n,rfl, ?_⟩
  unfold aV6 at h
  split at h
  ·rename_i fs a
   simp only [TyD,a]at k
   have:=bB3.types _ _ k
   injection h with h
   rw [h]at this
   exact this
  ·cases h
theorem tY {t e:TypeId}(h:P.underlying t=some (.slice e)) {n:Nat}{ds:List D}(k:TyD P n t ds): ∃m,n=m+1/\ ∃rows,ds=[.sl (P.cellsOf e) rows]/\rows.length<=reachBytes/\ ∀r∈rows,TyD P m e r:=by
 cases n with
 |zero=>exact k.elim
 |succ n=>simp only [TyD,h]at k;exact⟨n,rfl,k⟩
theorem lW {t:TypeId}(h:P.underlying t=some .string) {n:Nat}{ds:List D}(k:TyD P n t ds): ∃l,ds=[.str l]/\l.length<=reachBytes:=by
 cases n with
 |zero=>exact k.elim
 |succ n=>simp only [TyD,h]at k;exact k
theorem aV7 {t:TypeId}(h:P.underlying t=some .bool) {n:Nat}{ds:List D}(k:TyD P n t ds): ∃b,ds=[.bool b]:=by
 cases n with
 |zero=>exact k.elim
 |succ n=>simp only [TyD,h]at k;exact k
theorem aEj {t:TypeId}(h:P.underlying t=some (.int .i64)) {n:Nat}{ds:List D}(k:TyD P n t ds): ∃z,ds=[.int .i64 z]/\ -9223372036854775808<=z/\z<=9223372036854775807:=by
 cases n with
 |zero=>exact k.elim
 |succ n=>
  simp only [TyD,h]at k
  obtain⟨z,rfl,a⟩:=k
  exact⟨z,rfl,by simpa [Lit.wf,IntKind.min,IntKind.max,IntKind.signed,IntKind.bits]using a⟩
theorem bBo {t:TypeId}(h:P.underlying t=some (.int .u8)) {n:Nat}{ds:List D}(k:TyD P n t ds): ∃c:UInt8,ds=[.int .u8 c.toNat]:=by
 cases n with
 |zero=>exact k.elim
 |succ n=>
  simp only [TyD,h]at k
  obtain⟨z,rfl,a⟩:=k
  have hz:0<=z/\z<=255:=by simpa [Lit.wf,IntKind.min,IntKind.max,IntKind.signed,IntKind.bits]using a
  refine⟨UInt8.ofNat z.toNat, ?_⟩
  have:((UInt8.ofNat z.toNat).toNat:Int)=z:=by
   rw [UInt8.toNat_ofNat'];omega
  rw [this]
theorem aJz {α:Type}{R:List D->Prop}{f:α->List D}(h: ∀r,R r-> ∃x,r=f x): ∀rows:List (List D),(∀r∈rows,R r)-> ∃l:List α,rows=l.map f
 | [],_=>⟨[],rfl⟩
 |r::rest,hr=>by
  obtain⟨x,rfl⟩:=h r (hr r (List.mem_cons_self ..))
  obtain⟨l,rfl⟩:=aJz h rest (λq a=>hr q (List.mem_cons_of_mem _ a))
  exact⟨x::l,rfl⟩
end
end
section
open Go.RowKit Go.ChangeShapes
section
variable {P:Program} {w:World}
mutual
def aTt {H:Type}:DataW H->List D
 | .lit (.int k z)=>[.int k z]
 | .lit (.bool b)=>[.bool b]
 | .agg parts=>aB5 parts
 |_=>[]
def aB5 {H:Type}:List (DataW H)->List D
 | []=>[]
 |d::r=>aTt d++aB5 r
end
def Fl (P:Program) (T:TypeId->Prop):Prop:= ∀t,T t->match P.underlying t with
 |some .bool=>True
 |some (.int _)=>True
 |some (.struct fs)=>oG P 0 fs.toList (P.cellsOf t)/\ ∀f∈fs.toList,T f.type
 |some (.array n e)=>P.cellsOf t=n * P.cellsOf e/\T e
 |_=>False
def flB (P:Program) (ts:List TypeId):Bool:=ts.all λt=>match P.underlying t with
 |some .bool=>true
 |some (.int _)=>true
 |some (.struct fs)=>aCs P 0 fs.toList (P.cellsOf t) && fs.toList.all (λf=>ts.contains f.type)
 |some (.array n e)=>(P.cellsOf t==n * P.cellsOf e) && ts.contains e
 |_=>false
theorem bCk {ts:List TypeId}(h:flB P ts=true):Fl P (· ∈ts):=by
 intro t c
 have a:=List.all_eq_true.1 h t c
 revert a
 cases hu:P.underlying t with
 |none=>simp
 |some d=>
  cases d with
  |struct fs=>
   simp only [Bool.and_eq_true]
   rintro⟨a,g⟩
   exact⟨aEl _ _ _ a,λf b=>by simpa using List.all_eq_true.1 g f b⟩
  |array n e=>simp only [Bool.and_eq_true,beq_iff_eq,List.contains_iff_mem];exact id
  |_=>simp
theorem aI9 {H:Type}{enc:TypeId×Value->H}{spare:Nat->Bool}{held:Bool}{S:Nat->Nat->Prop}{T:TypeId->Prop}(hT:Fl P T): ∀(fuel:Nat) (t:TypeId) (cs:List Value) (x:DataW H×List MemPlace),T t->DataW.trod enc P w 0 spare held fuel t cs=some x->
  aNr w S (aTt x.1) cs:=by
 intro fuel
 induction fuel with
 |zero=>intro t cs x _ h;simp [DataW.trod]at h
 |succ n ih=>
  intro t cs x q h
  have c:=hT t q
  cases hu:P.underlying t with
  |none=>rw [hu]at c;exact c.elim
  |some d=>
   rw [hu]at c
   cases d with
   |bool=>
    obtain⟨b,rfl,hx,_⟩:=DataW.trod_bool hu h
    exact .one (.bool b) rfl
   |int k=>
    obtain⟨z,rfl,hx,_⟩:=DataW.trod_int hu h
    rw [hx]
    exact .one (.int k z) rfl
   |struct fs=>
    simp only at c
    obtain⟨p,J⟩:=c
    obtain⟨xs,m,hm,hx,j,G,Q⟩:=DataW.trod_struct hu h
    obtain rfl:n=m:=by omega
    have hle2: ∀(l:List Field) (o n:Nat),oG P o l n->o<=n:=by
     intro l
     induction l with
     |nil=>intro o n h;simp only [oG]at h;omega
     |cons g s ihs=>intro o n h;simp only [oG]at h;have:=ihs _ _ h.2;omega
    have key: ∀(l:List Field) (a:List (DataW H×List MemPlace)) (off:Nat),oG P off l (P.cellsOf t)->(∀f∈l,T f.type)->l.length=a.length->
      (∀(i:Nat) (f:Field),l[i]? =some f->DataW.trod enc P w 0 spare held n f.type ((cs.drop f.offset).take (P.cellsOf f.type))=a[i]?)->
      aNr w S (aB5 (a.map (·.1))) (cs.drop off):=by
     intro l
     induction l with
     |nil=>
      intro a off q _ hl _
      obtain rfl:a=[]:=List.length_eq_zero_iff.1 hl.symm
      simp only [oG]at q
      rw [List.drop_eq_nil_of_le (by omega)]
      exact⟨rfl,by simp [aB5]⟩
     |cons f r ihl=>
      intro a off q v hl u
      cases a with
      |nil=>simp at hl
      |cons y a=>
       simp only [oG]at q
       obtain⟨N,I⟩:=q
       have B:=ih f.type _ y (v f (List.mem_cons_self ..)) (u 0 f rfl)
       have C:=ihl a _ I (λg E=>v g (List.mem_cons_of_mem _ E)) (by simpa using hl) (λi g E=>u (i+1) g (by simpa using E))
       rw [N]at B
       have e:cs.drop off=(cs.drop off).take (P.cellsOf f.type)++cs.drop (off+P.cellsOf f.type):=by
        rw [<-List.drop_drop,List.take_append_drop]
       rw [e]
       exact B.append C
    have:=key fs.toList xs 0 p J (by simp [G]) (λi f F=>Q i f (by simpa using F))
    rw [hx]
    simpa [aTt]using this
   |array m e=>
    simp only at c
    obtain⟨D,O⟩:=c
    unfold DataW.trod at h
    rw [hu]at h
    simp only at h
    split at h
    ·rename_i j
     obtain⟨xs,A,hx⟩:=Option.map_eq_some_iff.1 h
     have hl:xs.length=m:=by simpa using mapM_some_length A
     have key: ∀k,k<=m->aNr w S (aB5 ((xs.drop (m - k)).map (·.1))) (cs.drop ((m - k)* P.cellsOf e)):=by
      intro k
      induction k with
      |zero=>
       intro _
       have M:xs.drop (m - 0)=[]:=List.drop_eq_nil_of_le (by omega)
       have L:cs.drop ((m - 0)* P.cellsOf e)=[]:=List.drop_eq_nil_of_le (by rw [j,D];simp)
       rw [M,L]
       exact⟨rfl,by simp [aB5]⟩
      |succ k ihk=>
       intro hk
       have hi:m - (k+1) < xs.length:=by omega
       have u:=mapM_some_get A (m - (k+1)) (m - (k+1)) (by rw [List.getElem?_range (by omega)])
       rw [List.getElem?_eq_getElem hi]at u
       have B:=ih e _ _ O u
       have C:=ihk (by omega)
       have K:m - k=(m - (k+1))+1:=by omega
       have e1:(m - k)* P.cellsOf e=(m - (k+1))* P.cellsOf e+P.cellsOf e:=by
        rw [K,Nat.add_mul,Nat.one_mul]
       rw [e1,<-List.drop_drop]at C
       have e2:cs.drop ((m - (k+1))* P.cellsOf e)=(cs.drop ((m - (k+1))* P.cellsOf e)).take (P.cellsOf e)++(cs.drop ((m - (k+1))* P.cellsOf e)).drop (P.cellsOf e):=by
        rw [List.take_append_drop]
       rw [e2,List.drop_eq_getElem_cons hi,<-K,List.map_cons,aB5]
       exact B.append C
     have:=key m (Nat.le_refl _)
     rw [<-hx]
     simpa [aTt]using this
    ·cases h
   |_=>exact c.elim
theorem getElem?_flatten {α:Type}{z:Nat}: ∀(rows:List (List α)),(∀r∈rows,r.length=z)-> ∀(i:Nat) (row:List α) (j:Nat) (d:α),rows[i]? =some row->row[j]? =some d->rows.flatten[i * z+j]? =some d
 | [],_,i,row,j,d,h,_=>by simp at h
 |r::rest,hz,0,row,j,d,h,h2=>by
  simp at h;subst h
  have b:=(List.getElem?_eq_some_iff.1 h2).1
  rw [List.flatten_cons,Nat.zero_mul,Nat.zero_add,List.getElem?_append_left b];exact h2
 |r::rest,hz,i+1,row,j,d,h,h2=>by
  have e:(i+1)* z+j=r.length+(i * z+j):=by rw [hz r (List.mem_cons_self ..),Nat.add_mul,Nat.one_mul];omega
  rw [List.flatten_cons,e,List.getElem?_append_right (by omega),Nat.add_sub_cancel_left]
  exact getElem?_flatten rest (λq a=>hz q (List.mem_cons_of_mem _ a)) i row j d (by simpa using h) h2
theorem oE {T:TypeId->Prop}(hT:Fl P T) {n:String}{g:Nat}{t:TypeId}{cs:Array Value}{fuel:Nat}{d:DataW Unit}{p:List MemPlace}{z:Nat}{rows:List (List D)}
  (hg:P.globalNamed n=some g) (ht:T t) (hv:w.var? P n=some cs) (hd:DataW.trod (λ_=>()) P w 0 (λ_=>true) false fuel t cs.toList=some (d,p))
  (hz: ∀r∈rows,r.length=z) (hr:aTt d=rows.flatten):View w (below w) z rows g 0:=by
 have h:=aI9 (S:=below w) hT fuel t _ _ ht hd
 simp only at h
 rw [hr]at h
 refine⟨hz,λi c j x hi k=> ?_⟩
 have f:=getElem?_flatten rows hz i c j x hi k
 have b:=(List.getElem?_eq_some_iff.1 f).1
 have a:cs.toList[i * z+j]? =some (cs.toList[i * z+j]'(by rw [<-h.1];exact b)):=List.getElem?_eq_getElem _
 obtain⟨m,l⟩:=h.2 _ _ _ f a
 have e:w.cell? ⟨g,i * z+j,none⟩=some (cs.toList[i * z+j]'(by rw [<-h.1];exact b)):=by
  rw [World.var?_cell hg hv,<-Array.getElem?_toList];exact a
 rw [Nat.zero_add]
 exact⟨_,e,aDm e,l,m⟩
end
end
end Go.Proofs.YtbobcfjlbcgchaaGreatDoor
