/-
  Loops; statements whose order is open and that only read. How the symbolic walk is reckoned by rewriting: what is looked into, and what is left closed. Calls that are walked into; scopes with a label; loops that are unrolled. Statements whose order is open, and that make memory, append, call or store.
  Conditions: none.
-/
import Derived.Test.YtdjfkmkdkclahaaGreatDoorWSm
import Derived.Deep.LoopGhost
import Derived.Sort.LoopGhostIn
import Derived.OrdersIn
set_option linter.unusedSectionVars false
set_option linter.unusedSimpArgs false
set_option linter.unusedVariables false
namespace Go.Proofs.YtdjfkmkdkclahaaGreatDoor
open Go.RowKit
section
def Wk:SV->SV->Prop
 | .osl _ z rows, .d (.sl z' rows')=>z=z'/\rows=rows'
 | .d .nil, .d (.sl _ rows)=>rows=[]
 | .zc, .d (.sl _ rows)=>rows=[]
 |a,b=>a=b
theorem aMe {w:World}{ρ:Env}{s s':SV}{v:Value}(h:Wk s s') (hr:Rep w ρ s v):Rep w ρ s' v:=by
 unfold Wk at h
 split at h
 ·obtain⟨rfl,rfl⟩:=h
  exact .d _ _ hr.osl_inv.1
 ·subst h
  have e:=hr.nil_inv
  subst e
  exact .d _ _ (RepD.mk_sl (b:=0) (off:=0) (by simp) (by simp) (λhne=>absurd rfl hne) ⟨by simp,by simp⟩ (by simp))
 ·subst h
  obtain⟨A,e⟩:=hr.zc_inv
  subst e
  exact .d _ _ (RepD.mk_sl (b:=0) (off:=0) (by simp) (by simp) (λhne=>absurd rfl hne) ⟨by simp,by simp⟩ (by simp))
 ·subst h;exact hr
def aJ7:Fr->Fr->Prop
 | [],_=>True
 |(t,s)::r,fr=>(match cV fr t with|some x=>Wk x s|none=>aF "a slot is not known")/\aJ7 r fr
theorem aDm {w:World}{ρ:Env}{tm:Array Value}: ∀(fr' fr:Fr),aJ7 fr' fr->bW ρ w fr tm->bW ρ w fr' tm:=by
 intro fr'
 induction fr' with
 |nil=>intro fr _ _ t s h;simp [cV]at h
 |cons p r ih=>
  obtain⟨k,x⟩:=p
  intro fr h hf t s hg
  simp only [aJ7]at h
  simp only [cV]at hg
  by_cases e:k=t
  ·subst e
   simp at hg
   subst hg
   obtain⟨h1,_⟩:=h
   split at h1
   ·rename_i y hy
    obtain⟨v,h2,h3⟩:=hf k y hy
    exact⟨v,h2,aMe h1 h3⟩
   ·exact h1.elim
  ·simp [e]at hg
   exact ih fr h.2 hf t s hg
structure Sub (fr:Fr) (hp:Hp) (fr':Fr) (hp':Hp):Prop where
 f:aJ7 fr' fr
 h:sE hp' hp
theorem Sat.sub {E:Entry}{nt:Nat}{fr fr':Fr}{hp hp':Hp}{a:Act}{w:World}(h:Sat E nt ⟨fr,hp⟩ a w) (hs:Sub fr hp fr' hp'):Sat E nt ⟨fr',hp'⟩ a w:=by
 obtain⟨h1,h2,ρ,h3,h4⟩:=h
 exact⟨h1,h2,ρ,h3.sub (eU _ _ hs.h),aDm _ _ hs.f h4⟩
theorem aJ.sub {C:Cfg}{c:Code}{fr fr':Fr}{hp hp':Hp}{K:Ex->Fr->Hp->Prop}(hs:Sub fr hp fr' hp') (h:aJ C c fr' hp' K):aJ C c fr hp K:=
 λE a w hpin hrd hsat=>h E a w hpin hrd (hsat.sub hs)
theorem aJ.mono {C:Cfg}{c:Code}{fr:Fr}{hp:Hp}{K K':Ex->Fr->Hp->Prop}(h:aJ C c fr hp K) (hk: ∀e fr hp,K e fr hp->K' e fr hp):aJ C c fr hp K':=
 λE a w hpin hrd hsat=>wpIn_mono (h E a w hpin hrd hsat) λ_ _ _ ⟨x,f,p,E',h0,h1,h2,h3⟩=>⟨x,f,p,E',h0,h1,KX.mono hk h2,h3⟩
theorem aJ.own {C:Cfg}{c:Code}{fr:Fr}{hp:Hp}{K:Ex->Fr->Hp->Prop}(t id e z:Nat) (hnil:cV fr t=some (.d .nil)) (hfr:eN id C.pin fr hp)
  (h:aJ C c (zL fr t (.osl id z [])) ((id, .own e z 0)::hp) K):aJ C c fr hp K:=by
 intro E a w hpin hrd hsat
 obtain⟨h1,h2,ρ,h3,h4⟩:=hsat
 obtain⟨f1,f2,f3⟩:=hfr
 obtain⟨m1,m2,m3⟩:=h3.newNil (id:=id) e z f3 (by rw [hpin];exact f1)
 refine h E a w hpin hrd ⟨h1,h2,_,m1, ?_⟩
 intro u s hu
 rw [fD]at hu
 by_cases e1:u=t
 ·subst e1
  simp at hu
  subst hu
  obtain⟨v,k1,k2⟩:=h4 u _ hnil
  have ev:=k2.nil_inv
  subst ev
  exact⟨_,k1,m3⟩
 ·simp [e1]at hu
  exact m2 fr a.tmps f2 h4 u s hu
theorem aJ.mown {C:Cfg}{c:Code}{fr:Fr}{hp:Hp}{K:Ex->Fr->Hp->Prop}(t id e z:Nat) (hnil:cV fr t=some (.d .nil)) (hfr:eN id C.pin fr hp)
  (h:aJ C c (zL fr t (.mw id z 0)) ((id, .mrow e z 0 [])::hp) K):aJ C c fr hp K:=by
 intro E a w hpin hrd hsat
 obtain⟨h1,h2,ρ,h3,h4⟩:=hsat
 obtain⟨f1,f2,f3⟩:=hfr
 obtain⟨m1,m2,m3⟩:=h3.newMrow (id:=id) (e:=e) (z:=z) (cap:=0) (rows:=[]) (v:= .slice none 0 0) f3 (by rw [hpin];exact f1) (Grew.refl w) (.inl ⟨rfl,rfl,none,rfl⟩) (λg hg=>by simp [cZ]at hg)
 refine h E a w hpin hrd ⟨h1,h2,_,m1, ?_⟩
 intro u s hu
 rw [fD]at hu
 by_cases e1:u=t
 ·subst e1
  simp at hu
  subst hu
  obtain⟨v,k1,k2⟩:=h4 u _ hnil
  have ev:=k2.nil_inv
  subst ev
  exact⟨_,k1, .mw id z 0 0 none (by simp) (by simp) (λh=>absurd rfl h) (by simp) (by simp [Env.retop])⟩
 ·simp [e1]at hu
  exact(h4.mono (ρ':=ρ.retop id 0 (.slice none 0 0)) m2 (λ_ _ x=>x) λi hi=>m3 i λe=>f2 (e ▸ hi)) u s hu
def aIs {α:Type}(I:α->Fr×Hp) (Ok:α->Prop) (μ:α->Nat) (x:α) (K:Ex->Fr->Hp->Prop) (e:Ex) (fr:Fr) (hp:Hp):Prop:=
 match e with
 | .normal=> ∃y,Ok y/\μ y < μ x/\Sub fr hp (I y).1 (I y).2
 |e=>K e fr hp
theorem aP {C:Cfg}(hti:cI C.P C.ti) {c:Code}{fr:Fr}{hp:Hp}{K:Ex->Fr->Hp->Prop}{α:Type}(I:α->Fr×Hp) (Ok:α->Prop) (μ:α->Nat) (x:α) (h0:Ok x) (hs:Sub fr hp (I x).1 (I x).2)
  (round: ∀y,Ok y->X C c (I y).1 (I y).2 (aIs I Ok μ y K)):aJ C (.loop c) fr hp K:=by
 intro E a w hpin hrd hsat
 refine wpIn_loop_ghost (λn a w=> ∃y E',μ y=n/\Ok y/\Ext E E'/\Sat E' C.nt ⟨(I y).1,(I y).2⟩ a w) (μ x) ⟨x,E,rfl,h0, .refl E,hsat.sub hs⟩ ?_
 rintro n a' w' ⟨y,E',rfl,hy,hE,hsy⟩
 have:=gO hti c _ _ _ (round y hy) E' a' w' (hE.pin.trans hpin) (hrd.ext hE) hsy
 rw [hE.rd]at this
 refine wpIn_mono this ?_
 rintro e a₁ w₁ ⟨ex,fr₁,hp₁,E'',hE',hrel,hk,hs₁⟩
 cases ex<;>cases e<;>simp only [Ex.rel]at hrel<;>simp only [KX,aIs]at hk
 ·obtain⟨y',k1,k2,k3⟩:=hk
  exact⟨μ y',k2,y',E'',rfl,k1,hE.trans hE',hs₁.sub k3⟩
 ·exact⟨.exit _,fr₁,hp₁,E'',hE.trans hE',hrel,hk,hs₁⟩
 ·exact⟨.goto _,fr₁,hp₁,E'',hE.trans hE',hrel,hk,hs₁⟩
 ·exact⟨.ret,fr₁,hp₁,E'',hE.trans hE',hrel,hk,hs₁⟩
 ·exact⟨.pan,fr₁,hp₁,E'',hE.trans hE',hrel,hk,hs₁⟩
def fL (l:List Oper):Bool:=l.all λo=>match o.op with| .defer _=>false|_=>true
theorem aCm {l:List Oper}(h:fL l=true) {o:Oper}(ho:o∈l): ∀c,o.op≠ .defer c:=by
 intro c e
 have:=List.all_eq_true.1 h o ho
 rw [e]at this
 cases this
theorem aG2 {P:Program}{l:List Oper}(hd:fL l=true) {r:Option Nat}{Q:Exit->Act->World->Prop}(hQ:¬ LetsOut Q): ∀(is:List Nat) (a:Act) (w:World),wpOps P l.toArray Q is a w->wpOpsIn (FW r) 0 P l.toArray Q is a w:=by
 intro is
 induction is with
 |nil=>intro a w h;exact h
 |cons i rest ih=>
  intro a w h
  simp only [wpOps]at h
  simp only [wpOpsIn]
  split
  ·rename_i ho;simp only [ho]at h;exact ih a w h
  ·rename_i o ho
   simp only [ho]at h
   have hmem:o∈l:=by
    have:l[i]? =some o:=by simpa using ho
    exact List.mem_of_getElem? this
   split
   ·rename_i hw
    simp only [hw,if_true]at h
    rcases h with h|⟨_,h⟩
    ·exact aIv (aCm hd hmem) (Oper.wp_mono (λa w=>ih a w) h)
    ·exact absurd h hQ
   ·rename_i hw
    simp only [hw]at h
    exact⟨λ_ _=>trivial,ih _ _ h⟩
theorem dD {P:Program}{l:List Oper}(hm:P.follows .mixedOrders=true) (hd:fL l=true) {r:Option Nat}{Q:Exit->Act->World->Prop}(hQ:¬ LetsOut Q) {id:Nat}{a:Act}{w:World}
  (h:wpAny P .any l.toArray Q l.toArray.size (Array.replicate l.toArray.size false) a { w with drawn:=w.drawn+1 }):(Code.region id l.toArray true).wpIn (FW r) 0 P Q a w:=
 wpIn_region_draw λt=>by
  simp only [Region.schedule,hm,Bool.true_or,if_true]
  exact aG2 hd hQ _ _ _ (wpAny_sound _ t _ a _ h)
def aG8:SV->Option Value
 | .d (.int k n)=>some (.int k n)
 | .d (.bool b)=>some (.bool b)
 | .d (.str l)=>some (.string ⟨l.toArray⟩)
 |_=>none
theorem aG7 {w:World}{ρ:Env}{s:SV}{u v:Value}(h:aG8 s=some u) (hr:Rep w ρ s v):v=u:=by
 unfold aG8 at h
 split at h
 ·injection h with h;rw [<-h];exact hr.int_inv
 ·injection h with h;rw [<-h];exact hr.bool_inv
 ·injection h with h;rw [<-h];exact hr.str_inv.1
 ·cases h
def aJj (P:Program) (fr:Fr) (hp:Hp) (f:Operand) (args:List Operand) (K:SV->Prop):Prop:=
 ev fr f λs=>match aKs s with
  | some (g, first, cap) => (match evL fr args with
   |some l=>cR P g=true/\ ∃r u hpc,aG8 r=some u/\sE hpc hp/\Tri P g (first++l++cap) hpc (· =r)/\K r
   |none=>aF "call: an argument")
  |none=>aF "call: no function"
def qVC (P:Program) (ti:TypeId->Option TI) (fr:Fr) (hp:Hp) (o:Oper) (K:SV->Prop):Prop:=
 match o.op with
 | .call { callee:= .value f,args:=args,argTypes:=_ }=>aJj P fr hp f args.toList K
 |_=>lJ P ti fr hp o K
theorem RO.grow {w w':World}{ρ:Env}{id:Nat}{o:HObj}(h:RO w ρ id o) (hg:Grew w w') (hs: ∀b i,ρ.S b i->b < w.heap.size):RO w' ρ id o:=by
 have key: ∀t cs,(∃g,ρ.blk id=some g/\cD w ρ g t cs)-> ∃g,ρ.blk id=some g/\cD w' ρ g t cs:=by
  rintro t cs ⟨g,h1,h2⟩
  refine⟨g,h1,h2.mono ?_ (hg.keeps hs) (λ_ _ x=>x) λi _=>ρ.moved_refl i⟩
  obtain⟨cur,hc,_⟩:=h2
  exact hg.block g (aV hc)
 cases o with
 |cells t cs=>exact key t cs h
 |ro t cs=>exact key t cs h
 |own=>trivial
 |mrow=>trivial
 |loop=>trivial
 |ext X=>
  obtain⟨g,x,h1,h2,h3⟩:=h
  exact⟨g,x,h1,(hg.block g (aV h2)).trans h2,X.keep w w' ρ ρ x (hg.keeps hs) (λ_ _ x=>x) (λi _=>ρ.moved_refl i) h3⟩
 |glob=>exact View.mono h (hg.keeps hs) λ_ _ x=>x
 |rox X=>
  obtain⟨g,x,h1,h2,h3⟩:=h
  exact⟨g,x,h1,(hg.block g (aV h2)).trans h2,X.keep w w' ρ ρ x (hg.keeps hs) (λ_ _ x=>x) (λi _=>ρ.moved_refl i) h3⟩
theorem fK {P:Program}{o:Oper}{a:Act}{f:Operand}{args:Array Operand}{ts:Array TypeId}(ho:o.op= .call { callee:= .value f,args:=args,argTypes:=ts }) {g:FuncId}{fv cv:Array Value}(e:a.eval f= .func (.func g) fv cv) (hcall:cR P g=true) (w:World):
  (execOp a.eval o).run P w= .ok (.enter g (fv++args.map a.eval++cv)) w:=by
 unfold cR at hcall
 split at hcall
 ·rename_i fn hfn'
  simp only [Bool.and_eq_true,Bool.not_eq_true']at hcall
  obtain⟨c1,c2⟩:=hcall
  have c3:fn.body.isNone=false:=by cases hb:fn.body<;>simp_all
  simp only [execOp,ho,resolve,e,Deferred.ofValue,invoke,callFunc,Sem.run_bind,Sem.run_pure,Result.andThen_ok,run_program,hfn',c2,c3,Bool.false_eq_true,if_false]
 ·cases hcall
theorem aOb {P:Program}{ti:TypeId->Option TI}(hti:cI P ti) {o:Oper}{fr:Fr}{hp:Hp}{K:SV->Prop}(h:qVC P ti fr hp o K) {E:Entry}{ρ:Env}{a:Act}{w:World}(hm:Mem E ρ hp w) (hf:bW ρ w fr a.tmps):
  ∃v s,(∀w',Grew w w'->o.quietAt P a (Grew w) w' v)/\Rep w ρ s v/\K s:=by
 unfold qVC at h
 split at h
 ·rename_i f args ts hop
  obtain⟨s,hs,hv⟩:=bR h
  have hr:=aS hf hs
  split at hv
  ·rename_i g first cap hfn
   obtain⟨fv,cv,e,h1,h2⟩:=vS hfn hr
   split at hv
   ·rename_i l hl
    obtain⟨hcall,r,u,hpc,hval,hsub,htri,hk⟩:=hv
    obtain⟨l1,l2⟩:=rN hf _ _ hl
    have hargs:bZ w ρ (first++l++cap) (fv++args.map a.eval++cv):=by
     refine(h1.append ⟨?_, ?_⟩).append h2
     ·simpa using l1
     ·intro j s' v hs' hv'
      refine l2 j s' v hs' ?_
      rw [<-Array.toList_map];simpa using hv'
    have hro: ∀id o,aN hpc id=some o->RO w ρ id o:= λid o ho=>(hm.sat id o (eU _ _ hsub id o ho)).ro_
    have hat: ∀w',Grew w w'->Calls P g (fv++args.map a.eval++cv) w' λe w''=>e= .returned u/\Grew w w''/\ ∃S',Rep w'' (ρ.withS S') r u:=by
     intro w' hg
     refine(htri w' ρ _ (λb i hs=>Nat.lt_of_lt_of_le (hm.slt b i hs) hg.size) ⟨hargs.1,λj s v a b=>(hargs.2 j s v a b).grow hg hm.slt⟩ λid o ho=>(hro id o ho).grow hg hm.slt).mono ?_
     rintro e' w'' ⟨v,S',s',q1,q2,q3,_,_,_,q7⟩
     subst q2
     have:=aG7 hval q7
     subst this
     exact⟨q1,hg.trans q3,S',q7⟩
    have hrep:Rep w ρ r u:=by
     obtain⟨e',w'',fr',⟨_,_,S',q⟩,_⟩:=hat w (Grew.refl w) []
     unfold aG8 at hval
     split at hval
     ·injection hval with hval;rw [<-hval];exact .d _ _ (.int _ _)
     ·injection hval with hval;rw [<-hval];exact .d _ _ (.bool _)
     ·have:=q.str_inv
      injection hval with hval;rw [<-hval];exact .d _ _ (.str _ (by simpa only [maxLen]using this.2))
     ·cases hval
    refine⟨u,r, ?_,hrep,hk⟩
    intro w' hg
    unfold Oper.quietAt
    rw [fK hop e hcall]
    exact⟨rfl,(hat w' hg).mono λ_ _ ⟨q1,q2,_⟩=>⟨q1,q2⟩⟩
   ·exact hv.elim
  ·exact hv.elim
 ·obtain⟨v,s,q1,q2,q3⟩:=zW hti (o:=o) h E ρ a w hm hf
  refine⟨v,s,λw' hg=> ?_,q2,q3⟩
  unfold Oper.quietAt
  rw [q1 w' (hm.kept_grew hg)]
  exact⟨rfl,rfl⟩
def aGt (C:Cfg) (all:List Oper) (o:Oper) (fr:Fr) (hp:Hp) (k:Fr->Prop):Prop:=
 kW all fr o.guard
  (λfr=>qVC C.P C.ti fr hp o λs=>put C o.dst s fr λfr'=>k fr')
  (λfr=>put C o.dst (.d (.lit undef)) fr λfr'=>k fr')
def tT (C:Cfg) (all:List Oper) (K:Fr->Hp->Prop):List Oper->Fr->Hp->Prop
 | [],fr,hp=>lK C.keep fr λfr'=>K fr' hp
 |o::r,fr,hp=>aGt C all o fr hp λfr'=>tT C all K r fr' hp
theorem aCf {C:Cfg}(hti:cI C.P C.ti) {all:List Oper}{K:Fr->Hp->Prop}{E:Entry}{ρ:Env}{w:World}{hp:Hp}{df:List Deferred}(hm:Mem E ρ hp w): ∀(l:List Oper) (fr:Fr) (a:Act),tT C all K l fr hp->a.tmps.size=C.nt->a.defers=df->bW ρ w fr a.tmps->
  wpQuiet C.P all.toArray (Grew w) (λa'=> ∃fr',K fr' hp/\a'.tmps.size=C.nt/\a'.defers=df/\bW ρ w fr' a'.tmps) l a:=by
 intro l
 induction l with
 |nil=>
  intro fr a h h1 h2 h3
  simp only [tT,hZ]at h
  exact⟨_,h,h1,h2,λt s hts=>h3 t s (fX _ _ t s hts)⟩
 |cons o r ih=>
  intro fr a h h1 h2 h3
  simp only [tT,aGt]at h
  simp only [wpQuiet]
  obtain⟨fr0,h3,hh⟩:=dP h h3
  rcases hh with⟨hw,h⟩|⟨hw,h⟩
  ·simp only [hw,if_true]
   obtain⟨v,s,q1,q2,q3⟩:=aOb hti h hm h3
   obtain⟨fr',p1,p2⟩:=eI q3 h1 h3 q2
   exact⟨v,q1,ih fr' _ p1 (by rw [bC];exact h1) (by rw [put_defers];exact h2) p2⟩
  ·simp only [hw,Bool.false_eq_true,if_false]
   obtain⟨fr',p1,p2⟩:=eI h h1 h3 (Rep.d _ undef (.lit undef))
   exact ih fr' _ p1 (by rw [bC];exact h1) (by rw [put_defers];exact h2) p2
theorem aF0 {C:Cfg}(hti:cI C.P C.ti) {id:Nat}{l:List Oper}{fr:Fr}{hp:Hp}{K:Ex->Fr->Hp->Prop}(hm:C.P.follows .mixedOrders=true) (hB:(Region.lexB .any l.toArray && fL l)=true)
  (h:tT C l (K .normal) l fr hp):aJ C (.region id l.toArray true) fr hp K:=by
 intro E a w hpin hrd ⟨h1,h2,ρ,h3,h4⟩
 rw [Bool.and_eq_true]at hB
 obtain⟨hB,hnd⟩:=hB
 simp only [Region.lexB,Bool.and_eq_true]at hB
 refine dD hm hnd iQ.noOut (wpAny_of_quiet (C:=Grew w) (Q:= λa'=> ∀w',Grew w w'->iQ C E K .normal a' w') (λ_ w' hw' h=>h w' hw') _ _ _ _ (Grew.drew w) ?_)
 have:=aCf (C:=C) hti (all:=l) (K:=K .normal) h3 l fr a h h1 rfl h4
 have hmono: ∀(l':List Oper) (a':Act),wpQuiet C.P l.toArray (Grew w) (λa''=> ∃fr',K .normal fr' hp/\a''.tmps.size=C.nt/\a''.defers=a.defers/\bW ρ w fr' a''.tmps) l' a'->
   wpQuiet C.P l.toArray (Grew w) (λa'=> ∀w',Grew w w'->iQ C E K .normal a' w') l' a':=by
  intro l'
  induction l' with
  |nil=>
   rintro a' ⟨fr',k1,k2,k3,k4⟩ w' hg
   obtain⟨m1,m2⟩:=h3.grow_same hg
   exact⟨.normal,fr',hp,E, .refl E,trivial,k1,k2,k3.trans h2,ρ,m1,m2 fr' _ k4⟩
  |cons o r ih=>
   intro a' h
   simp only [wpQuiet]at h |-
   split
   ·rename_i hw
    simp only [hw,if_true]at h
    exact Oper.quiet_mono (λa h=>ih a h) h
   ·rename_i hw
    simp only [hw]at h
    exact ih _ h
 have hq:=hmono l a this
 have:=wpAnyQ_lex (C:=Grew w) (md:= .any) hB.1 l 0 (Array.replicate l.toArray.size false) a (by simp) (by simpa using hB.2) hq
 simpa using this
end
end Go.Proofs.YtdjfkmkdkclahaaGreatDoor
namespace Go.Proofs.YtdjfkmkdkclahaaGreatDoor
def aLz:List (Nat×TI)->Nat->Option TI
 | [],_=>none
 |(k,T)::r,t=>if k=t then some T else aLz r t
def aOi (P:Program):List (Nat×TI)->Prop
 | []=>True
 |(t,T)::r=>cT P t=some T/\aOi P r
theorem aJ3 {P:Program}: ∀{l:List (Nat×TI)},aOi P l->cI P (aLz l):=by
 intro l
 induction l with
 |nil=>intro _ t T h;simp [aLz]at h
 |cons p r ih=>
  obtain⟨k,U⟩:=p
  intro h t T hg
  simp only [aLz]at hg
  by_cases e:k=t
  ·subst e;simp at hg;subst hg;exact h.1
  ·simp [e]at hg;exact ih h.2 t T hg
def kp:List Nat->Nat->Bool
 | [],_=>false
 |k::r,t=>if k=t then true else kp r t
theorem aFf (c:UInt8):(c.toNat:Int).toNat < 256:=by have:=c.toNat_lt;omega
theorem aDw {α:Type}{f:α->List D}{l:List α}{i:Nat}(h:i < l.length):(l.map f)[i]? =some (f l[i]):=by
 rw [List.getElem?_map,List.getElem?_eq_getElem h];rfl
end Go.Proofs.YtdjfkmkdkclahaaGreatDoor
namespace Go.Proofs.YtdjfkmkdkclahaaGreatDoor
open Go.RowKit
section
variable {P:Program}
def bA (w:World) (ρ:Env) (hp:Hp) (pin:Pin) (rd:Option Nat) (D:List Nat):Entry:=⟨w,ρ.S,λb=> ∃id o,aN hp id=some o/\ρ.at id o=some b,pin,ρ,rd,D,0⟩
theorem Mem.enter {E:Entry}{ρ:Env}{hp:Hp}{w:World}(h:Mem E ρ hp w) (pin:Pin) (rd:Option Nat):Mem (bA w ρ hp pin rd E.D) ρ hp w:=
 ⟨rfl,rfl, .refl _,Nat.le_refl _,λ_ _ _=>rfl,λ_ _ h=>h,λ_ _ h _ _=>h,h.slt,λ_ _ _=>rfl,h.sat,h.inj,λid o _ a b=> .inr ⟨id,o,a,b⟩,λid _=>ρ.moved_refl id,h.ro,h.md⟩
theorem Mem.leave {E E2:Entry}{ρ ρ':Env}{hp hp':Hp}{w w':World}{pin:Pin}{rd:Option Nat}(h:Mem E ρ hp w) (h':Mem E2 ρ' hp' w') (hE:E2.w=w/\E2.S=ρ.S/\E2.B=(bA w ρ hp pin rd E.D).B/\E2.pin=pin/\E2.ρ=ρ/\ ∀b∈E.D,b∈E2.D) (hsub: ∀id∈E.pin,id∈pin):Mem E ρ' hp' w':=by
 obtain⟨e1,e2,e3,e4,e5,e6⟩:=hE
 have hB: ∀b,b < E.w.heap.size->¬ E.B b->¬ E2.B b:=by
  rw [e3]
  rintro b hb hnb ⟨id,o,h1,h2⟩
  rcases h.hb id o b h1 h2 with hge|hbb
  ·omega
  ·exact hnb hbb
 have hos:=h'.os;have htp:=h'.tape;have hou:=h'.output;have hsz:=h'.size;have hkp:=h'.kp;have hsold:=h'.sold;have hsnew:=h'.snew;have hold:=h'.old;have hhb:=h'.hb;have hmv:=h'.mv
 rw [e1]at hos htp hou hsz hkp hsnew hold hhb
 rw [e2]at hkp hsold hsnew
 rw [e4,e5]at hmv
 refine⟨hos.trans h.os,htp.trans h.tape,hou.trans h.output,Nat.le_trans h.size hsz, ?_, ?_, ?_,h'.slt,h.kp.trans h.sold hkp,h'.sat,h'.inj, ?_, ?_,h'.ro,λb hb=>h'.md b (e6 b hb)⟩
 ·exact λb hb hnb=>(hold b (Nat.lt_of_lt_of_le hb h.size) (hB b hb hnb)).trans (h.old b hb hnb)
 ·exact λb i hs=>hsold b i (h.sold b i hs)
 ·exact λb i hs hb hnb=>h.snew b i (hsnew b i hs (Nat.lt_of_lt_of_le hb h.size) (hB b hb hnb)) hb hnb
 ·intro id o g h1 h2
  rcases hhb id o g h1 h2 with hge|hb
  ·exact .inl (Nat.le_trans h.size hge)
  ·rw [e3]at hb
   obtain⟨id',o',h3,h4⟩:=hb
   exact h.hb id' o' g h3 h4
 ·exact λid hid=>Env.moved_trans (h.mv id hid) (hmv id (hsub id hid))
def aLa (ti:TypeId->Option TI) (rs:List ResultVar) (K:SV->Hp->Prop) (e:Ex) (fr:Fr) (hp:Hp):Prop:=
 match e with
 | .ret=>eH ti fr hp rs λl=>K (bX l) hp
 | .normal=>eH ti fr hp rs λl=>K (bX l) hp
 |_=>aF "the end"
theorem aL (zc:Bool) (frz:List Nat) {ti:TypeId->Option TI}(hti:cI P ti) {f:FuncId}{fn:Func}{c:Code}(hf:P.funcs[f]? =some fn) (hb:fn.body=some c) (keep:Nat->Bool) (off:Nat) {pin:Pin}{fr:Fr}{hp:Hp}{args:List SV}{K:SV->Hp->Prop}
  (hn:args.length<=fn.ntmps) (hx:X ⟨P,ti,pin.under fr (fC fr),fn.ntmps,keep,off,none,zc,frz⟩ c (cX 0 args) hp (aLa ti fn.results.toList K)):aG P pin fr hp f args K:=by
 intro E ρ w tm hpin hm hfs vs hargs
 refine cW (r:=none) (n:=0) |>.1 (callsIn_of_wp_marks hf hb trivial ?_)
 have hfs':bW ρ w (cX 0 args) (vs++Array.replicate (fn.ntmps - vs.size) undef):=by
  intro t s ht
  obtain⟨_,h2⟩:=cU args 0 t s ht
  simp only [Nat.sub_zero]at h2
  have hlt:=(List.getElem?_eq_some_iff.1 h2).1
  have hlt':t < vs.size:=by rw [hargs.1];exact hlt
  refine⟨vs[t], ?_,hargs.2 t s _ h2 (Array.getElem?_eq_getElem hlt')⟩
  rw [Array.getElem?_append_left hlt',Array.getElem?_eq_getElem hlt']
 have hm0:=hm.enter (pin.under fr (fC fr)) none
 refine wpIn_mono (gO (C:=⟨P,ti,pin.under fr (fC fr),fn.ntmps,keep,off,none,zc,frz⟩) hti c _ _ _ hx (bA w ρ hp (pin.under fr (fC fr)) none E.D) _ w rfl rfl ⟨?_,rfl,ρ,hm0,hfs'⟩) ?_
 ·simp only [Array.size_append,Array.size_replicate]
  have:=hargs.1
  omega
 ·rintro e a' w' ⟨x,fr',hp',E',hE,hrel,hk,hnt,hdf,ρ',hm',hf'⟩
  obtain⟨own,o1,o2,o3,o4,o5⟩:=gB hE rfl
  have hpre:E'.pin.pre=[]:=by rw [hE.pin];rfl
  have finp: ∀ch,Chn pin.pv ch->pin.kp fr hp'->LeavesInM (FW none) 0 P fn a'.tmps (λe w'=>(∃v ρ' s hp',e= .returned v/\K s hp'/\Mem E ρ' hp' w'/\bW ρ' w' fr tm/\Rep w' ρ' s v)\/ ∃ch ρ' hp',e= .panicked ch/\Chn pin.pv ch/\pin.kp fr hp'/\Mem E ρ' hp' w'/\bW ρ' w' fr tm) a'.defers (.panicking ch) w':=by
   intro ch hc hk
   rw [hdf,o2,hpre]
   refine eG (by simp) [] own E' w' hm' ⟨_,o1,o5⟩ o4 o3 ?_
   rintro E'' w'' ⟨q1,q2,q3,q4,q5,q6⟩ hm'' hkp
   have hmE:Mem E ρ' hp' w'':=hm.leave (pin:=pin.under fr (fC fr)) (rd:=none) hm'' ⟨q1.trans hE.w,q2.trans hE.S,q3.trans hE.B,q4.trans hE.pin,q5.trans hE.ρ,λb hb=>by rw [q6,o1];simpa [bA]using hb⟩ (λid hid=>by rw [hpin]at hid;exact List.mem_append_left _ hid)
   have kp:=hm''.kp
   have sold:=hm''.sold
   have mv:=hm''.mv
   rw [q1.trans hE.w,q2.trans hE.S]at kp
   rw [q2.trans hE.S]at sold
   rw [q4.trans hE.pin,q5.trans hE.ρ]at mv
   exact .inr ⟨ch,ρ',hp',rfl,hc,hk,hmE,hfs.mono kp sold λid hid=>mv id (List.mem_append_right _ hid)⟩
  have fin:eH ti fr' hp' fn.results.toList (λl=>K (bX l) hp')->LeavesInM (FW none) 0 P fn a'.tmps (λe w'=>(∃v ρ' s hp',e= .returned v/\K s hp'/\Mem E ρ' hp' w'/\bW ρ' w' fr tm/\Rep w' ρ' s v)\/ ∃ch ρ' hp',e= .panicked ch/\Chn pin.pv ch/\pin.kp fr hp'/\Mem E ρ' hp' w'/\bW ρ' w' fr tm) a'.defers .returning w':=by
   intro hk
   rw [hdf,o2,hpre]
   refine eG (by simp) [] own E' w' hm' ⟨_,o1,o5⟩ o4 o3 ?_
   rintro E'' w'' ⟨q1,q2,q3,q4,q5,q6⟩ hm'' hkp
   have hf'':bW ρ' w'' fr' a'.tmps:=hf'.mono hkp (λ_ _ x=>x) λi _=>ρ'.moved_refl i
   obtain⟨us,l,r1,r2,r3,r4⟩:=tS hti hm'' hf'' _ _ hk
   have hmE:Mem E ρ' hp' w'':=hm.leave (pin:=pin.under fr (fC fr)) (rd:=none) hm'' ⟨q1.trans hE.w,q2.trans hE.S,q3.trans hE.B,q4.trans hE.pin,q5.trans hE.ρ,λb hb=>by rw [q6,o1];simpa [bA]using hb⟩ (λid hid=>by rw [hpin]at hid;exact List.mem_append_left _ hid)
   refine⟨_,dM r1, .inl ⟨_,ρ',bX l,hp',rfl,r4,hmE, ?_,fT r2 r3⟩⟩
   have kp:=hm''.kp
   have sold:=hm''.sold
   have mv:=hm''.mv
   rw [q1.trans hE.w,q2.trans hE.S]at kp
   rw [q2.trans hE.S]at sold
   rw [q4.trans hE.pin,q5.trans hE.ρ]at mv
   exact hfs.mono kp sold λid hid=>mv id (List.mem_append_right _ hid)
  cases x<;>cases e<;>simp only [Ex.rel]at hrel<;>simp only [KX,aLa]at hk
  ·exact fin hk
  ·exact hk.elim
  ·exact hk.elim
  ·exact fin hk
  ·exact finp _ hrel hk
theorem yQ (zc:Bool) {ti:TypeId->Option TI}(hti:cI P ti) {f:FuncId}{fn:Func}{c:Code}(hf:P.funcs[f]? =some fn) (hb:fn.body=some c) (keep:Nat->Bool) (off:Nat) {pin:Pin}{fr:Fr}{hp:Hp}{args:List SV}{K:SV->Hp->Prop}
  (hn:args.length<=fn.ntmps) (hx:X ⟨P,ti,pin.under fr (fC fr),fn.ntmps,keep,off,none,zc,[]⟩ c (cX 0 args) hp (aLa ti fn.results.toList K)):aG P pin fr hp f args K:=aL zc [] hti hf hb keep off hn hx
def XL (C:Cfg) (c:Code):Nat->Fr->Hp->(Ex->Fr->Hp->Prop)->Prop
 | 0,_,_,_=>aF "unrolled to the end"
 |n+1,fr,hp,K=>X C c fr hp λe fr hp=>match e with| .normal=>XL C c n fr hp K|e=>K e fr hp
theorem gP {C:Cfg}(hti:cI C.P C.ti) {c:Code}: ∀(n:Nat) {fr:Fr}{hp:Hp}{K:Ex->Fr->Hp->Prop},XL C c n fr hp K->aJ C (.loop c) fr hp K:=by
 intro n
 intro fr hp K h E a w hpin hrd hsat
 refine wpIn_loop_ghost (λm a w=> ∃fr hp E',Ext E E'/\Sat E' C.nt ⟨fr,hp⟩ a w/\XL C c m fr hp K) n ⟨fr,hp,E, .refl E,hsat,h⟩ ?_
 rintro m a' w' ⟨fr',hp',E',hE,hs',hx⟩
 cases m with
 |zero=>exact hx.elim
 |succ m=>
  have:=gO hti c _ _ _ hx E' a' w' (hE.pin.trans hpin) (hrd.ext hE) hs'
  rw [hE.rd]at this
  refine wpIn_mono this ?_
  rintro e a₁ w₁ ⟨ex,fr₁,hp₁,E'',hE',hrel,hk,hs₁⟩
  cases ex<;>cases e<;>simp only [Ex.rel]at hrel
  ·exact⟨m,by omega,fr₁,hp₁,E'',hE.trans hE',hs₁,hk⟩
  ·exact⟨.exit _,fr₁,hp₁,E'',hE.trans hE',hrel,hk,hs₁⟩
  ·exact⟨.goto _,fr₁,hp₁,E'',hE.trans hE',hrel,hk,hs₁⟩
  ·exact⟨.ret,fr₁,hp₁,E'',hE.trans hE',hrel,hk,hs₁⟩
  ·exact⟨.pan,fr₁,hp₁,E'',hE.trans hE',hrel,hk,hs₁⟩
end
end Go.Proofs.YtdjfkmkdkclahaaGreatDoor
namespace Go.Proofs.YtdjfkmkdkclahaaGreatDoor
open Go.RowKit
section
variable {P:Program}
def kd:Op->Nat
 | .move _=>0
 | .assign _=>0
 | .binOp .add _ _ _ _=>0
 | .binOp .sub _ _ _ _=>0
 | .store _ _ _=>3
 | .alloc _=>2
 | .box _ _=>2
 | .buildSlice _ _ _=>2
 | .makeSlice _ _ _=>2
 | .call { callee:= .builtin .append,args:=_,argTypes:=_ }=>2
 | .call { callee:= .builtin .copy,args:=_,argTypes:=_ }=>3
 | .call { callee:= .value _,args:=_,argTypes:=_ }=>2
 |_=>1
def noX:Exit->Act->World->Prop:= λ_ _ _=>False
def wpE (P:Program) (ops:Array Oper) (Q:Act->World->Prop):Nat->(World->Prop)->Array Bool->Act->World->Prop
 | 0,_,listed,a,w=>Region.ready .any ops listed=[]/\Q a w
 |fuel+1,Cl,listed,a,w=>
  (Region.ready .any ops listed=[]->Q a w)/\
  ∀i∈Region.ready .any ops listed,
   match ops[i]? with
   |none=>wpE P ops Q fuel Cl (listed.setIfInBounds i true) a w
   |some o=>
    if Region.wanted o (yielded ops a.tmps)then
     o.wp P a w (λa' w'=>if kd o.op=3 then wpE P ops Q fuel (λ_=>True) (listed.setIfInBounds i true) a' w' else Cl w'/\wpE P ops Q fuel Cl (listed.setIfInBounds i true) a' w') noX
    else wpE P ops Q fuel Cl (listed.setIfInBounds i true) (a.put o.dst undef) w
theorem pB {o:Oper}{a:Act}{w:World}{K K':Act->World->Prop}{Q:Exit->Act->World->Prop}(h: ∀a w,K a w->K' a w) (hh:o.wp P a w K noX):o.wp P a w K' Q:=by
 unfold Oper.wp at *
 generalize (execOp a.eval o).run P w=r at *
 cases r with
 |ok n w'=>
  cases n<;>simp only [Oper.upon]at hh |-<;>
   first
    |exact h _ _ hh
    |exact Calls.mono hh (λe w'' he=>by cases e<;>first|exact h _ _ he|exact he.elim|(obtain⟨_,_,he⟩:=he;exact he.elim))
    |exact Rows.mono hh (λ_ _ he=>h _ _ he)
 |halt x w'=>cases x<;>simp only [Oper.upon]at hh |-<;>first|exact hh.elim|exact hh
theorem aG3 {ops:Array Oper}{Q:Act->World->Prop}: ∀(fuel:Nat) (Cl Cl':World->Prop) (listed:Array Bool) (a:Act) (w:World),(∀w,Cl' w->Cl w)->wpE P ops Q fuel Cl' listed a w->wpE P ops Q fuel Cl listed a w:=by
 intro fuel
 induction fuel with
 |zero=>intro Cl Cl' listed a w _ h;exact h
 |succ fuel ih=>
  intro Cl Cl' listed a w hc h
  refine⟨h.1,λi hi=> ?_⟩
  have:=h.2 i hi
  split
  ·rename_i ho;simp only [ho]at this;exact ih _ _ _ _ _ hc this
  ·rename_i o ho
   simp only [ho]at this
   split
   ·rename_i hw
    simp only [hw,if_true]at this
    refine pB (λa' w' hk=> ?_) this
    split
    ·rename_i h3;simp only [h3,if_true]at hk;exact hk
    ·rename_i h3;simp only [h3,if_false]at hk;exact⟨hc _ hk.1,ih _ _ _ _ _ hc hk.2⟩
   ·rename_i hw;simp only [hw]at this;exact ih _ _ _ _ _ hc this
theorem tM {ops:Array Oper}{Q:Exit->Act->World->Prop}: ∀(fuel:Nat) (Cl:World->Prop) (listed:Array Bool) (a:Act) (w:World),wpE P ops (Q .normal) fuel Cl listed a w->wpAny P .any ops Q fuel listed a w:=by
 intro fuel
 induction fuel with
 |zero=>intro Cl listed a w h;exact h
 |succ fuel ih=>
  intro Cl listed a w h
  refine⟨h.1,λi hi=> ?_⟩
  have:=h.2 i hi
  unfold wpOp
  split
  ·rename_i ho;simp only [ho]at this;exact ih _ _ _ _ this
  ·rename_i o ho
   simp only [ho]at this
   split
   ·rename_i hw
    simp only [hw,if_true]at this
    left
    refine pB (λa' w' hk=> ?_) this
    split at hk
    ·exact ih _ _ _ _ hk
    ·exact ih _ _ _ _ hk.2
   ·rename_i hw;simp only [hw]at this;exact ih _ _ _ _ this
def YE (P:Program) (ops:Array Oper) (Cl:World->Prop) (o:Oper) (v:Value) (a:Act):Prop:=
 (Region.wanted o (yielded ops a.tmps)=true/\ ∀w,(Cl w\/kd o.op=0)->(execOp a.eval o).run P w= .ok (.value v) w)\/(Region.wanted o (yielded ops a.tmps)=false/\v=undef)
theorem YE.of_same {ops:Array Oper}{Cl:World->Prop}{o:Oper}{v:Value}{a a':Act}(hy:YE P ops Cl o v a) (he:execOp a'.eval o=execOp a.eval o)
  (hw:Region.wanted o (yielded ops a'.tmps)=Region.wanted o (yielded ops a.tmps)):YE P ops Cl o v a':=by
 unfold YE at *
 rw [he,hw]
 exact hy
theorem aAo {o:Oper}{a:Act}{d:Option Tmp}{v:Value}{K:Act->World->Prop}{r:Result Next}(h2: ∀x,d=some x->o.dst≠some x)
  (hh:o.upon P (a.put d v) K noX r):o.upon P a (λa' w'=>K (a'.put d v) w') noX r:=by
 cases r with
 |ok n w'=>
  cases n<;>simp only [Oper.upon]at hh |-
  all_goals first
   |(rw [<-Act.put_comm a v _ h2];exact hh)
   |exact hh.elim
   |exact Calls.mono hh (λe w'' he=>by cases e with|returned u=>(have he':K ((a.put d v).put o.dst u) w'':=he;rw [Act.put_comm a v u h2]at he';exact he')|panicked ch=>exact he|outgrown=>exact he)
   |exact Rows.mono hh (λ_ _ he=>by rw [<-Act.put_comm a v _ h2];exact he)
   |(rw [<-Act.put_comm _ v _ h2,<-Act.put_defers];exact hh)
   |exact hh
 |halt x w'=>cases x<;>simp only [Oper.upon]at hh |-<;>exact hh
theorem aD6 {ops:Array Oper}{Q:Act->World->Prop}{i:Nat}{oi:Oper}{v:Value}(hi:ops[i]? =some oi) (hsel:Region.noSelect ops=true) (hk3:kd oi.op≠3):
  ∀(fuel:Nat) (Cl:World->Prop) (listed:Array Bool) (a:Act) (w:World),Cl w->
   (∀j oj,ops[j]? =some oj->j≠i->listed.getD j true=false->(∀e∈oj.after,Region.binds .any e=true->e.on≠i)->oi.apart ops oj=true)->
   (kd oi.op≠0-> ∀j oj,ops[j]? =some oj->listed.getD j true=false->kd oj.op=3-> ∃e∈oj.after,Region.binds .any e=true/\e.on=i)->
   i∈Region.ready .any ops listed->YE P ops Cl oi v a->
   wpE P ops Q fuel Cl (listed.setIfInBounds i true) (a.put oi.dst v) w->wpE P ops Q (fuel+1) Cl listed a w:=by
 have own: ∀(fuel:Nat) (Cl:World->Prop) (listed:Array Bool) (a:Act) (w:World),Cl w->YE P ops Cl oi v a->wpE P ops Q fuel Cl (listed.setIfInBounds i true) (a.put oi.dst v) w->
   (match ops[i]? with
   |none=>wpE P ops Q fuel Cl (listed.setIfInBounds i true) a w
   |some o=>if Region.wanted o (yielded ops a.tmps)then o.wp P a w (λa' w'=>if kd o.op=3 then wpE P ops Q fuel (λ_=>True) (listed.setIfInBounds i true) a' w' else Cl w'/\wpE P ops Q fuel Cl (listed.setIfInBounds i true) a' w') noX
    else wpE P ops Q fuel Cl (listed.setIfInBounds i true) (a.put o.dst undef) w):=by
  intro fuel Cl listed a w hc hy H
  simp only [hi]
  rcases hy with⟨hw,hrun⟩|⟨hw,rfl⟩
  ·simp only [hw,if_true]
   refine bO (hrun w (.inl hc)) ?_
   simp only [hk3,if_false]
   exact⟨hc,H⟩
  ·simp only [hw,Bool.false_eq_true,if_false];exact H
 intro fuel
 induction fuel with
 |zero=>
  intro Cl listed a w hc _ _ hr hy H
  refine⟨λh=>(by rw [h]at hr;cases hr),λj hj=> ?_⟩
  by_cases hji:j=i
  ·subst hji;exact own 0 Cl listed a w hc hy H
  ·have:=ready_mono hj hji
   rw [H.1]at this
   cases this
 |succ fuel ih=>
  intro Cl listed a w hc hfree hT hr hy H
  refine⟨λh=>(by rw [h]at hr;cases hr),λj hj=> ?_⟩
  by_cases hji:j=i
  ·subst hji;exact own _ Cl listed a w hc hy H
  ·have h1:=H.2 j (ready_mono hj hji)
   obtain⟨hjun,oj,hoj,hall⟩:=mem_ready.1 hj
   have hnot: ∀e∈oj.after,Region.binds .any e=true->e.on≠i:= λe he hb heq=>by
    have h1:=hall e he hb
    have h0:=(mem_ready.1 hr).1
    rw [heq]at h1
    rcases Nat.lt_or_ge i listed.size with h'|h'
    ·simp [h']at h0 h1;rw [h0]at h1;cases h1
    ·simp [Array.getElem?_eq_none h']at h1
   obtain⟨p1,p2,p3⟩:=Oper.apart_spec (hfree j oj hoj hji hjun hnot)
   have si:= λcs b=>Region.noSelect_spec hsel i oi cs b hi
   have sj:= λcs b=>Region.noSelect_spec hsel j oj cs b hoj
   have keepY: ∀(Cl':World->Prop),YE P ops Cl' oi v a-> ∀u,YE P ops Cl' oi v (a.put oj.dst u):= λCl' hy u=>hy.of_same (execOp_put oi si a oj.dst u p3) (wanted_put oi a oj.dst u p3)
   have hfree': ∀k ok,ops[k]? =some ok->k≠i->(listed.setIfInBounds j true).getD k true=false->
     (∀e∈ok.after,Region.binds .any e=true->e.on≠i)->oi.apart ops ok=true:= λk ok hk hki hun hno=>by
    refine hfree k ok hk hki ?_ hno
    by_cases hjk:j=k
    ·subst hjk;exact hjun
    ·rw [getD_set_ne true hjk]at hun;exact hun
   have hT':kd oi.op≠0-> ∀k ok,ops[k]? =some ok->(listed.setIfInBounds j true).getD k true=false->kd ok.op=3-> ∃e∈ok.after,Region.binds .any e=true/\e.on=i:= λh0 k ok hk hun h3=>by
    refine hT h0 k ok hk ?_ h3
    by_cases hjk:j=k
    ·subst hjk;exact hjun
    ·rw [getD_set_ne true hjk]at hun;exact hun
   have hrj:=ready_mono hr (Ne.symm hji)
   simp only [hoj]at h1 |-
   rw [wanted_put oj a oi.dst v p1]at h1
   split
   ·rename_i hw
    simp only [hw,if_true]at h1
    -- the operation, before the other one's value is in its slot
    have h2:oj.wp P a w (λa' w'=>(if kd oj.op=3 then wpE P ops Q fuel (λ_=>True) ((listed.setIfInBounds i true).setIfInBounds j true) (a'.put oi.dst v) w' else Cl w'/\wpE P ops Q fuel Cl ((listed.setIfInBounds i true).setIfInBounds j true) (a'.put oi.dst v) w')) noX:=by
     unfold Oper.wp at h1 |-
     rw [execOp_put oj sj a oi.dst v p1]at h1
     exact aAo p2 h1
    -- and that it leaves the other one's slots alone
    have h3:oj.wp P a w (λa' w'=>(∀Cl',YE P ops Cl' oi v a->YE P ops Cl' oi v a')/\(if kd oj.op=3 then wpE P ops Q fuel (λ_=>True) ((listed.setIfInBounds i true).setIfInBounds j true) (a'.put oi.dst v) w' else Cl w'/\wpE P ops Q fuel Cl ((listed.setIfInBounds i true).setIfInBounds j true) (a'.put oi.dst v) w')) noX:=by
     have hput: ∀u,(∀Cl',YE P ops Cl' oi v a->YE P ops Cl' oi v (a.put oj.dst u)):= λu Cl' hy=>keepY Cl' hy u
     unfold Oper.wp at h2 |-
     generalize (execOp a.eval oj).run P w=r at h2
     cases r with
     |ok n w'=>
      cases n<;>simp only [Oper.upon]at h2 |-
      all_goals first
       |exact⟨hput _,h2⟩
       |exact h2.elim
       |exact Calls.mono h2 (λe w'' he=>by cases e<;>first|exact⟨hput _,he⟩|exact he)
       |exact Rows.mono h2 (λ_ _ he=>⟨hput _,he⟩)
       |exact⟨λCl' hy=>(keepY Cl' hy undef).of_same (by cases oj.dst<;>rfl) (by cases oj.dst<;>rfl),h2⟩
       |exact h2
     |halt x w'=>cases x<;>simp only [Oper.upon]at h2 |-<;>exact h2
    refine pB (λa' w' ⟨hyk,hk⟩=> ?_) h3
    split
    ·rename_i h3'
     simp only [h3',if_true]at hk
     by_cases hk0:kd oi.op=0
     ·refine ih (λ_=>True) (listed.setIfInBounds j true) a' w' trivial hfree' hT' hrj (hyk _ ?_) ?_
      ·rcases hy with⟨hw',hrun⟩|h
       ·exact .inl ⟨hw',λw _=>hrun w (.inr hk0)⟩
       ·exact .inr h
      ·rw [Array.setIfInBounds_comm _ _ hji];exact hk
     ·obtain⟨e,he,hb,heq⟩:=hT hk0 j oj hoj hjun h3'
      exact absurd heq (hnot e he hb)
    ·rename_i h3'
     simp only [h3',if_false]at hk
     refine⟨hk.1,ih Cl (listed.setIfInBounds j true) a' w' hk.1 hfree' hT' hrj (hyk _ hy) ?_⟩
     rw [Array.setIfInBounds_comm _ _ hji];exact hk.2
   ·rename_i hw
    simp only [hw]at h1
    refine ih Cl (listed.setIfInBounds j true) _ w hc hfree' hT' hrj (keepY Cl hy undef) ?_
    rw [Array.setIfInBounds_comm _ _ hji,<-Act.put_comm a v undef p2]
    exact h1
end
end Go.Proofs.YtdjfkmkdkclahaaGreatDoor
