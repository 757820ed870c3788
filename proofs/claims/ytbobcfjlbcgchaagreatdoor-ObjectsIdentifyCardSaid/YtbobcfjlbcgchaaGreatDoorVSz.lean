/-
  Contracts at arguments of which more is known. A range over a function: the statement, and a round of it.
  Conditions: none.
-/
import Derived.Test.YtbobcfjlbcgchaaGreatDoorVSs
import Derived.RangeFuncNested
set_option linter.unusedSectionVars false
set_option linter.unusedSimpArgs false
set_option linter.unusedVariables false
namespace Go.Proofs.YtbobcfjlbcgchaaGreatDoor
open Go.RowKit
section
variable {P:Program}
def WkL:List SV->List SV->Prop
 | [],[]=>True
 |a::l,b::m=>Wk a b/\WkL l m
 |_,_=>False
theorem aW6 {w:World}{ρ:Env}: ∀{asv bs:List SV}{vs:Array Value},WkL asv bs->cL w ρ asv vs->cL w ρ bs vs:=by
 have key: ∀(asv bs:List SV),WkL asv bs->asv.length=bs.length/\ ∀(j:Nat) (b:SV),bs[j]? =some b-> ∃a,asv[j]? =some a/\Wk a b:=by
  intro asv
  induction asv with
  |nil=>
   intro bs h
   cases bs with
   |nil=>exact⟨rfl,by simp⟩
   |cons=>exact h.elim
  |cons a l ih=>
   intro bs h
   cases bs with
   |nil=>exact h.elim
   |cons b m=>
    obtain⟨h1,h2⟩:=h
    obtain⟨i1,i2⟩:=ih m h2
    refine⟨by simp [i1],λj x hx=> ?_⟩
    cases j with
    |zero=>simp at hx;subst hx;exact⟨a,by simp,h1⟩
    |succ j=>simp at hx;obtain⟨y,y1,y2⟩:=i2 j x hx;exact⟨y,by simpa using y1,y2⟩
 intro asv bs vs h hr
 obtain⟨k1,k2⟩:=key asv bs h
 refine⟨hr.1.trans k1,λj b v hb hv=> ?_⟩
 obtain⟨a,a1,a2⟩:=k2 j b hb
 exact aW4 a2 (hr.2 j a v a1 hv)
theorem Tri.weak {f:FuncId}{asv bs:List SV}{hp:Hp}{post:SV->Prop}(h:Tri P f bs hp post) (hw:WkL asv bs):Tri P f asv hp post:=
 λw ρ vs a b c=>h w ρ vs a (aW6 hw b) c
end
end Go.Proofs.YtbobcfjlbcgchaaGreatDoor
namespace Go.Proofs.YtbobcfjlbcgchaaGreatDoor
open Go.RowKit
section
variable {P:Program}
theorem Mem.setLoop {E:Entry}{ρ:Env}{hp:Hp}{w:World}(h:Mem E ρ hp w) {id:Nat}{L:LoopI}{s:LoopAt}(ho:aN hp id=some (.loop L s)):
  ∃g r,ρ.blk id=some g/\w.heap[g]? =some (.loop r)/\r.params=L.ps/\r.assign=L.assign/\r.body=L.body/\r.tmps.size=L.nt/\dD ρ w L.fr r.tmps/\(r.state,r.pending)=s.state/\
   ∀(st:LoopState) (pe:Option Code) (s':LoopAt),(st,pe)=s'.state->Mem E ρ (dU hp id (.loop L s')) (w.putObj g (.loop { r with state:=st,pending:=pe }))/\cD ρ.S w (w.putObj g (.loop { r with state:=st,pending:=pe })):=by
 obtain⟨g,r,h1,h2,h3,h4,h5,h6,h7,h8⟩:=h.sat id _ ho
 refine⟨g,r,h1,h2,h3,h4,h5,h6,h7,h8,λst pe s' hst=> ?_⟩
 generalize hr':({ r with state:=st,pending:=pe }:Loop)=r'
 have hoth: ∀k,k≠g->(w.putObj g (.loop r')).heap[k]? =w.heap[k]? := λk hk=>World.putObj_heap_other hk
 have hself:(w.putObj g (.loop r')).heap[g]? =some (.loop r'):=World.putObj_heap_same (aV h2)
 have hcell: ∀k i,(w.putObj g (.loop r')).cell? ⟨k,i,none⟩=w.cell? ⟨k,i,none⟩:=by
  intro k i
  by_cases e:k=g
  ·subst e;unfold World.cell?;simp only [hself,h2]
  ·exact World.cell?_of_block (w:=w) (hoth k e)
 have hk:cD ρ.S w (w.putObj g (.loop r')):= λk i _=>hcell k i
 have hat: ∀i o,aN (dU hp id (.loop L s')) i=some o-> ∃o',aN hp i=some o'/\ρ.at i o=ρ.at i o':=by
  intro i o hi
  rw [bD _ ho]at hi
  by_cases e:i=id
  ·subst e;simp at hi;subst hi;exact⟨_,ho,rfl⟩
  ·simp [e]at hi;exact⟨o,hi,rfl⟩
 refine⟨⟨h.os,h.tape,h.output,by simpa using h.size, ?_,h.sold,h.snew,by simpa using h.slt,h.kp.trans h.sold hk, ?_, ?_, ?_,h.mv, ?_, ?_⟩,hk⟩
 ·intro b hb hB
  rw [hoth b ?_]
  ·exact h.old b hb hB
  ·rintro rfl
   rcases h.hb id _ b ho h1 with hge|hB'
   ·omega
   ·exact hB hB'
 ·intro i o hi
  rw [bD _ ho]at hi
  by_cases e:i=id
  ·subst e
   simp at hi
   subst hi
   refine⟨g,r',h1,hself,by rw [<-hr'];exact h3,by rw [<-hr'];exact h4,by rw [<-hr'];exact h5,by rw [<-hr'];exact h6, ?_,by rw [<-hr'];exact hst⟩
   rw [<-hr']
   have hm7:=h7.mono (ρ':=ρ) hk (λ_ _ x=>x) λi _=>ρ.moved_refl i
   rw [<-hr']at hm7
   exact hm7
  ·simp [e]at hi
   refine(h.sat i o hi).keep hk (λ_ _ x=>x) (λj _=>ρ.moved_refl j) ⟨rfl,rfl⟩ ?_ (λ_ _ _ x=>x)
   rintro b (hb'|⟨hb',hrd⟩)
   ·exact hoth b λe'=>e (h.inj i o id _ b hi ho hb' (by rw [e'];exact h1))
   ·exact hoth b λe'=>h.ro i _ b hi hrd hb' id _ ho (by rw [e'];exact h1)
 ·intro i o i' o' b hi hi' hb1 hb2
  obtain⟨o1,k1,e1⟩:=hat i o hi
  obtain⟨o2,k2,e2⟩:=hat i' o' hi'
  exact h.inj i o1 i' o2 b k1 k2 (e1 ▸ hb1) (e2 ▸ hb2)
 ·intro i o b hi hb1
  obtain⟨o1,k1,e1⟩:=hat i o hi
  exact h.hb i o1 b k1 (e1 ▸ hb1)
 ·intro i oR b hi hrd hb1 i' o' hi' hb2
  have hi0:aN hp i=some oR:=by
   rw [bD _ ho]at hi
   by_cases e:i=id
   ·subst e;simp at hi;subst hi;exact hrd.elim
   ·simpa [e]using hi
  obtain⟨o2,k2,e2⟩:=hat i' o' hi'
  exact h.ro i _ b hi0 hrd hb1 i' o2 k2 (e2 ▸ hb2)
 ·intro b hb
  rw [hoth b ?_]
  ·exact h.md b hb
  ·rintro rfl
   have:=h.md b hb
   rw [h2]at this;cases this
theorem Mem.newLoop {E:Entry}{ρ:Env}{hp:Hp}{w:World}(h:Mem E ρ hp w) {id:Nat}{L:LoopI}{r:Loop}(hid:id∉fG hp) (hpin:id∉E.pin) (hfid:id∉eQ L.fr) (h3:r.params=L.ps) (h4:r.assign=L.assign) (h5:r.body=L.body) (h6:r.tmps.size=L.nt)
  (h7:dD ρ w L.fr r.tmps) (h8:(r.state,r.pending)=LoopAt.ready.state):
  Mem E (ρ.upd id w.heap.size) ((id, .loop L .ready)::hp) (w.alloc (.loop r))/\cD ρ.S w (w.alloc (.loop r))/\ ∀i,i≠id->ρ.moved (ρ.upd id w.heap.size) i:=by
 have hg:=Grew.alloc w (.loop r)
 have hk:cD ρ.S w _:=hg.keeps h.slt
 have hmv: ∀i,i≠id->ρ.moved (ρ.upd id w.heap.size) i:= λi hi=>ρ.moved_upd hi
 have hat: ∀i o,i≠id->(ρ.upd id w.heap.size).at i o=ρ.at i o:=by
  intro i o hi
  cases o<;>simp [Env.at,Env.upd,hi]
 have hget: ∀i o,aN ((id,HObj.loop L .ready)::hp) i=some o->(i=id/\o= .loop L .ready)\/(i≠id/\aN hp i=some o):=by
  intro i o ho
  by_cases e:i=id
  ·subst e;simp [aN]at ho;exact .inl ⟨rfl,ho.symm⟩
  ·rw [cK (λh=>e h.symm)]at ho;exact .inr ⟨e,ho⟩
 refine⟨⟨h.os,h.tape,h.output,by have:=h.size;simp;omega, ?_,h.sold,h.snew, ?_,h.kp.trans h.sold hk, ?_, ?_, ?_, ?_, ?_,λb hb=>(hg.block b (aV (h.md b hb))).trans (h.md b hb)⟩,hk,hmv⟩
 ·exact λb hb hB=>(hg.block b (Nat.lt_of_lt_of_le hb h.size)).trans (h.old b hb hB)
 ·intro b i hs;have:=h.slt b i hs;simp;omega
 ·intro i o ho
  rcases hget i o ho with⟨rfl,rfl⟩|⟨e,ho'⟩
  ·refine⟨w.heap.size,r,by simp [Env.upd],World.alloc_heap_new w _,h3,h4,h5,h6,h7.mono hk (λ_ _ x=>x) λj hj=>hmv j λe=>hfid (e ▸ hj),h8⟩
  ·refine(h.sat i o ho').keep hk (λ_ _ x=>x) ?_ ⟨rfl,rfl⟩ ?_ (λ_ _ _ x=>x)
   ·rintro j hj
    exact hmv j λe'=>hid (e' ▸ bJ ho' hj)
   ·rintro g (hg'|⟨hg',hrd⟩)
    ·exact hg.block g (h.blk_lt ho' hg')
    ·exact hg.block g (h.ro_lt ho' hrd hg')
 ·intro i o i' o' g ho ho' hg1 hg2
  rcases hget i o ho with⟨rfl,rfl⟩|⟨e,ho1⟩
  ·rcases hget i' o' ho' with⟨rfl,rfl⟩|⟨e',ho1'⟩
   ·rfl
   ·rw [hat i' o' e']at hg2
    have hlt:=h.blk_lt ho1' hg2
    simp [Env.at,Env.upd]at hg1
    omega
  ·rw [hat i o e]at hg1
   rcases hget i' o' ho' with⟨rfl,rfl⟩|⟨e',ho1'⟩
   ·have hlt:=h.blk_lt ho1 hg1
    simp [Env.at,Env.upd]at hg2
    omega
   ·rw [hat i' o' e']at hg2
    exact h.inj i o i' o' g ho1 ho1' hg1 hg2
 ·intro i o g ho hg1
  rcases hget i o ho with⟨rfl,rfl⟩|⟨e,ho1⟩
  ·simp [Env.at,Env.upd]at hg1
   have:=h.size;omega
  ·rw [hat i o e]at hg1
   exact h.hb i o g ho1 hg1
 ·exact λi hi=>Env.moved_trans (h.mv i hi) (hmv i λe=>hpin (e ▸ hi))
 ·intro i oR g ho hrd hg1 i' o' ho' hg2
  rcases hget i _ ho with⟨_,hc⟩|⟨e,ho1⟩
  ·rw [hc]at hrd;exact hrd.elim
  ·have hg1':ρ.blk i=some g:=by simpa [Env.upd,e]using hg1
   rcases hget i' o' ho' with⟨rfl,rfl⟩|⟨e',ho1'⟩
   ·have:=h.ro_lt ho1 hrd hg1'
    simp [Env.at,Env.upd]at hg2
    omega
   ·rw [hat i' o' e']at hg2
    exact h.ro i _ g ho1 hrd hg1' i' o' ho1' hg2
def aRx (fr:Fr) (lid:Nat) (K:Ex->Fr->Hp->Prop) (_:SV) (hp:Hp):Prop:=
 match aN hp lid with
 |some (.loop _ .ready)=>xN hp lid λhp'=>K .normal fr hp'
 |some (.loop _ (.done .ret))=>xN hp lid λhp'=>K .ret fr hp'
 |some (.loop _ (.done (.exit i)))=>xN hp lid λhp'=>K (.exit i) fr hp'
 |some (.loop _ (.done (.goto l)))=>xN hp lid λhp'=>K (.goto l) fr hp'
 |_=>aG "range: the loop's record"
def aNd (rd:Option Nat) (hp:Hp):Prop:=
 match rd with
 |none=>True
 |some i=>(match aN hp i with|some (.loop _ _)=>True|_=>aG "range: in a round of an unknown loop")
theorem nI {C:Cfg}{g:Operand}{ps:Array Tmp}{assign body:Code}{fr:Fr}{hp:Hp}{K:Ex->Fr->Hp->Prop}(lid:Nat) (hfr:eN lid C.pin fr hp) (hin:aNd C.rd hp)
  (h : ev fr g λs => match aRk s with
   |some (gf,first,cap)=>dA C.P gf=true/\aF C.P C.pin.calm ((C.nt, .yld lid)::fr) ((lid, .loop ⟨C.nt,ps,assign,body,fr⟩ .ready)::hp) gf (first++[.yld lid]++cap) (aRx fr lid K)
   |none=>aG "range: no function"):aJ C (.rangeFunc g ps assign body) fr hp K:=by
 intro E a w hpin hrd hsat
 obtain⟨s,hs,hv⟩:=cP h
 split at hv
 ·rename_i gf first cap hfn
  obtain⟨hcall,hv⟩:=hv
  obtain⟨h1,h2,ρ,h3,h4⟩:=hsat
  obtain⟨f1,f2,f3⟩:=hfr
  obtain⟨fv,cv,eg,a1,a2⟩:=xC hfn (aR h4 hs)
  -- from the world in which the record lies
  have main: ∀(E1:Entry) (ρ1:Env) (W1:World) (l:Nat) (mark:List Deferred) (r:Loop),Ext E E1->a.defers=(E.D.take E.k).map tL++E.pin.pre->mark++a.defers=(E1.D.take E1.k).map tL++E1.pin.pre->ρ1.blk lid=some l->
    Mem E1 ρ1 ((lid, .loop ⟨C.nt,ps,assign,body,fr⟩ .ready)::hp) W1->dD ρ1 W1 fr a.tmps->cL W1 ρ1 first fv->cL W1 ρ1 cap cv->
    CallsIn (FW E.rd) 0 C.P gf (fv++ #[.func (.yield l) #[] #[]]++cv) W1 (rangePost (FW E.rd) 0 C.P l (kK C E K) { a with defers:=mark++a.defers }):=by
   intro E1 ρ1 W1 l mark r hE _ hmark hl hm1 hf1 b1 b2
   refine kF.2 ?_
   have hfs:dD ρ1 W1 ((C.nt, .yld lid)::fr) (a.tmps.push (.func (.yield l) #[] #[])):=by
    intro t s ht
    simp only [gM]at ht
    by_cases e:C.nt=t
    ·subst e
     simp at ht
     subst ht
     exact⟨_,by rw [<-h1];simp, .yld lid l hl⟩
    ·simp [e]at ht
     obtain⟨v,q1,q2⟩:=hf1 t s ht
     have:=(Array.getElem?_eq_some_iff.1 q1).1
     refine⟨v, ?_,q2⟩
     rw [Array.getElem?_push_lt this]
     rw [Array.getElem?_eq_getElem this]at q1
     exact q1
   have hargs:cL W1 ρ1 (first++[.yld lid]++cap) (fv++ #[.func (.yield l) #[] #[]]++cv):=by
    refine(b1.append ⟨rfl, ?_⟩).append b2
    intro j s v hs' hv'
    cases j with
    |zero=>simp at hs' hv';subst hs';subst hv';exact .yld lid l hl
    |succ j=>simp at hs'
   refine(hv { E1 with pin:=E1.pin.calm } ρ1 W1 _ (by rw [hE.pin.trans hpin]) hm1.calm hfs _ hargs).mono ?_
   rintro e w' (⟨v,ρ',s',hp',rfl,hk,hm',hf',_⟩|⟨_,_,_,_,_,q,_⟩)
   case inr=>exact q.elim
   replace hm':=hm'.uncalm
   -- the loop's record, as it is now
   have hl':ρ'.blk lid=some l:=by
    obtain⟨u,q1,q2⟩:=hf' C.nt (.yld lid) (by simp [gM])
    obtain⟨l',q3,q4⟩:=q2.yld_inv
    rw [q4,<-h1]at q1
    simp at q1
    rw [q3,<-q1]
   have hf'':dD ρ' w' fr a.tmps:=by
    intro t s ht
    by_cases e:C.nt=t
    ·subst e
     obtain⟨v,q1,_⟩:=h4 C.nt s ht
     have:=(Array.getElem?_eq_some_iff.1 q1).1
     omega
    ·obtain⟨v,q1,q2⟩:=hf' t s (by simp [gM,e];exact ht)
     refine⟨v, ?_,q2⟩
     obtain⟨u,q3,_⟩:=h4 t s ht
     have:=(Array.getElem?_eq_some_iff.1 q3).1
     rw [Array.getElem?_push_lt this]at q1
     rw [Array.getElem?_eq_getElem this]
     exact q1
   have leave: ∀(L:LoopI) (st:LoopAt),aN hp' lid=some (.loop L st)->st≠ .busy-> ∃W4,(Instr.endLoop l).run C.P w'= .ok st.state.2 W4/\Mem E1 ρ' (aHp hp' lid) W4/\dD ρ' W4 fr a.tmps:=by
    intro L st hget hst
    obtain⟨g',r',q1,q2,q3,q4,q5,q6,q7,q8⟩:=hm'.sat lid _ hget
    rw [hl']at q1;injection q1 with q1;subst q1
    have hb:r'.state≠ .busy:=by
     have:r'.state=st.state.1:=by rw [<-q8]
     rw [this]
     cases st<;>simp [LoopAt.state]
     exact hst rfl
    have hpe:r'.pending=st.state.2:=by rw [<-q8]
    have hnew:E1.w.heap.size<=l\/E1.B l:=hm'.hb lid _ l hget hl'
    have hat: ∀id x,aN (aHp hp' lid) id=some x->ρ'.at id x≠some l:=by
     intro id x hx hat
     rw [rH]at hx
     split at hx
     ·cases hx
     ·rename_i hne
      exact hne (hm'.inj id x lid _ l hx hget hat hl')
    refine⟨w'.putObj l (.loop { r' with state:= .exhausted }),by rw [<-hpe];exact run_endLoop (P:=C.P) q2 hb, ?_⟩
    have hdel:=hm'.del lid
    have hkeep:cD ρ'.S w' (w'.putObj l (.loop { r' with state:= .exhausted })):=by
     intro k i _
     by_cases e:k=l
     ·subst e
      have h1:=World.putObj_heap_same (w:=w') (r:=k) (o:= .loop { r' with state:= .exhausted }) (aV q2)
      unfold World.cell?
      simp only [h1,q2]
     ·exact World.cell?_of_block (w:=w') (World.putObj_heap_other e)
    refine⟨?_,hf''.mono hkeep (λ_ _ x=>x) λi _=>ρ'.moved_refl i⟩
    have hoth: ∀k,k≠l->(w'.putObj l (.loop { r' with state:= .exhausted })).heap[k]? =w'.heap[k]? := λk hk=>World.putObj_heap_other hk
    refine⟨hdel.os,hdel.tape,hdel.output,by simpa using hdel.size, ?_,hdel.sold,hdel.snew,by simpa using hdel.slt,hdel.kp.trans hdel.sold hkeep, ?_,hdel.inj,hdel.hb,hdel.mv,hdel.ro, ?_⟩
    ·intro b hb' hB
     rw [hoth b ?_]
     ·exact hdel.old b hb' hB
     ·rintro rfl
      rcases hnew with hge|hB'
      ·omega
      ·exact hB hB'
    ·intro id x hx
     refine(hdel.sat id x hx).keep hkeep (λ_ _ x=>x) (λi _=>ρ'.moved_refl i) ⟨rfl,rfl⟩ ?_ (λ_ _ _ x=>x)
     rintro b (hb'|⟨hb',hrd⟩)
     ·exact hoth b λe=>hat id x hx (e ▸ hb')
     ·refine hoth b λe=> ?_
      subst e
      rw [rH]at hx
      split at hx
      ·cases hx
      ·exact hm'.ro id x _ hx hrd hb' lid _ hget hl'
    ·intro b hb'
     rw [hoth b ?_]
     ·exact hdel.md b hb'
     ·rintro rfl
      have:=hdel.md b hb'
      rw [q2]at this;cases this
   have hsat': ∀W4,Mem E1 ρ' (aHp hp' lid) W4->dD ρ' W4 fr a.tmps->Sat E1 C.nt ⟨fr,aHp hp' lid⟩ { a with defers:=mark++a.defers } W4:= λW4 m f=>⟨h1,hmark,ρ',m,f⟩
   unfold aRx at hk
   split at hk
   ·rename_i L hget
    rw [rM]at hk
    obtain⟨W4,r1,r2,r3⟩:=leave L _ hget (by simp)
    exact⟨none,W4,r1, .normal,fr,_,E1,hE,trivial,hk,hsat' W4 r2 r3⟩
   ·rename_i L hget
    rw [rM]at hk
    obtain⟨W4,r1,r2,r3⟩:=leave L _ hget (by simp)
    exact⟨some .ret,W4,r1,wpIn_ret ⟨.ret,fr,_,E1,hE,trivial,hk,hsat' W4 r2 r3⟩⟩
   ·rename_i L i hget
    rw [rM]at hk
    obtain⟨W4,r1,r2,r3⟩:=leave L _ hget (by simp)
    exact⟨some (.exit i),W4,r1,wpIn_exit ⟨.exit i,fr,_,E1,hE,rfl,hk,hsat' W4 r2 r3⟩⟩
   ·rename_i L i hget
    rw [rM]at hk
    obtain⟨W4,r1,r2,r3⟩:=leave L _ hget (by simp)
    exact⟨some (.goto i),W4,r1,wpIn_goto ⟨.goto i,fr,_,E1,hE,rfl,hk,hsat' W4 r2 r3⟩⟩
   ·exact hk.elim
  refine wpIn_rangeFunc ?_
  intro fn _
  have hres: ∀(l:Nat) (W:World),(resolve a.eval (rangeCall g l) 0).run C.P W= .ok { target:= .fn (.func gf) cv,args:=fv++ #[.func (.yield l) #[] #[]] } W:=by
   intro l W
   have e1:Array.map a.eval #[Operand.const (Value.func (Fn.yield l) #[] #[])]= #[Value.func (Fn.yield l) #[] #[]]:=by simp [Act.eval]
   simp only [resolve,eg,Deferred.ofValue,Sem.run_pure,e1]
  have hinv: ∀(l:Nat) (W:World),(invoke (.fn (.func gf) cv) (fv++ #[.func (.yield l) #[] #[]])).run C.P W= .ok (.enter gf (fv++ #[.func (.yield l) #[] #[]]++cv)) W:=by
   intro l W
   unfold dA at hcall
   split at hcall
   ·rename_i fn hfn'
    simp only [Bool.and_eq_true,Bool.not_eq_true']at hcall
    obtain⟨c1,c2⟩:=hcall
    have c3:fn.body.isNone=false:=by cases hb:fn.body<;>simp_all
    simp only [invoke,callFunc,Sem.run_bind,Sem.run_pure,Result.andThen_ok,run_program,hfn',c2,c3,Bool.false_eq_true,if_false]
   ·cases hcall
  have mono2: ∀{l:List SV} {vs:Array Value} {ρ1:Env} {W1:World},cL w ρ l vs->cD ρ.S w W1->(∀b i,ρ.S b i->ρ1.S b i)->(∀id∈SV.idsL l,ρ.moved ρ1 id)->cL W1 ρ1 l vs:=by
   intro l vs ρ1 W1 hA hk hS hmv
   exact⟨hA.1,λj s v hs hv=>(hA.2 j s v hs hv).mono hk hS λid hid=>hmv id (SV.mem_idsL hs hid)⟩
  have hidf:lid∉SV.idsL first/\lid∉SV.idsL cap:=by
   have hsid: ∀id,id∈SV.idsL first\/id∈SV.idsL cap->id∈s.ids:=by
    intro id hid
    unfold aRk at hfn
    split at hfn
    ·simp at hfn
     obtain⟨_,rfl,rfl⟩:=hfn
     simp only [SV.ids,List.mem_append];exact hid
    ·simp at hfn
     obtain⟨_,rfl,rfl⟩:=hfn
     simp [SV.idsL]at hid
    ·cases hfn
   have hnot:lid∉s.ids:=by
    intro hm
    cases g with
    |tmp t=>exact f2 (wV hs hm)
    |const v=>
     simp only [evO,Option.some.injEq]at hs
     subst hs
     have hno:(ofV v).ids=[]:=by
      unfold ofV
      split<;>first|rfl|(split<;>rfl)
     rw [hno]at hm;cases hm
    |global=>simp [evO]at hs
    |func f=>
     simp only [evO,Option.some.injEq]at hs
     subst hs
     simp [SV.ids,SV.idsL]at hm
   exact⟨λh=>hnot (hsid lid (.inl h)),λh=>hnot (hsid lid (.inr h))⟩
  cases hr0:E.rd with
  |none=>
   -- an outermost loop
   have hg1:=Grew.alloc w (.deferred (some []))
   obtain⟨m1,m2⟩:=h3.grow_same hg1
   have hDlt: ∀b∈E.D,b < w.heap.size:= λb hb=>aV (h3.md b hb)
   have hm1:Mem { E with D:=w.heap.size::E.D,k:=E.k+1 } ρ hp (w.alloc (.deferred (some []))):=by
    refine⟨m1.os,m1.tape,m1.output,m1.size,m1.old,m1.sold,m1.snew,m1.slt,m1.kp,m1.sat,m1.inj,m1.hb,m1.mv,m1.ro, ?_⟩
    intro b hb
    rcases List.mem_cons.1 hb with rfl|hb
    ·exact World.alloc_heap_new w _
    ·exact m1.md b hb
   have hsz:(w.alloc (.deferred (some []))).heap.size=w.heap.size+1:=by simp
   obtain⟨n1,n2,n3⟩:=hm1.newLoop (id:=lid) (L:=⟨C.nt,ps,assign,body,fr⟩) (r:={ state:= .ready,pending:=none,fn,tmps:=a.tmps,params:=ps,assign,body,defers:=w.heap.size }) f3 (by rw [hpin];exact f1) f2 rfl rfl rfl h1 (m2 fr _ h4) rfl
   have hE1 : Ext E { E with D := w.heap.size :: E.D, k := E.k + 1 } := ⟨rfl, rfl, rfl, rfl, rfl, rfl, [w.heap.size], rfl, by simp; omega, by simp, λb hb => by
    simp at hb;subst hb
    exact⟨h3.size,λhm=>by have:=hDlt _ hm;omega⟩⟩
   have kk:cD ρ.S w ((w.alloc (.deferred (some []))).alloc (.loop { state:= .ready,pending:=none,fn,tmps:=a.tmps,params:=ps,assign,body,defers:=w.heap.size })):=(hg1.keeps h3.slt).trans (λ_ _ x=>x) n2
   refine⟨w.heap.size+1,[{ target:= .collected w.heap.size,args:= #[] }],(w.alloc (.deferred (some []))).alloc (.loop { state:= .ready,pending:=none,fn,tmps:=a.tmps,params:=ps,assign,body,defers:=w.heap.size }),{ target:= .fn (.func gf) cv,args:=fv++ #[.func (.yield (w.heap.size+1)) #[] #[]] },(w.alloc (.deferred (some []))).alloc (.loop { state:= .ready,pending:=none,fn,tmps:=a.tmps,params:=ps,assign,body,defers:=w.heap.size }),gf,fv++ #[.func (.yield (w.heap.size+1)) #[] #[]]++cv,(w.alloc (.deferred (some []))).alloc (.loop { state:= .ready,pending:=none,fn,tmps:=a.tmps,params:=ps,assign,body,defers:=w.heap.size }), ?_,hres _ _,λ_ _=>trivial,hinv _ _,λh=>(by cases h), ?_⟩
   ·show (Instr.enterLoop fn a.tmps ps assign body none).run C.P w=_
    exact run_enterLoop_outer _ _ _ _ _
   ·have:=main { E with D:=w.heap.size::E.D,k:=E.k+1 } (ρ.upd lid (w.alloc (.deferred (some []))).heap.size) _ (w.heap.size+1) [{ target:= .collected w.heap.size,args:= #[] }] default hE1 h2 (by rw [h2];simp [tL]) (by rw [hsz];simp [Env.upd]) n1
     (h4.mono kk (λ_ _ x=>x) λi hi=>n3 i λe=>f2 (e ▸ hi))
     (mono2 a1 kk (λ_ _ x=>x) λi hi=>n3 i λe=>hidf.1 (e ▸ hi)) (mono2 a2 kk (λ_ _ x=>x) λi hi=>n3 i λe=>hidf.2 (e ▸ hi))
    rw [hr0]at this
    exact this
  |some l0=>
   -- a loop within a round
   obtain⟨r0,hr0'⟩: ∃r0,w.heap[l0]? =some (.loop r0):=by
    cases hc:C.rd with
    |none=>rw [hc]at hrd;simp only [aU8]at hrd;rw [hr0]at hrd;cases hrd
    |some i=>
     rw [hc]at hrd hin
     obtain⟨hi1,hi2,hi3⟩:=hrd
     simp only [aNd]at hin
     split at hin
     ·rename_i L0 s0 hget
      obtain⟨g',r',q1,q2,_⟩:=h3.sat i _ hget
      have hmv:=(h3.mv i hi1).1
      rw [hi2,hr0]at hmv
      rw [hmv]at q1
      injection q1 with q1
      subst q1
      exact⟨r',q2⟩
     ·exact hin.elim
   obtain⟨n1,n2,n3⟩:=h3.newLoop (id:=lid) (L:=⟨C.nt,ps,assign,body,fr⟩) (r:={ state:= .ready,pending:=none,fn,tmps:=a.tmps,params:=ps,assign,body,defers:=r0.defers }) f3 (by rw [hpin];exact f1) f2 rfl rfl rfl h1 h4 rfl
   refine⟨w.heap.size,[],w.alloc (.loop { state:= .ready,pending:=none,fn,tmps:=a.tmps,params:=ps,assign,body,defers:=r0.defers }),{ target:= .fn (.func gf) cv,args:=fv++ #[.func (.yield w.heap.size) #[] #[]] },w.alloc (.loop { state:= .ready,pending:=none,fn,tmps:=a.tmps,params:=ps,assign,body,defers:=r0.defers }),gf,fv++ #[.func (.yield w.heap.size) #[] #[]]++cv,w.alloc (.loop { state:= .ready,pending:=none,fn,tmps:=a.tmps,params:=ps,assign,body,defers:=r0.defers }), ?_,hres _ _,λ_ _=>trivial,hinv _ _,λh=>(by cases h), ?_⟩
   ·show (Instr.enterLoop fn a.tmps ps assign body (some l0)).run C.P w=_
    exact run_enterLoop_inner hr0' _ _ _ _ _
   ·have:=main E (ρ.upd lid w.heap.size) _ w.heap.size [] default (.refl E) h2 (by simpa using h2) (by simp [Env.upd]) n1
     (h4.mono n2 (λ_ _ x=>x) λi hi=>n3 i λe=>f2 (e ▸ hi))
     (mono2 a1 n2 (λ_ _ x=>x) λi hi=>n3 i λe=>hidf.1 (e ▸ hi)) (mono2 a2 n2 (λ_ _ x=>x) λi hi=>n3 i λe=>hidf.2 (e ▸ hi))
    rw [hr0]at this
    exact this
 ·exact hv.elim
def aPp:Fr->List Nat->List SV->Fr
 |fr,p::ps,s::l=>aPp (aIp fr p s) ps l
 |fr,_,_=>fr
theorem aPo {ρ:Env}{w:World}{nt:Nat}: ∀(ps:List Nat) (args:List SV) (vs:List Value) (fr:Fr) (tm:Array Value),args.length=ps.length->vs.length=ps.length->(∀p∈ps,p < nt)->tm.size=nt->dD ρ w fr tm->
  (∀(j:Nat) (s:SV) (v:Value),args[j]? =some s->vs[j]? =some v->Rep w ρ s v)->
  ((ps.zip vs).foldl (λ(tmps:Array Value) (x:Nat×Value)=>tmps.setIfInBounds x.1 x.2) tm).size=nt/\dD ρ w (aPp fr ps args) ((ps.zip vs).foldl (λ(tmps:Array Value) (x:Nat×Value)=>tmps.setIfInBounds x.1 x.2) tm):=by
 intro ps
 induction ps with
 |nil=>intro args vs fr tm h1 h2 _ h4 h5 _;exact⟨h4,by cases args<;>exact h5⟩
 |cons p ps ih=>
  intro args vs fr tm h1 h2 h3 h4 h5 h6
  match args,vs,h1,h2 with
  |s::args,v::vs,h1,h2=>
   simp only [aPp,List.zip_cons_cons,List.foldl_cons]
   refine ih args vs _ _ (by simpa using h1) (by simpa using h2) (λq hq=>h3 q (List.mem_cons_of_mem _ hq)) (by simpa using h4) ?_ (λj s v hs hv=>h6 (j+1) s v (by simpa using hs) (by simpa using hv))
   intro t x hx
   rw [iM]at hx
   have hp:=h3 p (List.mem_cons_self ..)
   by_cases e:t=p
   ·subst e
    simp at hx
    subst hx
    exact⟨v,by rw [Array.getElem?_setIfInBounds_self_of_lt (by omega)],h6 0 s v rfl rfl⟩
   ·simp [e]at hx
    obtain⟨u,q1,q2⟩:=h5 t x hx
    exact⟨u,by rw [Array.getElem?_setIfInBounds_ne (λe'=>e e'.symm)];exact q1,q2⟩
def aM8 (lid:Nat) (K:SV->Hp->Prop) (e:Ex) (_:Fr) (hp:Hp):Prop:=
 match aN hp lid with
 |some (.loop L .busy)=>
  (match e with
  | .normal=>gK hp lid (.loop L .ready) λhp'=>K (.d (.bool true)) hp'
  | .ret=>gK hp lid (.loop L (.done .ret)) λhp'=>K (.d (.bool false)) hp'
  | .exit i=>gK hp lid (.loop L (.done (.exit i))) λhp'=>K (.d (.bool false)) hp'
  | .goto l=>gK hp lid (.loop L (.done (.goto l))) λhp'=>K (.d (.bool false)) hp'
  | .pan=>False)
 |_=>aG "a round: the loop's record"
theorem iU (frz:List Nat) {ti:TypeId->Option TI}(hti:dX P ti) {pin:Pin}{fr:Fr}{hp:Hp}{lid:Nat}{L:LoopI}{args:List SV}{K:SV->Hp->Prop}(keep:Nat->Bool) (off:Nat) (ho:aN hp lid=some (.loop L .ready))
  (hps:(args.length==L.ps.size && L.ps.toList.all λp=>decide (p < L.nt))=true)
  (hx : X ⟨P, ti, (pin ++ eQ fr ++ [lid]).calm, L.nt, keep, off, some lid, false, frz⟩ L.assign (aPp L.fr L.ps.toList args) hp λe fr1 hp1 => match e with
   | .normal => (match aN hp1 lid with
    |some (.loop L' .ready)=>gK hp1 lid (.loop L' .busy) λhp2=>X ⟨P,ti,(pin++eQ fr++[lid]).calm,L.nt,keep,off,some lid,false,frz⟩ L.body fr1 hp2 (aM8 lid K)
    |_=>aG "a round: the loop's record")
   |_=>aG "a round: its variables"):YVC P pin fr hp lid args K:=by
 intro E ρ w tm hpin hm hf l vs hl hargs
 simp only [Bool.and_eq_true,beq_iff_eq,List.all_eq_true,decide_eq_true_eq]at hps
 obtain⟨g,r,q1,q2,q3,q4,q5,q6,q7,q8,_⟩:=hm.setLoop ho
 rw [hl]at q1;injection q1 with q1;subst q1
 have hsz:vs.size=r.params.size:=by rw [q3,hargs.1,hps.1]
 refine⟨r.fn,_,r.assign,r.body,run_yield q2 hsz,roundIn_of_wpIn trivial ?_⟩
 have hfold:((r.params.zip vs).foldl (λ(tmps:Array Value) (x:Tmp×Value)=>match x with|(t,a)=>tmps.setIfInBounds t a) r.tmps)=((L.ps.toList.zip vs.toList).foldl (λ(tmps:Array Value) (x:Nat×Value)=>tmps.setIfInBounds x.1 x.2) r.tmps):=by
  rw [<-Array.foldl_toList,Array.toList_zip,q3]
 obtain⟨p1,p2⟩:=aPo (nt:=L.nt) L.ps.toList args vs.toList L.fr r.tmps (by simpa using hps.1) (by simpa using hsz.trans (by rw [q3])) hps.2 q6 q7 (λj s v hs hv=>hargs.2 j s v hs (by simpa using hv))
 rw [hfold]
 have hmE:=hm.enter (pin++eQ fr++[lid]).calm (some l)
 have hrd:aU8 (some lid) (cH w ρ hp (pin++eQ fr++[lid]).calm (some l) E.D):=⟨by simp [cH],hl,rfl⟩
 have hsubpin: ∀id∈E.pin,id∈(pin++eQ fr++[lid]).calm:= λid hid=>by rw [hpin]at hid;simp [hid]
 rw [q4]
 show L.assign.wpIn (FW (some l)) 0 P _ _ _
 refine wpIn_mono (kZ (C:=⟨P,ti,(pin++eQ fr++[lid]).calm,L.nt,keep,off,some lid,false,frz⟩) hti L.assign _ _ _ hx (cH w ρ hp (pin++eQ fr++[lid]).calm (some l) E.D) _ w rfl hrd ⟨p1,rfl,ρ,hmE,p2⟩) ?_
 rintro e a1 w1 ⟨x,fr1,hp1,E1,hE1,hrel,hk,hnt1,hdf1,ρ1,hm1,hf1⟩
 have blk1: ∀{E':Entry} {ρ':Env} {hp':Hp} {w':World},Ext (cH w ρ hp (pin++eQ fr++[lid]).calm (some l) E.D) E'->Mem E' ρ' hp' w'->ρ'.blk lid=some l:=by
  intro E' ρ' hp' w' hE hm'
  have:=(hm'.mv lid (by rw [hE.pin];simp [cH])).1
  rw [hE.ρ]at this
  exact this.trans hl
 cases x<;>cases e<;>simp only [Ex.rel]at hrel<;>try exact hk.elim
 simp only [KX]at hk
 split at hk
 ·rename_i L' hget
  rw [dM]at hk
  obtain⟨g1,r1,s1,s2,s3,s4,s5,s6,s7,s8,s9⟩:=hm1.setLoop hget
  rw [blk1 hE1 hm1]at s1;injection s1 with s1;subst s1
  injection s8 with s8 s8'
  have hbusy:({ r1 with state:= .busy }:Loop)={ r1 with state:= .busy,pending:=none }:=by
   cases r1;simp only at s8';rw [s8']
  have hbr:=run_beginRound (P:=P) s2 s8
  rw [hbusy]at hbr
  obtain⟨m1,m2⟩:=s9 .busy none .busy rfl
  refine⟨_,hbr, ?_⟩
  rw [q5]
  show L.body.wpIn (FW (some l)) 0 P _ _ _
  have hX:=kZ (C:=⟨P,ti,(pin++eQ fr++[lid]).calm,L.nt,keep,off,some lid,false,frz⟩) hti L.body _ _ _ hk E1 a1 _ hE1.pin (hrd.ext hE1) ⟨hnt1,hdf1,ρ1,m1,hf1.mono m2 (λ_ _ x=>x) λi _=>ρ1.moved_refl i⟩
  rw [hE1.rd]at hX
  refine wpIn_mono hX ?_
  rintro e2 a2 w2 ⟨x2,fr2,hp2,E2,hE2,hrel2,hk2,_,_,ρ2,hm2,_⟩
  have hE12:=hE1.trans hE2
  have hk2:aM8 lid K x2 fr2 hp2:=by
   cases x2<;>first|exact hk2|exact hk2.elim
  unfold aM8 at hk2
  split at hk2
  ·rename_i L'' hget2
   obtain⟨g2,r2,t1,t2,t3,t4,t5,t6,t7,t8,t9⟩:=hm2.setLoop hget2
   rw [blk1 hE12 hm2]at t1;injection t1 with t1;subst t1
   have fin: ∀(jump:Option Code) (s':LoopAt) (b:Bool),((if jump.isNone then LoopState.ready else .done),jump)=s'.state->jump.isNone=b->K (.d (.bool b)) (dU hp2 lid (.loop L'' s'))->
     ∃v w',(Instr.endRound l jump).run P w2= .ok v w'/\ ∃v_1 ρ' s hp',Ending.returned v= .returned v_1/\K s hp'/\Mem E ρ' hp' w'/\dD ρ' w' fr tm/\Rep w' ρ' s v_1:=by
    intro jump s' b hs' hb hK
    obtain⟨n1,n2⟩:=t9 _ _ s' hs'
    refine⟨_,_,run_endRound (P:=P) jump t2,_,ρ2, .d (.bool b),_,rfl,hK, ?_, ?_, ?_⟩
    ·refine hm.leave (pin:=(pin++eQ fr++[lid]).calm) (rd:=some l) n1 ⟨hE12.w,hE12.S,hE12.B,hE12.pin,hE12.ρ,λb hb=> ?_⟩ hsubpin
     obtain⟨D',d1,_⟩:=hE12.D
     rw [d1];exact List.mem_append_right _ hb
    ·have kp:=n1.kp
     have sold:=n1.sold
     have mv:=n1.mv
     rw [hE12.w,hE12.S]at kp
     rw [hE12.S]at sold
     rw [hE12.pin,hE12.ρ]at mv
     exact hf.mono kp sold λid hid=>mv id (by simp [cH,hid])
    ·rw [hb];exact .d _ _ (.bool b)
   cases x2<;>cases e2<;>simp only [Ex.rel]at hrel2<;>simp only [dM]at hk2
   ·exact fin none .ready true rfl rfl hk2
   ·subst hrel2;exact fin (some (.exit _)) (.done (.exit _)) false rfl rfl hk2
   ·subst hrel2;exact fin (some (.goto _)) (.done (.goto _)) false rfl rfl hk2
   ·exact fin (some .ret) (.done .ret) false rfl rfl hk2
  ·exact hk2.elim
 ·exact hk.elim
end
end Go.Proofs.YtbobcfjlbcgchaaGreatDoor
