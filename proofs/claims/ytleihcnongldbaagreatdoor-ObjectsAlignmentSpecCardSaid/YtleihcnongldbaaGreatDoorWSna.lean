/-
  Contracts at arguments of which more is known. A range over a function: the statement, and a round of it. The rules of the walk at this program. The library's functions on strings: contracts. The walk through Keyword. Names: the walks through the functions that tell which strings are names. Scopes through which no goto goes, in the round. Regions that draw their order: all orders, given as a tree. Data of which more is known: nil for an empty slice, at any depth. Objects of other kinds: a new one, and one that is written; rows whose cells are known one by one.
  Conditions: none.
-/
import Derived.Test.YtleihcnongldbaaGreatDoorWSs
import Derived.RangeFuncNested
import Derived.Test.YtleihcnongldbaaGreatDoorWTy
import Derived.Lib.Strings
import Derived.Lib.Slices
import Derived.Lib.Walk
import Derived.Lib.Bytealg
import Derived.RangeFuncBound
import Derived.Laws.IdiomCopy
import Derived.Laws.Externs
import Derived.Lib.Overlaps
import Derived.Lib.AppendZeros
set_option linter.unusedSectionVars false
set_option linter.unusedSimpArgs false
set_option linter.unusedVariables false
set_option maxHeartbeats 2000000
namespace Go.Proofs.YtleihcnongldbaaGreatDoor
open Go.RowKit
section
variable {P:Program}
end
end Go.Proofs.YtleihcnongldbaaGreatDoor
namespace Go.Proofs.YtleihcnongldbaaGreatDoor
open Go.RowKit
section
variable {P:Program}
theorem Mem.setLoop {E:Entry}{ρ:Env}{hp:Hp}{w:World}(h:Mem E ρ hp w) {id:Nat}{L:LoopI}{s:LoopAt}(ho:aT hp id=some (.loop L s)):
  ∃g r,ρ.blk id=some g/\w.heap[g]? =some (.loop r)/\r.params=L.ps/\r.assign=L.assign/\r.body=L.body/\r.tmps.size=L.nt/\dH ρ w L.fr r.tmps/\(r.state,r.pending)=s.state/\
   ∀(st:LoopState) (pe:Option Code) (s':LoopAt),(st,pe)=s'.state->Mem E ρ (gQ hp id (.loop L s')) (w.putObj g (.loop { r with state:=st,pending:=pe }))/\cJ ρ.S w (w.putObj g (.loop { r with state:=st,pending:=pe })):=by
 obtain⟨g,r,h1,h2,h3,h4,h5,h6,h7,h8⟩:=h.sat id _ ho
 refine⟨g,r,h1,h2,h3,h4,h5,h6,h7,h8,λst pe s' hst=> ?_⟩
 generalize hr':({ r with state:=st,pending:=pe }:Loop)=r'
 have hoth: ∀k,k≠g->(w.putObj g (.loop r')).heap[k]? =w.heap[k]? := λk hk=>World.putObj_heap_other hk
 have hself:(w.putObj g (.loop r')).heap[g]? =some (.loop r'):=World.putObj_heap_same (bG h2)
 have hcell: ∀k i,(w.putObj g (.loop r')).cell? ⟨k,i,none⟩=w.cell? ⟨k,i,none⟩:=by
  intro k i
  by_cases e:k=g
  ·subst e;unfold World.cell?;simp only [hself,h2]
  ·exact World.cell?_of_block (w:=w) (hoth k e)
 have hk:cJ ρ.S w (w.putObj g (.loop r')):= λk i _=>hcell k i
 have hat: ∀i o,aT (gQ hp id (.loop L s')) i=some o-> ∃o',aT hp i=some o'/\ρ.at i o=ρ.at i o':=by
  intro i o hi
  rw [bN _ ho]at hi
  by_cases e:i=id
  ·subst e;simp at hi;subst hi;exact⟨_,ho,rfl⟩
  ·simp [e]at hi;exact⟨o,hi,rfl⟩
 refine⟨⟨h.os,h.tape,h.output,by simpa using h.size, ?_,h.sold,h.snew,by simpa using h.slt,h.kp.trans h.sold hk, ?_, ?_, ?_,h.mv, ?_, ?_⟩,hk⟩
 ·intro b hb hB
  rw [hoth b ?_]
  ·exact h.old b hb hB
  ·rintro rfl
   rcases h.hb id _ b ho h1 with hge|hB'
   ·omega
   ·exact hB hB'
 ·intro i o hi
  rw [bN _ ho]at hi
  by_cases e:i=id
  ·subst e
   simp at hi
   subst hi
   refine⟨g,r',h1,hself,by rw [<-hr'];exact h3,by rw [<-hr'];exact h4,by rw [<-hr'];exact h5,by rw [<-hr'];exact h6, ?_,by rw [<-hr'];exact hst⟩
   rw [<-hr']
   have hm7:=h7.mono (ρ':=ρ) hk (λ_ _ x=>x) λi _=>ρ.moved_refl i
   rw [<-hr']at hm7
   exact hm7
  ·simp [e]at hi
   refine(h.sat i o hi).keep hk (λ_ _ x=>x) (λj _=>ρ.moved_refl j) ⟨rfl,rfl⟩ ?_ (λ_ _ _ x=>x)
   rintro b (hb'|⟨hb',hrd⟩)
   ·exact hoth b λe'=>e (h.inj i o id _ b hi ho hb' (by rw [e'];exact h1))
   ·exact hoth b λe'=>h.ro i _ b hi hrd hb' id _ ho (by rw [e'];exact h1)
 ·intro i o i' o' b hi hi' hb1 hb2
  obtain⟨o1,k1,e1⟩:=hat i o hi
  obtain⟨o2,k2,e2⟩:=hat i' o' hi'
  exact h.inj i o1 i' o2 b k1 k2 (e1 ▸ hb1) (e2 ▸ hb2)
 ·intro i o b hi hb1
  obtain⟨o1,k1,e1⟩:=hat i o hi
  exact h.hb i o1 b k1 (e1 ▸ hb1)
 ·intro i oR b hi hrd hb1 i' o' hi' hb2
  have hi0:aT hp i=some oR:=by
   rw [bN _ ho]at hi
   by_cases e:i=id
   ·subst e;simp at hi;subst hi;exact hrd.elim
   ·simpa [e]using hi
  obtain⟨o2,k2,e2⟩:=hat i' o' hi'
  exact h.ro i _ b hi0 hrd hb1 i' o2 k2 (e2 ▸ hb2)
 ·intro b hb
  rw [hoth b ?_]
  ·exact h.md b hb
  ·rintro rfl
   have:=h.md b hb
   rw [h2]at this;cases this
theorem Mem.newLoop {E:Entry}{ρ:Env}{hp:Hp}{w:World}(h:Mem E ρ hp w) {id:Nat}{L:LoopI}{r:Loop}(hid:id∉tK hp) (hpin:id∉E.pin) (hfid:id∉gR L.fr) (h3:r.params=L.ps) (h4:r.assign=L.assign) (h5:r.body=L.body) (h6:r.tmps.size=L.nt)
  (h7:dH ρ w L.fr r.tmps) (h8:(r.state,r.pending)=LoopAt.ready.state):
  Mem E (ρ.upd id w.heap.size) ((id, .loop L .ready)::hp) (w.alloc (.loop r))/\cJ ρ.S w (w.alloc (.loop r))/\ ∀i,i≠id->ρ.moved (ρ.upd id w.heap.size) i:=by
 have hg:=Grew.alloc w (.loop r)
 have hk:cJ ρ.S w _:=hg.keeps h.slt
 have hmv: ∀i,i≠id->ρ.moved (ρ.upd id w.heap.size) i:= λi hi=>ρ.moved_upd hi
 have hat: ∀i o,i≠id->(ρ.upd id w.heap.size).at i o=ρ.at i o:=by
  intro i o hi
  cases o<;>simp [Env.at,Env.upd,hi]
 have hget: ∀i o,aT ((id,HObj.loop L .ready)::hp) i=some o->(i=id/\o= .loop L .ready)\/(i≠id/\aT hp i=some o):=by
  intro i o ho
  by_cases e:i=id
  ·subst e;simp [aT]at ho;exact .inl ⟨rfl,ho.symm⟩
  ·rw [dE (λh=>e h.symm)]at ho;exact .inr ⟨e,ho⟩
 refine⟨⟨h.os,h.tape,h.output,by have:=h.size;simp;omega, ?_,h.sold,h.snew, ?_,h.kp.trans h.sold hk, ?_, ?_, ?_, ?_, ?_,λb hb=>(hg.block b (bG (h.md b hb))).trans (h.md b hb)⟩,hk,hmv⟩
 ·exact λb hb hB=>(hg.block b (Nat.lt_of_lt_of_le hb h.size)).trans (h.old b hb hB)
 ·intro b i hs;have:=h.slt b i hs;simp;omega
 ·intro i o ho
  rcases hget i o ho with⟨rfl,rfl⟩|⟨e,ho'⟩
  ·refine⟨w.heap.size,r,by simp [Env.upd],World.alloc_heap_new w _,h3,h4,h5,h6,h7.mono hk (λ_ _ x=>x) λj hj=>hmv j λe=>hfid (e ▸ hj),h8⟩
  ·refine(h.sat i o ho').keep hk (λ_ _ x=>x) ?_ ⟨rfl,rfl⟩ ?_ (λ_ _ _ x=>x)
   ·rintro j hj
    exact hmv j λe'=>hid (e' ▸ bV ho' hj)
   ·rintro g (hg'|⟨hg',hrd⟩)
    ·exact hg.block g (h.blk_lt ho' hg')
    ·exact hg.block g (h.ro_lt ho' hrd hg')
 ·intro i o i' o' g ho ho' hg1 hg2
  rcases hget i o ho with⟨rfl,rfl⟩|⟨e,ho1⟩
  ·rcases hget i' o' ho' with⟨rfl,rfl⟩|⟨e',ho1'⟩
   ·rfl
   ·rw [hat i' o' e']at hg2
    have hlt:=h.blk_lt ho1' hg2
    simp [Env.at,Env.upd]at hg1
    omega
  ·rw [hat i o e]at hg1
   rcases hget i' o' ho' with⟨rfl,rfl⟩|⟨e',ho1'⟩
   ·have hlt:=h.blk_lt ho1 hg1
    simp [Env.at,Env.upd]at hg2
    omega
   ·rw [hat i' o' e']at hg2
    exact h.inj i o i' o' g ho1 ho1' hg1 hg2
 ·intro i o g ho hg1
  rcases hget i o ho with⟨rfl,rfl⟩|⟨e,ho1⟩
  ·simp [Env.at,Env.upd]at hg1
   have:=h.size;omega
  ·rw [hat i o e]at hg1
   exact h.hb i o g ho1 hg1
 ·exact λi hi=>Env.moved_trans (h.mv i hi) (hmv i λe=>hpin (e ▸ hi))
 ·intro i oR g ho hrd hg1 i' o' ho' hg2
  rcases hget i _ ho with⟨_,hc⟩|⟨e,ho1⟩
  ·rw [hc]at hrd;exact hrd.elim
  ·have hg1':ρ.blk i=some g:=by simpa [Env.upd,e]using hg1
   rcases hget i' o' ho' with⟨rfl,rfl⟩|⟨e',ho1'⟩
   ·have:=h.ro_lt ho1 hrd hg1'
    simp [Env.at,Env.upd]at hg2
    omega
   ·rw [hat i' o' e']at hg2
    exact h.ro i _ g ho1 hrd hg1' i' o' ho1' hg2
def aP9 (fr:Fr) (lid:Nat) (K:Ex->Fr->Hp->Prop) (_:SV) (hp:Hp):Prop:=
 match aT hp lid with
 |some (.loop _ .ready)=>aC3 hp lid λhp'=>K .normal fr hp'
 |some (.loop _ (.done .ret))=>aC3 hp lid λhp'=>K .ret fr hp'
 |some (.loop _ (.done (.exit i)))=>aC3 hp lid λhp'=>K (.exit i) fr hp'
 |some (.loop _ (.done (.goto l)))=>aC3 hp lid λhp'=>K (.goto l) fr hp'
 |_=>aI "range: the loop's record"
def aKk (rd:Option Nat) (hp:Hp):Prop:=
 match rd with
 |none=>True
 |some i=>(match aT hp i with|some (.loop _ _)=>True|_=>aI "range: in a round of an unknown loop")
theorem aHc {C:Cfg}{g:Operand}{ps:Array Tmp}{assign body:Code}{fr:Fr}{hp:Hp}{K:Ex->Fr->Hp->Prop}(lid:Nat) (hfr:jT lid C.pin fr hp) (hin:aKk C.rd hp)
  (h : ev fr g λs => match aOv s with
   |some (gf,first,cap)=>dR C.P gf=true/\aJ C.P C.pin.calm ((C.nt, .yld lid)::fr) ((lid, .loop ⟨C.nt,ps,assign,body,fr⟩ .ready)::hp) gf (first++[.yld lid]++cap) (aP9 fr lid K)
   |none=>aI "range: no function"):aN C (.rangeFunc g ps assign body) fr hp K:=by
 intro E a w hpin hrd hsat
 obtain⟨s,hs,hv⟩:=cX h
 split at hv
 ·rename_i gf first cap hfn
  obtain⟨hcall,hv⟩:=hv
  obtain⟨h1,h2,ρ,h3,h4⟩:=hsat
  obtain⟨f1,f2,f3⟩:=hfr
  obtain⟨fv,cv,eg,a1,a2⟩:=xY hfn (bB h4 hs)
  -- from the world in which the record lies
  have main: ∀(E1:Entry) (ρ1:Env) (W1:World) (l:Nat) (mark:List Deferred) (r:Loop),Ext E E1->a.defers=(E.D.take E.k).map uP++E.pin.pre->mark++a.defers=(E1.D.take E1.k).map uP++E1.pin.pre->ρ1.blk lid=some l->
    Mem E1 ρ1 ((lid, .loop ⟨C.nt,ps,assign,body,fr⟩ .ready)::hp) W1->dH ρ1 W1 fr a.tmps->cU W1 ρ1 first fv->cU W1 ρ1 cap cv->
    CallsIn (FW E.rd) 0 C.P gf (fv++ #[.func (.yield l) #[] #[]]++cv) W1 (rangePost (FW E.rd) 0 C.P l (lQ C E K) { a with defers:=mark++a.defers }):=by
   intro E1 ρ1 W1 l mark r hE _ hmark hl hm1 hf1 b1 b2
   refine lO.2 ?_
   have hfs:dH ρ1 W1 ((C.nt, .yld lid)::fr) (a.tmps.push (.func (.yield l) #[] #[])):=by
    intro t s ht
    simp only [gO]at ht
    by_cases e:C.nt=t
    ·subst e
     simp at ht
     subst ht
     exact⟨_,by rw [<-h1];simp, .yld lid l hl⟩
    ·simp [e]at ht
     obtain⟨v,q1,q2⟩:=hf1 t s ht
     have:=(Array.getElem?_eq_some_iff.1 q1).1
     refine⟨v, ?_,q2⟩
     rw [Array.getElem?_push_lt this]
     rw [Array.getElem?_eq_getElem this]at q1
     exact q1
   have hargs:cU W1 ρ1 (first++[.yld lid]++cap) (fv++ #[.func (.yield l) #[] #[]]++cv):=by
    refine(b1.append ⟨rfl, ?_⟩).append b2
    intro j s v hs' hv'
    cases j with
    |zero=>simp at hs' hv';subst hs';subst hv';exact .yld lid l hl
    |succ j=>simp at hs'
   refine(hv { E1 with pin:=E1.pin.calm } ρ1 W1 _ (by rw [hE.pin.trans hpin]) hm1.calm hfs _ hargs).mono ?_
   rintro e w' (⟨v,ρ',s',hp',rfl,hk,hm',hf',_⟩|⟨_,_,_,_,_,q,_⟩)
   case inr=>exact q.elim
   replace hm':=hm'.uncalm
   -- the loop's record, as it is now
   have hl':ρ'.blk lid=some l:=by
    obtain⟨u,q1,q2⟩:=hf' C.nt (.yld lid) (by simp [gO])
    obtain⟨l',q3,q4⟩:=q2.yld_inv
    rw [q4,<-h1]at q1
    simp at q1
    rw [q3,<-q1]
   have hf'':dH ρ' w' fr a.tmps:=by
    intro t s ht
    by_cases e:C.nt=t
    ·subst e
     obtain⟨v,q1,_⟩:=h4 C.nt s ht
     have:=(Array.getElem?_eq_some_iff.1 q1).1
     omega
    ·obtain⟨v,q1,q2⟩:=hf' t s (by simp [gO,e];exact ht)
     refine⟨v, ?_,q2⟩
     obtain⟨u,q3,_⟩:=h4 t s ht
     have:=(Array.getElem?_eq_some_iff.1 q3).1
     rw [Array.getElem?_push_lt this]at q1
     rw [Array.getElem?_eq_getElem this]
     exact q1
   have leave: ∀(L:LoopI) (st:LoopAt),aT hp' lid=some (.loop L st)->st≠ .busy-> ∃W4,(Instr.endLoop l).run C.P w'= .ok st.state.2 W4/\Mem E1 ρ' (aG9 hp' lid) W4/\dH ρ' W4 fr a.tmps:=by
    intro L st hget hst
    obtain⟨g',r',q1,q2,q3,q4,q5,q6,q7,q8⟩:=hm'.sat lid _ hget
    rw [hl']at q1;injection q1 with q1;subst q1
    have hb:r'.state≠ .busy:=by
     have:r'.state=st.state.1:=by rw [<-q8]
     rw [this]
     cases st<;>simp [LoopAt.state]
     exact hst rfl
    have hpe:r'.pending=st.state.2:=by rw [<-q8]
    have hnew:E1.w.heap.size<=l\/E1.B l:=hm'.hb lid _ l hget hl'
    have hat: ∀id x,aT (aG9 hp' lid) id=some x->ρ'.at id x≠some l:=by
     intro id x hx hat
     rw [sR]at hx
     split at hx
     ·cases hx
     ·rename_i hne
      exact hne (hm'.inj id x lid _ l hx hget hat hl')
    refine⟨w'.putObj l (.loop { r' with state:= .exhausted }),by rw [<-hpe];exact run_endLoop (P:=C.P) q2 hb, ?_⟩
    have hdel:=hm'.del lid
    have hkeep:cJ ρ'.S w' (w'.putObj l (.loop { r' with state:= .exhausted })):=by
     intro k i _
     by_cases e:k=l
     ·subst e
      have h1:=World.putObj_heap_same (w:=w') (r:=k) (o:= .loop { r' with state:= .exhausted }) (bG q2)
      unfold World.cell?
      simp only [h1,q2]
     ·exact World.cell?_of_block (w:=w') (World.putObj_heap_other e)
    refine⟨?_,hf''.mono hkeep (λ_ _ x=>x) λi _=>ρ'.moved_refl i⟩
    have hoth: ∀k,k≠l->(w'.putObj l (.loop { r' with state:= .exhausted })).heap[k]? =w'.heap[k]? := λk hk=>World.putObj_heap_other hk
    refine⟨hdel.os,hdel.tape,hdel.output,by simpa using hdel.size, ?_,hdel.sold,hdel.snew,by simpa using hdel.slt,hdel.kp.trans hdel.sold hkeep, ?_,hdel.inj,hdel.hb,hdel.mv,hdel.ro, ?_⟩
    ·intro b hb' hB
     rw [hoth b ?_]
     ·exact hdel.old b hb' hB
     ·rintro rfl
      rcases hnew with hge|hB'
      ·omega
      ·exact hB hB'
    ·intro id x hx
     refine(hdel.sat id x hx).keep hkeep (λ_ _ x=>x) (λi _=>ρ'.moved_refl i) ⟨rfl,rfl⟩ ?_ (λ_ _ _ x=>x)
     rintro b (hb'|⟨hb',hrd⟩)
     ·exact hoth b λe=>hat id x hx (e ▸ hb')
     ·refine hoth b λe=> ?_
      subst e
      rw [sR]at hx
      split at hx
      ·cases hx
      ·exact hm'.ro id x _ hx hrd hb' lid _ hget hl'
    ·intro b hb'
     rw [hoth b ?_]
     ·exact hdel.md b hb'
     ·rintro rfl
      have:=hdel.md b hb'
      rw [q2]at this;cases this
   have hsat': ∀W4,Mem E1 ρ' (aG9 hp' lid) W4->dH ρ' W4 fr a.tmps->Sat E1 C.nt ⟨fr,aG9 hp' lid⟩ { a with defers:=mark++a.defers } W4:= λW4 m f=>⟨h1,hmark,ρ',m,f⟩
   unfold aP9 at hk
   split at hk
   ·rename_i L hget
    rw [sZ]at hk
    obtain⟨W4,r1,r2,r3⟩:=leave L _ hget (by simp)
    exact⟨none,W4,r1, .normal,fr,_,E1,hE,trivial,hk,hsat' W4 r2 r3⟩
   ·rename_i L hget
    rw [sZ]at hk
    obtain⟨W4,r1,r2,r3⟩:=leave L _ hget (by simp)
    exact⟨some .ret,W4,r1,wpIn_ret ⟨.ret,fr,_,E1,hE,trivial,hk,hsat' W4 r2 r3⟩⟩
   ·rename_i L i hget
    rw [sZ]at hk
    obtain⟨W4,r1,r2,r3⟩:=leave L _ hget (by simp)
    exact⟨some (.exit i),W4,r1,wpIn_exit ⟨.exit i,fr,_,E1,hE,rfl,hk,hsat' W4 r2 r3⟩⟩
   ·rename_i L i hget
    rw [sZ]at hk
    obtain⟨W4,r1,r2,r3⟩:=leave L _ hget (by simp)
    exact⟨some (.goto i),W4,r1,wpIn_goto ⟨.goto i,fr,_,E1,hE,rfl,hk,hsat' W4 r2 r3⟩⟩
   ·exact hk.elim
  refine wpIn_rangeFunc ?_
  intro fn _
  have hres: ∀(l:Nat) (W:World),(resolve a.eval (rangeCall g l) 0).run C.P W= .ok { target:= .fn (.func gf) cv,args:=fv++ #[.func (.yield l) #[] #[]] } W:=by
   intro l W
   have e1:Array.map a.eval #[Operand.const (Value.func (Fn.yield l) #[] #[])]= #[Value.func (Fn.yield l) #[] #[]]:=by simp [Act.eval]
   simp only [resolve,eg,Deferred.ofValue,Sem.run_pure,e1]
  have hinv: ∀(l:Nat) (W:World),(invoke (.fn (.func gf) cv) (fv++ #[.func (.yield l) #[] #[]])).run C.P W= .ok (.enter gf (fv++ #[.func (.yield l) #[] #[]]++cv)) W:=by
   intro l W
   unfold dR at hcall
   split at hcall
   ·rename_i fn hfn'
    simp only [Bool.and_eq_true,Bool.not_eq_true']at hcall
    obtain⟨c1,c2⟩:=hcall
    have c3:fn.body.isNone=false:=by cases hb:fn.body<;>simp_all
    simp only [invoke,callFunc,Sem.run_bind,Sem.run_pure,Result.andThen_ok,run_program,hfn',c2,c3,Bool.false_eq_true,if_false]
   ·cases hcall
  have mono2: ∀{l:List SV} {vs:Array Value} {ρ1:Env} {W1:World},cU w ρ l vs->cJ ρ.S w W1->(∀b i,ρ.S b i->ρ1.S b i)->(∀id∈SV.idsL l,ρ.moved ρ1 id)->cU W1 ρ1 l vs:=by
   intro l vs ρ1 W1 hA hk hS hmv
   exact⟨hA.1,λj s v hs hv=>(hA.2 j s v hs hv).mono hk hS λid hid=>hmv id (SV.mem_idsL hs hid)⟩
  have hidf:lid∉SV.idsL first/\lid∉SV.idsL cap:=by
   have hsid: ∀id,id∈SV.idsL first\/id∈SV.idsL cap->id∈s.ids:=by
    intro id hid
    unfold aOv at hfn
    split at hfn
    ·simp at hfn
     obtain⟨_,rfl,rfl⟩:=hfn
     simp only [SV.ids,List.mem_append];exact hid
    ·simp at hfn
     obtain⟨_,rfl,rfl⟩:=hfn
     simp [SV.idsL]at hid
    ·cases hfn
   have hnot:lid∉s.ids:=by
    intro hm
    cases g with
    |tmp t=>exact f2 (xS hs hm)
    |const v=>
     simp only [evO,Option.some.injEq]at hs
     subst hs
     have hno:(ofV v).ids=[]:=by
      unfold ofV
      split<;>first|rfl|(split<;>rfl)
     rw [hno]at hm;cases hm
    |global=>simp [evO]at hs
    |func f=>
     simp only [evO,Option.some.injEq]at hs
     subst hs
     simp [SV.ids,SV.idsL]at hm
   exact⟨λh=>hnot (hsid lid (.inl h)),λh=>hnot (hsid lid (.inr h))⟩
  cases hr0:E.rd with
  |none=>
   -- an outermost loop
   have hg1:=Grew.alloc w (.deferred (some []))
   obtain⟨m1,m2⟩:=h3.grow_same hg1
   have hDlt: ∀b∈E.D,b < w.heap.size:= λb hb=>bG (h3.md b hb)
   have hm1:Mem { E with D:=w.heap.size::E.D,k:=E.k+1 } ρ hp (w.alloc (.deferred (some []))):=by
    refine⟨m1.os,m1.tape,m1.output,m1.size,m1.old,m1.sold,m1.snew,m1.slt,m1.kp,m1.sat,m1.inj,m1.hb,m1.mv,m1.ro, ?_⟩
    intro b hb
    rcases List.mem_cons.1 hb with rfl|hb
    ·exact World.alloc_heap_new w _
    ·exact m1.md b hb
   have hsz:(w.alloc (.deferred (some []))).heap.size=w.heap.size+1:=by simp
   obtain⟨n1,n2,n3⟩:=hm1.newLoop (id:=lid) (L:=⟨C.nt,ps,assign,body,fr⟩) (r:={ state:= .ready,pending:=none,fn,tmps:=a.tmps,params:=ps,assign,body,defers:=w.heap.size }) f3 (by rw [hpin];exact f1) f2 rfl rfl rfl h1 (m2 fr _ h4) rfl
   have hE1 : Ext E { E with D := w.heap.size :: E.D, k := E.k + 1 } := ⟨rfl, rfl, rfl, rfl, rfl, rfl, [w.heap.size], rfl, by simp; omega, by simp, λb hb => by
    simp at hb;subst hb
    exact⟨h3.size,λhm=>by have:=hDlt _ hm;omega⟩⟩
   have kk:cJ ρ.S w ((w.alloc (.deferred (some []))).alloc (.loop { state:= .ready,pending:=none,fn,tmps:=a.tmps,params:=ps,assign,body,defers:=w.heap.size })):=(hg1.keeps h3.slt).trans (λ_ _ x=>x) n2
   refine⟨w.heap.size+1,[{ target:= .collected w.heap.size,args:= #[] }],(w.alloc (.deferred (some []))).alloc (.loop { state:= .ready,pending:=none,fn,tmps:=a.tmps,params:=ps,assign,body,defers:=w.heap.size }),{ target:= .fn (.func gf) cv,args:=fv++ #[.func (.yield (w.heap.size+1)) #[] #[]] },(w.alloc (.deferred (some []))).alloc (.loop { state:= .ready,pending:=none,fn,tmps:=a.tmps,params:=ps,assign,body,defers:=w.heap.size }),gf,fv++ #[.func (.yield (w.heap.size+1)) #[] #[]]++cv,(w.alloc (.deferred (some []))).alloc (.loop { state:= .ready,pending:=none,fn,tmps:=a.tmps,params:=ps,assign,body,defers:=w.heap.size }), ?_,hres _ _,λ_ _=>trivial,hinv _ _,λh=>(by cases h), ?_⟩
   ·show (Instr.enterLoop fn a.tmps ps assign body none).run C.P w=_
    exact run_enterLoop_outer _ _ _ _ _
   ·have:=main { E with D:=w.heap.size::E.D,k:=E.k+1 } (ρ.upd lid (w.alloc (.deferred (some []))).heap.size) _ (w.heap.size+1) [{ target:= .collected w.heap.size,args:= #[] }] default hE1 h2 (by rw [h2];simp [uP]) (by rw [hsz];simp [Env.upd]) n1
     (h4.mono kk (λ_ _ x=>x) λi hi=>n3 i λe=>f2 (e ▸ hi))
     (mono2 a1 kk (λ_ _ x=>x) λi hi=>n3 i λe=>hidf.1 (e ▸ hi)) (mono2 a2 kk (λ_ _ x=>x) λi hi=>n3 i λe=>hidf.2 (e ▸ hi))
    rw [hr0]at this
    exact this
  |some l0=>
   -- a loop within a round
   obtain⟨r0,hr0'⟩: ∃r0,w.heap[l0]? =some (.loop r0):=by
    cases hc:C.rd with
    |none=>rw [hc]at hrd;simp only [aRg]at hrd;rw [hr0]at hrd;cases hrd
    |some i=>
     rw [hc]at hrd hin
     obtain⟨hi1,hi2,hi3⟩:=hrd
     simp only [aKk]at hin
     split at hin
     ·rename_i L0 s0 hget
      obtain⟨g',r',q1,q2,_⟩:=h3.sat i _ hget
      have hmv:=(h3.mv i hi1).1
      rw [hi2,hr0]at hmv
      rw [hmv]at q1
      injection q1 with q1
      subst q1
      exact⟨r',q2⟩
     ·exact hin.elim
   obtain⟨n1,n2,n3⟩:=h3.newLoop (id:=lid) (L:=⟨C.nt,ps,assign,body,fr⟩) (r:={ state:= .ready,pending:=none,fn,tmps:=a.tmps,params:=ps,assign,body,defers:=r0.defers }) f3 (by rw [hpin];exact f1) f2 rfl rfl rfl h1 h4 rfl
   refine⟨w.heap.size,[],w.alloc (.loop { state:= .ready,pending:=none,fn,tmps:=a.tmps,params:=ps,assign,body,defers:=r0.defers }),{ target:= .fn (.func gf) cv,args:=fv++ #[.func (.yield w.heap.size) #[] #[]] },w.alloc (.loop { state:= .ready,pending:=none,fn,tmps:=a.tmps,params:=ps,assign,body,defers:=r0.defers }),gf,fv++ #[.func (.yield w.heap.size) #[] #[]]++cv,w.alloc (.loop { state:= .ready,pending:=none,fn,tmps:=a.tmps,params:=ps,assign,body,defers:=r0.defers }), ?_,hres _ _,λ_ _=>trivial,hinv _ _,λh=>(by cases h), ?_⟩
   ·show (Instr.enterLoop fn a.tmps ps assign body (some l0)).run C.P w=_
    exact run_enterLoop_inner hr0' _ _ _ _ _
   ·have:=main E (ρ.upd lid w.heap.size) _ w.heap.size [] default (.refl E) h2 (by simpa using h2) (by simp [Env.upd]) n1
     (h4.mono n2 (λ_ _ x=>x) λi hi=>n3 i λe=>f2 (e ▸ hi))
     (mono2 a1 n2 (λ_ _ x=>x) λi hi=>n3 i λe=>hidf.1 (e ▸ hi)) (mono2 a2 n2 (λ_ _ x=>x) λi hi=>n3 i λe=>hidf.2 (e ▸ hi))
    rw [hr0]at this
    exact this
 ·exact hv.elim
def aN1:Fr->List Nat->List SV->Fr
 |fr,p::ps,s::l=>aN1 (aH6 fr p s) ps l
 |fr,_,_=>fr
theorem aN0 {ρ:Env}{w:World}{nt:Nat}: ∀(ps:List Nat) (args:List SV) (vs:List Value) (fr:Fr) (tm:Array Value),args.length=ps.length->vs.length=ps.length->(∀p∈ps,p < nt)->tm.size=nt->dH ρ w fr tm->
  (∀(j:Nat) (s:SV) (v:Value),args[j]? =some s->vs[j]? =some v->Rep w ρ s v)->
  ((ps.zip vs).foldl (λ(tmps:Array Value) (x:Nat×Value)=>tmps.setIfInBounds x.1 x.2) tm).size=nt/\dH ρ w (aN1 fr ps args) ((ps.zip vs).foldl (λ(tmps:Array Value) (x:Nat×Value)=>tmps.setIfInBounds x.1 x.2) tm):=by
 intro ps
 induction ps with
 |nil=>intro args vs fr tm h1 h2 _ h4 h5 _;exact⟨h4,by cases args<;>exact h5⟩
 |cons p ps ih=>
  intro args vs fr tm h1 h2 h3 h4 h5 h6
  match args,vs,h1,h2 with
  |s::args,v::vs,h1,h2=>
   simp only [aN1,List.zip_cons_cons,List.foldl_cons]
   refine ih args vs _ _ (by simpa using h1) (by simpa using h2) (λq hq=>h3 q (List.mem_cons_of_mem _ hq)) (by simpa using h4) ?_ (λj s v hs hv=>h6 (j+1) s v (by simpa using hs) (by simpa using hv))
   intro t x hx
   rw [iL]at hx
   have hp:=h3 p (List.mem_cons_self ..)
   by_cases e:t=p
   ·subst e
    simp at hx
    subst hx
    exact⟨v,by rw [Array.getElem?_setIfInBounds_self_of_lt (by omega)],h6 0 s v rfl rfl⟩
   ·simp [e]at hx
    obtain⟨u,q1,q2⟩:=h5 t x hx
    exact⟨u,by rw [Array.getElem?_setIfInBounds_ne (λe'=>e e'.symm)];exact q1,q2⟩
def aJn (lid:Nat) (K:SV->Hp->Prop) (e:Ex) (_:Fr) (hp:Hp):Prop:=
 match aT hp lid with
 |some (.loop L .busy)=>
  (match e with
  | .normal=>fQ hp lid (.loop L .ready) λhp'=>K (.d (.bool true)) hp'
  | .ret=>fQ hp lid (.loop L (.done .ret)) λhp'=>K (.d (.bool false)) hp'
  | .exit i=>fQ hp lid (.loop L (.done (.exit i))) λhp'=>K (.d (.bool false)) hp'
  | .goto l=>fQ hp lid (.loop L (.done (.goto l))) λhp'=>K (.d (.bool false)) hp'
  | .pan=>False)
 |_=>aI "a round: the loop's record"
theorem aCg (frz:List Nat) {ti:TypeId->Option TI}(hti:dT P ti) {pin:Pin}{fr:Fr}{hp:Hp}{lid:Nat}{L:LoopI}{args:List SV}{K:SV->Hp->Prop}(keep:Nat->Bool) (off:Nat) (ho:aT hp lid=some (.loop L .ready))
  (hps:(args.length==L.ps.size && L.ps.toList.all λp=>decide (p < L.nt))=true)
  (hx : X ⟨P, ti, (pin ++ gR fr ++ [lid]).calm, L.nt, keep, off, some lid, false, frz⟩ L.assign (aN1 L.fr L.ps.toList args) hp λe fr1 hp1 => match e with
   | .normal => (match aT hp1 lid with
    |some (.loop L' .ready)=>fQ hp1 lid (.loop L' .busy) λhp2=>X ⟨P,ti,(pin++gR fr++[lid]).calm,L.nt,keep,off,some lid,false,frz⟩ L.body fr1 hp2 (aJn lid K)
    |_=>aI "a round: the loop's record")
   |_=>aI "a round: its variables"):YVC P pin fr hp lid args K:=by
 intro E ρ w tm hpin hm hf l vs hl hargs
 simp only [Bool.and_eq_true,beq_iff_eq,List.all_eq_true,decide_eq_true_eq]at hps
 obtain⟨g,r,q1,q2,q3,q4,q5,q6,q7,q8,_⟩:=hm.setLoop ho
 rw [hl]at q1;injection q1 with q1;subst q1
 have hsz:vs.size=r.params.size:=by rw [q3,hargs.1,hps.1]
 refine⟨r.fn,_,r.assign,r.body,run_yield q2 hsz,roundIn_of_wpIn trivial ?_⟩
 have hfold:((r.params.zip vs).foldl (λ(tmps:Array Value) (x:Tmp×Value)=>match x with|(t,a)=>tmps.setIfInBounds t a) r.tmps)=((L.ps.toList.zip vs.toList).foldl (λ(tmps:Array Value) (x:Nat×Value)=>tmps.setIfInBounds x.1 x.2) r.tmps):=by
  rw [<-Array.foldl_toList,Array.toList_zip,q3]
 obtain⟨p1,p2⟩:=aN0 (nt:=L.nt) L.ps.toList args vs.toList L.fr r.tmps (by simpa using hps.1) (by simpa using hsz.trans (by rw [q3])) hps.2 q6 q7 (λj s v hs hv=>hargs.2 j s v hs (by simpa using hv))
 rw [hfold]
 have hmE:=hm.enter (pin++gR fr++[lid]).calm (some l)
 have hrd:aRg (some lid) (cL w ρ hp (pin++gR fr++[lid]).calm (some l) E.D):=⟨by simp [cL],hl,rfl⟩
 have hsubpin: ∀id∈E.pin,id∈(pin++gR fr++[lid]).calm:= λid hid=>by rw [hpin]at hid;simp [hid]
 rw [q4]
 show L.assign.wpIn (FW (some l)) 0 P _ _ _
 refine wpIn_mono (oI (C:=⟨P,ti,(pin++gR fr++[lid]).calm,L.nt,keep,off,some lid,false,frz⟩) hti L.assign _ _ _ hx (cL w ρ hp (pin++gR fr++[lid]).calm (some l) E.D) _ w rfl hrd ⟨p1,rfl,ρ,hmE,p2⟩) ?_
 rintro e a1 w1 ⟨x,fr1,hp1,E1,hE1,hrel,hk,hnt1,hdf1,ρ1,hm1,hf1⟩
 have blk1: ∀{E':Entry} {ρ':Env} {hp':Hp} {w':World},Ext (cL w ρ hp (pin++gR fr++[lid]).calm (some l) E.D) E'->Mem E' ρ' hp' w'->ρ'.blk lid=some l:=by
  intro E' ρ' hp' w' hE hm'
  have:=(hm'.mv lid (by rw [hE.pin];simp [cL])).1
  rw [hE.ρ]at this
  exact this.trans hl
 cases x<;>cases e<;>simp only [Ex.rel]at hrel<;>try exact hk.elim
 simp only [KX]at hk
 split at hk
 ·rename_i L' hget
  rw [dQ]at hk
  obtain⟨g1,r1,s1,s2,s3,s4,s5,s6,s7,s8,s9⟩:=hm1.setLoop hget
  rw [blk1 hE1 hm1]at s1;injection s1 with s1;subst s1
  injection s8 with s8 s8'
  have hbusy:({ r1 with state:= .busy }:Loop)={ r1 with state:= .busy,pending:=none }:=by
   cases r1;simp only at s8';rw [s8']
  have hbr:=run_beginRound (P:=P) s2 s8
  rw [hbusy]at hbr
  obtain⟨m1,m2⟩:=s9 .busy none .busy rfl
  refine⟨_,hbr, ?_⟩
  rw [q5]
  show L.body.wpIn (FW (some l)) 0 P _ _ _
  have hX:=oI (C:=⟨P,ti,(pin++gR fr++[lid]).calm,L.nt,keep,off,some lid,false,frz⟩) hti L.body _ _ _ hk E1 a1 _ hE1.pin (hrd.ext hE1) ⟨hnt1,hdf1,ρ1,m1,hf1.mono m2 (λ_ _ x=>x) λi _=>ρ1.moved_refl i⟩
  rw [hE1.rd]at hX
  refine wpIn_mono hX ?_
  rintro e2 a2 w2 ⟨x2,fr2,hp2,E2,hE2,hrel2,hk2,_,_,ρ2,hm2,_⟩
  have hE12:=hE1.trans hE2
  have hk2:aJn lid K x2 fr2 hp2:=by
   cases x2<;>first|exact hk2|exact hk2.elim
  unfold aJn at hk2
  split at hk2
  ·rename_i L'' hget2
   obtain⟨g2,r2,t1,t2,t3,t4,t5,t6,t7,t8,t9⟩:=hm2.setLoop hget2
   rw [blk1 hE12 hm2]at t1;injection t1 with t1;subst t1
   have fin: ∀(jump:Option Code) (s':LoopAt) (b:Bool),((if jump.isNone then LoopState.ready else .done),jump)=s'.state->jump.isNone=b->K (.d (.bool b)) (gQ hp2 lid (.loop L'' s'))->
     ∃v w',(Instr.endRound l jump).run P w2= .ok v w'/\ ∃v_1 ρ' s hp',Ending.returned v= .returned v_1/\K s hp'/\Mem E ρ' hp' w'/\dH ρ' w' fr tm/\Rep w' ρ' s v_1:=by
    intro jump s' b hs' hb hK
    obtain⟨n1,n2⟩:=t9 _ _ s' hs'
    refine⟨_,_,run_endRound (P:=P) jump t2,_,ρ2, .d (.bool b),_,rfl,hK, ?_, ?_, ?_⟩
    ·refine hm.leave (pin:=(pin++gR fr++[lid]).calm) (rd:=some l) n1 ⟨hE12.w,hE12.S,hE12.B,hE12.pin,hE12.ρ,λb hb=> ?_⟩ hsubpin
     obtain⟨D',d1,_⟩:=hE12.D
     rw [d1];exact List.mem_append_right _ hb
    ·have kp:=n1.kp
     have sold:=n1.sold
     have mv:=n1.mv
     rw [hE12.w,hE12.S]at kp
     rw [hE12.S]at sold
     rw [hE12.pin,hE12.ρ]at mv
     exact hf.mono kp sold λid hid=>mv id (by simp [cL,hid])
    ·rw [hb];exact .d _ _ (.bool b)
   cases x2<;>cases e2<;>simp only [Ex.rel]at hrel2<;>simp only [dQ]at hk2
   ·exact fin none .ready true rfl rfl hk2
   ·subst hrel2;exact fin (some (.exit _)) (.done (.exit _)) false rfl rfl hk2
   ·subst hrel2;exact fin (some (.goto _)) (.done (.goto _)) false rfl rfl hk2
   ·exact fin (some .ret) (.done .ret) false rfl rfl hk2
  ·exact hk2.elim
 ·exact hk.elim
end
end Go.Proofs.YtleihcnongldbaaGreatDoor
namespace Go.Proofs.YtleihcnongldbaaGreatDoor
open Go.Proofs
set_option maxRecDepth 100000
theorem dwR {pin:Pin}{nt:Nat}{keep:Nat->Bool}{off:Nat}{rd:Option Nat}{zc:Bool}{frz:List Nat}{id:Nat}{l:List Oper}{fr:Fr}{hp:Hp}{K:Ex->Fr->Hp->Prop}(h:aA1 ⟨Tryz.prog,ty,pin,nt,keep,off,rd,zc,frz⟩ l (K .normal) l fr hp) (hm:(Tryz.prog).follows .mixedOrders=true:=by kernel_rfl) (hB:(Region.lexB .any l.toArray && mJ l)=true:=by kernel_rfl):aN ⟨Tryz.prog,ty,pin,nt,keep,off,rd,zc,frz⟩ (.region id l.toArray true) fr hp K:=aKw hty hm hB h
end Go.Proofs.YtleihcnongldbaaGreatDoor
namespace Go.Proofs.YtleihcnongldbaaGreatDoor
open Go.Proofs
section
variable {P:Program}
theorem aCp {f:FuncId}{args:List SV}{vs:Array Value}{r:D}{v:Value}(hv: ∀(w:World) (ρ:Env) (us:Array Value),cU w ρ args us->us=vs) (hr: ∀(w:World) (S:Nat->Nat->Prop),RepD w S r v)
  (h: ∀w,Calls P f vs w λe w'=>e= .returned v/\w'=w):Tri P f args [] (λs=>s= .d r):=by
 intro w ρ us hs ha _
 rw [hv w ρ us ha]
 refine(h w).mono ?_
 rintro e w' ⟨rfl,rfl⟩
 exact⟨v,ρ.S, .d r,rfl,rfl,Grew.refl _,λ_ _ h=>h,λ_ _ h=> .inl h,hs, .d _ _ (hr _ _)⟩
theorem aV6 {w:World}{ρ:Env}{a b:SV}{us:Array Value}(h:cU w ρ [a,b] us): ∃x y,us= #[x,y]/\Rep w ρ a x/\Rep w ρ b y:=by
 obtain⟨h1,h2⟩:=h
 match us,h1 with
 |⟨[x,y]⟩,_=>exact⟨x,y,rfl,h2 0 a x rfl rfl,h2 1 b y rfl rfl⟩
end
set_option maxRecDepth 100000 in
theorem xR (s:ByteArray) (c:Int) (w:World):
  Calls Tryz.prog 206 #[.string s, .int .u8 c] w λe w'=>e= .returned (.int .i64 (Lib.indexByte s.data.toList c.toNat.toUInt8))/\w'=w:=by
 go_enter Tryz.func206,Tryz.ntmps206
 go_wp2
 rw [run_callFunc_extern Tryz.func210 (by kernel_rfl) (by kernel_rfl) (by kernel_rfl) (e:=Extern.BytealgIndexByte.indexByte) (by kernel_rfl),Lib.run_indexByteString]
 simp only [Result.andThen]
 rw [Oper.upon_value]
 go_wp2
 go_ret
 exact⟨rfl,rfl⟩
set_option maxRecDepth 10000
attribute [local irreducible] aN aJ Tri aI
theorem qL (l:List UInt8) (c:UInt8):Tri Tryz.prog 206 [.d (.str l), .d (.int .u8 c.toNat)] [] (λs=>s= .d (.int .i64 (Lib.indexByte l c))):=by
 refine aCp (vs:= #[.string ⟨l.toArray⟩, .int .u8 c.toNat]) (v:= .int .i64 (Lib.indexByte l c)) ?_ (λ_ _=> .int _ _) (λw=> ?_)
 ·intro w ρ us h
  obtain⟨x,y,rfl,h1,h2⟩:=aV6 h
  rw [h1.str_inv.1,h2.int_inv]
 ·have:=xR ⟨l.toArray⟩ c.toNat w
  simpa using this
theorem vC (l:List UInt8) (c:UInt8):Tri Tryz.prog 205 [.d (.str l), .d (.str [c])] [] (λs=>s= .d (.int .i64 (Lib.indexByte l c))):=by
 refine aF hty Tryz.func205 rfl (kp [0,1,4,5,6,7,8,9,10,11,12,13,16,24,31,36,59,64,73,93,107,114,132,139]) [] _ _ _ (by simp [Tryz.f205]) (by simp) ?_
 ((conv=>whnf);repeat' ((first|(intro hq;(try simp only [lnS]at hq);(try rewrite [List.length_map]))|refine sJ ?_|refine .intro _ (.intro rfl ?_)|refine exL (k:= ?_)|(refine aD [] (qL l _) trivial (λs hs=> ?_);subst hs)|refine dwR ?_|((first|refine aB ?_ ?_|refine aC ?_ ?_)<;>intro hb<;>(first|exact ddX hb|try simp only [lnS]at hb))|(refine aA ?_ ?_<;>intro hb<;>try exact dsX hb))<;>(conv=>whnf)))
 ·subst hb;simp [Lib.indexByte,fD]
 ·rfl
theorem aQ {a b:Bool}(h:a=b):SV.d (.bool a)=SV.d (.bool b):=by rw [h]
theorem aBy (p l:List UInt8) (_:p.length<=l.length):decide (l.take p.length=p)=p.isPrefixOf l:=by
 rw [Bool.eq_iff_iff,decide_eq_true_eq,List.isPrefixOf_iff_prefix]
 constructor
 ·intro e;rw [<-e];exact List.take_prefix ..
 ·intro e;exact(List.prefix_iff_eq_take.1 e).symm
theorem xU (l p:List UInt8):Tri Tryz.prog 171 [.d (.str l), .d (.str p)] [] (λs=>s= .d (.bool (p.isPrefixOf l))):=by
 refine aF hty Tryz.func171 rfl (kp [0,1,4]) [] _ _ _ (by simp [Tryz.f171]) (by simp) ?_
 ((conv=>whnf);repeat' ((first|(intro hq;(try simp only [lnS]at hq);(try rewrite [List.length_map]))|refine sJ ?_|refine .intro _ (.intro rfl ?_)|refine exL (k:= ?_)|refine dwR ?_|((first|refine aB ?_ ?_|refine aC ?_ ?_)<;>intro hb<;>(first|exact ddX hb|try simp only [lnS]at hb))|(refine aA ?_ ?_<;>intro hb<;>try exact dsX hb))<;>(conv=>whnf)))
 ·exact aQ (aBy p l (by omega))
 ·refine aQ (Eq.symm ?_)
  rw [Bool.eq_false_iff]
  intro h
  have:=(List.isPrefixOf_iff_prefix.1 h).length_le
  omega
theorem qI (l p:List UInt8):Tri Tryz.prog 145 [.d (.str l), .d (.str p)] [] (λs=>s= .d (.bool (p.isPrefixOf l))):=by
 refine aF hty Tryz.func145 rfl (kp [0,1,4]) [] _ _ _ (by simp [Tryz.f145]) (by simp) ?_
 ((conv=>whnf);repeat ((first|(intro hq;try simp only [lnS]at hq)|refine sI ?_|refine .intro _ (.intro rfl ?_));(conv=>whnf)))
 refine aD [] (xU l p) trivial (λs hs=> ?_)
 subst hs
 ((conv=>whnf);repeat ((first|(intro hq;try simp only [lnS]at hq)|refine sI ?_|refine .intro _ (.intro rfl ?_));(conv=>whnf)))
 rfl
theorem uS: ∀(l:List UInt8) (c:UInt8),Lib.indexByte l c < l.length
 | [],_=>by simp [Lib.indexByte]
 |b::l,c=>by
  have:=uS l c
  unfold Lib.indexByte
  simp only [List.length_cons]
  split
  ·omega
  ·split<;>omega
def aO0 (l:List UInt8) (c:UInt8):List UInt8×List UInt8×Bool:=
 if 0<=Lib.indexByte l c then (l.take (Lib.indexByte l c).toNat,l.drop ((Lib.indexByte l c).toNat+1),true)else (l,[],false)
def aUz (r:List UInt8×List UInt8×Bool):SV:= .tup [.d (.str r.1), .d (.str r.2.1), .d (.bool r.2.2)]
theorem aB6 (l:List UInt8) (c:UInt8):Tri Tryz.prog 201 [.d (.str l), .d (.str [c])] [] (λs=>s=aUz (aO0 l c)):=by
 refine Tri.lenS 0 rfl (λhl=> ?_)
 refine aF hty Tryz.func201 rfl (kp [0,1,4,5,6,7,12]) [] _ _ _ (by simp [Tryz.f201]) (by simp) ?_
 ((conv=>whnf);repeat ((first|(intro hq;try simp only [lnS]at hq)|refine sI ?_|refine .intro _ (.intro rfl ?_));(conv=>whnf)))
 refine aD [] (vC l c) trivial (λs hs=> ?_)
 subst hs
 have hlt:=uS l c
 generalize hi:Lib.indexByte l c=i at hlt |-
 ((conv=>whnf);repeat' ((first|(intro hq;(try simp only [lnS]at hq);(try rewrite [List.length_map]))|refine sJ ?_|refine .intro _ (.intro rfl ?_)|refine exL (k:= ?_)|refine dwR ?_|((first|refine aB ?_ ?_|refine aC ?_ ?_)<;>intro hb<;>(first|exact ddX hb|try simp only [lnS]at hb))|(refine aA ?_ ?_<;>intro hb<;>try exact dsX hb))<;>(conv=>whnf)))
 ·rw [aO0,hi,if_pos hb]
  obtain⟨n,rfl⟩:=Int.eq_ofNat_of_zero_le hb
  simp only [aUz,fD,List.drop_zero,Int.toNat_natCast,List.length_cons,List.length_nil,List.take_length]
  rfl
 ·rw [aO0,hi,if_neg hb];rfl
theorem aNz (l:List UInt8) (c:UInt8):Tri Tryz.prog 189 [.d (.str l), .d (.str [c])] [] (λs=>s=aUz (aO0 l c)):=by
 refine aF hty Tryz.func189 rfl (kp [0,1,4,5,6]) [] _ _ _ (by simp [Tryz.f189]) (by simp) ?_
 ((conv=>whnf);repeat ((first|(intro hq;try simp only [lnS]at hq)|refine sI ?_|refine .intro _ (.intro rfl ?_));(conv=>whnf)))
 refine aD [] (aB6 l c) trivial (λs hs=> ?_)
 subst hs
 ((conv=>whnf);repeat ((first|(intro hq;try simp only [lnS]at hq)|refine sI ?_|refine .intro _ (.intro rfl ?_));(conv=>whnf)))
 rfl
end Go.Proofs.YtleihcnongldbaaGreatDoor
namespace Go.Proofs.YtleihcnongldbaaGreatDoor
open Go.Proofs
set_option maxRecDepth 10000
attribute [local irreducible] aN aJ Tri aI
def kws : List (List UInt8) := [[97, 110, 100],
 [115,111,109,101],
 [105,110],
 [116,111],
 [110,111,116,104,105,110,103],
 [101,118,101,114,121,116,104,105,110,103],
 [111,110,101],
 [111,102],
 [111,112,101,110],
 [112,114,105,118,97,116,101],
 [115,117,98],
 [115,97,109,101],
 [100,105,115,106,111,105,110,116],
 [100,111,109,97,105,110],
 [114,111,108,101],
 [99,104,97,105,110],
 [114,101,102,108,101,120,105,118,101],
 [116,121,112,101],
 [108,105,110,107],
 [115,101,108,101,99,116],
 [119,104,101,114,101],
 [111,114]]
def kwF (s:List UInt8):Bool:=decide (s∈kws)
theorem aD9 (s:List UInt8):Tri Tryz.prog 203 [.d (.str s)] [] (λr=>r= .d (.bool (kwF s))):=by
 refine aF hty Tryz.func203 rfl (kp [0,2,3,4]) [] _ _ _ (by simp [Tryz.f203]) (by simp) ?_
 ((conv=>whnf);repeat' ((first|(intro hq;try simp only [lnS]at hq)|refine sJ ?_|refine .intro _ (.intro rfl ?_)|refine exL (k:= ?_)|refine dwR ?_|((first|refine aB ?_ ?_|refine aC ?_ ?_)<;>intro hb<;>(first|exact ddX hb|try simp only [lnS]at hb))|(refine aA ?_ ?_<;>intro hb<;>try exact dsX hb))<;>(conv=>whnf)))
 all_goals first|(rename_i hb;subst hb;rfl)|skip
 have:kwF s=false:=by simp [kwF,kws, *]
 rw [this];rfl
end Go.Proofs.YtleihcnongldbaaGreatDoor
namespace Go.Proofs.YtleihcnongldbaaGreatDoor
open Go.Proofs
set_option maxRecDepth 10000
attribute [local irreducible] aN aJ Tri aI
def sK (c:UInt8):Bool:=decide (97<=c.toNat/\c.toNat<=122) || decide (65<=c.toNat/\c.toNat<=90)
def cZ (c:UInt8):Bool:=sK c || decide (c.toNat=95) || decide (48<=c.toNat/\c.toNat<=57)
def aI7 (c:UInt8):SV:= .d (.int .u8 c.toNat)
def bsv (l:List UInt8):D:= .sl 1 (l.map aM)
theorem sP (c:UInt8):Tri Tryz.prog 202 [aI7 c] [] (λr=>r= .d (.bool (sK c))):=by
 refine aF hty Tryz.func202 rfl (kp [0,2]) [] _ _ _ (by simp [Tryz.f202]) (by simp) ?_
 ((conv=>whnf);repeat' ((first|(intro hq;(try simp only [lnS]at hq);(try rewrite [List.length_map]))|refine sJ ?_|refine .intro _ (.intro rfl ?_)|refine exL (k:= ?_)|refine dwR ?_|((first|refine aB ?_ ?_|refine aC ?_ ?_)<;>intro hb<;>(first|exact ddX hb|try simp only [lnS]at hb))|(refine aA ?_ ?_<;>intro hb<;>try exact dsX hb))<;>(conv=>whnf)))
 all_goals (refine aQ (Bool.eq_iff_iff.2 ?_);simp only [sK,Bool.or_eq_true,decide_eq_true_eq,true_iff,false_iff,Bool.false_eq_true];omega)
theorem tG {α:Type}{p:α->Bool}{l:List α}{k:Nat}(h:k < l.length) (hp:p l[k]=false):l.all p=false:=by
 rw [List.all_eq_false]
 exact⟨l[k],List.getElem_mem h,by simp [hp]⟩
theorem oX {α:Type}{p:α->Bool}{l:List α}{k:Nat}(h:k < l.length) (hk:(l.take k).all p=true) (hp:p l[k]=true):(l.take (k+1)).all p=true:=by
 rw [List.take_succ_eq_append_getElem h,List.all_append,hk];simp [hp]
theorem xO (s:List UInt8):Tri Tryz.prog 194 [.d (.str s)] [] (λr=>r= .d (.bool (s.all cZ))):=by
 refine aF hty Tryz.func194 rfl (kp [0,2,4,6,7,8,9,26]) [] _ _ _ (by simp [Tryz.f194]) (by simp) ?_
 ((conv=>whnf);repeat ((first|(intro hq;try simp only [lnS]at hq)|refine sI ?_|refine .intro _ (.intro rfl ?_));(conv=>whnf)))
 refine aH hty (λk:Nat=>([(6, .d (bsv s)),(7, .d (.int .i64 s.length)),(8, .d (.int .i64 k))],[])) (λk=>k<=s.length/\(s.take k).all cZ=true) (λk=>s.length - k) 0 (by simp) ⟨by repeat' (first|exact trivial|exact rfl|(rw [List.length_map];exact rfl)|refine And.intro ?_ ?_),trivial⟩ ?_
 rintro k ⟨hk,hk2⟩
 ((conv=>whnf);repeat' ((first|(intro hq;(try simp only [lnS]at hq);(try rewrite [List.length_map]))|refine sJ ?_|refine .intro _ (.intro rfl ?_)|refine exL (k:= ?_)|(refine⟨_,rR (by first|omega|(simp only [List.length_map];omega)), ?_⟩)|(refine aD [] (sP _) trivial (λs hs=> ?_);subst hs)|refine dwR ?_|((first|refine aB ?_ ?_|refine aC ?_ ?_)<;>intro hb<;>(first|exact ddX hb|try simp only [lnS]at hb))|(refine aA ?_ ?_<;>intro hb<;>try exact dsX hb))<;>(conv=>whnf)))
 ·rename_i h0 h1 h2
  have hkl:k < s.length:=by omega
  have ht:cZ s[(k:Int).toNat]=false:=by
   simp only [Bool.not_eq_true']at h1
   simp only [cZ,h1,Bool.false_or,Bool.or_eq_false_iff,decide_eq_false_iff_not];omega
  rw [tG (k:=k) hkl ht];rfl
 ·rename_i h0 h1 h2 h3
  have hkl:k < s.length:=by omega
  have ht:cZ s[(k:Int).toNat]=false:=by
   simp only [Bool.not_eq_true']at h1
   simp only [cZ,h1,Bool.false_or,Bool.or_eq_false_iff,decide_eq_false_iff_not];omega
  rw [tG (k:=k) hkl ht];rfl
 ·have hkl:k < s.length:=by omega
  have ht:cZ s[(k:Int).toNat]=true:=by
   simp only [cZ,Bool.or_eq_true,decide_eq_true_eq];right;omega
  exact⟨k+1,⟨by omega,oX hkl hk2 ht⟩,by dsimp only;omega,⟨by repeat' (first|exact trivial|exact rfl|refine And.intro ?_ ?_),by repeat' (first|exact trivial|exact rfl|refine And.intro ?_ ?_)⟩⟩
 ·have hkl:k < s.length:=by omega
  have ht:cZ s[(k:Int).toNat]=true:=by
   simp only [cZ,Bool.or_eq_true,decide_eq_true_eq];left;right;omega
  exact⟨k+1,⟨by omega,oX hkl hk2 ht⟩,by dsimp only;omega,⟨by repeat' (first|exact trivial|exact rfl|refine And.intro ?_ ?_),by repeat' (first|exact trivial|exact rfl|refine And.intro ?_ ?_)⟩⟩
 ·have hkl:k < s.length:=by omega
  have ht:cZ s[(k:Int).toNat]=true:=by
   simp only [cZ,Bool.or_eq_true];left;left;simpa using hb
  exact⟨k+1,⟨by omega,oX hkl hk2 ht⟩,by dsimp only;omega,⟨by repeat' (first|exact trivial|exact rfl|refine And.intro ?_ ?_),by repeat' (first|exact trivial|exact rfl|refine And.intro ?_ ?_)⟩⟩
 ·rw [List.take_of_length_le (by omega)]at hk2
  rw [hk2];rfl
def vB (s:List UInt8):Bool:=match s with| []=>false|c::r=>sK c && ((c::r).all cZ && !kwF (c::r))
theorem aEz (s:List UInt8):Tri Tryz.prog 190 [.d (.str s)] [] (λr=>r= .d (.bool (vB s))):=by
 cases s with
 |nil=>
  refine aF hty Tryz.func190 rfl (kp [0,2]) [] _ _ _ (by simp [Tryz.f190]) (by simp) ?_
  ((conv=>whnf);repeat' ((first|(intro hq;(try simp only [lnS]at hq);(try rewrite [List.length_map]))|refine sJ ?_|refine .intro _ (.intro rfl ?_)|refine exL (k:= ?_)|refine dwR ?_|((first|refine aB ?_ ?_|refine aC ?_ ?_)<;>intro hb<;>(first|exact ddX hb|try simp only [lnS]at hb))|(refine aA ?_ ?_<;>intro hb<;>try exact dsX hb))<;>(conv=>whnf)))
  rfl
 |cons c r=>
  refine aF hty Tryz.func190 rfl (kp [0,2]) [] _ _ _ (by simp [Tryz.f190]) (by simp) ?_
  ((conv=>whnf);repeat' ((first|(intro hq;(try simp only [lnS]at hq);(try rewrite [List.length_map]))|refine sJ ?_|refine .intro _ (.intro rfl ?_)|refine exL (k:= ?_)|(refine aD [] (sP _) trivial (λs hs=> ?_);subst hs)|(refine aD [] (xO _) trivial (λs hs=> ?_);subst hs)|(refine aD [] (aD9 _) trivial (λs hs=> ?_);subst hs)|refine dwR ?_|((first|refine aB ?_ ?_|refine aC ?_ ?_)<;>intro hb<;>(first|exact ddX hb|try simp only [lnS]at hb))|(refine aA ?_ ?_<;>intro hb<;>try exact dsX hb))<;>(conv=>whnf)))
  ·rename_i h0
   have h0':sK c=true:=h0
   exact aQ (by simp only [vB,h0',hb,Bool.true_and])
  ·rename_i h0
   have h0':sK c=true:=h0
   exact aQ (by simp only [vB,h0',hb,Bool.true_and,Bool.false_and])
  ·have h0':sK c=false:=hb
   exact aQ (by simp only [vB,h0',Bool.false_and])
def aBe (s:List UInt8):Bool:=decide (2<=s.length) && (decide (s.length<=24) && (decide (s.head?=some 95) && s.all cZ))
theorem aG4 {s:List UInt8}(h:2<=(s.length:Int)):decide (s.head?=some 95)=decide (s[Int.toNat 0]'(by omega)=95):=by
 match s,h with
 |c::r,_=>simp
theorem u95 {c:UInt8}(h:(c.toNat:Int)=95):c=95:=by
 have h9:(95:UInt8).toNat=95:=by decide
 exact UInt8.toNat_inj.1 (by omega)
theorem oF (s:List UInt8):Tri Tryz.prog 170 [.d (.str s)] [] (λr=>r= .d (.bool (aBe s))):=by
 refine aF hty Tryz.func170 rfl (kp [0,2]) [] _ _ _ (by simp [Tryz.f170]) (by simp) ?_
 ((conv=>whnf);repeat' ((first|(intro hq;(try simp only [lnS]at hq);(try rewrite [List.length_map]))|refine sJ ?_|refine .intro _ (.intro rfl ?_)|refine exL (k:= ?_)|(refine aD [] (xO _) trivial (λs hs=> ?_);subst hs)|refine dwR ?_|((first|refine aB ?_ ?_|refine aC ?_ ?_)<;>intro hb<;>(first|exact ddX hb|try simp only [lnS]at hb))|(refine aA ?_ ?_<;>intro hb<;>try exact dsX hb))<;>(conv=>whnf)))
 ·have h2:2<=(s.length:Int):=by omega
  refine aQ ?_
  rw [aBe,aG4 h2,u95 hb]
  simp only [show 2<=s.length from by omega,show s.length<=24 from by omega,decide_true,Bool.true_and]
 ·have h2:2<=(s.length:Int):=by omega
  refine aQ ?_
  rw [aBe,aG4 h2]
  have:¬ s[Int.toNat 0]'(by omega)=95:= λe=>hb (by rw [e];rfl)
  simp only [this,decide_false,Bool.false_and,Bool.and_false]
 ·refine aQ ?_
  rw [aBe]
  simp only [show ¬ s.length<=24 from by omega,decide_false,Bool.false_and,Bool.and_false]
 ·refine aQ ?_
  rw [aBe]
  simp only [show ¬ 2<=s.length from by omega,decide_false,Bool.false_and]
def dD (s:List UInt8):Bool:=decide (s.length<=24) && (vB (aO0 s 58).1 && (!(aO0 s 58).2.2 || vB (aO0 s 58).2.1))
theorem jD (s:List UInt8):Tri Tryz.prog 163 [.d (.str s)] [] (λr=>r= .d (.bool (dD s))):=by
 refine aF hty Tryz.func163 rfl (kp [0,2,3,4,5,8]) [] _ _ _ (by simp [Tryz.f163]) (by simp) ?_
 ((conv=>whnf);repeat' ((first|(intro hq;(try simp only [lnS]at hq);(try rewrite [List.length_map]))|refine sJ ?_|refine .intro _ (.intro rfl ?_)|refine exL (k:= ?_)|(refine aD [] (aNz s 58) trivial (λs hs=> ?_);subst hs)|(refine aD [] (aEz _) trivial (λs hs=> ?_);subst hs)|refine dwR ?_|((first|refine aB ?_ ?_|refine aC ?_ ?_)<;>intro hb<;>(first|exact ddX hb|try simp only [lnS]at hb))|(refine aA ?_ ?_<;>intro hb<;>try exact dsX hb))<;>(conv=>whnf)))
 ·refine aQ ?_
  rw [dD]
  simp only [show ¬ s.length<=24 from by omega,decide_false,Bool.false_and]
 all_goals
  refine aQ ?_
  rw [dD]
  simp only [show s.length<=24 from by omega,decide_true,Bool.true_and]
  simp_all
def dM (s:List UInt8):Bool:=dD s || aBe s
theorem jU (s:List UInt8):Tri Tryz.prog 144 [.d (.str s)] [] (λr=>r= .d (.int .i64 (if dM s then 0 else 20))):=by
 refine aF hty Tryz.func144 rfl (kp [0,2,8]) [] _ _ _ (by simp [Tryz.f144]) (by simp) ?_
 ((conv=>whnf);repeat' ((first|(intro hq;(try simp only [lnS]at hq);(try rewrite [List.length_map]))|refine sJ ?_|refine .intro _ (.intro rfl ?_)|refine exL (k:= ?_)|(refine aD [] (jD s) trivial (λs hs=> ?_);subst hs)|(refine aD [] (oF s) trivial (λs hs=> ?_);subst hs)|refine dwR ?_|((first|refine aB ?_ ?_|refine aC ?_ ?_)<;>intro hb<;>(first|exact ddX hb|try simp only [lnS]at hb))|(refine aA ?_ ?_<;>intro hb<;>try exact dsX hb))<;>(conv=>whnf)))
 all_goals (first|(have h9:dM s=true:=by simp_all [dM])|(have h9:dM s=false:=by simp_all [dM]))
 all_goals (rw [h9];rfl)
end Go.Proofs.YtleihcnongldbaaGreatDoor
namespace Go.Proofs.YtleihcnongldbaaGreatDoor
open Go.Proofs
section
variable {F:Fence} {n:Nat} {P:Program} {b:Frame} {a:Act} {k:List Item} {cs:List Frame} {w:World} {Q:Exit->Act->World->Prop}
end
def aP8 {α:Type}(I:α->Fr×Hp) (Ok:α->Prop) (μ:α->Nat) (x:α) (K:Ex->Fr->Hp->Prop) (e:Ex) (fr:Fr) (hp:Hp):Prop:=
 match e with
 | .normal=> ∃y,Ok y/\μ y < μ x/\aPy (I y).1 fr/\hp=(I y).2
 |e=>K e fr hp
theorem Sat.subE {E:Entry}{nt:Nat}{fr fr':Fr}{hp:Hp}{a:Act}{w:World}(h:Sat E nt ⟨fr,hp⟩ a w) (hs:aPy fr' fr):Sat E nt ⟨fr',hp⟩ a w:=by
 obtain⟨h1,h2,ρ,h3,h4⟩:=h
 exact⟨h1,h2,ρ,h3,aJd _ _ hs h4⟩
theorem xN {C:Cfg}(hti:dT C.P C.ti) {c:Code}{fr:Fr}{hp:Hp}{K:Ex->Fr->Hp->Prop}{α:Type}(I:α->Fr×Hp) (Ok:α->Prop) (μ:α->Nat) (x:α) (h0:Ok x) (hs:aPy (I x).1 fr) (he:hp=(I x).2)
  (round: ∀y,Ok y->X C c (I y).1 (I y).2 (aP8 I Ok μ y K)):aN C (.loop c) fr hp K:=by
 subst he
 intro E a w hpin hrd hsat
 refine wpIn_loop_ghost (λn a w=> ∃y E',μ y=n/\Ok y/\Ext E E'/\Sat E' C.nt ⟨(I y).1,(I y).2⟩ a w) (μ x) ⟨x,E,rfl,h0, .refl E,hsat.subE hs⟩ ?_
 rintro n a' w' ⟨y,E',rfl,hy,hE,hsy⟩
 have:=oI hti c _ _ _ (round y hy) E' a' w' (hE.pin.trans hpin) (hrd.ext hE) hsy
 rw [hE.rd]at this
 refine wpIn_mono this ?_
 rintro e a₁ w₁ ⟨ex,fr₁,hp₁,E'',hE',hrel,hk,hs₁⟩
 cases ex<;>cases e<;>simp only [Ex.rel]at hrel<;>simp only [KX,aP8]at hk
 ·obtain⟨y',k1,k2,k3,rfl⟩:=hk
  exact⟨μ y',k2,y',E'',rfl,k1,hE.trans hE',hs₁.subE k3⟩
 ·exact⟨.exit _,fr₁,hp₁,E'',hE.trans hE',hrel,hk,hs₁⟩
 ·exact⟨.goto _,fr₁,hp₁,E'',hE.trans hE',hrel,hk,hs₁⟩
 ·exact⟨.ret,fr₁,hp₁,E'',hE.trans hE',hrel,hk,hs₁⟩
 ·exact⟨.pan,fr₁,hp₁,E'',hE.trans hE',hrel,hk,hs₁⟩
theorem aJ.sub {P:Program}{pin:Pin}{fr:Fr}{hp hp':Hp}{f:FuncId}{args:List SV}{K:SV->Hp->Prop}(hs:aEd hp' hp) (h:aJ P pin fr hp' f args K):aJ P pin fr hp f args K:=
 λE ρ w tm hpin hm hf vs ha=>h E ρ w tm hpin (hm.sub (lV _ _ hs)) hf vs ha
theorem aJ.mono {P:Program}{pin:Pin}{fr:Fr}{hp:Hp}{f:FuncId}{args:List SV}{K K':SV->Hp->Prop}(hk: ∀s hp,K s hp->K' s hp) (h:aJ P pin fr hp f args K):aJ P pin fr hp f args K':=
 λE ρ w tm hpin hm hf vs ha=>(h E ρ w tm hpin hm hf vs ha).mono λ_ _ q=>q.imp (λ⟨v,ρ',s,hp',h1,h2,h3⟩=>⟨v,ρ',s,hp',h1,hk _ _ h2,h3⟩) λq=>q
end Go.Proofs.YtleihcnongldbaaGreatDoor
namespace Go.Proofs.YtleihcnongldbaaGreatDoor
open Go.Proofs
section
variable {P:Program}
inductive OT where
 |done
 |stop
 |first (i:Nat) (t:OT)
 |alt (i:Nat) (t:OT) (r:OT)
def OT.heads:OT->List Nat
 | .alt i _ r=>i::r.heads
 |_=>[]
def OT.depth:OT->Nat
 | .done=>0
 | .stop=>0
 | .first _ t=>t.depth+1
 | .alt _ t r=>max (t.depth+1) r.depth
def okT (ops:Array Oper):OT->Array Bool->Bool->Bool
 | .done,listed,inn=> !inn && (Region.ready .any ops listed).isEmpty
 | .stop,_,inn=>inn
 | .first i t, listed, inn => !inn && (match ops[i]? with
   |some o=>kd o.op==0 && (Region.ready .any ops listed).contains i && Region.free .any ops listed i && okT ops t (listed.setIfInBounds i true) false
   |none=>false)
 | .alt i t r,listed,inn=>(inn || (!(Region.ready .any ops listed).isEmpty && (Region.ready .any ops listed).all λj=>(i::r.heads).contains j)) && (ops[i]?).isSome && okT ops t (listed.setIfInBounds i true) false && okT ops r listed true
def aLm (P:Program) (pin:Pin) (fr:Fr) (hp:Hp) (f:Operand) (args:List Operand) (K:SV->Hp->Prop):Prop:=
 ev fr f λs=>match aOv s with
  | some (g, first, cap) => (match evL fr args with
   |some l=>dR P g=true/\aJ P pin.calm fr hp g (first++l++cap) K
   |none=>aI "call: an argument")
  |none=>aI "call: no function"
def aVC (P:Program) (ti:TypeId->Option TI) (pin:Pin) (fr:Fr) (hp:Hp) (dst:Nat) (o:Oper) (K:SV->Hp->Prop):Prop:=
 match o.op with
 | .call { callee:= .value f,args:=args,argTypes:=_ }=>aLm P pin fr hp f args.toList K
 |_=>dVC P ti pin fr hp dst o K
theorem aNc {o:Oper}{f:Operand}{args:Array Operand}{ts:Array TypeId}(ho:o.op= .call { callee:= .value f,args:=args,argTypes:=ts }) {pin:Pin}{fr:Fr}{hp:Hp}{K:SV->Hp->Prop}
  (h:aLm P pin fr hp f args.toList K):aCb P o pin fr hp K:=by
 intro E ρ a w hpin hm hf next Q hn
 obtain⟨s,hs,hv⟩:=cX h
 have hr:=bB hf hs
 split at hv
 ·rename_i g first cap hfn
  obtain⟨fv,cv,e,h1,h2⟩:=xY hfn hr
  split at hv
  ·rename_i l hl
   obtain⟨hcall,hv⟩:=hv
   obtain⟨l1,l2⟩:=yG hf _ _ hl
   have hargs:cU w ρ (first++l++cap) (fv++args.map a.eval++cv):=by
    refine(h1.append ⟨?_, ?_⟩).append h2
    ·simpa using l1
    ·intro j s' v hs' hv'
     refine l2 j s' v hs' ?_
     rw [<-Array.toList_map];simpa using hv'
   unfold Oper.wp
   rw [jK ho e hcall]
   simp only [Oper.upon]
   refine(hv { E with pin:=E.pin.calm } ρ w a.tmps (by rw [hpin]) hm.calm hf _ hargs).mono ?_
   rintro e' w' (⟨v,ρ',s',hp',rfl,k1,k2,k3,k4⟩|⟨_,_,_,_,_,q,_⟩)
   ·exact hn v w' ρ' s' hp' k1 k2.uncalm k3 k4
   ·exact q.elim
  ·exact hv.elim
 ·exact hv.elim
theorem aVv {ti:TypeId->Option TI}(hti:dT P ti) {o:Oper}{pin:Pin}{fr:Fr}{hp:Hp}{dst:Nat}{K:SV->Hp->Prop}(h:aVC P ti pin fr hp dst o K):aCb P o pin fr hp K:=by
 unfold aVC at h
 split at h
 ·rename_i ho;exact aNc ho h
 ·rcases aTz hti (o:=o) h with⟨_,hd,_⟩|⟨_,hd⟩|⟨_,hd⟩
  ·exact .pure hd
  ·exact hd.drop
  ·exact hd
def aOe (C:Cfg) (all:List Oper) (i:Nat) (fr:Fr) (hp:Hp) (k:Fr->Hp->Prop):Prop:=
 match all[i]? with
 |some o=>
  tU all fr o.guard
   (λfr=>aVC C.P C.ti C.pin fr hp (C.off+o.dst.getD 0) o λs hp'=>put C o.dst s fr λfr'=>k fr' hp')
   (λfr=>put C o.dst (.d (.lit undef)) fr λfr'=>k fr' hp)
 |none=>aI "no such operation"
def uH (C:Cfg) (all:List Oper) (K:Fr->Hp->Prop):OT->Fr->Hp->Prop
 | .done,fr,hp=>sC C.keep fr λfr'=>K fr' hp
 | .stop,_,_=>True
 | .first i t,fr,hp=>aI1 C all i fr hp λfr' hp'=>uH C all K t fr' hp'
 | .alt i t r,fr,hp=>aOe C all i fr hp (λfr' hp'=>uH C all K t fr' hp')/\uH C all K r fr hp
def aRc (C:Cfg) (all:List Oper) (R:Act->World->Prop) (fuel:Nat) (listed:Array Bool) (a:Act) (w:World) (i:Nat):Prop:=
 match all.toArray[i]? with
 |none=>wpE C.P all.toArray R fuel (λ_=>True) (listed.setIfInBounds i true) a w
 |some o=>
  if Region.wanted o (yielded all.toArray a.tmps)then
   o.wp C.P a w (λa' w'=>if kd o.op=3 then wpE C.P all.toArray R fuel (λ_=>True) (listed.setIfInBounds i true) a' w' else True/\wpE C.P all.toArray R fuel (λ_=>True) (listed.setIfInBounds i true) a' w') noX
  else wpE C.P all.toArray R fuel (λ_=>True) (listed.setIfInBounds i true) (a.put o.dst undef) w
theorem aH4 {C:Cfg}(hti:dT C.P C.ti) {all:List Oper}{K:Fr->Hp->Prop}{E:Entry}(hpin:E.pin=C.pin) (hsel:Region.noSelect all.toArray=true):
  ∀(T:OT) (fuel:Nat) (listed:Array Bool) (fr:Fr) (hp:Hp) (ρ:Env) (a:Act) (w:World),uH C all K T fr hp->Mem E ρ hp w->a.tmps.size=C.nt->a.defers=(E.D.take E.k).map uP++E.pin.pre->dH ρ w fr a.tmps->
  (okT all.toArray T listed false=true->T.depth<=fuel->wpE C.P all.toArray (λa w=> ∃fr hp,K fr hp/\Sat E C.nt ⟨fr,hp⟩ a w) fuel (λ_=>True) listed a w)/\
  (∀inn,okT all.toArray T listed inn=true->T.depth<=fuel+1-> ∀i∈T.heads,aRc C all (λa w=> ∃fr hp,K fr hp/\Sat E C.nt ⟨fr,hp⟩ a w) fuel listed a w i):=by
 intro T
 induction T with
 |done=>
  intro fuel listed fr hp ρ a w h hm h1 h2 h3
  refine⟨λhB _=> ?_,λ_ _ _ i hi=>by simp [OT.heads]at hi⟩
  simp only [okT,Bool.not_false,Bool.true_and,List.isEmpty_iff]at hB
  simp only [uH,nQ]at h
  have hq: ∃fr hp,K fr hp/\Sat E C.nt ⟨fr,hp⟩ a w:=⟨_,hp,h,h1,h2,ρ,hm,λt s hts=>h3 t s (lL _ _ t s hts)⟩
  cases fuel with
  |zero=>exact⟨hB,hq⟩
  |succ n=>exact⟨λ_=>hq,λi hi=>by rw [hB]at hi;cases hi⟩
 |stop=>
  intro fuel listed fr hp ρ a w h hm h1 h2 h3
  exact⟨λhB=>by simp [okT]at hB,λ_ _ _ i hi=>by simp [OT.heads]at hi⟩
 |first i t ih=>
  intro fuel listed fr hp ρ a w h hm h1 h2 h3
  refine⟨λhB hd=> ?_,λ_ _ _ i hi=>by simp [OT.heads]at hi⟩
  simp only [uH,aI1]at h
  split at h
  ·rename_i o ho
   have ho':all.toArray[i]? =some o:=by simpa using ho
   simp only [okT,ho',Bool.not_false,Bool.true_and,Bool.and_eq_true,beq_iff_eq,List.contains_iff_mem]at hB
   obtain⟨⟨⟨hk,hr⟩,hf⟩,hB⟩:=hB
   simp only [OT.depth]at hd
   obtain⟨fuel,rfl⟩: ∃n,fuel=n+1:=⟨fuel - 1,by omega⟩
   obtain⟨fr0,h3,hh⟩:=fA h h3
   rcases hh with⟨hw,h⟩|⟨hw,h⟩
   ·rcases aTz hti h with⟨_,hd',hd0⟩|⟨hk',_⟩|⟨hk',_⟩
    ·obtain⟨v,s,q1,q2,q3⟩:=hd' E ρ a w hm h3
     obtain⟨fr',p1,p2⟩:=fT q3 h1 h3 q2
     refine wJ ho' hsel (by omega) fuel _ listed a w trivial (Region.free_spec ho' hf) (λh0=>absurd hk h0) hr (v:=v) (.inl ⟨hw,λw' _=> ?_⟩) ((ih fuel _ fr' hp ρ _ w p1 hm (by rw [cE];exact h1) (by rw [put_defers];exact h2) p2).1 hB (by omega))
     exact hd0 hk ρ a w v h3 (q1 w (Kept.refl ρ hp w)) w'
    ·omega
    ·omega
   ·obtain⟨fr',p1,p2⟩:=fT h h1 h3 (Rep.d _ undef (.lit undef))
    exact wJ ho' hsel (by omega) fuel _ listed a w trivial (Region.free_spec ho' hf) (λh0=>absurd hk h0) hr (v:=undef) (.inr ⟨hw,rfl⟩) ((ih fuel _ fr' hp ρ _ w p1 hm (by rw [cE];exact h1) (by rw [put_defers];exact h2) p2).1 hB (by omega))
  ·exact h.elim
 |alt i t r iht ihr=>
  intro fuel listed fr hp ρ a w h hm h1 h2 h3
  have key: ∀inn,okT all.toArray (.alt i t r) listed inn=true-> ∀n,(OT.alt i t r).depth<=n+1-> ∀j∈(OT.alt i t r).heads,aRc C all (λa w=> ∃fr hp,K fr hp/\Sat E C.nt ⟨fr,hp⟩ a w) n listed a w j:=by
   intro inn hB n hd j hj
   simp only [okT,Bool.and_eq_true]at hB
   obtain⟨⟨⟨_,hsome⟩,hBt⟩,hBr⟩:=hB
   simp only [OT.depth]at hd
   simp only [uH]at h
   simp only [OT.heads,List.mem_cons]at hj
   rcases hj with rfl|hj
   ·have h:=h.1
    unfold aOe at h
    split at h
    ·rename_i o ho
     have ho':all.toArray[j]? =some o:=by simpa using ho
     unfold aRc
     simp only [ho']
     obtain⟨fr0,h3,hh⟩:=fA h h3
     rcases hh with⟨hw,h⟩|⟨hw,h⟩
     ·rw [if_pos hw]
      refine aVv hti h E ρ a w hpin hm h3 _ noX λv w' ρ' s hp' k1 k2 k3 k4=> ?_
      obtain⟨fr',p1,p2⟩:=fT k1 h1 k3 k4
      have:=(iht n _ fr' hp' ρ' _ w' p1 k2 (by rw [cE];exact h1) (by rw [put_defers];exact h2) p2).1 hBt (by omega)
      split
      ·exact this
      ·exact⟨trivial,this⟩
     ·rw [if_neg (by rw [hw];decide)]
      obtain⟨fr',p1,p2⟩:=fT h h1 h3 (Rep.d _ undef (.lit undef))
      exact(iht n _ fr' hp ρ _ w p1 hm (by rw [cE];exact h1) (by rw [put_defers];exact h2) p2).1 hBt (by omega)
    ·exact h.elim
   ·exact(ihr n listed fr hp ρ a w h.2 hm h1 h2 h3).2 true hBr (by omega) j hj
  refine⟨λhB hd=> ?_,λinn hB hd=>key inn hB fuel hd⟩
  have hd':=hd
  simp only [OT.depth]at hd'
  obtain⟨fuel,rfl⟩: ∃n,fuel=n+1:=⟨fuel - 1,by omega⟩
  have hc:=hB
  simp only [okT,Bool.false_or,Bool.and_eq_true,Bool.not_eq_true',List.all_eq_true,List.contains_iff_mem]at hc
  obtain⟨⟨⟨⟨hne,hcov⟩,_⟩,_⟩,_⟩:=hc
  refine⟨λh0=> ?_,λj hj=> ?_⟩
  ·rw [h0]at hne;cases hne
  ·exact key false hB fuel hd j (hcov j hj)
theorem aJ7 {C:Cfg}(hti:dT C.P C.ti) {id:Nat}{l:List Oper}{fr:Fr}{hp:Hp}{K:Ex->Fr->Hp->Prop}(T:OT) (hm:C.P.follows .mixedOrders=true)
  (hB:(decide (T.depth<=l.length) && Region.noSelect l.toArray && okT l.toArray T (Array.replicate l.length false) false && mJ l)=true) (h:uH C l (K .normal) T fr hp):aN C (.region id l.toArray true) fr hp K:=by
 intro E a w hpin hrd ⟨h1,h2,ρ,h3,h4⟩
 simp only [Bool.and_eq_true,decide_eq_true_eq]at hB
 obtain⟨⟨⟨b1,b2⟩,b3⟩,hnd⟩:=hB
 refine fG hm hnd lQ.noOut ?_
 obtain⟨m1,m2⟩:=h3.grow_same (Grew.drew w)
 have:=(aH4 (C:=C) hti (E:=E) hpin b2 T l.length (Array.replicate l.length false) fr hp ρ a _ h m1 h1 h2 (m2 fr _ h4)).1 b3 b1
 have h5:=tL (Q:=lQ C E K) _ _ _ _ _ (aPg (Q':=lQ C E K .normal) (λa w ⟨fr',hp',k1,k2⟩=>⟨.normal,fr',hp',E, .refl E,trivial,k1,k2⟩) _ _ _ _ _ this)
 have e:l.toArray.size=l.length:=by simp
 rw [e]
 exact h5
end
end Go.Proofs.YtleihcnongldbaaGreatDoor
namespace Go.Proofs.YtleihcnongldbaaGreatDoor
open Go.Proofs
mutual
def WkD:D->D->Prop
 | .nil, .sl _ rows=>rows=[]
 | .sl z rows, .sl z' rows'=>z=z'/\aRr rows rows'
 | .agg cs, .agg cs'=>aPa cs cs'
 |a,b=>a=b
def aPa:List D->List D->Prop
 | [],[]=>True
 |a::l,b::m=>WkD a b/\aPa l m
 |_,_=>False
def aRr:List (List D)->List (List D)->Prop
 | [],[]=>True
 |a::l,b::m=>aPa a b/\aRr l m
 |_,_=>False
end
theorem aCa: ∀(l m:List D),aPa l m->l.length=m.length/\ ∀(j:Nat) (x':D),m[j]? =some x'-> ∃x,l[j]? =some x/\WkD x x'
 | [],[],_=>⟨rfl,by simp⟩
 |a::l,b::m,h=>by
  simp only [aPa]at h
  obtain⟨i1,i2⟩:=aCa l m h.2
  refine⟨by simp [i1],λj x' hj=> ?_⟩
  cases j with
  |zero=>simp at hj;subst hj;exact⟨a,by simp,h.1⟩
  |succ j=>simp at hj;obtain⟨x,h1,h2⟩:=i2 j x' hj;exact⟨x,by simpa using h1,h2⟩
 | [],_::_,h=>by simp [aPa]at h
 |_::_,[],h=>by simp [aPa]at h
theorem aLo: ∀(l m:List (List D)),aRr l m->l.length=m.length/\ ∀(i:Nat) (row':List D),m[i]? =some row'-> ∃row,l[i]? =some row/\aPa row row'
 | [],[],_=>⟨rfl,by simp⟩
 |a::l,b::m,h=>by
  simp only [aRr]at h
  obtain⟨i1,i2⟩:=aLo l m h.2
  refine⟨by simp [i1],λj x' hj=> ?_⟩
  cases j with
  |zero=>simp at hj;subst hj;exact⟨a,by simp,h.1⟩
  |succ j=>simp at hj;obtain⟨x,h1,h2⟩:=i2 j x' hj;exact⟨x,by simpa using h1,h2⟩
 | [],_::_,h=>by simp [aRr]at h
 |_::_,[],h=>by simp [aRr]at h
theorem aGn {w:World}{S:Nat->Nat->Prop}{a:D}{v:Value}(h:RepD w S a v): ∀b,WkD a b->RepD w S b v:=by
 induction h with
 |int k n=>
  intro b hb
  have:D.int k n=b:=by cases b<;>first|(simp [WkD]at hb;done)|simpa [WkD]using hb
  subst this
  exact .int k n
 |bool x=>
  intro b hb
  have:D.bool x=b:=by cases b<;>first|(simp [WkD]at hb;done)|simpa [WkD]using hb
  subst this
  exact .bool x
 |str l hl=>
  intro b hb
  have:D.str l=b:=by cases b<;>first|(simp [WkD]at hb;done)|simpa [WkD]using hb
  subst this
  exact .str l hl
 |lit u=>
  intro b hb
  have:D.lit u=b:=by cases b<;>first|(simp [WkD]at hb;done)|simpa [WkD]using hb
  subst this
  exact .lit u
 |nil=>
  intro b hb
  cases b with
  |sl z rows=>
   simp only [WkD]at hb
   subst hb
   exact .sl z [] none 0 0 0 (λ_=>undef) (by simp) (by simp) (by simp) (by simp) (by simp) (by simp)
  |nil=>exact .nil
  |_=>simp [WkD]at hb
 |sl z rows A cap b off f hz hn hc hA hcell hrep ih=>
  intro b' hb
  cases b' with
  |sl z' rows'=>
   simp only [WkD]at hb
   obtain⟨rfl,hb⟩:=hb
   obtain⟨e1,e2⟩:=aLo _ _ hb
   rw [e1]
   have key: ∀(i:Nat) (row':List D) (j:Nat) (x':D),rows'[i]? =some row'->row'[j]? =some x'-> ∃row x,rows[i]? =some row/\row[j]? =some x/\WkD x x':=by
    intro i row' j x' h1 h2
    obtain⟨row,r1,r2⟩:=e2 i row' h1
    obtain⟨_,r3⟩:=aCa _ _ r2
    obtain⟨x,x1,x2⟩:=r3 j x' h2
    exact⟨row,x,r1,x1,x2⟩
   refine .sl z rows' A cap b off f ?_ (by omega) hc ?_ ?_ ?_
   ·intro row' hr
    obtain⟨i,hi⟩:=List.mem_iff_getElem?.1 hr
    obtain⟨row,r1,r2⟩:=e2 i row' hi
    rw [<-(aCa _ _ r2).1]
    exact hz row (List.mem_of_getElem? r1)
   ·intro hne
    exact hA λe=>hne (by subst e;simp at e1;exact List.eq_nil_of_length_eq_zero e1.symm)
   ·intro i row' j x' h1 h2
    obtain⟨row,x,r1,r2,_⟩:=key i row' j x' h1 h2
    exact hcell i row j x r1 r2
   ·intro i row' j x' h1 h2
    obtain⟨row,x,r1,r2,r3⟩:=key i row' j x' h1 h2
    exact ih i row j x r1 r2 x' r3
  |_=>simp [WkD]at hb
 |agg cs vs hl h ih=>
  intro b hb
  cases b with
  |agg cs'=>
   simp only [WkD]at hb
   obtain⟨e1,e2⟩:=aCa _ _ hb
   refine .agg cs' vs (by omega) λj x' v h1 h2=> ?_
   obtain⟨x,x1,x2⟩:=e2 j x' h1
   exact ih j x v x1 h2 x' x2
  |_=>simp [WkD]at hb
def WkS:SV->SV->Prop
 | .d a, .d b=>WkD a b
 | .osl _ z rows, .d b=>WkD (.sl z rows) b
 |a,b=>a=b
def aRq:List SV->List SV->Prop
 | [],[]=>True
 |a::l,b::m=>WkS a b/\aRq l m
 |_,_=>False
theorem aTm {w:World}{ρ:Env}{a b:SV}{v:Value}(h:WkS a b) (hr:Rep w ρ a v):Rep w ρ b v:=by
 unfold WkS at h
 split at h
 ·cases hr with
  |d x v h'=>exact .d _ _ (aGn h' _ h)
 ·exact .d _ _ (aGn hr.osl_inv.1 _ h)
 ·subst h;exact hr
theorem aLn: ∀(l m:List SV),aRq l m->l.length=m.length/\ ∀(j:Nat) (x':SV),m[j]? =some x'-> ∃x,l[j]? =some x/\WkS x x'
 | [],[],_=>⟨rfl,by simp⟩
 |a::l,b::m,h=>by
  simp only [aRq]at h
  obtain⟨i1,i2⟩:=aLn l m h.2
  refine⟨by simp [i1],λj x' hj=> ?_⟩
  cases j with
  |zero=>simp at hj;subst hj;exact⟨a,by simp,h.1⟩
  |succ j=>simp at hj;obtain⟨x,h1,h2⟩:=i2 j x' hj;exact⟨x,by simpa using h1,h2⟩
 | [],_::_,h=>by simp [aRq]at h
 |_::_,[],h=>by simp [aRq]at h
theorem Tri.res {P:Program}{f:FuncId}{asv:List SV}{hp:Hp}{post post':SV->Prop}(h:Tri P f asv hp post) (hw: ∀s,post s->post' s\/ ∃a b,s= .d a/\WkD a b/\post' (.d b)):Tri P f asv hp post':=
 λw ρ vs a b c=>(h w ρ vs a b c).mono λ_ _ ⟨v,S',s,h1,h2,h3,h4,h5,h6,h7⟩=>by
  rcases hw s h2 with hp'|⟨x,y,rfl,q,hp'⟩
  ·exact⟨v,S',s,h1,hp',h3,h4,h5,h6,h7⟩
  ·cases h7 with
   |d _ _ h7=>exact⟨v,S', .d y,h1,hp',h3,h4,h5,h6, .d _ _ (aGn h7 _ q)⟩
end Go.Proofs.YtleihcnongldbaaGreatDoor
namespace Go.Proofs.YtleihcnongldbaaGreatDoor
open Go.RowKit
section
variable {P:Program}
def Env.upd3 (ρ:Env) (id:Nat) (b:Option Nat) (n:Nat) (v:Value):Env:=
 { S:=ρ.S,blk:= λi=>if i=id then b else ρ.blk i,n:= λi=>if i=id then n else ρ.n i,tv:= λi=>if i=id then v else ρ.tv i }
theorem Env.moved_upd3 (ρ:Env) {id n:Nat}{b:Option Nat}{v:Value}{i:Nat}(h:i≠id):ρ.moved (ρ.upd3 id b n v) i:=by
 refine⟨by simp [Env.upd3,h], .inl (by simp [Env.upd3,h])⟩
theorem Env.upd3_at (ρ:Env) {id n i:Nat}{b:Option Nat}{v:Value}{x:HObj}(h:i≠id):(ρ.upd3 id b n v).at i x=ρ.at i x:=by
 cases x<;>simp [Env.at,Env.upd3,h]
def aVf (E:Entry) (ρ:Env) (hp:Hp) (g:Nat):Prop:=
 (∀i o,aT hp i=some o->ρ.at i o≠some g)/\(∀i o,aT hp i=some o->o.Rd->ρ.blk i≠some g)/\(E.w.heap.size<=g\/E.B g)
theorem Mem.free_new {E:Entry}{ρ:Env}{hp:Hp}{w:World}(h:Mem E ρ hp w) {g:Nat}(hg:w.heap.size<=g):aVf E ρ hp g:=by
 refine⟨λi o ho he=> ?_,λi o ho hrd he=> ?_, ?_⟩
 ·have:=h.blk_lt ho he;omega
 ·have:=h.ro_lt ho hrd he;omega
 ·have:=h.size;left;omega
theorem Mem.free_del {E:Entry}{ρ:Env}{hp hp':Hp}{w:World}(h:Mem E ρ hp w) {id g:Nat}{o:HObj}(ho:aT hp id=some o) (hg:ρ.at id o=some g) (hs:aEd hp' hp) (hn:aT hp' id=none):aVf E ρ hp' g:=by
 refine⟨λi x hx he=> ?_,λi x hx hrd he=> ?_,h.hb id o g ho hg⟩
 ·have:=h.inj i x id o g (lV _ _ hs i x hx) ho he hg
  subst this
  rw [hn]at hx;cases hx
 ·exact h.ro i x g (lV _ _ hs i _ hx) hrd he id o ho hg
theorem aB3 {id:Nat}: ∀{hp' hp:Hp},aEd hp' hp->id∉tK hp->id∉tK hp'
 | [],_,_,_=>by simp [tK]
 |(k,o)::r,hp,hs,hn=>by
  obtain⟨h1,h2⟩:=hs
  have ih:=aB3 h2 hn
  intro hm
  simp only [tK,List.flatMap_cons,List.mem_append,List.mem_cons]at hm
  rcases hm with(hm|hm)|hm
  ·exact hn (bV h1 (.inl hm))
  ·exact hn (bV h1 (.inr hm))
  ·exact ih hm
theorem Mem.newObj {E:Entry}{ρ:Env}{hp:Hp}{w w':World}(h:Mem E ρ hp w) {id n:Nat}{b:Option Nat}{v:Value}{o:HObj}(hid:id∉tK hp) (hpin:id∉E.pin) (hg:Grew w w') (hro:¬ o.Rd)
  (hs:aCf w' (ρ.upd3 id b n v) id o) (hf: ∀g,(ρ.upd3 id b n v).at id o=some g->aVf E ρ hp g):
  Mem E (ρ.upd3 id b n v) ((id,o)::hp) w'/\cJ ρ.S w w'/\ ∀i,i≠id->ρ.moved (ρ.upd3 id b n v) i:=by
 have hk:cJ ρ.S w w':=hg.keeps h.slt
 have hmv: ∀i,i≠id->ρ.moved (ρ.upd3 id b n v) i:= λi hi=>ρ.moved_upd3 hi
 have hget: ∀i x,aT ((id,o)::hp) i=some x->(i=id/\x=o)\/(i≠id/\aT hp i=some x):=by
  intro i x hx
  by_cases e:i=id
  ·subst e;simp [aT]at hx;exact .inl ⟨rfl,hx.symm⟩
  ·rw [dE (λh=>e h.symm)]at hx;exact .inr ⟨e,hx⟩
 refine⟨⟨hg.os.trans h.os,hg.tape.trans h.tape,hg.output.trans h.output,Nat.le_trans h.size hg.size, ?_,h.sold,h.snew,λb i hs=>Nat.lt_of_lt_of_le (h.slt b i hs) hg.size,h.kp.trans h.sold hk, ?_, ?_, ?_, ?_, ?_,λb hb=>(hg.block b (bG (h.md b hb))).trans (h.md b hb)⟩,hk,hmv⟩
 ·exact λb hb hB=>(hg.block b (Nat.lt_of_lt_of_le hb h.size)).trans (h.old b hb hB)
 ·intro i x hx
  rcases hget i x hx with⟨rfl,rfl⟩|⟨e1,hx1⟩
  ·exact hs
  ·refine(h.sat i x hx1).keep hk (λ_ _ x=>x) ?_ (by simp [Env.upd3,e1]) ?_ (λ_ _ _ x=>x)
   ·rintro j hj
    exact hmv j λe'=>hid (e' ▸ bV hx1 hj)
   ·rintro g (hg'|⟨hg',hrd⟩)
    ·exact hg.block g (h.blk_lt hx1 hg')
    ·exact hg.block g (h.ro_lt hx1 hrd hg')
 ·intro i x i' x' g hx hx' hg1 hg2
  rcases hget i x hx with⟨e1,rfl⟩|⟨e1,hx1⟩
  ·rcases hget i' x' hx' with⟨e2,rfl⟩|⟨e2,hx2⟩
   ·rw [e1,e2]
   ·subst e1
    rw [ρ.upd3_at e2]at hg2
    exact absurd hg2 ((hf g hg1).1 i' x' hx2)
  ·rcases hget i' x' hx' with⟨e2,rfl⟩|⟨e2,hx2⟩
   ·subst e2
    rw [ρ.upd3_at e1]at hg1
    exact absurd hg1 ((hf g hg2).1 i x hx1)
   ·rw [ρ.upd3_at e1]at hg1
    rw [ρ.upd3_at e2]at hg2
    exact h.inj i x i' x' g hx1 hx2 hg1 hg2
 ·intro i x g hx hg1
  rcases hget i x hx with⟨e1,rfl⟩|⟨e1,hx1⟩
  ·subst e1
   exact(hf g hg1).2.2
  ·rw [ρ.upd3_at e1]at hg1
   exact h.hb i x g hx1 hg1
 ·exact λi hi=>Env.moved_trans (h.mv i hi) (hmv i λe=>hpin (e ▸ hi))
 ·intro i oR g hx hrd hg1 i' x' hx' hg2
  rcases hget i _ hx with⟨_,hc⟩|⟨e1,hx1⟩
  ·exact(hro (hc ▸ hrd)).elim
  ·have hg1':ρ.blk i=some g:=by simpa [Env.upd3,e1]using hg1
   rcases hget i' x' hx' with⟨e2,rfl⟩|⟨e2,hx2⟩
   ·subst e2
    exact(hf g hg2).2.1 i _ hx1 hrd hg1'
   ·rw [ρ.upd3_at e2]at hg2
    exact h.ro i _ g hx1 hrd hg1' i' x' hx2 hg2
theorem Mem.setExt {E:Entry}{ρ:Env}{hp:Hp}{w w':World}(h:Mem E ρ hp w) {id g:Nat}{X X':ExtO}(ho:aT hp id=some (.ext X)) (hg:ρ.blk id=some g)
  (hos:w'.os=w.os) (htape:w'.tape=w.tape) (hout:aLq w' w) (hsz:w.heap.size<=w'.heap.size) (hoth: ∀b,b < w.heap.size->b≠g->w'.heap[b]? =w.heap[b]?)
  {o':Obj} (ho':w'.heap[g]? =some o') (hs:X'.sat w' ρ o'):Mem E ρ (gQ hp id (.ext X')) w'/\cJ ρ.S w w':=by
 obtain⟨g',x,h1,h2,h3,h4⟩:=h.sat id _ ho
 rw [hg]at h1
 injection h1 with h1
 subst h1
 have hatg:ρ.at id (.ext X)=some g:=hg
 have hk:cJ ρ.S w w':= λb i hs=>World.cell?_of_block (w:=w) (hoth b (h.slt b i hs) λe=>h4 i (e ▸ hs))
 have hget: ∀j y,aT (gQ hp id (.ext X')) j=some y->(j=id/\y= .ext X')\/(j≠id/\aT hp j=some y):=by
  intro j y hj
  rw [bN _ ho]at hj
  by_cases e1:j=id
  ·simp [e1]at hj;exact .inl ⟨e1,hj.symm⟩
  ·simp [e1]at hj;exact .inr ⟨e1,hj⟩
 have hne: ∀j y b,j≠id->aT hp j=some y->ρ.at j y=some b->b≠g:= λj y b hj hjo hb e=>hj (h.inj j y id _ b hjo ho hb (by rw [hatg,e]))
 refine⟨⟨hos.trans h.os,htape.trans h.tape,hout.trans h.output,Nat.le_trans h.size hsz, ?_,h.sold,h.snew,λb i hs=>Nat.lt_of_lt_of_le (h.slt b i hs) hsz,h.kp.trans h.sold hk, ?_, ?_, ?_,h.mv, ?_, ?_⟩,hk⟩
 ·intro b hb hB
  rw [hoth b (Nat.lt_of_lt_of_le hb h.size) ?_]
  ·exact h.old b hb hB
  ·rintro rfl
   rcases h.hb id _ b ho hatg with hge|hB'
   ·omega
   ·exact hB hB'
 ·intro j y hj
  rcases hget j y hj with⟨rfl,rfl⟩|⟨e1,hj⟩
  ·exact⟨g,o',hg,ho',hs,h4⟩
  ·refine(h.sat j y hj).keep hk (λ_ _ x=>x) (λa _=>ρ.moved_refl a) ⟨rfl,rfl⟩ ?_ (λ_ _ _ x=>x)
   rintro b (hb|⟨hb,hrd⟩)
   ·exact hoth b (h.blk_lt hj hb) (hne j y b e1 hj hb)
   ·exact hoth b (h.ro_lt hj hrd hb) λe=>h.ro j _ b hj hrd hb id _ ho (by rw [hatg,e])
 ·intro j y j' y' b hj hj' hb hb'
  rcases hget j y hj with⟨e1,rfl⟩|⟨e1,hj1⟩
  ·rcases hget j' y' hj' with⟨e2,rfl⟩|⟨e2,hj2⟩
   ·rw [e1,e2]
   ·subst e1
    exact h.inj j (.ext X) j' y' b ho hj2 hb hb'
  ·rcases hget j' y' hj' with⟨e2,rfl⟩|⟨e2,hj2⟩
   ·subst e2
    exact h.inj j y j' (.ext X) b hj1 ho hb hb'
   ·exact h.inj j y j' y' b hj1 hj2 hb hb'
 ·intro j y b hj hb
  rcases hget j y hj with⟨e1,rfl⟩|⟨e1,hj1⟩
  ·subst e1
   exact h.hb j (.ext X) b ho hb
  ·exact h.hb j y b hj1 hb
 ·intro j oR b hj hrd hb j' y' hj' hb'
  rcases hget j _ hj with⟨_,hc⟩|⟨e1,hj1⟩
  ·rw [hc]at hrd;exact hrd.elim
  ·rcases hget j' y' hj' with⟨e2,rfl⟩|⟨e2,hj2⟩
   ·subst e2
    exact h.ro j _ b hj1 hrd hb j' (.ext X) ho hb'
   ·exact h.ro j _ b hj1 hrd hb j' y' hj2 hb'
 ·intro b hb
  refine(hoth b (bG (h.md b hb)) ?_).trans (h.md b hb)
  rintro rfl
  rw [h.md b hb]at h2
  cases h2
  exact X.nd _ _ _ h3
end
end Go.Proofs.YtleihcnongldbaaGreatDoor
