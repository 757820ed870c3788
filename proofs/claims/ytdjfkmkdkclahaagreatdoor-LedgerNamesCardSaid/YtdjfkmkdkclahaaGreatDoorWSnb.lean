/-
  Regions that draw their order: all orders, given as a tree. Data of which more is known: nil for an empty slice, at any depth. Objects of other kinds: a new one, and one that is written; rows whose cells are known one by one. Rows known cell by cell: slices of them, copy, append of zero values; and back to rows.
  Conditions: none.
-/
import Derived.Test.YtdjfkmkdkclahaaGreatDoorWSw
import Derived.Laws.IdiomCopy
import Derived.Laws.Externs
import Derived.Lib.Overlaps
import Derived.Lib.AppendZeros
import Derived.Lib.AppendZerosOnto
set_option linter.unusedSectionVars false
set_option linter.unusedSimpArgs false
set_option linter.unusedVariables false
namespace Go.Proofs.YtdjfkmkdkclahaaGreatDoor
section
open Go.Proofs
section
variable {P:Program}
inductive OT where
 |done
 |stop
 |first (i:Nat) (t:OT)
 |alt (i:Nat) (t:OT) (r:OT)
def OT.heads:OT->List Nat
 | .alt i _ r=>i::r.heads
 |_=>[]
def OT.depth:OT->Nat
 | .done=>0
 | .stop=>0
 | .first _ t=>t.depth+1
 | .alt _ t r=>max (t.depth+1) r.depth
def aH3 (P:Program) (pin:Pin) (fr:Fr) (hp:Hp) (f:Operand) (args:List Operand) (K:SV->Hp->Prop):Prop:=
 ev fr f λs=>match aMj s with
  | some (g, first, cap) => (match evL fr args with
   |some l=>cZ P g=true/\aF P pin.calm fr hp g (first++l++cap) K
   |none=>aD "call: an argument")
  |none=>aD "call: no function"
def aVC (P:Program) (ti:TypeId->Option TI) (pin:Pin) (fr:Fr) (hp:Hp) (dst:Nat) (o:Oper) (K:SV->Hp->Prop):Prop:=
 match o.op with
 | .call { callee:= .value f,args:=args,argTypes:=_ }=>aH3 P pin fr hp f args.toList K
 |_=>dVC P ti pin fr hp dst o K
theorem aIn {o:Oper}{f:Operand}{args:Array Operand}{ts:Array TypeId}(ho:o.op= .call { callee:= .value f,args:=args,argTypes:=ts }) {pin:Pin}{fr:Fr}{hp:Hp}{K:SV->Hp->Prop}
  (h:aH3 P pin fr hp f args.toList K):oL P o pin fr hp K:=by
 intro E ρ a w hpin hm hf next Q hn
 obtain⟨s,hs,hv⟩:=bR h
 have hr:=aR hf hs
 split at hv
 ·rename_i g first cap hfn
  obtain⟨fv,cv,e,h1,h2⟩:=rF hfn hr
  split at hv
  ·rename_i l hl
   obtain⟨hcall,hv⟩:=hv
   obtain⟨l1,l2⟩:=nD hf _ _ hl
   have hargs:bU w ρ (first++l++cap) (fv++args.map a.eval++cv):=by
    refine(h1.append ⟨?_, ?_⟩).append h2
    ·simpa using l1
    ·intro j s' v hs' hv'
     refine l2 j s' v hs' ?_
     rw [<-Array.toList_map];simpa using hv'
   unfold Oper.wp
   rw [eK ho e hcall]
   simp only [Oper.upon]
   refine(hv { E with pin:=E.pin.calm } ρ w a.tmps (by rw [hpin]) hm.calm hf _ hargs).mono ?_
   rintro e' w' (⟨v,ρ',s',hp',rfl,k1,k2,k3,k4⟩|⟨_,_,_,_,_,q,_⟩)
   ·exact hn v w' ρ' s' hp' k1 k2.uncalm k3 k4
   ·exact q.elim
  ·exact hv.elim
 ·exact hv.elim
theorem aPg {ti:TypeId->Option TI}(hti:cG P ti) {o:Oper}{pin:Pin}{fr:Fr}{hp:Hp}{dst:Nat}{K:SV->Hp->Prop}(h:aVC P ti pin fr hp dst o K):oL P o pin fr hp K:=by
 unfold aVC at h
 split at h
 ·rename_i ho;exact aIn ho h
 ·rcases aNq hti (o:=o) h with⟨_,hd,_⟩|⟨_,hd⟩|⟨_,hd⟩
  ·exact .pure hd
  ·exact hd.drop
  ·exact hd
def aJe (C:Cfg) (all:List Oper) (i:Nat) (fr:Fr) (hp:Hp) (k:Fr->Hp->Prop):Prop:=
 match all[i]? with
 |some o=>
  hX all fr o.guard
   (λfr=>aVC C.P C.ti C.pin fr hp (C.off+o.dst.getD 0) o λs hp'=>put C o.dst s fr λfr'=>k fr' hp')
   (λfr=>put C o.dst (.d (.lit undef)) fr λfr'=>k fr' hp)
 |none=>aD "no such operation"
end
end
section
open Go.Proofs
mutual
def WkD:D->D->Prop
 | .nil, .sl _ rows=>rows=[]
 | .sl z rows, .sl z' rows'=>z=z'/\aJk rows rows'
 | .agg cs, .agg cs'=>aH6 cs cs'
 |a,b=>a=b
def aH6:List D->List D->Prop
 | [],[]=>True
 |a::l,b::m=>WkD a b/\aH6 l m
 |_,_=>False
def aJk:List (List D)->List (List D)->Prop
 | [],[]=>True
 |a::l,b::m=>aH6 a b/\aJk l m
 |_,_=>False
end
theorem wF: ∀(l m:List D),aH6 l m->l.length=m.length/\ ∀(j:Nat) (x':D),m[j]? =some x'-> ∃x,l[j]? =some x/\WkD x x'
 | [],[],_=>⟨rfl,by simp⟩
 |a::l,b::m,h=>by
  simp only [aH6]at h
  obtain⟨i1,i2⟩:=wF l m h.2
  refine⟨by simp [i1],λj x' hj=> ?_⟩
  cases j with
  |zero=>simp at hj;subst hj;exact⟨a,by simp,h.1⟩
  |succ j=>simp at hj;obtain⟨x,h1,h2⟩:=i2 j x' hj;exact⟨x,by simpa using h1,h2⟩
 | [],_::_,h=>by simp [aH6]at h
 |_::_,[],h=>by simp [aH6]at h
theorem aH5: ∀(l m:List (List D)),aJk l m->l.length=m.length/\ ∀(i:Nat) (row':List D),m[i]? =some row'-> ∃row,l[i]? =some row/\aH6 row row'
 | [],[],_=>⟨rfl,by simp⟩
 |a::l,b::m,h=>by
  simp only [aJk]at h
  obtain⟨i1,i2⟩:=aH5 l m h.2
  refine⟨by simp [i1],λj x' hj=> ?_⟩
  cases j with
  |zero=>simp at hj;subst hj;exact⟨a,by simp,h.1⟩
  |succ j=>simp at hj;obtain⟨x,h1,h2⟩:=i2 j x' hj;exact⟨x,by simpa using h1,h2⟩
 | [],_::_,h=>by simp [aJk]at h
 |_::_,[],h=>by simp [aJk]at h
theorem aCi {w:World}{S:Nat->Nat->Prop}{a:D}{v:Value}(h:RepD w S a v): ∀b,WkD a b->RepD w S b v:=by
 induction h with
 |int k n=>
  intro b hb
  have:D.int k n=b:=by cases b<;>first|(simp [WkD]at hb;done)|simpa [WkD]using hb
  subst this
  exact .int k n
 |bool x=>
  intro b hb
  have:D.bool x=b:=by cases b<;>first|(simp [WkD]at hb;done)|simpa [WkD]using hb
  subst this
  exact .bool x
 |str l hl=>
  intro b hb
  have:D.str l=b:=by cases b<;>first|(simp [WkD]at hb;done)|simpa [WkD]using hb
  subst this
  exact .str l hl
 |lit u=>
  intro b hb
  have:D.lit u=b:=by cases b<;>first|(simp [WkD]at hb;done)|simpa [WkD]using hb
  subst this
  exact .lit u
 |nil=>
  intro b hb
  cases b with
  |sl z rows=>
   simp only [WkD]at hb
   subst hb
   exact .sl z [] none 0 0 0 (λ_=>undef) (by simp) (by simp) (by simp) (by simp) (by simp) (by simp)
  |nil=>exact .nil
  |_=>simp [WkD]at hb
 |sl z rows A cap b off f hz hn hc hA hcell hrep ih=>
  intro b' hb
  cases b' with
  |sl z' rows'=>
   simp only [WkD]at hb
   obtain⟨rfl,hb⟩:=hb
   obtain⟨e1,e2⟩:=aH5 _ _ hb
   rw [e1]
   have key: ∀(i:Nat) (row':List D) (j:Nat) (x':D),rows'[i]? =some row'->row'[j]? =some x'-> ∃row x,rows[i]? =some row/\row[j]? =some x/\WkD x x':=by
    intro i row' j x' h1 h2
    obtain⟨row,r1,r2⟩:=e2 i row' h1
    obtain⟨_,r3⟩:=wF _ _ r2
    obtain⟨x,x1,x2⟩:=r3 j x' h2
    exact⟨row,x,r1,x1,x2⟩
   refine .sl z rows' A cap b off f ?_ (by omega) hc ?_ ?_ ?_
   ·intro row' hr
    obtain⟨i,hi⟩:=List.mem_iff_getElem?.1 hr
    obtain⟨row,r1,r2⟩:=e2 i row' hi
    rw [<-(wF _ _ r2).1]
    exact hz row (List.mem_of_getElem? r1)
   ·intro hne
    exact hA λe=>hne (by subst e;simp at e1;exact List.eq_nil_of_length_eq_zero e1.symm)
   ·intro i row' j x' h1 h2
    obtain⟨row,x,r1,r2,_⟩:=key i row' j x' h1 h2
    exact hcell i row j x r1 r2
   ·intro i row' j x' h1 h2
    obtain⟨row,x,r1,r2,r3⟩:=key i row' j x' h1 h2
    exact ih i row j x r1 r2 x' r3
  |_=>simp [WkD]at hb
 |agg cs vs hl h ih=>
  intro b hb
  cases b with
  |agg cs'=>
   simp only [WkD]at hb
   obtain⟨e1,e2⟩:=wF _ _ hb
   refine .agg cs' vs (by omega) λj x' v h1 h2=> ?_
   obtain⟨x,x1,x2⟩:=e2 j x' h1
   exact ih j x v x1 h2 x' x2
  |_=>simp [WkD]at hb
def WkS:SV->SV->Prop
 | .d a, .d b=>WkD a b
 | .osl _ z rows, .d b=>WkD (.sl z rows) b
 |a,b=>a=b
def aMp:List SV->List SV->Prop
 | [],[]=>True
 |a::l,b::m=>WkS a b/\aMp l m
 |_,_=>False
theorem aNz {w:World}{ρ:Env}{a b:SV}{v:Value}(h:WkS a b) (hr:Rep w ρ a v):Rep w ρ b v:=by
 unfold WkS at h
 split at h
 ·cases hr with
  |d x v h'=>exact .d _ _ (aCi h' _ h)
 ·exact .d _ _ (aCi hr.osl_inv.1 _ h)
 ·subst h;exact hr
theorem aH4: ∀(l m:List SV),aMp l m->l.length=m.length/\ ∀(j:Nat) (x':SV),m[j]? =some x'-> ∃x,l[j]? =some x/\WkS x x'
 | [],[],_=>⟨rfl,by simp⟩
 |a::l,b::m,h=>by
  simp only [aMp]at h
  obtain⟨i1,i2⟩:=aH4 l m h.2
  refine⟨by simp [i1],λj x' hj=> ?_⟩
  cases j with
  |zero=>simp at hj;subst hj;exact⟨a,by simp,h.1⟩
  |succ j=>simp at hj;obtain⟨x,h1,h2⟩:=i2 j x' hj;exact⟨x,by simpa using h1,h2⟩
 | [],_::_,h=>by simp [aMp]at h
 |_::_,[],h=>by simp [aMp]at h
theorem Tri.res {P:Program}{f:FuncId}{asv:List SV}{hp:Hp}{post post':SV->Prop}(h:Tri P f asv hp post) (hw: ∀s,post s->post' s\/ ∃a b,s= .d a/\WkD a b/\post' (.d b)):Tri P f asv hp post':=
 λw ρ vs a b c=>(h w ρ vs a b c).mono λ_ _ ⟨v,S',s,h1,h2,h3,h4,h5,h6,h7⟩=>by
  rcases hw s h2 with hp'|⟨x,y,rfl,q,hp'⟩
  ·exact⟨v,S',s,h1,hp',h3,h4,h5,h6,h7⟩
  ·cases h7 with
   |d _ _ h7=>exact⟨v,S', .d y,h1,hp',h3,h4,h5,h6, .d _ _ (aCi h7 _ q)⟩
end
section
open Go.RowKit
section
variable {P:Program}
def Env.upd3 (ρ:Env) (id:Nat) (b:Option Nat) (n:Nat) (v:Value):Env:=
 { S:=ρ.S,blk:= λi=>if i=id then b else ρ.blk i,n:= λi=>if i=id then n else ρ.n i,tv:= λi=>if i=id then v else ρ.tv i }
theorem Env.moved_upd3 (ρ:Env) {id n:Nat}{b:Option Nat}{v:Value}{i:Nat}(h:i≠id):ρ.moved (ρ.upd3 id b n v) i:=by
 refine⟨by simp [Env.upd3,h], .inl (by simp [Env.upd3,h])⟩
theorem Env.upd3_at (ρ:Env) {id n i:Nat}{b:Option Nat}{v:Value}{x:HObj}(h:i≠id):(ρ.upd3 id b n v).at i x=ρ.at i x:=by
 cases x<;>simp [Env.at,Env.upd3,h]
def aPk (E:Entry) (ρ:Env) (hp:Hp) (g:Nat):Prop:=
 (∀i o,aM hp i=some o->ρ.at i o≠some g)/\(∀i o,aM hp i=some o->o.Rd->ρ.blk i≠some g)/\(E.w.heap.size<=g\/E.B g)
theorem Mem.free_new {E:Entry}{ρ:Env}{hp:Hp}{w:World}(h:Mem E ρ hp w) {g:Nat}(hg:w.heap.size<=g):aPk E ρ hp g:=by
 refine⟨λi o ho he=> ?_,λi o ho hrd he=> ?_, ?_⟩
 ·have:=h.blk_lt ho he;omega
 ·have:=h.ro_lt ho hrd he;omega
 ·have:=h.size;left;omega
theorem Mem.free_del {E:Entry}{ρ:Env}{hp hp':Hp}{w:World}(h:Mem E ρ hp w) {id g:Nat}{o:HObj}(ho:aM hp id=some o) (hg:ρ.at id o=some g) (hs:sA hp' hp) (hn:aM hp' id=none):aPk E ρ hp' g:=by
 refine⟨λi x hx he=> ?_,λi x hx hrd he=> ?_,h.hb id o g ho hg⟩
 ·have:=h.inj i x id o g (eV _ _ hs i x hx) ho he hg
  subst this
  rw [hn]at hx;cases hx
 ·exact h.ro i x g (eV _ _ hs i _ hx) hrd he id o ho hg
theorem uU {id:Nat}: ∀{hp' hp:Hp},sA hp' hp->id∉jP hp->id∉jP hp'
 | [],_,_,_=>by simp [jP]
 |(k,o)::r,hp,hs,hn=>by
  obtain⟨h1,h2⟩:=hs
  have ih:=uU h2 hn
  intro hm
  simp only [jP,List.flatMap_cons,List.mem_append,List.mem_cons]at hm
  rcases hm with(hm|hm)|hm
  ·exact hn (bA h1 (.inl hm))
  ·exact hn (bA h1 (.inr hm))
  ·exact ih hm
theorem Mem.newObj {E:Entry}{ρ:Env}{hp:Hp}{w w':World}(h:Mem E ρ hp w) {id n:Nat}{b:Option Nat}{v:Value}{o:HObj}(hid:id∉jP hp) (hpin:id∉E.pin) (hg:Grew w w') (hro:¬ o.Rd)
  (hs:wL w' (ρ.upd3 id b n v) id o) (hf: ∀g,(ρ.upd3 id b n v).at id o=some g->aPk E ρ hp g):
  Mem E (ρ.upd3 id b n v) ((id,o)::hp) w'/\bL ρ.S w w'/\ ∀i,i≠id->ρ.moved (ρ.upd3 id b n v) i:=by
 have hk:bL ρ.S w w':=hg.keeps h.slt
 have hmv: ∀i,i≠id->ρ.moved (ρ.upd3 id b n v) i:= λi hi=>ρ.moved_upd3 hi
 have hget: ∀i x,aM ((id,o)::hp) i=some x->(i=id/\x=o)\/(i≠id/\aM hp i=some x):=by
  intro i x hx
  by_cases e:i=id
  ·subst e;simp [aM]at hx;exact .inl ⟨rfl,hx.symm⟩
  ·rw [cF (λh=>e h.symm)]at hx;exact .inr ⟨e,hx⟩
 refine⟨⟨hg.os.trans h.os,hg.tape.trans h.tape,hg.output.trans h.output,Nat.le_trans h.size hg.size, ?_,h.sold,h.snew,λb i hs=>Nat.lt_of_lt_of_le (h.slt b i hs) hg.size,h.kp.trans h.sold hk, ?_, ?_, ?_, ?_, ?_,λb hb=>(hg.block b (aW (h.md b hb))).trans (h.md b hb)⟩,hk,hmv⟩
 ·exact λb hb hB=>(hg.block b (Nat.lt_of_lt_of_le hb h.size)).trans (h.old b hb hB)
 ·intro i x hx
  rcases hget i x hx with⟨rfl,rfl⟩|⟨e1,hx1⟩
  ·exact hs
  ·refine(h.sat i x hx1).keep hk (λ_ _ x=>x) ?_ (by simp [Env.upd3,e1]) ?_ (λ_ _ _ x=>x)
   ·rintro j hj
    exact hmv j λe'=>hid (e' ▸ bA hx1 hj)
   ·rintro g (hg'|⟨hg',hrd⟩)
    ·exact hg.block g (h.blk_lt hx1 hg')
    ·exact hg.block g (h.ro_lt hx1 hrd hg')
 ·intro i x i' x' g hx hx' hg1 hg2
  rcases hget i x hx with⟨e1,rfl⟩|⟨e1,hx1⟩
  ·rcases hget i' x' hx' with⟨e2,rfl⟩|⟨e2,hx2⟩
   ·rw [e1,e2]
   ·subst e1
    rw [ρ.upd3_at e2]at hg2
    exact absurd hg2 ((hf g hg1).1 i' x' hx2)
  ·rcases hget i' x' hx' with⟨e2,rfl⟩|⟨e2,hx2⟩
   ·subst e2
    rw [ρ.upd3_at e1]at hg1
    exact absurd hg1 ((hf g hg2).1 i x hx1)
   ·rw [ρ.upd3_at e1]at hg1
    rw [ρ.upd3_at e2]at hg2
    exact h.inj i x i' x' g hx1 hx2 hg1 hg2
 ·intro i x g hx hg1
  rcases hget i x hx with⟨e1,rfl⟩|⟨e1,hx1⟩
  ·subst e1
   exact(hf g hg1).2.2
  ·rw [ρ.upd3_at e1]at hg1
   exact h.hb i x g hx1 hg1
 ·exact λi hi=>Env.moved_trans (h.mv i hi) (hmv i λe=>hpin (e ▸ hi))
 ·intro i oR g hx hrd hg1 i' x' hx' hg2
  rcases hget i _ hx with⟨_,hc⟩|⟨e1,hx1⟩
  ·exact(hro (hc ▸ hrd)).elim
  ·have hg1':ρ.blk i=some g:=by simpa [Env.upd3,e1]using hg1
   rcases hget i' x' hx' with⟨e2,rfl⟩|⟨e2,hx2⟩
   ·subst e2
    exact(hf g hg2).2.1 i _ hx1 hrd hg1'
   ·rw [ρ.upd3_at e2]at hg2
    exact h.ro i _ g hx1 hrd hg1' i' x' hx2 hg2
theorem Mem.setExt {E:Entry}{ρ:Env}{hp:Hp}{w w':World}(h:Mem E ρ hp w) {id g:Nat}{X X':ExtO}(ho:aM hp id=some (.ext X)) (hg:ρ.blk id=some g)
  (hos:w'.os=w.os) (htape:w'.tape=w.tape) (hout:aH8 w' w) (hsz:w.heap.size<=w'.heap.size) (hoth: ∀b,b < w.heap.size->b≠g->w'.heap[b]? =w.heap[b]?)
  {o':Obj} (ho':w'.heap[g]? =some o') (hs:X'.sat w' ρ o'):Mem E ρ (dQ hp id (.ext X')) w'/\bL ρ.S w w':=by
 obtain⟨g',x,h1,h2,h3,h4⟩:=h.sat id _ ho
 rw [hg]at h1
 injection h1 with h1
 subst h1
 have hatg:ρ.at id (.ext X)=some g:=hg
 have hk:bL ρ.S w w':= λb i hs=>World.cell?_of_block (w:=w) (hoth b (h.slt b i hs) λe=>h4 i (e ▸ hs))
 have hget: ∀j y,aM (dQ hp id (.ext X')) j=some y->(j=id/\y= .ext X')\/(j≠id/\aM hp j=some y):=by
  intro j y hj
  rw [aX _ ho]at hj
  by_cases e1:j=id
  ·simp [e1]at hj;exact .inl ⟨e1,hj.symm⟩
  ·simp [e1]at hj;exact .inr ⟨e1,hj⟩
 have hne: ∀j y b,j≠id->aM hp j=some y->ρ.at j y=some b->b≠g:= λj y b hj hjo hb e=>hj (h.inj j y id _ b hjo ho hb (by rw [hatg,e]))
 refine⟨⟨hos.trans h.os,htape.trans h.tape,hout.trans h.output,Nat.le_trans h.size hsz, ?_,h.sold,h.snew,λb i hs=>Nat.lt_of_lt_of_le (h.slt b i hs) hsz,h.kp.trans h.sold hk, ?_, ?_, ?_,h.mv, ?_, ?_⟩,hk⟩
 ·intro b hb hB
  rw [hoth b (Nat.lt_of_lt_of_le hb h.size) ?_]
  ·exact h.old b hb hB
  ·rintro rfl
   rcases h.hb id _ b ho hatg with hge|hB'
   ·omega
   ·exact hB hB'
 ·intro j y hj
  rcases hget j y hj with⟨rfl,rfl⟩|⟨e1,hj⟩
  ·exact⟨g,o',hg,ho',hs,h4⟩
  ·refine(h.sat j y hj).keep hk (λ_ _ x=>x) (λa _=>ρ.moved_refl a) ⟨rfl,rfl⟩ ?_ (λ_ _ _ x=>x)
   rintro b (hb|⟨hb,hrd⟩)
   ·exact hoth b (h.blk_lt hj hb) (hne j y b e1 hj hb)
   ·exact hoth b (h.ro_lt hj hrd hb) λe=>h.ro j _ b hj hrd hb id _ ho (by rw [hatg,e])
 ·intro j y j' y' b hj hj' hb hb'
  rcases hget j y hj with⟨e1,rfl⟩|⟨e1,hj1⟩
  ·rcases hget j' y' hj' with⟨e2,rfl⟩|⟨e2,hj2⟩
   ·rw [e1,e2]
   ·subst e1
    exact h.inj j (.ext X) j' y' b ho hj2 hb hb'
  ·rcases hget j' y' hj' with⟨e2,rfl⟩|⟨e2,hj2⟩
   ·subst e2
    exact h.inj j y j' (.ext X) b hj1 ho hb hb'
   ·exact h.inj j y j' y' b hj1 hj2 hb hb'
 ·intro j y b hj hb
  rcases hget j y hj with⟨e1,rfl⟩|⟨e1,hj1⟩
  ·subst e1
   exact h.hb j (.ext X) b ho hb
  ·exact h.hb j y b hj1 hb
 ·intro j oR b hj hrd hb j' y' hj' hb'
  rcases hget j _ hj with⟨_,hc⟩|⟨e1,hj1⟩
  ·rw [hc]at hrd;exact hrd.elim
  ·rcases hget j' y' hj' with⟨e2,rfl⟩|⟨e2,hj2⟩
   ·subst e2
    exact h.ro j _ b hj1 hrd hb j' (.ext X) ho hb'
   ·exact h.ro j _ b hj1 hrd hb j' y' hj2 hb'
 ·intro b hb
  refine(hoth b (aW (h.md b hb)) ?_).trans (h.md b hb)
  rintro rfl
  rw [h.md b hb]at h2
  cases h2
  exact X.nd _ _ _ h3
def flatK (rows:List (List D)):Nat->Option D:= λk=>rows.flatten[k]?
end
end
section
open Go.RowKit
section
variable {P:Program}
def slT (ti:TypeId->Option TI) (t:TypeId):Option (TypeId×TI):=
 match ti t with
 |some { td:= .slice e, .. }=>(match ti e with|some T=>some (e,T)|none=>none)
 |_=>none
theorem aEq {ti:TypeId->Option TI}(hti:cG P ti) {t e:TypeId}{T:TI}(h:slT ti t=some (e,T)):P.underlying t=some (.slice e)/\ ∃d i z,TIok P e T d i z:=by
 unfold slT at h
 split at h
 ·rename_i e' _ _ _ hT
  obtain⟨d,i,z,hT⟩:=aL (hti _ _ hT)
  have hd:=bK hT.td
  subst hd
  split at h
  ·rename_i T' hT2
   simp only [Option.some.injEq,Prod.mk.injEq]at h
   obtain⟨rfl,rfl⟩:=h
   exact⟨hT.und,aL (hti _ _ hT2)⟩
  ·cases h
 ·cases h
theorem aEp {ti:TypeId->Option TI}(hti:cG P ti) {o:Oper}{t e:TypeId}{T:TI}{x:Operand}{lo hi:Option Operand}(ho:o.op= .slice t x lo hi none) (hT:slT ti t=some (e,T)) {a:Act}{A:Option Addr}{len cap a' b m':Nat}
  (e1:a.eval x= .slice A len cap) {w':World} (e2:(Instr.sliceBounds true len cap (lo.map a.eval) (hi.map a.eval) none).run P w'= .ok (a',b,m') w'):
  (execOp a.eval o).run P w'= .ok (.value (.slice (if m'=a' then A else A.map (·.add (a' * T.size))) (b - a') (m' - a'))) w':=by
 obtain⟨hu,d,i,z,hT2⟩:=aEq hti hT
 simp [execOp,ho,Instr.sliceAt,run_underlying hu,Instr.slice,e1,e2,hT2.run_size]
end
end
end Go.Proofs.YtdjfkmkdkclahaaGreatDoor
