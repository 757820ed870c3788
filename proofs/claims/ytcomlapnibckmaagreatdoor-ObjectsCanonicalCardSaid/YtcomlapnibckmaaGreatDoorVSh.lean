/-
  Symbolic memory: new rows of the call's own; fewer objects. Symbolic operations, one by one: conversions, slices, stores, new variables, structs.
  Conditions: none.
-/
import Derived.Test.YtcomlapnibckmaaGreatDoorVSf
set_option linter.unnecessarySimpa false
set_option linter.unusedSectionVars false
set_option linter.unusedSimpArgs false
set_option linter.unusedVariables false
namespace Go.Proofs.YtcomlapnibckmaaGreatDoor
open Go.RowKit
theorem Mem.sub {E:Entry}{ρ:Env}{hp hp':Hp}{w:World}(h:Mem E ρ hp w) (hs: ∀id o,aO hp' id=some o->aO hp id=some o):Mem E ρ hp' w:=
 ⟨h.os, h.tape, h.output, h.size, h.old, h.sold, h.snew, h.slt, h.kp, λid o ho => h.sat id o (hs id o ho), λid o id' o' g a b => h.inj id o id' o' g (hs _ _ a) (hs _ _ b),
  λid o g a=>h.hb id o g (hs _ _ a),h.mv,λid o g a r b id' o' c=>h.ro id o g (hs _ _ a) r b id' o' (hs _ _ c),h.md⟩
def xT:Hp->Nat->Hp
 | [],_=>[]
 |(k,o)::r,t=>if k=t then xT r t else (k,o)::xT r t
def sT:Hp->Nat->(Hp->Prop)->Prop
 | [],_,K=>K []
 |(k,o)::r,t,K=>if k=t then sT r t K else sT r t λr'=>K ((k,o)::r')
theorem mC: ∀(hp:Hp) (t:Nat) (K:Hp->Prop),sT hp t K=K (xT hp t):=by
 intro hp
 induction hp with
 |nil=>intro t K;rfl
 |cons p r ih=>
  obtain⟨k,o⟩:=p
  intro t K
  simp only [sT,xT]
  split
  ·rw [ih]
  ·rw [ih]
theorem lV (hp:Hp) (id i:Nat):aO (xT hp id) i=if i=id then none else aO hp i:=by
 induction hp with
 |nil=>simp [xT,aO]
 |cons p r ih=>
  obtain⟨k,o⟩:=p
  by_cases e:k=id
  ·subst e
   simp only [xT,if_true,ih,aO]
   by_cases e':i=k
   ·simp [e']
   ·simp [e',Ne.symm e']
  ·simp only [xT,e,if_false,aO]
   by_cases e':k=i
   ·subst e';simp [e]
   ·simp [e',ih]
theorem Mem.del {E:Entry}{ρ:Env}{hp:Hp}{w:World}(h:Mem E ρ hp w) (id:Nat):Mem E ρ (xT hp id) w:=
 h.sub λi o ho=>by
  rw [lV]at ho
  split at ho
  ·cases ho
  ·exact ho
theorem aB4 {w':World}{S S':Nat->Nat->Prop}{w:World}{e z:Nat}{v':Value}{rows:List (List D)}{vs:List Value}(hown:w'.ownsRow 0 e z v' rows.length vs) (hfl:Flat w S z rows vs)
  (hS: ∀g,v'.ownBlock=some g-> ∀k,k < rows.length * z->S' g k) (hr: ∀x v,RepD w S x v->RepD w' S' x v):RepD w' S' (.sl z rows) v':=by
 rcases xB hown with⟨e1,e2⟩|⟨g,cap,e1,hc1,hc2⟩
 ·have hnil:rows=[]:=List.eq_nil_of_length_eq_zero e2
  rw [hnil,e1]
  exact RepD.mk_sl (b:=0) (off:=0) (by simp) (by simp) (λhne=>absurd rfl hne) ⟨by simp,by simp⟩ (by simp)
 ·have hview:View w' S' z rows g 0:=by
   refine hfl.view (λk u hu=> ?_) (λk hk=> ?_) hr
   ·rw [Nat.zero_add];exact fY hown (g:=g) (by rw [e1];rfl) k u hu
   ·rw [Nat.zero_add]
    refine hS g (by rw [e1];rfl) k ?_
    rw [hfl.len]at hk
    exact hk
  have hfin:RepD w' S' (.sl z rows) (.slice (some ⟨g,0,none⟩) rows.length cap):=RepD.mk_sl (b:=g) (off:=0) hc1 hc2 (λ_=>rfl) hview rfl
  rw [<-e1]at hfin
  exact hfin
theorem Mem.newOwn {E:Entry}{ρ:Env}{hp:Hp}{w w':World}(h:Mem E ρ hp w) {id e z:Nat}{rows:List (List D)}{vs:List Value}{v':Value}(hg:Grew w w')
  (hown:w'.ownsRow 0 e z v' rows.length vs) (hnew: ∀g,v'.ownBlock=some g->w.heap.size<=g) (hfl:Flat w ρ.S z rows vs) (hid:id∉mH hp) (hpin:id∉E.pin):
  Mem E (ρ.grown id rows.length z v') ((id, .own e z rows.length)::hp) w'/\(∀fr tm,id∉eG fr->cE ρ w fr tm->cE (ρ.grown id rows.length z v') w' fr tm)/\
   Rep w' (ρ.grown id rows.length z v') (.osl id z rows) v':=by
 have hk:bM ρ.S w w':=hg.keeps h.slt
 have hSS: ∀b k,ρ.S b k->(ρ.grown id rows.length z v').S b k:= λb k hs=> .inl hs
 have hmv: ∀i,i≠id->ρ.moved (ρ.grown id rows.length z v') i:= λi hi=>⟨rfl, .inl (by simp [Env.grown,hi])⟩
 have hat: ∀i o,i≠id->(ρ.grown id rows.length z v').at i o=ρ.at i o:=by
  intro i o hi
  cases o<;>simp [Env.at,Env.grown,hi]
 have hatid:(ρ.grown id rows.length z v').at id (.own e z rows.length)=v'.ownBlock:=by simp [Env.at,Env.grown]
 have hget: ∀i o,aO ((id,HObj.own e z rows.length)::hp) i=some o->(i=id/\o= .own e z rows.length)\/(i≠id/\aO hp i=some o):=by
  intro i o ho
  by_cases e:i=id
  ·subst e;simp [aO]at ho;exact .inl ⟨rfl,ho.symm⟩
  ·rw [cC (λh=>e h.symm)]at ho;exact .inr ⟨e,ho⟩
 have hlt': ∀b,v'.ownBlock=some b->b < w'.heap.size:= λb hb=>(hown.lt b hb).2
 refine⟨⟨hg.os.trans h.os,hg.tape.trans h.tape,hg.output.trans h.output,Nat.le_trans h.size hg.size, ?_, ?_, ?_, ?_,h.kp.trans h.sold hk, ?_, ?_, ?_, ?_, ?_,λb hb=>(hg.block b (aS (h.md b hb))).trans (h.md b hb)⟩, ?_, ?_⟩
 ·exact λb hb hB=>(hg.block b (Nat.lt_of_lt_of_le hb h.size)).trans (h.old b hb hB)
 ·exact λb k hs=> .inl (h.sold b k hs)
 ·rintro b k (hs|⟨hs,_⟩) hb hB
  ·exact h.snew b k hs hb hB
  ·have:=hnew b hs;have:=h.size;omega
 ·rintro b k (hs|⟨hs,_⟩)
  ·exact Nat.lt_of_lt_of_le (h.slt b k hs) hg.size
  ·exact hlt' b hs
 ·intro i o ho
  rcases hget i o ho with⟨rfl,rfl⟩|⟨e1,ho1⟩
  ·refine⟨by simp [Env.grown],vs,by simpa [Env.grown]using hown, ?_,hfl.one⟩
   intro g hgg k hk'
   simp only [Env.grown,if_true]at hgg hk' |-
   rcases hk' with hs|⟨_,hs⟩
   ·have:=hnew g hgg;have:=h.slt g k hs;omega
   ·exact hs
  ·refine(h.sat i o ho1).keep hk hSS ?_ (by simp [Env.grown,e1]) ?_ ?_
   ·rintro j hj
    exact hmv j λe'=>hid (e' ▸ bE ho1 hj)
   ·rintro g (hg'|⟨hg',hrd⟩)
    ·exact hg.block g (h.blk_lt ho1 hg')
    ·exact hg.block g (h.ro_lt ho1 hrd hg')
   ·rintro g hg' k (hs|⟨hs,_⟩)
    ·exact hs
    ·have:=hnew g hs;have:=h.blk_lt ho1 hg';omega
 ·intro i o i' o' g ho ho' hg1 hg2
  rcases hget i o ho with⟨e1,rfl⟩|⟨e1,ho1⟩
  ·rcases hget i' o' ho' with⟨e2,rfl⟩|⟨e2,ho2⟩
   ·rw [e1,e2]
   ·rw [e1,hatid]at hg1
    rw [hat i' o' e2]at hg2
    have:=hnew g hg1;have:=h.blk_lt ho2 hg2;omega
  ·rw [hat i o e1]at hg1
   rcases hget i' o' ho' with⟨e2,rfl⟩|⟨e2,ho2⟩
   ·rw [e2,hatid]at hg2
    have:=hnew g hg2;have:=h.blk_lt ho1 hg1;omega
   ·rw [hat i' o' e2]at hg2
    exact h.inj i o i' o' g ho1 ho2 hg1 hg2
 ·intro i o g ho hg1
  rcases hget i o ho with⟨e1,rfl⟩|⟨e1,ho1⟩
  ·rw [e1,hatid]at hg1
   have:=hnew g hg1;have:=h.size;left;omega
  ·rw [hat i o e1]at hg1
   exact h.hb i o g ho1 hg1
 ·exact λi hi=>Env.moved_trans (h.mv i hi) (hmv i λe=>hpin (e ▸ hi))
 ·intro i oR g ho hrd hg1 i' o' ho' hg2
  rcases hget i _ ho with⟨_,hc⟩|⟨e1,ho1⟩
  ·rw [hc]at hrd;exact hrd.elim
  ·have hg1':ρ.blk i=some g:=hg1
   rcases hget i' o' ho' with⟨e2,rfl⟩|⟨e2,ho2⟩
   ·rw [e2,hatid]at hg2
    have:=hnew g hg2;have:=h.ro_lt ho1 hrd hg1';omega
   ·rw [hat i' o' e2]at hg2
    exact h.ro i _ g ho1 hrd hg1' i' o' ho2 hg2
 ·exact λfr tm hf hfs=>hfs.mono hk hSS λi hi=>hmv i λe=>hf (e ▸ hi)
 ·refine .osl id z rows v' ?_ (by simp [Env.grown]) (by simp [Env.grown])
  exact aB4 hown hfl (λg hgg k hk'=> .inr ⟨hgg,hk'⟩) λx v hx=>hx.mono hk hSS
theorem Mem.newNil {E:Entry}{ρ:Env}{hp:Hp}{w:World}(h:Mem E ρ hp w) {id:Nat}(e z:Nat) (hid:id∉mH hp) (hpin:id∉E.pin):
  Mem E (ρ.grown id 0 z (.slice none 0 0)) ((id, .own e z 0)::hp) w/\(∀fr tm,id∉eG fr->cE ρ w fr tm->cE (ρ.grown id 0 z (.slice none 0 0)) w fr tm)/\
   Rep w (ρ.grown id 0 z (.slice none 0 0)) (.osl id z []) (.slice none 0 0):=
 h.newOwn (rows:=[]) (vs:=[]) (Grew.refl w) (World.ownsRow_nil w 0 e z) (by simp [Value.ownBlock]) (Flat.nil w ρ.S z) hid hpin
def Env.retop (ρ:Env) (id n:Nat) (v:Value):Env:={ ρ with n:= λi=>if i=id then n else ρ.n i,tv:= λi=>if i=id then v else ρ.tv i }
theorem Env.retop_at (ρ:Env) {id n:Nat}{v:Value}{i:Nat}{o:HObj}(h:i≠id):(ρ.retop id n v).at i o=ρ.at i o:=by
 cases o<;>simp [Env.at,Env.retop,h]
theorem Env.moved_retop (ρ:Env) {id n:Nat}{v:Value}{i:Nat}(h:i≠id):ρ.moved (ρ.retop id n v) i:=⟨rfl, .inl (by simp [Env.retop,h])⟩
theorem Mem.setMrow {E:Entry}{ρ:Env}{hp:Hp}{w w':World}(h:Mem E ρ hp w) {id e z cap:Nat}{rows:List (List D)}(ho:aO hp id=some (.mrow e z cap rows)) {cap':Nat}{rows':List (List D)}{v':Value}
  (hos:w'.os=w.os) (htape:w'.tape=w.tape) (hout:aC8 w' w) (hsz:w.heap.size<=w'.heap.size) (hoth: ∀b,b < w.heap.size->dS (ρ.tv id)≠some b->w'.heap[b]? =w.heap[b]?)
  (hm:eD w' ρ.S e z cap' rows' v') (hblk: ∀g,dS v'=some g->dS (ρ.tv id)=some g\/w.heap.size<=g)
  (hver:(rows'.length=rows.length/\v'=ρ.tv id)\/rows.length < rows'.length):
  Mem E (ρ.retop id rows'.length v') (fI hp id (.mrow e z cap' rows')) w'/\bM ρ.S w w'/\ ∀i,ρ.moved (ρ.retop id rows'.length v') i:=by
 obtain⟨hn0,hm0⟩:=h.sat id _ ho
 have hnoS: ∀g,dS (ρ.tv id)=some g-> ∀i,¬ ρ.S g i:=by
  intro g hg
  rcases hm0 with⟨_,_,A,e1⟩|⟨hc,g',cur,e1,_,_,_,_,_,h7⟩
  ·rw [e1]at hg;cases A<;>simp [dS]at hg
  ·rw [e1]at hg
   have:cap≠0:=by omega
   simp only [dS,this,if_false,Option.some.injEq]at hg
   subst hg;exact h7
 have hk:bM ρ.S w w':= λb i hs=>World.cell?_of_block (w:=w) (hoth b (h.slt b i hs) λhb=>hnoS b hb i hs)
 have hmv: ∀i,ρ.moved (ρ.retop id rows'.length v') i:=by
  intro i
  by_cases e1:i=id
  ·subst e1
   refine⟨rfl, ?_⟩
   simp only [Env.retop,if_true]
   rcases hver with⟨a,b⟩|a
   ·left;exact⟨by omega,b⟩
   ·right;omega
  ·exact ρ.moved_retop e1
 have hget: ∀j o,aO (fI hp id (.mrow e z cap' rows')) j=some o->(j=id/\o= .mrow e z cap' rows')\/(j≠id/\aO hp j=some o):=by
  intro j o hj
  rw [aZ _ ho]at hj
  by_cases e1:j=id
  ·simp [e1]at hj;exact .inl ⟨e1,hj.symm⟩
  ·simp [e1]at hj;exact .inr ⟨e1,hj⟩
 have hatid:(ρ.retop id rows'.length v').at id (.mrow e z cap' rows')=dS v':=by simp [Env.at,Env.retop]
 have hne: ∀j o b,j≠id->aO hp j=some o->ρ.at j o=some b->dS (ρ.tv id)≠some b:= λj o b hj hjo hb hvb=>hj (h.inj j o id _ b hjo ho hb hvb)
 have hlt': ∀b,dS v'=some b->b < w'.heap.size:= λb hb=>by obtain⟨cur,hc⟩:=hm.heap hb;exact aS hc
 refine⟨⟨hos.trans h.os,htape.trans h.tape,hout.trans h.output,Nat.le_trans h.size hsz, ?_,h.sold,h.snew,λb i hs=>Nat.lt_of_lt_of_le (h.slt b i hs) hsz,h.kp.trans h.sold hk, ?_, ?_, ?_,λj hj=>Env.moved_trans (h.mv j hj) (hmv j), ?_, ?_⟩,hk,hmv⟩
 ·intro b hb hB
  rw [hoth b (Nat.lt_of_lt_of_le hb h.size) ?_]
  ·exact h.old b hb hB
  ·intro hvb
   rcases h.hb id _ b ho hvb with hge|hB'
   ·omega
   ·exact hB hB'
 ·intro j o hj
  rcases hget j o hj with⟨rfl,rfl⟩|⟨e1,hj⟩
  ·refine⟨by simp [Env.retop], ?_⟩
   have:(ρ.retop j rows'.length v').tv j=v':=by simp [Env.retop]
   rw [this];exact hm
  ·refine(h.sat j o hj).keep hk (λ_ _ x=>x) (λa _=>hmv a) (by simp [Env.retop,e1]) ?_ (λ_ _ _ x=>x)
   rintro b (hb|⟨hb,hrd⟩)
   ·exact hoth b (h.blk_lt hj hb) (hne j o b e1 hj hb)
   ·exact hoth b (h.ro_lt hj hrd hb) λhvb=>h.ro j _ b hj hrd hb id _ ho hvb
 ·intro j o j' o' b hj hj' hb hb'
  rcases hget j o hj with⟨e1,rfl⟩|⟨e1,hj1⟩
  ·rcases hget j' o' hj' with⟨e2,rfl⟩|⟨e2,hj2⟩
   ·rw [e1,e2]
   ·rw [e1,hatid]at hb
    rw [ρ.retop_at e2]at hb'
    rcases hblk b hb with hvb|hge
    ·exact absurd hvb (hne j' o' b e2 hj2 hb')
    ·have:=h.blk_lt hj2 hb';omega
  ·rw [ρ.retop_at e1]at hb
   rcases hget j' o' hj' with⟨e2,rfl⟩|⟨e2,hj2⟩
   ·rw [e2,hatid]at hb'
    rcases hblk b hb' with hvb|hge
    ·exact absurd hvb (hne j o b e1 hj1 hb)
    ·have:=h.blk_lt hj1 hb;omega
   ·rw [ρ.retop_at e2]at hb'
    exact h.inj j o j' o' b hj1 hj2 hb hb'
 ·intro j o b hj hb
  rcases hget j o hj with⟨e1,rfl⟩|⟨e1,hj1⟩
  ·rw [e1,hatid]at hb
   rcases hblk b hb with hvb|hge
   ·exact h.hb id _ b ho hvb
   ·have:=h.size;left;omega
  ·rw [ρ.retop_at e1]at hb
   exact h.hb j o b hj1 hb
 ·intro j oR b hj hrd hb j' o' hj' hb'
  have hb0:ρ.blk j=some b:=hb
  rcases hget j _ hj with⟨_,hc⟩|⟨e1,hj1⟩
  ·rw [hc]at hrd;exact hrd.elim
  ·rcases hget j' o' hj' with⟨e2,rfl⟩|⟨e2,hj2⟩
   ·rw [e2,hatid]at hb'
    rcases hblk b hb' with hvb|hge
    ·exact h.ro j _ b hj1 hrd hb0 id _ ho hvb
    ·have:=h.ro_lt hj1 hrd hb0;omega
   ·rw [ρ.retop_at e2]at hb'
    exact h.ro j _ b hj1 hrd hb0 j' o' hj2 hb'
 ·intro b hb
  refine(hoth b (aS (h.md b hb)) λhvb=> ?_).trans (h.md b hb)
  obtain⟨cur,hc⟩:=hm0.heap hvb
  rw [h.md b hb]at hc;cases hc
theorem Mem.newMrow {E:Entry}{ρ:Env}{hp:Hp}{w w':World}(h:Mem E ρ hp w) {id e z cap:Nat}{rows:List (List D)}{v:Value}(hid:id∉mH hp) (hpin:id∉E.pin) (hg:Grew w w')
  (hm:eD w' ρ.S e z cap rows v) (hnew: ∀g,dS v=some g->w.heap.size<=g):
  Mem E (ρ.retop id rows.length v) ((id, .mrow e z cap rows)::hp) w'/\bM ρ.S w w'/\ ∀i,i≠id->ρ.moved (ρ.retop id rows.length v) i:=by
 have hk:bM ρ.S w w':=hg.keeps h.slt
 have hmv: ∀i,i≠id->ρ.moved (ρ.retop id rows.length v) i:= λi hi=>ρ.moved_retop hi
 have hatid:(ρ.retop id rows.length v).at id (.mrow e z cap rows)=dS v:=by simp [Env.at,Env.retop]
 have hget: ∀i o,aO ((id,HObj.mrow e z cap rows)::hp) i=some o->(i=id/\o= .mrow e z cap rows)\/(i≠id/\aO hp i=some o):=by
  intro i o ho
  by_cases e:i=id
  ·subst e;simp [aO]at ho;exact .inl ⟨rfl,ho.symm⟩
  ·rw [cC (λh=>e h.symm)]at ho;exact .inr ⟨e,ho⟩
 refine⟨⟨hg.os.trans h.os,hg.tape.trans h.tape,hg.output.trans h.output,Nat.le_trans h.size hg.size, ?_,h.sold,h.snew,λb i hs=>Nat.lt_of_lt_of_le (h.slt b i hs) hg.size,h.kp.trans h.sold hk, ?_, ?_, ?_, ?_, ?_,λb hb=>(hg.block b (aS (h.md b hb))).trans (h.md b hb)⟩,hk,hmv⟩
 ·exact λb hb hB=>(hg.block b (Nat.lt_of_lt_of_le hb h.size)).trans (h.old b hb hB)
 ·intro i o ho
  rcases hget i o ho with⟨rfl,rfl⟩|⟨e1,ho1⟩
  ·refine⟨by simp [Env.retop], ?_⟩
   have:(ρ.retop i rows.length v).tv i=v:=by simp [Env.retop]
   rw [this];exact hm
  ·refine(h.sat i o ho1).keep hk (λ_ _ x=>x) ?_ (by simp [Env.retop,e1]) ?_ (λ_ _ _ x=>x)
   ·rintro j hj
    exact hmv j λe'=>hid (e' ▸ bE ho1 hj)
   ·rintro g (hg'|⟨hg',hrd⟩)
    ·exact hg.block g (h.blk_lt ho1 hg')
    ·exact hg.block g (h.ro_lt ho1 hrd hg')
 ·intro i o i' o' g ho ho' hg1 hg2
  rcases hget i o ho with⟨e1,rfl⟩|⟨e1,ho1⟩
  ·rcases hget i' o' ho' with⟨e2,rfl⟩|⟨e2,ho2⟩
   ·rw [e1,e2]
   ·rw [e1,hatid]at hg1
    rw [ρ.retop_at e2]at hg2
    have:=hnew g hg1;have:=h.blk_lt ho2 hg2;omega
  ·rw [ρ.retop_at e1]at hg1
   rcases hget i' o' ho' with⟨e2,rfl⟩|⟨e2,ho2⟩
   ·rw [e2,hatid]at hg2
    have:=hnew g hg2;have:=h.blk_lt ho1 hg1;omega
   ·rw [ρ.retop_at e2]at hg2
    exact h.inj i o i' o' g ho1 ho2 hg1 hg2
 ·intro i o g ho hg1
  rcases hget i o ho with⟨e1,rfl⟩|⟨e1,ho1⟩
  ·rw [e1,hatid]at hg1
   have:=hnew g hg1;have:=h.size;left;omega
  ·rw [ρ.retop_at e1]at hg1
   exact h.hb i o g ho1 hg1
 ·exact λi hi=>Env.moved_trans (h.mv i hi) (hmv i λe=>hpin (e ▸ hi))
 ·intro i oR g ho hrd hg1 i' o' ho' hg2
  rcases hget i _ ho with⟨_,hc⟩|⟨e1,ho1⟩
  ·rw [hc]at hrd;exact hrd.elim
  ·have hg1':ρ.blk i=some g:=hg1
   rcases hget i' o' ho' with⟨e2,rfl⟩|⟨e2,ho2⟩
   ·rw [e2,hatid]at hg2
    have:=hnew g hg2;have:=h.ro_lt ho1 hrd hg1';omega
   ·rw [ρ.retop_at e2]at hg2
    exact h.ro i _ g ho1 hrd hg1' i' o' ho2 hg2
theorem eD.rep {w:World}{ρ:Env}{e z cap id:Nat}{rows:List (List D)}(h:eD w ρ.S e z cap rows (ρ.tv id)) (hn:ρ.n id=rows.length) {n:Nat}(hl:n=rows.length):Rep w ρ (.mw id z n) (ρ.tv id):=by
 obtain⟨A,e1,h2,h3,h4⟩:=h.shape
 subst hl
 have:=Rep.mw (w:=w) (ρ:=ρ) id z rows.length cap A h2 h3 (λh0=>h4 (by omega)) (by omega) (λ_=>e1.symm)
 rw [e1];exact this
end Go.Proofs.YtcomlapnibckmaaGreatDoor
namespace Go.Proofs.YtcomlapnibckmaaGreatDoor
open Go.RowKit
def bC (c:UInt8):List D:=[.int .u8 c.toNat]
def aJ1:List D->UInt8
 | [.int .u8 n]=>UInt8.ofNat n.toNat
 |_=>0
def unb (rows:List (List D)):List UInt8:=rows.map aJ1
theorem kI (l:List UInt8):unb (l.map bC)=l:=by
 unfold unb
 rw [List.map_map]
 conv=>rhs;rw [<-List.map_id l]
 apply List.map_congr_left
 intro c _
 simp [aJ1,bC]
section
variable {P:Program}
def conv (k0 k:IntKind) (n:Int) (K:SV->Prop):Prop:=
 match k0 with
 | .u64=>K (.d (.int k (k.wrap n)))
 |_=>uV k n K
theorem aBx {k0 k:IntKind}{n:Int}{K:SV->Prop}(h:conv k0 k n K):K (.d (.int k (k.wrap n))):=by
 cases k0<;>simp only [conv]at h<;>first|exact iZ h|exact h
def aEy (ti:TypeId->Option TI) (src dst:TypeId) (s:SV) (hp:Hp) (K:SV->Hp->Prop):Prop:=
 match ti dst with
 |some { td:= .int k, .. }=>(match s with| .d (.int k0 n)=>(ti src).isSome=true/\conv k0 k n λr=>K r hp|_=>aF "convert: to an int")
 |some { td:= .string, .. }=>
  (match s with
  | .d (.str l)=>(ti src).isSome=true/\K (.d (.str l)) hp
  |s=>
   match ti src with
   |some { td:= .slice e, .. }=>
    match ti e with
    |some { td:= .int .u8, .. }=>
     match s with
     | .d .nil=>K (.d (.str [])) hp
     |s=>match mU s with
      |some (1,rows)=>rows=(unb rows).map bC/\K (.d (.str (unb rows))) hp
      |_=>aF "convert: to a string"
    |_=>aF "convert: to a string"
   |_=>aF "convert: to a string")
 |some { td:= .slice e, .. }=>
  match ti e with
  |some { td:= .int .u8, .. }=>
   (match s with
   | .d (.str l)=>(ti src).isSome=true/\K (.d (.sl 1 (l.map bC))) hp
   | .osl id 1 rows=>src=dst/\rows≠[]/\aO hp id=some (.own e 1 rows.length)/\sT hp id λhp'=>K (.d (.sl 1 rows)) hp'
   |_=>aF "convert: to bytes")
  |_=>aF "convert: to a slice"
 |_=>aF "convert"
theorem nI {ti:TypeId->Option TI}(hti:cW P ti) {t:TypeId}(h:(ti t).isSome=true): ∃d,P.underlying t=some d:=by
 obtain⟨T,hT⟩:=Option.isSome_iff_exists.1 h
 obtain⟨d,i,z,hT⟩:=aM (hti _ _ hT)
 exact⟨d,hT.und⟩
theorem wD {w:World}{g n k:Nat}: ∀b i,(w.freeze ⟨g,n,none⟩ k).cell? ⟨b,i,none⟩=w.cell? ⟨b,i,none⟩:=by
 intro b i
 unfold World.freeze
 split
 ·rfl
 ·unfold World.cell?
  simp only [Array.getElem?_modify]
  by_cases e:g=b
  ·subst e
   simp only [if_true]
   cases w.heap[g]? with
   |none=>rfl
   |some o=>cases o<;>rfl
  ·simp [e]
theorem fQ {w:World}{g n k b:Nat}(h:b≠g):(w.freeze ⟨g,n,none⟩ k).heap[b]? =w.heap[b]? :=by
 unfold World.freeze
 split
 ·rfl
 ·simp [Array.getElem?_modify,Ne.symm h]
theorem oU {w:World}{g n k:Nat}:(w.freeze ⟨g,n,none⟩ k).heap.size=w.heap.size:=by
 unfold World.freeze
 split<;>simp
theorem Mem.freezeOwn {E:Entry}{ρ:Env}{hp:Hp}{w:World}(h:Mem E ρ hp w) {id e z n g:Nat}(ho:aO hp id=some (.own e z n)) (hg:(ρ.tv id).ownBlock=some g) (m k:Nat):
  Mem E ρ (xT hp id) (w.freeze ⟨g,m,none⟩ k)/\(∀fr tm,cE ρ w fr tm->cE ρ (w.freeze ⟨g,m,none⟩ k) fr tm)/\ ∀s v,Rep w ρ s v->Rep (w.freeze ⟨g,m,none⟩ k) ρ s v:=by
 have hk:bM ρ.S w (w.freeze ⟨g,m,none⟩ k):= λb i _=>wD b i
 have hrf: ∀i,ρ.moved ρ i:=ρ.moved_refl
 have hat:ρ.at id (.own e z n)=some g:=hg
 have hd:=h.del id
 refine⟨⟨?_, ?_, ?_,by rw [oU];exact h.size, ?_,h.sold,h.snew,by rw [oU];exact h.slt,h.kp.trans h.sold hk, ?_,hd.inj,hd.hb,h.mv,hd.ro,λb hb=>(fQ (λe'=>by obtain⟨_,xs,h1,_⟩:=h.sat id _ ho;subst e';exact hZ h1 hg (h.md _ hb))).trans (h.md b hb)⟩, ?_, ?_⟩
 ·unfold World.freeze;split<;>exact h.os
 ·unfold World.freeze;split<;>exact h.tape
 ·unfold World.freeze;split<;>exact h.output
 ·intro b hb hB
  rw [fQ ?_]
  ·exact h.old b hb hB
  ·rintro rfl
   rcases h.hb id _ b ho hat with hge|hB'
   ·omega
   ·exact hB hB'
 ·intro i o hi
  rw [lV]at hi
  split at hi
  ·cases hi
  ·rename_i hne
   refine(h.sat i o hi).keep hk (λ_ _ x=>x) (λj _=>hrf j) ⟨rfl,rfl⟩ ?_ (λ_ _ _ x=>x)
   rintro b (hb'|⟨hb',hrd⟩)
   ·exact fQ λe'=>hne (h.inj i o id _ b hi ho hb' (by rw [e'];exact hat))
   ·exact fQ λe'=>h.ro i _ b hi hrd hb' id _ ho (by rw [e'];exact hat)
 ·exact λfr tm hf=>hf.mono hk (λ_ _ x=>x) λi _=>hrf i
 ·exact λs v hr=>hr.mono hk (λ_ _ x=>x) λi _=>hrf i
theorem aFh {ti:TypeId->Option TI}(hti:cW P ti) {o:Oper}{src dst:TypeId}{x:Operand}(ho:o.op= .convert src dst x) {pin:Pin}{fr:Fr}{hp:Hp}{K:SV->Hp->Prop}
  (h:ev fr x λs=>aEy ti src dst s hp K):tB P o pin fr hp K:=by
 intro E ρ a w _ hm hf next Q hn
 obtain⟨s,hs,hv⟩:=bV h
 have hr:=aU hf hs
 have hrun: ∀v w',(convert src dst (a.eval x)).run P w= .ok v w'->(execOp a.eval o).run P w= .ok (.value v) w':=by
  intro v w' e
  simp [execOp,ho,e]
 have same: ∀v r,(convert src dst (a.eval x)).run P w= .ok v w->Rep w ρ r v->K r hp->o.wp P a w next Q:= λv r e1 e2 e3=>
  bW (hrun _ _ e1) (hn v w ρ r hp e3 hm hf e2)
 unfold aEy at hv
 split at hv
 ·rename_i k _ _ _ hT
  obtain⟨d,i,z,hT⟩:=aM (hti _ _ hT)
  have hd:=iR hT.td
  subst hd
  split at hv
  ·rename_i k0 n
   obtain⟨d',hd'⟩:=nI hti hv.1
   refine same _ _ ?_ (.d _ _ (.int _ _)) (aBx hv.2)
   simp [convert,run_underlying hd',run_underlying hT.und,hr.int_inv,Conv.intToInt]
  ·exact hv.elim
 ·rename_i hT
  obtain⟨d,i,z,hT⟩:=aM (hti _ _ hT)
  have hd:=dR hT.td
  subst hd
  split at hv
  ·rename_i l
   obtain⟨d',hd'⟩:=nI hti hv.1
   refine same _ _ ?_ hr hv.2
   have e:=hr.str_inv.1
   simp [convert,run_underlying hd',run_underlying hT.und,e]
  ·split at hv
   ·rename_i e _ _ _ hT2
    obtain⟨d2,i2,z2,hT2⟩:=aM (hti _ _ hT2)
    have hd:=bL hT2.td
    subst hd
    split at hv
    ·rename_i hT3
     obtain⟨d3,i3,z3,hT3⟩:=aM (hti _ _ hT3)
     have hd:=iR hT3.td
     subst hd
     split at hv
     ·refine same (.string ⟨#[]⟩) _ ?_ (.d _ _ (RepD.str [] (by simp))) hv
      rw [hr.nil_inv,run_convert_bytes_string w src dst e none 0 0 hT2.und hT3.und hT.und]
      rfl
     ·split at hv
      ·rename_i rows hrows
       obtain⟨he,hk⟩:=hv
       obtain⟨A,cap,b,off,e1,hnc,hcm,hA,hview⟩:=(fX hrows hr).of_sl
       have hlen:(unb rows).length=rows.length:=by simp [unb]
       have hle:(unb rows).length<=maxLen:=by rw [hlen];omega
       refine same _ _ ?_ (.d _ _ (RepD.str (unb rows) hle)) hk
       rw [e1]
       by_cases hne:rows=[]
       ·subst hne
        rcases A with _|ad
        ·rw [run_convert_bytes_string w src dst e _ _ _ hT2.und hT3.und hT.und]
         rfl
        ·have:=run_convert_bytes_back (P:=P) w src dst e ad cap [] hT2.und hT3.und hT.und (λj hj=>by simp at hj)
         simpa [unb]using this
       ·have hA':=hA hne
        subst hA'
        have := run_convert_bytes_back (P := P) w src dst e ⟨b, off, none⟩ cap (unb rows) hT2.und hT3.und hT.und (λj hj => by
         rw [bS]
         have hj':j < rows.length:=by omega
         have hrow:rows[j]? =some (bC (unb rows)[j]):=by
          conv=>lhs;rw [he]
          rw [List.getElem?_map,List.getElem?_eq_getElem hj];rfl
         obtain⟨v,c1,_,_,c4⟩:=hview.cell j _ 0 _ hrow (by simp [bC];rfl)
         cases c4
         have ej:j * 1+0=j:=by omega
         rw [ej]at c1
         exact c1)
        rw [hlen]at this
        exact this
      ·exact hv.elim
    ·exact hv.elim
   ·exact hv.elim
 ·rename_i e _ _ _ hT
  obtain⟨d,i,z,hT⟩:=aM (hti _ _ hT)
  have hd:=bL hT.td
  subst hd
  split at hv
  ·rename_i hT3
   obtain⟨d3,i3,z3,hT3⟩:=aM (hti _ _ hT3)
   have hd:=iR hT3.td
   subst hd
   split at hv
   ·rename_i l
    obtain⟨d',hd'⟩:=nI hti hv.1
    obtain⟨ex,hl⟩:=hr.str_inv
    have hsz:(⟨l.toArray⟩:ByteArray).size=l.length:=rfl
    have hrun2:=Lib.run_convert_string_bytes (P:=P) w src dst e ⟨l.toArray⟩ hd' hT.und hT3.und
    rw [<-ex]at hrun2
    have hg:Grew w (Lib.bytesWorld w e ⟨l.toArray⟩):=by
     refine⟨?_, ?_, ?_, ?_,λb hb=>Lib.bytesWorld_at_old w e _ b hb⟩
     ·unfold Lib.bytesWorld World.freeze;split<;>rfl
     ·unfold Lib.bytesWorld World.freeze;split<;>rfl
     ·unfold Lib.bytesWorld World.freeze;split<;>exact⟨rfl,Nat.le_succ _⟩
     ·rw [Lib.bytesWorld_size];omega
    have hmg:=hm.grow hg (λb i=>ρ.S b i\/(b=w.heap.size/\i < l.length)) (λ_ _ x=> .inl x) (λb i x=>by rcases x with x|⟨x,_⟩;exact .inl x;right;omega)
     (λb i x=>by rw [Lib.bytesWorld_size];rcases x with x|⟨x,_⟩;(have:=hm.slt b i x;omega);omega)
    refine bW (hrun _ _ hrun2) (hn _ _ _ (.d (.sl 1 (l.map bC))) hp hv.2 hmg.1 (hmg.2 fr _ hf) (.d _ _ ?_))
    have hcap:=grownCap_ge w l.length 0 e
    have hcapm:grownCap w l.length 0 e<=maxLen:=grownCap_le_maxLen w l.length 0 e (by simpa only [maxLen]using hl)
    refine RepD.mk_sl (b:=w.heap.size) (off:=0) (by rw [List.length_map];exact hcap) hcapm (λ_=>rfl) ⟨?_, ?_⟩ (by rw [List.length_map];exact hsz)
    ·intro row hrow
     obtain⟨c,_,rfl⟩:=List.mem_map.1 hrow
     rfl
    ·intro a' row j y h1 h2
     simp only [List.getElem?_map,Option.map_eq_some_iff]at h1
     obtain⟨c,hc,rfl⟩:=h1
     obtain⟨hlt,hce⟩:=List.getElem?_eq_some_iff.1 hc
     have hj:j=0/\y= .int .u8 c.toNat:=by
      cases j with
      |zero=>simp [bC]at h2;exact⟨rfl,h2.symm⟩
      |succ j=>simp [bC]at h2
     obtain⟨rfl,rfl⟩:=hj
     refine⟨.int .u8 c.toNat, ?_, .inr ⟨rfl,by simpa using hlt⟩,rfl, .int _ _⟩
     have:=Lib.bytesWorld_cell w e ⟨l.toArray⟩ a' (by rw [hsz];exact hlt)
     simp only [Nat.mul_one,Nat.add_zero,Nat.zero_add]
     rw [this]
     simp [List.getD,hc]
   ·rename_i id rows
    obtain⟨rfl,hne,hoo,hk⟩:=hv
    rw [mC]at hk
    obtain⟨hrd,hnl,htt⟩:=hr.osl_inv
    obtain⟨hn1,xs,hown,_,_⟩:=hm.sat id _ hoo
    have ev1:=htt hn1.symm
    rcases xB hown with⟨e1,e2⟩|⟨g,cap,e1,_,_⟩
    ·exact absurd (List.eq_nil_of_length_eq_zero (by omega)) hne
    ·obtain⟨cur,hcur⟩: ∃cur,w.heap[g]? =some (.cells cur e (0,0)):=by
      rcases hown.2 with⟨hn0,_⟩|⟨g',cap',cur,hv',_,hh,_⟩
      ·rw [e1]at hn0;cases hn0
      ·rw [e1]at hv'
       injection hv' with hv'
       injection hv' with hv'
       injection hv' with hv'
       subst hv'
       exact⟨cur,hh⟩
     have hfz:=hm.freezeOwn hoo (g:=g) (by rw [e1];rfl) cur.size 1
     have hrun2:(convert src src (a.eval x)).run P w= .ok (a.eval x) (w.freeze ⟨g,cur.size,none⟩ 1):=by
      have hsh:w.shape? g=some (e,cur.size):=by simp [World.shape?,hcur]
      rw [ev1,e1]
      simp [convert,run_underlying hT.und,run_underlying hT3.und,markStringish,hsh]
     exact bW (hrun _ _ hrun2) (hn _ _ ρ (.d (.sl 1 rows)) _ hk hfz.1 (hfz.2.1 fr _ hf) (hfz.2.2 _ _ (.d _ _ hrd)))
   ·exact hv.elim
  ·exact hv.elim
 ·exact hv.elim
end
end Go.Proofs.YtcomlapnibckmaaGreatDoor
