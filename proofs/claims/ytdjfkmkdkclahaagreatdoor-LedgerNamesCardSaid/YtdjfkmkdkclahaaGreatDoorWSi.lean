/-
  Symbolic memory: new rows of the call's own; fewer objects. Symbolic operations, one by one: conversions, slices, stores, new variables, structs. Symbolic operations, one by one: slices, stores, new variables, append.
  Conditions: none.
-/
import Derived.Test.YtdjfkmkdkclahaaGreatDoorWSf
set_option linter.unusedSectionVars false
set_option linter.unusedSimpArgs false
set_option linter.unusedVariables false
namespace Go.Proofs.YtdjfkmkdkclahaaGreatDoor
section
open Go.RowKit
theorem Mem.sub {E:Entry}{ρ:Env}{hp hp':Hp}{w:World}(h:Mem E ρ hp w) (hs: ∀id o,aM hp' id=some o->aM hp id=some o):Mem E ρ hp' w:=
 ⟨h.os, h.tape, h.output, h.size, h.old, h.sold, h.snew, h.slt, h.kp, λid o ho => h.sat id o (hs id o ho), λid o id' o' g a b => h.inj id o id' o' g (hs _ _ a) (hs _ _ b),
  λid o g a=>h.hb id o g (hs _ _ a),h.mv,λid o g a r b id' o' c=>h.ro id o g (hs _ _ a) r b id' o' (hs _ _ c),h.md⟩
def aHe:Hp->Nat->Hp
 | [],_=>[]
 |(k,o)::r,t=>if k=t then aHe r t else (k,o)::aHe r t
def aGi:Hp->Nat->(Hp->Prop)->Prop
 | [],_,K=>K []
 |(k,o)::r,t,K=>if k=t then aGi r t K else aGi r t λr'=>K ((k,o)::r')
theorem aJ2: ∀(hp:Hp) (t:Nat) (K:Hp->Prop),aGi hp t K=K (aHe hp t):=by
 intro hp
 induction hp with
 |nil=>intro t K;rfl
 |cons p r ih=>
  obtain⟨k,o⟩:=p
  intro t K
  simp only [aGi,aHe]
  split
  ·rw [ih]
  ·rw [ih]
theorem yO (hp:Hp) (id i:Nat):aM (aHe hp id) i=if i=id then none else aM hp i:=by
 induction hp with
 |nil=>simp [aHe,aM]
 |cons p r ih=>
  obtain⟨k,o⟩:=p
  by_cases e:k=id
  ·subst e
   simp only [aHe,if_true,ih,aM]
   by_cases e':i=k
   ·simp [e']
   ·simp [e',Ne.symm e']
  ·simp only [aHe,e,if_false,aM]
   by_cases e':k=i
   ·subst e';simp [e]
   ·simp [e',ih]
theorem Mem.del {E:Entry}{ρ:Env}{hp:Hp}{w:World}(h:Mem E ρ hp w) (id:Nat):Mem E ρ (aHe hp id) w:=
 h.sub λi o ho=>by
  rw [yO]at ho
  split at ho
  ·cases ho
  ·exact ho
theorem aF6 {w':World}{S S':Nat->Nat->Prop}{w:World}{e z:Nat}{v':Value}{rows:List (List D)}{vs:List Value}(hown:w'.ownsRow 0 e z v' rows.length vs) (hfl:Flat w S z rows vs)
  (hS: ∀g,v'.ownBlock=some g-> ∀k,k < rows.length * z->S' g k) (hr: ∀x v,RepD w S x v->RepD w' S' x v):RepD w' S' (.sl z rows) v':=by
 rcases aBg hown with⟨e1,e2⟩|⟨g,cap,e1,hc1,hc2⟩
 ·have hnil:rows=[]:=List.eq_nil_of_length_eq_zero e2
  rw [hnil,e1]
  exact RepD.mk_sl (b:=0) (off:=0) (by simp) (by simp) (λhne=>absurd rfl hne) ⟨by simp,by simp⟩ (by simp)
 ·have hview:View w' S' z rows g 0:=by
   refine hfl.view (λk u hu=> ?_) (λk hk=> ?_) hr
   ·rw [Nat.zero_add];exact gN hown (g:=g) (by rw [e1];rfl) k u hu
   ·rw [Nat.zero_add]
    refine hS g (by rw [e1];rfl) k ?_
    rw [hfl.len]at hk
    exact hk
  have hfin:RepD w' S' (.sl z rows) (.slice (some ⟨g,0,none⟩) rows.length cap):=RepD.mk_sl (b:=g) (off:=0) hc1 hc2 (λ_=>rfl) hview rfl
  rw [<-e1]at hfin
  exact hfin
theorem Mem.newOwn {E:Entry}{ρ:Env}{hp:Hp}{w w':World}(h:Mem E ρ hp w) {id e z:Nat}{rows:List (List D)}{vs:List Value}{v':Value}(hg:Grew w w')
  (hown:w'.ownsRow 0 e z v' rows.length vs) (hnew: ∀g,v'.ownBlock=some g->w.heap.size<=g) (hfl:Flat w ρ.S z rows vs) (hid:id∉jP hp) (hpin:id∉E.pin):
  Mem E (ρ.grown id rows.length z v') ((id, .own e z rows.length)::hp) w'/\(∀fr tm,id∉fS fr->bW ρ w fr tm->bW (ρ.grown id rows.length z v') w' fr tm)/\
   Rep w' (ρ.grown id rows.length z v') (.osl id z rows) v':=by
 have hk:bL ρ.S w w':=hg.keeps h.slt
 have hSS: ∀b k,ρ.S b k->(ρ.grown id rows.length z v').S b k:= λb k hs=> .inl hs
 have hmv: ∀i,i≠id->ρ.moved (ρ.grown id rows.length z v') i:= λi hi=>⟨rfl, .inl (by simp [Env.grown,hi])⟩
 have hat: ∀i o,i≠id->(ρ.grown id rows.length z v').at i o=ρ.at i o:=by
  intro i o hi
  cases o<;>simp [Env.at,Env.grown,hi]
 have hatid:(ρ.grown id rows.length z v').at id (.own e z rows.length)=v'.ownBlock:=by simp [Env.at,Env.grown]
 have hget: ∀i o,aM ((id,HObj.own e z rows.length)::hp) i=some o->(i=id/\o= .own e z rows.length)\/(i≠id/\aM hp i=some o):=by
  intro i o ho
  by_cases e:i=id
  ·subst e;simp [aM]at ho;exact .inl ⟨rfl,ho.symm⟩
  ·rw [cF (λh=>e h.symm)]at ho;exact .inr ⟨e,ho⟩
 have hlt': ∀b,v'.ownBlock=some b->b < w'.heap.size:= λb hb=>(hown.lt b hb).2
 refine⟨⟨hg.os.trans h.os,hg.tape.trans h.tape,hg.output.trans h.output,Nat.le_trans h.size hg.size, ?_, ?_, ?_, ?_,h.kp.trans h.sold hk, ?_, ?_, ?_, ?_, ?_,λb hb=>(hg.block b (aW (h.md b hb))).trans (h.md b hb)⟩, ?_, ?_⟩
 ·exact λb hb hB=>(hg.block b (Nat.lt_of_lt_of_le hb h.size)).trans (h.old b hb hB)
 ·exact λb k hs=> .inl (h.sold b k hs)
 ·rintro b k (hs|⟨hs,_⟩) hb hB
  ·exact h.snew b k hs hb hB
  ·have:=hnew b hs;have:=h.size;omega
 ·rintro b k (hs|⟨hs,_⟩)
  ·exact Nat.lt_of_lt_of_le (h.slt b k hs) hg.size
  ·exact hlt' b hs
 ·intro i o ho
  rcases hget i o ho with⟨rfl,rfl⟩|⟨e1,ho1⟩
  ·refine⟨by simp [Env.grown],vs,by simpa [Env.grown]using hown, ?_,hfl.one⟩
   intro g hgg k hk'
   simp only [Env.grown,if_true]at hgg hk' |-
   rcases hk' with hs|⟨_,hs⟩
   ·have:=hnew g hgg;have:=h.slt g k hs;omega
   ·exact hs
  ·refine(h.sat i o ho1).keep hk hSS ?_ (by simp [Env.grown,e1]) ?_ ?_
   ·rintro j hj
    exact hmv j λe'=>hid (e' ▸ bA ho1 hj)
   ·rintro g (hg'|⟨hg',hrd⟩)
    ·exact hg.block g (h.blk_lt ho1 hg')
    ·exact hg.block g (h.ro_lt ho1 hrd hg')
   ·rintro g hg' k (hs|⟨hs,_⟩)
    ·exact hs
    ·have:=hnew g hs;have:=h.blk_lt ho1 hg';omega
 ·intro i o i' o' g ho ho' hg1 hg2
  rcases hget i o ho with⟨e1,rfl⟩|⟨e1,ho1⟩
  ·rcases hget i' o' ho' with⟨e2,rfl⟩|⟨e2,ho2⟩
   ·rw [e1,e2]
   ·rw [e1,hatid]at hg1
    rw [hat i' o' e2]at hg2
    have:=hnew g hg1;have:=h.blk_lt ho2 hg2;omega
  ·rw [hat i o e1]at hg1
   rcases hget i' o' ho' with⟨e2,rfl⟩|⟨e2,ho2⟩
   ·rw [e2,hatid]at hg2
    have:=hnew g hg2;have:=h.blk_lt ho1 hg1;omega
   ·rw [hat i' o' e2]at hg2
    exact h.inj i o i' o' g ho1 ho2 hg1 hg2
 ·intro i o g ho hg1
  rcases hget i o ho with⟨e1,rfl⟩|⟨e1,ho1⟩
  ·rw [e1,hatid]at hg1
   have:=hnew g hg1;have:=h.size;left;omega
  ·rw [hat i o e1]at hg1
   exact h.hb i o g ho1 hg1
 ·exact λi hi=>Env.moved_trans (h.mv i hi) (hmv i λe=>hpin (e ▸ hi))
 ·intro i oR g ho hrd hg1 i' o' ho' hg2
  rcases hget i _ ho with⟨_,hc⟩|⟨e1,ho1⟩
  ·rw [hc]at hrd;exact hrd.elim
  ·have hg1':ρ.blk i=some g:=hg1
   rcases hget i' o' ho' with⟨e2,rfl⟩|⟨e2,ho2⟩
   ·rw [e2,hatid]at hg2
    have:=hnew g hg2;have:=h.ro_lt ho1 hrd hg1';omega
   ·rw [hat i' o' e2]at hg2
    exact h.ro i _ g ho1 hrd hg1' i' o' ho2 hg2
 ·exact λfr tm hf hfs=>hfs.mono hk hSS λi hi=>hmv i λe=>hf (e ▸ hi)
 ·refine .osl id z rows v' ?_ (by simp [Env.grown]) (by simp [Env.grown])
  exact aF6 hown hfl (λg hgg k hk'=> .inr ⟨hgg,hk'⟩) λx v hx=>hx.mono hk hSS
theorem Mem.newNil {E:Entry}{ρ:Env}{hp:Hp}{w:World}(h:Mem E ρ hp w) {id:Nat}(e z:Nat) (hid:id∉jP hp) (hpin:id∉E.pin):
  Mem E (ρ.grown id 0 z (.slice none 0 0)) ((id, .own e z 0)::hp) w/\(∀fr tm,id∉fS fr->bW ρ w fr tm->bW (ρ.grown id 0 z (.slice none 0 0)) w fr tm)/\
   Rep w (ρ.grown id 0 z (.slice none 0 0)) (.osl id z []) (.slice none 0 0):=
 h.newOwn (rows:=[]) (vs:=[]) (Grew.refl w) (World.ownsRow_nil w 0 e z) (by simp [Value.ownBlock]) (Flat.nil w ρ.S z) hid hpin
def Env.retop (ρ:Env) (id n:Nat) (v:Value):Env:={ ρ with n:= λi=>if i=id then n else ρ.n i,tv:= λi=>if i=id then v else ρ.tv i }
theorem Env.retop_at (ρ:Env) {id n:Nat}{v:Value}{i:Nat}{o:HObj}(h:i≠id):(ρ.retop id n v).at i o=ρ.at i o:=by
 cases o<;>simp [Env.at,Env.retop,h]
theorem Env.moved_retop (ρ:Env) {id n:Nat}{v:Value}{i:Nat}(h:i≠id):ρ.moved (ρ.retop id n v) i:=⟨rfl, .inl (by simp [Env.retop,h])⟩
theorem Mem.setMrow {E:Entry}{ρ:Env}{hp:Hp}{w w':World}(h:Mem E ρ hp w) {id e z cap:Nat}{rows:List (List D)}(ho:aM hp id=some (.mrow e z cap rows)) {cap':Nat}{rows':List (List D)}{v':Value}
  (hos:w'.os=w.os) (htape:w'.tape=w.tape) (hout:aH8 w' w) (hsz:w.heap.size<=w'.heap.size) (hoth: ∀b,b < w.heap.size->dM (ρ.tv id)≠some b->w'.heap[b]? =w.heap[b]?)
  (hm:dY w' ρ.S e z cap' rows' v') (hblk: ∀g,dM v'=some g->dM (ρ.tv id)=some g\/w.heap.size<=g)
  (hver:(rows'.length=rows.length/\v'=ρ.tv id)\/rows.length < rows'.length):
  Mem E (ρ.retop id rows'.length v') (dQ hp id (.mrow e z cap' rows')) w'/\bL ρ.S w w'/\ ∀i,ρ.moved (ρ.retop id rows'.length v') i:=by
 obtain⟨hn0,hm0⟩:=h.sat id _ ho
 have hnoS: ∀g,dM (ρ.tv id)=some g-> ∀i,¬ ρ.S g i:=by
  intro g hg
  rcases hm0 with⟨_,_,A,e1⟩|⟨hc,g',cur,e1,_,_,_,_,_,h7⟩
  ·rw [e1]at hg;cases A<;>simp [dM]at hg
  ·rw [e1]at hg
   have:cap≠0:=by omega
   simp only [dM,this,if_false,Option.some.injEq]at hg
   subst hg;exact h7
 have hk:bL ρ.S w w':= λb i hs=>World.cell?_of_block (w:=w) (hoth b (h.slt b i hs) λhb=>hnoS b hb i hs)
 have hmv: ∀i,ρ.moved (ρ.retop id rows'.length v') i:=by
  intro i
  by_cases e1:i=id
  ·subst e1
   refine⟨rfl, ?_⟩
   simp only [Env.retop,if_true]
   rcases hver with⟨a,b⟩|a
   ·left;exact⟨by omega,b⟩
   ·right;omega
  ·exact ρ.moved_retop e1
 have hget: ∀j o,aM (dQ hp id (.mrow e z cap' rows')) j=some o->(j=id/\o= .mrow e z cap' rows')\/(j≠id/\aM hp j=some o):=by
  intro j o hj
  rw [aX _ ho]at hj
  by_cases e1:j=id
  ·simp [e1]at hj;exact .inl ⟨e1,hj.symm⟩
  ·simp [e1]at hj;exact .inr ⟨e1,hj⟩
 have hatid:(ρ.retop id rows'.length v').at id (.mrow e z cap' rows')=dM v':=by simp [Env.at,Env.retop]
 have hne: ∀j o b,j≠id->aM hp j=some o->ρ.at j o=some b->dM (ρ.tv id)≠some b:= λj o b hj hjo hb hvb=>hj (h.inj j o id _ b hjo ho hb hvb)
 have hlt': ∀b,dM v'=some b->b < w'.heap.size:= λb hb=>by obtain⟨cur,hc⟩:=hm.heap hb;exact aW hc
 refine⟨⟨hos.trans h.os,htape.trans h.tape,hout.trans h.output,Nat.le_trans h.size hsz, ?_,h.sold,h.snew,λb i hs=>Nat.lt_of_lt_of_le (h.slt b i hs) hsz,h.kp.trans h.sold hk, ?_, ?_, ?_,λj hj=>Env.moved_trans (h.mv j hj) (hmv j), ?_, ?_⟩,hk,hmv⟩
 ·intro b hb hB
  rw [hoth b (Nat.lt_of_lt_of_le hb h.size) ?_]
  ·exact h.old b hb hB
  ·intro hvb
   rcases h.hb id _ b ho hvb with hge|hB'
   ·omega
   ·exact hB hB'
 ·intro j o hj
  rcases hget j o hj with⟨rfl,rfl⟩|⟨e1,hj⟩
  ·refine⟨by simp [Env.retop], ?_⟩
   have:(ρ.retop j rows'.length v').tv j=v':=by simp [Env.retop]
   rw [this];exact hm
  ·refine(h.sat j o hj).keep hk (λ_ _ x=>x) (λa _=>hmv a) (by simp [Env.retop,e1]) ?_ (λ_ _ _ x=>x)
   rintro b (hb|⟨hb,hrd⟩)
   ·exact hoth b (h.blk_lt hj hb) (hne j o b e1 hj hb)
   ·exact hoth b (h.ro_lt hj hrd hb) λhvb=>h.ro j _ b hj hrd hb id _ ho hvb
 ·intro j o j' o' b hj hj' hb hb'
  rcases hget j o hj with⟨e1,rfl⟩|⟨e1,hj1⟩
  ·rcases hget j' o' hj' with⟨e2,rfl⟩|⟨e2,hj2⟩
   ·rw [e1,e2]
   ·rw [e1,hatid]at hb
    rw [ρ.retop_at e2]at hb'
    rcases hblk b hb with hvb|hge
    ·exact absurd hvb (hne j' o' b e2 hj2 hb')
    ·have:=h.blk_lt hj2 hb';omega
  ·rw [ρ.retop_at e1]at hb
   rcases hget j' o' hj' with⟨e2,rfl⟩|⟨e2,hj2⟩
   ·rw [e2,hatid]at hb'
    rcases hblk b hb' with hvb|hge
    ·exact absurd hvb (hne j o b e1 hj1 hb)
    ·have:=h.blk_lt hj1 hb;omega
   ·rw [ρ.retop_at e2]at hb'
    exact h.inj j o j' o' b hj1 hj2 hb hb'
 ·intro j o b hj hb
  rcases hget j o hj with⟨e1,rfl⟩|⟨e1,hj1⟩
  ·rw [e1,hatid]at hb
   rcases hblk b hb with hvb|hge
   ·exact h.hb id _ b ho hvb
   ·have:=h.size;left;omega
  ·rw [ρ.retop_at e1]at hb
   exact h.hb j o b hj1 hb
 ·intro j oR b hj hrd hb j' o' hj' hb'
  have hb0:ρ.blk j=some b:=hb
  rcases hget j _ hj with⟨_,hc⟩|⟨e1,hj1⟩
  ·rw [hc]at hrd;exact hrd.elim
  ·rcases hget j' o' hj' with⟨e2,rfl⟩|⟨e2,hj2⟩
   ·rw [e2,hatid]at hb'
    rcases hblk b hb' with hvb|hge
    ·exact h.ro j _ b hj1 hrd hb0 id _ ho hvb
    ·have:=h.ro_lt hj1 hrd hb0;omega
   ·rw [ρ.retop_at e2]at hb'
    exact h.ro j _ b hj1 hrd hb0 j' o' hj2 hb'
 ·intro b hb
  refine(hoth b (aW (h.md b hb)) λhvb=> ?_).trans (h.md b hb)
  obtain⟨cur,hc⟩:=hm0.heap hvb
  rw [h.md b hb]at hc;cases hc
theorem Mem.newMrow {E:Entry}{ρ:Env}{hp:Hp}{w w':World}(h:Mem E ρ hp w) {id e z cap:Nat}{rows:List (List D)}{v:Value}(hid:id∉jP hp) (hpin:id∉E.pin) (hg:Grew w w')
  (hm:dY w' ρ.S e z cap rows v) (hnew: ∀g,dM v=some g->w.heap.size<=g):
  Mem E (ρ.retop id rows.length v) ((id, .mrow e z cap rows)::hp) w'/\bL ρ.S w w'/\ ∀i,i≠id->ρ.moved (ρ.retop id rows.length v) i:=by
 have hk:bL ρ.S w w':=hg.keeps h.slt
 have hmv: ∀i,i≠id->ρ.moved (ρ.retop id rows.length v) i:= λi hi=>ρ.moved_retop hi
 have hatid:(ρ.retop id rows.length v).at id (.mrow e z cap rows)=dM v:=by simp [Env.at,Env.retop]
 have hget: ∀i o,aM ((id,HObj.mrow e z cap rows)::hp) i=some o->(i=id/\o= .mrow e z cap rows)\/(i≠id/\aM hp i=some o):=by
  intro i o ho
  by_cases e:i=id
  ·subst e;simp [aM]at ho;exact .inl ⟨rfl,ho.symm⟩
  ·rw [cF (λh=>e h.symm)]at ho;exact .inr ⟨e,ho⟩
 refine⟨⟨hg.os.trans h.os,hg.tape.trans h.tape,hg.output.trans h.output,Nat.le_trans h.size hg.size, ?_,h.sold,h.snew,λb i hs=>Nat.lt_of_lt_of_le (h.slt b i hs) hg.size,h.kp.trans h.sold hk, ?_, ?_, ?_, ?_, ?_,λb hb=>(hg.block b (aW (h.md b hb))).trans (h.md b hb)⟩,hk,hmv⟩
 ·exact λb hb hB=>(hg.block b (Nat.lt_of_lt_of_le hb h.size)).trans (h.old b hb hB)
 ·intro i o ho
  rcases hget i o ho with⟨rfl,rfl⟩|⟨e1,ho1⟩
  ·refine⟨by simp [Env.retop], ?_⟩
   have:(ρ.retop i rows.length v).tv i=v:=by simp [Env.retop]
   rw [this];exact hm
  ·refine(h.sat i o ho1).keep hk (λ_ _ x=>x) ?_ (by simp [Env.retop,e1]) ?_ (λ_ _ _ x=>x)
   ·rintro j hj
    exact hmv j λe'=>hid (e' ▸ bA ho1 hj)
   ·rintro g (hg'|⟨hg',hrd⟩)
    ·exact hg.block g (h.blk_lt ho1 hg')
    ·exact hg.block g (h.ro_lt ho1 hrd hg')
 ·intro i o i' o' g ho ho' hg1 hg2
  rcases hget i o ho with⟨e1,rfl⟩|⟨e1,ho1⟩
  ·rcases hget i' o' ho' with⟨e2,rfl⟩|⟨e2,ho2⟩
   ·rw [e1,e2]
   ·rw [e1,hatid]at hg1
    rw [ρ.retop_at e2]at hg2
    have:=hnew g hg1;have:=h.blk_lt ho2 hg2;omega
  ·rw [ρ.retop_at e1]at hg1
   rcases hget i' o' ho' with⟨e2,rfl⟩|⟨e2,ho2⟩
   ·rw [e2,hatid]at hg2
    have:=hnew g hg2;have:=h.blk_lt ho1 hg1;omega
   ·rw [ρ.retop_at e2]at hg2
    exact h.inj i o i' o' g ho1 ho2 hg1 hg2
 ·intro i o g ho hg1
  rcases hget i o ho with⟨e1,rfl⟩|⟨e1,ho1⟩
  ·rw [e1,hatid]at hg1
   have:=hnew g hg1;have:=h.size;left;omega
  ·rw [ρ.retop_at e1]at hg1
   exact h.hb i o g ho1 hg1
 ·exact λi hi=>Env.moved_trans (h.mv i hi) (hmv i λe=>hpin (e ▸ hi))
 ·intro i oR g ho hrd hg1 i' o' ho' hg2
  rcases hget i _ ho with⟨_,hc⟩|⟨e1,ho1⟩
  ·rw [hc]at hrd;exact hrd.elim
  ·have hg1':ρ.blk i=some g:=hg1
   rcases hget i' o' ho' with⟨e2,rfl⟩|⟨e2,ho2⟩
   ·rw [e2,hatid]at hg2
    have:=hnew g hg2;have:=h.ro_lt ho1 hrd hg1';omega
   ·rw [ρ.retop_at e2]at hg2
    exact h.ro i _ g ho1 hrd hg1' i' o' ho2 hg2
theorem dY.rep {w:World}{ρ:Env}{e z cap id:Nat}{rows:List (List D)}(h:dY w ρ.S e z cap rows (ρ.tv id)) (hn:ρ.n id=rows.length) {n:Nat}(hl:n=rows.length):Rep w ρ (.mw id z n) (ρ.tv id):=by
 obtain⟨A,e1,h2,h3,h4⟩:=h.shape
 subst hl
 have:=Rep.mw (w:=w) (ρ:=ρ) id z rows.length cap A h2 h3 (λh0=>h4 (by omega)) (by omega) (λ_=>e1.symm)
 rw [e1];exact this
end
section
open Go.RowKit
def bB (c:UInt8):List D:=[.int .u8 c.toNat]
def aPl:List D->UInt8
 | [.int .u8 n]=>UInt8.ofNat n.toNat
 |_=>0
def unb (rows:List (List D)):List UInt8:=rows.map aPl
theorem fJ (l:List UInt8):unb (l.map bB)=l:=by
 unfold unb
 rw [List.map_map]
 conv=>rhs;rw [<-List.map_id l]
 apply List.map_congr_left
 intro c _
 simp [aPl,bB]
section
variable {P:Program}
def conv (k0 k:IntKind) (n:Int) (K:SV->Prop):Prop:=
 match k0 with
 | .u64=>K (.d (.int k (k.wrap n)))
 |_=>zI k n K
theorem aGl {k0 k:IntKind}{n:Int}{K:SV->Prop}(h:conv k0 k n K):K (.d (.int k (k.wrap n))):=by
 cases k0<;>simp only [conv]at h<;>first|exact jS h|exact h
def aKi (ti:TypeId->Option TI) (src dst:TypeId) (s:SV) (hp:Hp) (K:SV->Hp->Prop):Prop:=
 match ti dst with
 |some { td:= .int k, .. }=>(match s with| .d (.int k0 n)=>(ti src).isSome=true/\conv k0 k n λr=>K r hp|_=>aD "convert: to an int")
 |some { td:= .string, .. }=>
  (match s with
  | .d (.str l)=>(ti src).isSome=true/\K (.d (.str l)) hp
  |s=>
   match ti src with
   |some { td:= .slice e, .. }=>
    match ti e with
    |some { td:= .int .u8, .. }=>
     match s with
     | .d .nil=>K (.d (.str [])) hp
     |s=>match mT s with
      |some (1,rows)=>rows=(unb rows).map bB/\K (.d (.str (unb rows))) hp
      |_=>aD "convert: to a string"
    |_=>aD "convert: to a string"
   |_=>aD "convert: to a string")
 |some { td:= .slice e, .. }=>
  match ti e with
  |some { td:= .int .u8, .. }=>
   (match s with
   | .d (.str l)=>(ti src).isSome=true/\K (.d (.sl 1 (l.map bB))) hp
   | .osl id 1 rows=>src=dst/\rows≠[]/\aM hp id=some (.own e 1 rows.length)/\aGi hp id λhp'=>K (.d (.sl 1 rows)) hp'
   |_=>aD "convert: to bytes")
  |_=>aD "convert: to a slice"
 |_=>aD "convert"
theorem nY {ti:TypeId->Option TI}(hti:cG P ti) {t:TypeId}(h:(ti t).isSome=true): ∃d,P.underlying t=some d:=by
 obtain⟨T,hT⟩:=Option.isSome_iff_exists.1 h
 obtain⟨d,i,z,hT⟩:=aL (hti _ _ hT)
 exact⟨d,hT.und⟩
theorem aAn {w:World}{g n k:Nat}: ∀b i,(w.freeze ⟨g,n,none⟩ k).cell? ⟨b,i,none⟩=w.cell? ⟨b,i,none⟩:=by
 intro b i
 unfold World.freeze
 split
 ·rfl
 ·unfold World.cell?
  simp only [Array.getElem?_modify]
  by_cases e:g=b
  ·subst e
   simp only [if_true]
   cases w.heap[g]? with
   |none=>rfl
   |some o=>cases o<;>rfl
  ·simp [e]
theorem fY {w:World}{g n k b:Nat}(h:b≠g):(w.freeze ⟨g,n,none⟩ k).heap[b]? =w.heap[b]? :=by
 unfold World.freeze
 split
 ·rfl
 ·simp [Array.getElem?_modify,Ne.symm h]
theorem rD {w:World}{g n k:Nat}:(w.freeze ⟨g,n,none⟩ k).heap.size=w.heap.size:=by
 unfold World.freeze
 split<;>simp
theorem Mem.freezeOwn {E:Entry}{ρ:Env}{hp:Hp}{w:World}(h:Mem E ρ hp w) {id e z n g:Nat}(ho:aM hp id=some (.own e z n)) (hg:(ρ.tv id).ownBlock=some g) (m k:Nat):
  Mem E ρ (aHe hp id) (w.freeze ⟨g,m,none⟩ k)/\(∀fr tm,bW ρ w fr tm->bW ρ (w.freeze ⟨g,m,none⟩ k) fr tm)/\ ∀s v,Rep w ρ s v->Rep (w.freeze ⟨g,m,none⟩ k) ρ s v:=by
 have hk:bL ρ.S w (w.freeze ⟨g,m,none⟩ k):= λb i _=>aAn b i
 have hrf: ∀i,ρ.moved ρ i:=ρ.moved_refl
 have hat:ρ.at id (.own e z n)=some g:=hg
 have hd:=h.del id
 refine⟨⟨?_, ?_, ?_,by rw [rD];exact h.size, ?_,h.sold,h.snew,by rw [rD];exact h.slt,h.kp.trans h.sold hk, ?_,hd.inj,hd.hb,h.mv,hd.ro,λb hb=>(fY (λe'=>by obtain⟨_,xs,h1,_⟩:=h.sat id _ ho;subst e';exact iW h1 hg (h.md _ hb))).trans (h.md b hb)⟩, ?_, ?_⟩
 ·unfold World.freeze;split<;>exact h.os
 ·unfold World.freeze;split<;>exact h.tape
 ·unfold World.freeze;split<;>exact h.output
 ·intro b hb hB
  rw [fY ?_]
  ·exact h.old b hb hB
  ·rintro rfl
   rcases h.hb id _ b ho hat with hge|hB'
   ·omega
   ·exact hB hB'
 ·intro i o hi
  rw [yO]at hi
  split at hi
  ·cases hi
  ·rename_i hne
   refine(h.sat i o hi).keep hk (λ_ _ x=>x) (λj _=>hrf j) ⟨rfl,rfl⟩ ?_ (λ_ _ _ x=>x)
   rintro b (hb'|⟨hb',hrd⟩)
   ·exact fY λe'=>hne (h.inj i o id _ b hi ho hb' (by rw [e'];exact hat))
   ·exact fY λe'=>h.ro i _ b hi hrd hb' id _ ho (by rw [e'];exact hat)
 ·exact λfr tm hf=>hf.mono hk (λ_ _ x=>x) λi _=>hrf i
 ·exact λs v hr=>hr.mono hk (λ_ _ x=>x) λi _=>hrf i
theorem aLe {ti:TypeId->Option TI}(hti:cG P ti) {o:Oper}{src dst:TypeId}{x:Operand}(ho:o.op= .convert src dst x) {pin:Pin}{fr:Fr}{hp:Hp}{K:SV->Hp->Prop}
  (h:ev fr x λs=>aKi ti src dst s hp K):oL P o pin fr hp K:=by
 intro E ρ a w _ hm hf next Q hn
 obtain⟨s,hs,hv⟩:=bR h
 have hr:=aR hf hs
 have hrun: ∀v w',(convert src dst (a.eval x)).run P w= .ok v w'->(execOp a.eval o).run P w= .ok (.value v) w':=by
  intro v w' e
  simp [execOp,ho,e]
 have same: ∀v r,(convert src dst (a.eval x)).run P w= .ok v w->Rep w ρ r v->K r hp->o.wp P a w next Q:= λv r e1 e2 e3=>
  bN (hrun _ _ e1) (hn v w ρ r hp e3 hm hf e2)
 unfold aKi at hv
 split at hv
 ·rename_i k _ _ _ hT
  obtain⟨d,i,z,hT⟩:=aL (hti _ _ hT)
  have hd:=jH hT.td
  subst hd
  split at hv
  ·rename_i k0 n
   obtain⟨d',hd'⟩:=nY hti hv.1
   refine same _ _ ?_ (.d _ _ (.int _ _)) (aGl hv.2)
   simp [convert,run_underlying hd',run_underlying hT.und,hr.int_inv,Conv.intToInt]
  ·exact hv.elim
 ·rename_i hT
  obtain⟨d,i,z,hT⟩:=aL (hti _ _ hT)
  have hd:=dZ hT.td
  subst hd
  split at hv
  ·rename_i l
   obtain⟨d',hd'⟩:=nY hti hv.1
   refine same _ _ ?_ hr hv.2
   have e:=hr.str_inv.1
   simp [convert,run_underlying hd',run_underlying hT.und,e]
  ·split at hv
   ·rename_i e _ _ _ hT2
    obtain⟨d2,i2,z2,hT2⟩:=aL (hti _ _ hT2)
    have hd:=bK hT2.td
    subst hd
    split at hv
    ·rename_i hT3
     obtain⟨d3,i3,z3,hT3⟩:=aL (hti _ _ hT3)
     have hd:=jH hT3.td
     subst hd
     split at hv
     ·refine same (.string ⟨#[]⟩) _ ?_ (.d _ _ (RepD.str [] (by simp))) hv
      rw [hr.nil_inv,run_convert_bytes_string w src dst e none 0 0 hT2.und hT3.und hT.und]
      rfl
     ·split at hv
      ·rename_i rows hrows
       obtain⟨he,hk⟩:=hv
       obtain⟨A,cap,b,off,e1,hnc,hcm,hA,hview⟩:=(gL hrows hr).of_sl
       have hlen:(unb rows).length=rows.length:=by simp [unb]
       have hle:(unb rows).length<=maxLen:=by rw [hlen];omega
       refine same _ _ ?_ (.d _ _ (RepD.str (unb rows) hle)) hk
       rw [e1]
       by_cases hne:rows=[]
       ·subst hne
        rcases A with _|ad
        ·rw [run_convert_bytes_string w src dst e _ _ _ hT2.und hT3.und hT.und]
         rfl
        ·have:=run_convert_bytes_back (P:=P) w src dst e ad cap [] hT2.und hT3.und hT.und (λj hj=>by simp at hj)
         simpa [unb]using this
       ·have hA':=hA hne
        subst hA'
        have := run_convert_bytes_back (P := P) w src dst e ⟨b, off, none⟩ cap (unb rows) hT2.und hT3.und hT.und (λj hj => by
         rw [bV]
         have hj':j < rows.length:=by omega
         have hrow:rows[j]? =some (bB (unb rows)[j]):=by
          conv=>lhs;rw [he]
          rw [List.getElem?_map,List.getElem?_eq_getElem hj];rfl
         obtain⟨v,c1,_,_,c4⟩:=hview.cell j _ 0 _ hrow (by simp [bB];rfl)
         cases c4
         have ej:j * 1+0=j:=by omega
         rw [ej]at c1
         exact c1)
        rw [hlen]at this
        exact this
      ·exact hv.elim
    ·exact hv.elim
   ·exact hv.elim
 ·rename_i e _ _ _ hT
  obtain⟨d,i,z,hT⟩:=aL (hti _ _ hT)
  have hd:=bK hT.td
  subst hd
  split at hv
  ·rename_i hT3
   obtain⟨d3,i3,z3,hT3⟩:=aL (hti _ _ hT3)
   have hd:=jH hT3.td
   subst hd
   split at hv
   ·rename_i l
    obtain⟨d',hd'⟩:=nY hti hv.1
    obtain⟨ex,hl⟩:=hr.str_inv
    have hsz:(⟨l.toArray⟩:ByteArray).size=l.length:=rfl
    have hrun2:=Lib.run_convert_string_bytes (P:=P) w src dst e ⟨l.toArray⟩ hd' hT.und hT3.und
    rw [<-ex]at hrun2
    have hg:Grew w (Lib.bytesWorld w e ⟨l.toArray⟩):=by
     refine⟨?_, ?_, ?_, ?_,λb hb=>Lib.bytesWorld_at_old w e _ b hb⟩
     ·unfold Lib.bytesWorld World.freeze;split<;>rfl
     ·unfold Lib.bytesWorld World.freeze;split<;>rfl
     ·unfold Lib.bytesWorld World.freeze;split<;>exact⟨rfl,Nat.le_succ _⟩
     ·rw [Lib.bytesWorld_size];omega
    have hmg:=hm.grow hg (λb i=>ρ.S b i\/(b=w.heap.size/\i < l.length)) (λ_ _ x=> .inl x) (λb i x=>by rcases x with x|⟨x,_⟩;exact .inl x;right;omega)
     (λb i x=>by rw [Lib.bytesWorld_size];rcases x with x|⟨x,_⟩;(have:=hm.slt b i x;omega);omega)
    refine bN (hrun _ _ hrun2) (hn _ _ _ (.d (.sl 1 (l.map bB))) hp hv.2 hmg.1 (hmg.2 fr _ hf) (.d _ _ ?_))
    have hcap:=grownCap_ge w l.length 0 e
    have hcapm:grownCap w l.length 0 e<=maxLen:=grownCap_le_maxLen w l.length 0 e (by simpa only [maxLen]using hl)
    refine RepD.mk_sl (b:=w.heap.size) (off:=0) (by rw [List.length_map];exact hcap) hcapm (λ_=>rfl) ⟨?_, ?_⟩ (by rw [List.length_map];exact hsz)
    ·intro row hrow
     obtain⟨c,_,rfl⟩:=List.mem_map.1 hrow
     rfl
    ·intro a' row j y h1 h2
     simp only [List.getElem?_map,Option.map_eq_some_iff]at h1
     obtain⟨c,hc,rfl⟩:=h1
     obtain⟨hlt,hce⟩:=List.getElem?_eq_some_iff.1 hc
     have hj:j=0/\y= .int .u8 c.toNat:=by
      cases j with
      |zero=>simp [bB]at h2;exact⟨rfl,h2.symm⟩
      |succ j=>simp [bB]at h2
     obtain⟨rfl,rfl⟩:=hj
     refine⟨.int .u8 c.toNat, ?_, .inr ⟨rfl,by simpa using hlt⟩,rfl, .int _ _⟩
     have:=Lib.bytesWorld_cell w e ⟨l.toArray⟩ a' (by rw [hsz];exact hlt)
     simp only [Nat.mul_one,Nat.add_zero,Nat.zero_add]
     rw [this]
     simp [List.getD,hc]
   ·rename_i id rows
    obtain⟨rfl,hne,hoo,hk⟩:=hv
    rw [aJ2]at hk
    obtain⟨hrd,hnl,htt⟩:=hr.osl_inv
    obtain⟨hn1,xs,hown,_,_⟩:=hm.sat id _ hoo
    have ev1:=htt hn1.symm
    rcases aBg hown with⟨e1,e2⟩|⟨g,cap,e1,_,_⟩
    ·exact absurd (List.eq_nil_of_length_eq_zero (by omega)) hne
    ·obtain⟨cur,hcur⟩: ∃cur,w.heap[g]? =some (.cells cur e (0,0)):=by
      rcases hown.2 with⟨hn0,_⟩|⟨g',cap',cur,hv',_,hh,_⟩
      ·rw [e1]at hn0;cases hn0
      ·rw [e1]at hv'
       injection hv' with hv'
       injection hv' with hv'
       injection hv' with hv'
       subst hv'
       exact⟨cur,hh⟩
     have hfz:=hm.freezeOwn hoo (g:=g) (by rw [e1];rfl) cur.size 1
     have hrun2:(convert src src (a.eval x)).run P w= .ok (a.eval x) (w.freeze ⟨g,cur.size,none⟩ 1):=by
      have hsh:w.shape? g=some (e,cur.size):=by simp [World.shape?,hcur]
      rw [ev1,e1]
      simp [convert,run_underlying hT.und,run_underlying hT3.und,markStringish,hsh]
     exact bN (hrun _ _ hrun2) (hn _ _ ρ (.d (.sl 1 rows)) _ hk hfz.1 (hfz.2.1 fr _ hf) (hfz.2.2 _ _ (.d _ _ hrd)))
   ·exact hv.elim
  ·exact hv.elim
 ·exact hv.elim
end
end
section
open Go.RowKit
section
variable {P:Program}
def rJ (fr:Fr):Option Operand->Option (Option SV)
 |none=>some none
 |some x=>match evO fr x with|some s=>some (some s)|none=>none
def cut (n:Nat) (lo hi mx:Option SV) (K:Nat->Nat->Prop):Prop:=
 match mx with
 |none=>
  (match lo, hi with
  |none,none=>K 0 n
  |some (.d (.int _ l)),none=>0<=l/\l.toNat<=n/\K l.toNat n
  |none,some (.d (.int _ h))=>0<=h/\h.toNat<=n/\K 0 h.toNat
  |some (.d (.int _ l)),some (.d (.int _ h))=>0<=l/\l<=h/\h.toNat<=n/\K l.toNat h.toNat
  |_,_=>aD "slice: bounds")
 |some (.d (.int _ m))=>
  (match lo, hi with
  |none,some (.d (.int _ h))=>0<=h/\h<=m/\m.toNat<=n/\K 0 h.toNat
  |some (.d (.int _ l)),some (.d (.int _ h))=>0<=l/\l<=h/\h<=m/\m.toNat<=n/\K l.toNat h.toNat
  |_,_=>aD "slice: bounds")
 |_=>aD "slice: bounds"
theorem View.part_ {w:World}{S:Nat->Nat->Prop}{z:Nat}{rows:List (List D)}{b o i off:Nat}{row:List D}(h:View w S z rows b o) (hi:rows[i]? =some row) (n:Nat):View w S 1 (((row.drop off).take n).map λc=>[c]) b (o+(i * z+off)):=by
 refine⟨λr hr=> ?_,λk r j x h1 h2=> ?_⟩
 ·obtain⟨c,_,rfl⟩:=List.mem_map.1 hr;rfl
 ·rw [List.getElem?_map,Option.map_eq_some_iff]at h1
  obtain⟨c,h1,rfl⟩:=h1
  have hj:j=0/\x=c:=by
   cases j with
   |zero=>simp at h2;exact⟨rfl,h2.symm⟩
   |succ j=>simp at h2
  obtain⟨rfl,rfl⟩:=hj
  rw [List.getElem?_take]at h1
  split at h1
  ·rw [List.getElem?_drop]at h1
   have:=h.cell i row (off+k) x hi h1
   have e:o+(i * z+off)+(k * 1+0)=o+(i * z+(off+k)):=by omega
   rw [e];exact this
  ·cases h1
def aE6 (ti:TypeId->Option TI) (t:TypeId) (s:SV) (lo hi mx:Option SV) (K:SV->Prop):Prop:=
 match ti t with
 |some { td:= .string, .. }=>(match s with| .d (.str l)=>mx.isNone=true/\cut l.length lo hi mx λa b=>K (.d (.str ((l.take b).drop a)))|_=>aD "slice: no string")
 |some { td:= .slice e, .. }=>
  (match ti e with
  |some T=>
   (match s with
   | .d .nil=>cut 0 lo hi mx λ_ _=>K (.d (.sl T.size []))
   |s=>match mT s with
    |some (z,rows)=>T.size=z/\cut rows.length lo hi mx λa b=>K (.d (.sl z ((rows.take b).drop a)))
    |none=>aD "slice: no slice")
  |none=>aD "slice: an element's type")
 |some { td:= .array n e, .. }=>
  (match ti e with
  | some T => (match s, lo, hi, mx with
   | .ptr id off,none,none,none=>n<=9223372036854775807/\K (.msl id T.size off n)
   | .ea z rows i off,none,none,none=> ∃row,rows[i]? =some row/\T.size=1/\off+n<=z/\n<=9223372036854775807/\K (.d (.sl 1 (((row.drop off).take n).map λc=>[c])))
   |_,_,_,_=>aD "slice: an array")
  |none=>aD "slice: an element's type")
 |_=>aD "slice: a type"
theorem aA3 {n cap:Nat}(isSl:Bool) {lo hi mx:Option SV}{lv hv mv:Option Value}{w:World}{ρ:Env}{K:Nat->Nat->Prop}(hc:n<=cap)
  (hl: ∀s,lo=some s-> ∃v,lv=some v/\Rep w ρ s v) (hl0:lo=none->lv=none) (hh: ∀s,hi=some s-> ∃v,hv=some v/\Rep w ρ s v) (hh0:hi=none->hv=none)
  (hm: ∀s,mx=some s-> ∃v,mv=some v/\Rep w ρ s v) (hm0:mx=none->mv=none) (h:cut n lo hi mx K):
  ∃a b m,(∀w',(Instr.sliceBounds isSl n cap lv hv mv).run P w'= .ok (a,b,m) w')/\a<=b/\b<=n/\b<=m/\m<=cap/\K a b:=by
 unfold cut at h
 split at h
 ·have e3:=hm0 rfl
  subst e3
  split at h
  ·have e1:=hl0 rfl;have e2:=hh0 rfl
   subst e1;subst e2
   exact⟨0,n,cap,λw'=>by simp [Instr.sliceBounds],by omega,by omega,hc,by omega,h⟩
  ·rename_i k l
   obtain⟨v,e1,r1⟩:=hl _ rfl
   have e2:=hh0 rfl
   subst e1;subst e2
   obtain⟨h0,h1,hk⟩:=h
   have h1':l<=(n:Int):=by omega
   exact⟨l.toNat,n,cap,λw'=>by simp [Instr.sliceBounds,r1.int_inv,run_sliceBound,h0,h1'],by omega,by omega,hc,by omega,hk⟩
  ·rename_i k hh'
   obtain⟨v,e1,r1⟩:=hh _ rfl
   have e2:=hl0 rfl
   subst e1;subst e2
   obtain⟨h0,h1,hk⟩:=h
   have h1':hh'<=(cap:Int):=by omega
   exact⟨0,hh'.toNat,cap,λw'=>by simp [Instr.sliceBounds,r1.int_inv,run_sliceBound,h0,h1'],by omega,by omega,by omega,by omega,hk⟩
  ·rename_i k l k' hh'
   obtain⟨v,e1,r1⟩:=hh _ rfl
   obtain⟨v',e2,r2⟩:=hl _ rfl
   subst e1;subst e2
   obtain⟨h0,h1,h2,hk⟩:=h
   have h1':hh'<=(cap:Int):=by omega
   have h0':0<=hh':=by omega
   have h3:l<=(hh'.toNat:Int):=by omega
   refine⟨l.toNat,hh'.toNat,cap,λw'=> ?_,by omega,by omega,by omega,by omega,hk⟩
   simp only [Instr.sliceBounds,r1.int_inv,r2.int_inv,Sem.run_bind,Sem.run_pure,Result.andThen_ok,run_sliceBound (P:=P) w' k' hh' cap _ h0' h1']
   simp only [run_sliceBound (P:=P) w' k l hh'.toNat _ h0 h3,Result.andThen_ok]
  ·exact h.elim
 ·rename_i km m
  obtain⟨vm,e3,r3⟩:=hm _ rfl
  subst e3
  split at h
  ·rename_i k hh'
   obtain⟨v,e1,r1⟩:=hh _ rfl
   have e2:=hl0 rfl
   subst e1;subst e2
   obtain⟨h0,h1,h2,hk⟩:=h
   have hm0:0<=m:=by omega
   have hm1:m<=(cap:Int):=by omega
   have h3:hh'<=(m.toNat:Int):=by omega
   refine⟨0,hh'.toNat,m.toNat,λw'=> ?_,by omega,by omega,by omega,by omega,hk⟩
   simp only [Instr.sliceBounds,r1.int_inv,r3.int_inv,Sem.run_bind,Sem.run_pure,Result.andThen_ok,run_sliceBound (P:=P) w' km m cap _ hm0 hm1]
   simp only [run_sliceBound (P:=P) w' k hh' m.toNat _ h0 h3,Result.andThen_ok]
  ·rename_i k l k' hh'
   obtain⟨v,e1,r1⟩:=hh _ rfl
   obtain⟨v',e2,r2⟩:=hl _ rfl
   subst e1;subst e2
   obtain⟨h0,h1,h2,h3,hk⟩:=h
   have hm0:0<=m:=by omega
   have hm1:m<=(cap:Int):=by omega
   have h0':0<=hh':=by omega
   have h4:hh'<=(m.toNat:Int):=by omega
   have h5:l<=(hh'.toNat:Int):=by omega
   refine⟨l.toNat,hh'.toNat,m.toNat,λw'=> ?_,by omega,by omega,by omega,by omega,hk⟩
   simp only [Instr.sliceBounds,r1.int_inv,r2.int_inv,r3.int_inv,Sem.run_bind,Sem.run_pure,Result.andThen_ok,run_sliceBound (P:=P) w' km m cap _ hm0 hm1]
   simp only [run_sliceBound (P:=P) w' k' hh' m.toNat _ h0' h4,Result.andThen_ok]
   simp only [run_sliceBound (P:=P) w' k l hh'.toNat _ h0 h5,Result.andThen_ok]
  ·exact h.elim
 ·exact h.elim
theorem View.cut_ {w:World}{S:Nat->Nat->Prop}{z:Nat}{rows:List (List D)}{b off:Nat}(h:View w S z rows b off) (l m:Nat):View w S z ((rows.take m).drop l) b (off+l * z):=by
 refine⟨λrow hr=>h.hz row (List.mem_of_mem_take (List.mem_of_mem_drop hr)),λi row j x h1 h2=> ?_⟩
 rw [List.getElem?_drop,List.getElem?_take]at h1
 split at h1
 ·obtain⟨v,a1,a2,a3,a4⟩:=h.cell (l+i) row j x h1 h2
  have e:off+((l+i)* z+j)=off+l * z+(i * z+j):=by rw [Nat.add_mul];omega
  rw [e]at a1 a2
  exact⟨v,a1,a2,a3,a4⟩
 ·cases h1
theorem lM {ρ:Env}{w:World}{fr:Fr}{a:Act}(hf:bW ρ w fr a.tmps) {x:Option Operand}{s:Option SV}(h:rJ fr x=some s):
  (∀r,s=some r-> ∃v,x.map a.eval=some v/\Rep w ρ r v)/\(s=none->x.map a.eval=none):=by
 cases x with
 |none=>simp [rJ]at h;subst h;simp
 |some x=>
  simp only [rJ]at h
  split at h
  ·rename_i r hr
   simp at h
   subst h
   exact⟨λr' e=>⟨a.eval x,rfl,by injection e with e;subst e;exact aR hf hr⟩,λe=>by cases e⟩
  ·cases h
theorem aIf {ti:TypeId->Option TI}(hti:cG P ti) {o:Oper}{t:TypeId}{x:Operand}{lo hi mx:Option Operand}(ho:o.op= .slice t x lo hi mx) {fr:Fr}{hp:Hp}{K:SV->Prop}
  (h : ev fr x λs => match rJ fr lo with
   | some l => (match rJ fr hi with
    |some h=>(match rJ fr mx with|some m=>aE6 ti t s l h m K|none=>aD "slice: max")
    |none=>aD "slice: high")
   |none=>aD "slice: low"):cP P o fr hp K:=by
 intro E ρ a w hm hf
 obtain⟨s,hs,hv0⟩:=bR h
 have hr:=aR hf hs
 split at hv0
 ·rename_i l hl
  split at hv0
  ·rename_i hh hhh
   split at hv0
   ·rename_i m hm'
    obtain⟨l1,l2⟩:=lM hf hl
    obtain⟨h1,h2⟩:=lM hf hhh
    obtain⟨m1,m2⟩:=lM hf hm'
    have hv:=hv0
    clear hv0
    unfold aE6 at hv
    split at hv
    ·rename_i hT
     obtain⟨d,i,z,hT⟩:=aL (hti _ _ hT)
     have hd:=dZ hT.td
     subst hd
     split at hv
     ·rename_i l'
      obtain⟨hmx,hv⟩:=hv
      obtain⟨e,hle⟩:=hr.str_inv
      have hmn:m=none:=by simpa using hmx
      obtain⟨a',b,m',hrun,hab,hbn,hbm,hmc,hk⟩:=aA3 (P:=P) false (Nat.le_refl _) l1 l2 h1 h2 m1 m2 hv
      have hmv:mx.map a.eval=none:=m2 hmn
      rw [hmv]at hrun
      have hmxn:mx.isSome=false:=by cases mx<;>simp_all
      refine⟨.string ((⟨l'.toArray⟩:ByteArray).extract a' b),_,λw' _=> ?_, ?_,hk⟩
      ·have hsz:(⟨l'.toArray⟩:ByteArray).size=l'.length:=rfl
       simp [execOp,ho,Instr.sliceAt,run_underlying hT.und,Instr.slice,e,hmv,hsz,hrun]
      ·have e2:(⟨l'.toArray⟩:ByteArray).extract a' b=⟨((l'.take b).drop a').toArray⟩:=by
        apply ByteArray.ext
        simp [ByteArray.data_extract,List.extract_toArray,List.drop_take]
       rw [e2]
       exact .d _ _ (.str _ (by simp only [maxLen,List.length_drop,List.length_take];omega))
     ·exact hv.elim
    ·rename_i e _ _ _ hT
     obtain⟨d,i,z,hT⟩:=aL (hti _ _ hT)
     have hd:=bK hT.td
     subst hd
     split at hv
     ·rename_i T hT2
      obtain⟨d2,i2,z2,hT2⟩:=aL (hti _ _ hT2)
      have hgo: ∀(A:Option Addr) (len cap a' b m':Nat),a.eval x= .slice A len cap->(∀w',(Instr.sliceBounds true len cap (lo.map a.eval) (hi.map a.eval) (mx.map a.eval)).run P w'= .ok (a',b,m') w')->
        ∀w',Kept ρ hp w w'->(execOp a.eval o).run P w'= .ok (.value (.slice (if m'=a' then A else A.map (·.add (a' * T.size))) (b - a') (m' - a'))) w':=by
       intro A len cap a' b m' e1 e2 w' _
       simp [execOp,ho,Instr.sliceAt,run_underlying hT.und,Instr.slice,e1,e2,hT2.run_size]
      split at hv
      ·have e1:=hr.nil_inv
       obtain⟨a',b,m',hrun,hab,hbn,hbm,hmc,hk⟩:=aA3 (P:=P) true (Nat.le_refl _) l1 l2 h1 h2 m1 m2 hv
       refine⟨_,_,hgo _ _ _ _ _ _ e1 hrun, .d _ _ ?_,hk⟩
       exact RepD.mk_sl (b:=0) (off:=0) (by simp) (by simp only [maxLen];omega) (λhne=>absurd rfl hne) ⟨by simp,by simp⟩ (by simp;omega)
      ·split at hv
       ·rename_i z' rows hrows
        obtain⟨hz,hv⟩:=hv
        obtain⟨A,cap,bb,off,e1,hnc,hcm,hA,hview⟩:=(gL hrows hr).of_sl
        obtain⟨a',b,m',hrun,hab,hbn,hbm,hmc,hk⟩:=aA3 (P:=P) true hnc l1 l2 h1 h2 m1 m2 hv
        refine⟨_,_,hgo _ _ _ _ _ _ e1 hrun, .d _ _ ?_,hk⟩
        refine RepD.mk_sl (b:=bb) (off:=off+a' * z') (by simp only [List.length_drop,List.length_take];omega) (by simp only [maxLen]at hcm |-;omega) ?_ (hview.cut_ a' b) (by simp only [List.length_drop,List.length_take];omega)
        intro hne
        have hlt:a' < b:=by
         rcases Nat.lt_or_ge a' b with h|h
         ·exact h
         ·exact absurd (List.drop_eq_nil_of_le (by rw [List.length_take];omega)) hne
        have hne':rows≠[]:=by rintro rfl;simp at hne
        rw [hA hne',if_neg (by omega),hz]
        simp [bV]
       ·exact hv.elim
     ·exact hv.elim
    ·rename_i n e _ _ _ hT
     obtain⟨d,i,z,hT⟩:=aL (hti _ _ hT)
     have hd:=jC hT.td
     subst hd
     split at hv
     ·rename_i T hT2
      obtain⟨d2,i2,z2,hT2⟩:=aL (hti _ _ hT2)
      split at hv
      ·rename_i id off
       obtain⟨g,hg,e1⟩:=hr.ptr_inv
       have q1:=l2 rfl
       have q2:=h2 rfl
       have q3:=m2 rfl
       refine⟨.slice (some ⟨g,off,none⟩) n n,_,λw' _=> ?_, .msl id T.size off n g n hg rfl (by simpa only [maxLen]using hv.1),hv.2⟩
       simp [execOp,ho,Instr.sliceAt,run_underlying hT.und,e1,q1,q2,q3,Instr.sureAddr,Instr.sliceBounds,hT2.run_size,Addr.add]
      ·rename_i z' rows i' off
       obtain⟨bb,o',hview,e1⟩:=hr.ea_inv
       obtain⟨row,g1,g2,g3,g4,g5⟩:=hv
       have q1:=l2 rfl
       have q2:=h2 rfl
       have q3:=m2 rfl
       have hrow:=hview.hz row (List.mem_of_getElem? g1)
       have hlen:(((row.drop off).take n).map λc=>[c]).length=n:=by rw [List.length_map,List.length_take,List.length_drop];omega
       refine⟨.slice (some ⟨bb,o'+(i' * z'+off),none⟩) n n,_,λw' _=> ?_, .d _ _ (RepD.mk_sl (b:=bb) (off:=o'+(i' * z'+off)) (by rw [hlen];exact Nat.le_refl _) (by simpa only [maxLen]using g4) (λ_=>rfl) (hview.part_ g1 n) hlen.symm),g5⟩
       simp [execOp,ho,Instr.sliceAt,run_underlying hT.und,e1,q1,q2,q3,Instr.sureAddr,Instr.sliceBounds,hT2.run_size,Addr.add]
      ·exact hv.elim
     ·exact hv.elim
    ·exact hv.elim
   ·exact hv0.elim
  ·exact hv0.elim
 ·exact hv0.elim
def fA (id:Nat) (pin:Pin) (fr:Fr) (hp:Hp):Prop:=id∉pin/\id∉fS fr/\id∉jP hp
def aE5 (ti:TypeId->Option TI) (t:TypeId) (s x:SV) (hp:Hp) (K:Hp->Prop):Prop:=
 match ti t with
 |some T=>
  (match s with
  | .ptr id off=>
   (match aM hp id with
   |some (.cells t' cs)=>
    if T.td.isAgg then
     (match lR x with
     |some ns=>ns.length=T.size/\off+T.size<=cs.length/\(∀n∈ns,sV n=true)/\gB hp id (.cells t' (iH cs off ns)) K
     |none=>aD "store: no struct")
    else T.size=1/\sV x=true/\off < cs.length/\gB hp id (.cells t' (cs.set off x)) K
   |_=>aD "store: no such object")
  |_=>aD "store: no address of an object")
 |none=>aD "store: a type"
theorem aCu (cs:List SV) (off:Nat) (x:SV) (h:off < cs.length):iH cs off [x]=cs.set off x:=by
 unfold iH
 rw [List.set_eq_take_append_cons_drop,if_pos h]
 simp
theorem iP {t:TypeId}{T:TI}{d:TypeDesc}{i:TypeInfo}{z:Value}(hT:TIok P t T d i z) (w:World) (g off:Nat) (v:Value) (hv:v.cells.size=T.size) (cur:Array Value) (t':TypeId) (hg:w.heap[g]? =some (.cells cur t' (0,0)))
  (hfit:off+v.cells.toList.length<=cur.size) (h1: ∀u∈v.cells.toList,u.oneCell'=true):
  (storeVar t ⟨g,off,none⟩ v).run P w= .ok () (w.setRow g (cur.toList.take off++v.cells.toList++cur.toList.drop (off+v.cells.toList.length)).toArray):=by
 have:=run_storeCells_at P g off t' v.cells.toList 0 cur w hg (by simpa using hfit) h1
 simp only [Nat.add_zero]at this
 simp only [storeVar,Sem.run_bind,hT.run_size,Result.andThen_ok,hv,ne_eq,not_true_eq_false,if_false]
 exact this
theorem aIe {ti:TypeId->Option TI}(hti:cG P ti) {o:Oper}{t:TypeId}{x y:Operand}(ho:o.op= .store t x y) {pin:Pin}{fr:Fr}{hp:Hp}{K:SV->Hp->Prop}
  (h:ev fr x λs=>ev fr y λr=>aE5 ti t s r hp λhp'=>K (.d (.lit undef)) hp'):oL P o pin fr hp K:=by
 intro E ρ a w _ hm hf next Q hn
 obtain⟨s,hs,hv0⟩:=bR h
 obtain⟨r,hr,hv⟩:=bR hv0
 clear hv0
 have h1:=aR hf hs
 have h2:=aR hf hr
 unfold aE5 at hv
 split at hv
 ·rename_i T hT
  obtain⟨d,i,z,hT⟩:=aL (hti _ _ hT)
  split at hv
  ·rename_i id off
   obtain⟨g,hg,e1⟩:=h1.ptr_inv
   split at hv
   ·rename_i t' cs hoo
    have fin: ∀(ns:List SV) (v:Value),a.eval y=v->v.cells.toList.length=ns.length->v.cells.size=T.size->off+ns.length<=cs.length->(∀u∈v.cells.toList,u.oneCell'=true)->
      (∀(j:Nat) (s:SV) (u:Value),ns[j]? =some s->v.cells.toList[j]? =some u->Rep w ρ s u)->K (.d (.lit undef)) (dQ hp id (.cells t' (iH cs off ns)))->o.wp P a w next Q:=by
     intro ns v ev1 q1 q2 q3 q4 q5 hk
     obtain⟨cur,c1,c2,c3,c4⟩:=hm.store hoo hg ns v.cells.toList q1 q3 q4 q5
     refine nU ?_ (hn undef _ ρ _ _ hk c3 (c4 fr _ hf) (.d _ _ (.lit _)))
     simp [execOp,ho,Instr.storeAt,e1,ev1,Instr.sureAddr,iP hT w g off v q2 cur t' c1 c2 q4]
    split at hv
    ·split at hv
     ·rename_i ns hns
      obtain⟨k1,k2,k3,hk⟩:=hv
      rw [cM]at hk
      obtain⟨vs,ev1,hl,hh⟩:=kM hns h2
      refine fin ns (.agg vs) ev1 (by simpa [Value.cells]using hl) (by simp [Value.cells];omega) (by omega) ?_ ?_ hk
      ·intro u hu
       obtain⟨j,hj,rfl⟩:=List.getElem_of_mem hu
       simp only [Value.cells]at hj |-
       have hjl:j < ns.length:=by rw [<-hl];simpa using hj
       exact oE (hh j ns[j] _ (List.getElem?_eq_getElem hjl) (by simp [Array.getElem?_eq_getElem (show j < vs.size by simpa using hj)])) (k3 _ (List.getElem_mem hjl))
      ·intro j s u hs' hu
       exact hh j s u hs' (by simpa [Value.cells]using hu)
     ·exact hv.elim
    ·obtain⟨k1,k2,k3,hk⟩:=hv
     rw [cM]at hk
     have ho1:=oE h2 k2
     have hcells:(a.eval y).cells= #[a.eval y]:=by
      generalize a.eval y=u at *
      cases u<;>simp_all [Value.oneCell',Value.cells]
     refine fin [r] (a.eval y) rfl (by simp [hcells]) (by simp [hcells,k1]) (by simp only [List.length_singleton];omega) ?_ ?_ (by rw [aCu cs off r k3];exact hk)
     ·intro u hu
      simp [hcells]at hu
      subst hu
      exact ho1
     ·intro j s u hs' hu
      simp only [hcells]at hu
      cases j with
      |zero=>simp at hs' hu;subst hs';subst hu;exact h2
      |succ j=>simp at hs'
   ·exact hv.elim
  ·exact hv.elim
 ·exact hv.elim
theorem Env.upd_kb (ρ:Env) {id g i:Nat}{x:HObj}(h:i≠id):(ρ.upd id g).kb i x=ρ.kb i x:=by
 cases x<;>simp [Env.kb,Env.upd,h]
theorem tX {o:Oper}{a:Act}{w:World}{E:Entry}{ρ:Env}{hp:Hp}{fr:Fr}{pin:Pin}{next:Act->World->Prop}{Q:Exit->Act->World->Prop}{K:SV->Hp->Prop}(hp':E.pin=pin) (hm:Mem E ρ hp w) (hf:bW ρ w fr a.tmps)
  (hn: ∀v w' ρ' s hp',K s hp'->Mem E ρ' hp' w'->bW ρ' w' fr a.tmps->Rep w' ρ' s v->KInfo ρ hp w ρ' hp' w'->next (a.put o.dst v) w')
  (id:Nat) (t:TypeId) (cs:List SV) (vs:Array Value) (hfr:fA id pin fr hp) (hids:id∉SV.idsL cs) (hl:vs.size=cs.length) (h1: ∀v∈vs,v.oneCell'=true)
  (hr: ∀(j:Nat) (s:SV) (v:Value),cs[j]? =some s->vs[j]? =some v->Rep w ρ s v) (hk:K (.ptr id 0) ((id, .cells t cs)::hp))
  (hrun:(execOp a.eval o).run P w= .ok (.value (.pointer (some ⟨w.heap.size,0,none⟩))) (w.alloc (.cells vs t))):o.wp P a w next Q:=by
 obtain⟨f1,f2,f3⟩:=hfr
 obtain⟨m1,m2,_⟩:=hm.alloc id vs t cs f3 (by rw [hp'];exact f1) hl h1 hr hids
 refine bN hrun (hn _ _ _ _ _ hk m1 (m2 fr _ f2 hf) (.ptr id 0 _ (by simp [Env.upd])) (KInfo.mk_ (hm.kept_grew (Grew.alloc w _)) (λ_ _ x=>x) λi x g hx hg=> ?_))
 have hne:i≠id:= λe=>f3 (e ▸ bA hx (.inl rfl))
 exact⟨by rw [cF (Ne.symm hne)];exact hx,by rw [ρ.upd_kb hne];exact hg⟩
theorem aBi {ti:TypeId->Option TI}(hti:cG P ti) {o:Oper}{t:TypeId}{id:Nat}(ho:o.op= .alloc t) {pin:Pin}{fr:Fr}{hp:Hp}{K:SV->Hp->Prop}
  (h : match ti t with
   |some T=>fA id pin fr hp/\K (.ptr id 0) ((id, .cells t (T.zero.map .d))::hp)
   |none=>aD "alloc: a type"):rX P o pin fr hp K:=by
 intro E ρ a w hp' hm hf next Q hn
 split at h
 ·rename_i T hT
  obtain⟨d,i,z,hT⟩:=aL (hti _ _ hT)
  obtain⟨hfr,hk⟩:=h
  have hidd: ∀l:List D,SV.idsL (l.map SV.d)=[]:=by
   intro l;induction l with
   |nil=>rfl
   |cons x r ih=>simp [SV.idsL,SV.ids,ih]
  refine tX hp' hm hf hn id t _ z.cells hfr (by rw [hidd];simp) (by simp [hT.zs]) hT.one ?_ hk ?_
  ·intro j s v hs hv
   rw [hT.zs]at hs
   simp only [List.map_map,List.getElem?_map,Option.map_eq_some_iff]at hs
   obtain⟨u,hu,rfl⟩:=hs
   have:u=v:=by
    have hu':z.cells[j]? =some u:=by simpa using hu
    rw [hu']at hv;injection hv
   subst this
   exact .d _ _ (kW w ρ.S u)
  ·simp [execOp,ho,Instr.alloc,zeroValue,typeInfo,hT.info,hT.zero,newVar,newRow]
 ·exact h.elim
def fQ (s:SV):Option (List SV):=
 match lR s with
 |some cs=>if cs.all sV then some cs else none
 |none=>if sV s then some [s]else none
theorem iV {w:World}{ρ:Env}{s:SV}{v:Value}{cs:List SV}(h:fQ s=some cs) (hr:Rep w ρ s v):
  v.cells.size=cs.length/\(∀u∈v.cells,u.oneCell'=true)/\ ∀(j:Nat) (s:SV) (u:Value),cs[j]? =some s->v.cells[j]? =some u->Rep w ρ s u:=by
 unfold fQ at h
 split at h
 ·rename_i cs' hcs
  split at h
  ·rename_i hall
   simp at h
   subst h
   obtain⟨vs,e,hl,hh⟩:=kM hcs hr
   subst e
   refine⟨hl,λu hu=> ?_,hh⟩
   obtain⟨j,hj,rfl⟩:=Array.mem_iff_getElem.1 hu
   simp only [Value.cells]at hj |-
   have hjl:j < cs'.length:=by omega
   rw [List.all_eq_true]at hall
   exact oE (hh j cs'[j] _ (List.getElem?_eq_getElem hjl) (Array.getElem?_eq_getElem hj)) (hall _ (List.getElem_mem hjl))
  ·cases h
 ·split at h
  ·rename_i hl
   simp at h
   subst h
   have ho1:=oE hr hl
   have hcells:v.cells= #[v]:=by cases v<;>simp_all [Value.oneCell',Value.cells]
   rw [hcells]
   refine⟨rfl,λu hu=>by simp at hu;subst hu;exact ho1,λj s' u hs hu=> ?_⟩
   cases j with
   |zero=>simp at hs hu;subst hs;subst hu;exact hr
   |succ j=>simp at hs
  ·cases h
theorem aJu {o:Oper}{t:TypeId}{x:Operand}{id:Nat}(ho:o.op= .box t x) {pin:Pin}{fr:Fr}{hp:Hp}{K:SV->Hp->Prop}
  (h : ev fr x λs => match fQ s with
   |some cs=>fA id pin fr hp/\id∉SV.idsL cs/\K (.ptr id 0) ((id, .cells t cs)::hp)
   |none=>aD "box: cells"):rX P o pin fr hp K:=by
 intro E ρ a w hp' hm hf next Q hn
 obtain⟨s,hs,hv⟩:=bR h
 have h1:=aR hf hs
 split at hv
 ·rename_i cs hcs
  obtain⟨k1,k2,k3⟩:=iV hcs h1
  exact tX hp' hm hf hn id t cs _ hv.1 hv.2.1 k1 k2 k3 hv.2.2 (by simp [execOp,ho,Instr.box,newVar,newRow])
 ·exact hv.elim
end
end
end Go.Proofs.YtdjfkmkdkclahaaGreatDoor
