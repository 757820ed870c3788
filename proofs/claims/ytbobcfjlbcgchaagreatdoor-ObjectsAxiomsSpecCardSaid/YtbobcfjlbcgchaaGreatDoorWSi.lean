/-
  Symbolic operations, one by one: slices, stores, new variables, append.
  Conditions: none.
-/
import Derived.Test.YtbobcfjlbcgchaaGreatDoorWSf
set_option linter.unusedSectionVars false
set_option linter.unusedSimpArgs false
set_option linter.unusedVariables false
namespace Go.Proofs.YtbobcfjlbcgchaaGreatDoor
section
open Go.RowKit
theorem Mem.sub {E:Entry}{ρ:Env}{hp hp':Hp}{w:World}(h:Mem E ρ hp w) (hs: ∀id o,aP hp' id=some o->aP hp id=some o):Mem E ρ hp' w:=
 ⟨h.os, h.tape, h.output, h.size, h.old, h.sold, h.snew, h.slt, h.kp, λid o e => h.sat id o (hs id o e), λid o d o' g a b => h.inj id o d o' g (hs _ _ a) (hs _ _ b),
  λid o g a=>h.hb id o g (hs _ _ a),h.mv,λid o g a r b d o' c=>h.ro id o g (hs _ _ a) r b d o' (hs _ _ c),h.md⟩
def aN9:Hp->Nat->Hp
 | [],_=>[]
 |(k,o)::r,t=>if k=t then aN9 r t else (k,o)::aN9 r t
def aBg:Hp->Nat->(Hp->Prop)->Prop
 | [],_,K=>K []
 |(k,o)::r,t,K=>if k=t then aBg r t K else aBg r t λr'=>K ((k,o)::r')
theorem vO: ∀(hp:Hp) (t:Nat) (K:Hp->Prop),aBg hp t K=K (aN9 hp t):=by
 intro hp
 induction hp with
 |nil=>intro t K;rfl
 |cons p r ih=>
  obtain⟨k,o⟩:=p
  intro t K
  simp only [aBg,aN9]
  split
  ·rw [ih]
  ·rw [ih]
theorem vG (hp:Hp) (id i:Nat):aP (aN9 hp id) i=if i=id then none else aP hp i:=by
 induction hp with
 |nil=>simp [aN9,aP]
 |cons p r ih=>
  obtain⟨k,o⟩:=p
  by_cases e:k=id
  ·subst e
   simp only [aN9,if_true,ih,aP]
   by_cases a:i=k
   ·simp [a]
   ·simp [a,Ne.symm a]
  ·simp only [aN9,e,if_false,aP]
   by_cases a:k=i
   ·subst a;simp [e]
   ·simp [a,ih]
theorem Mem.del {E:Entry}{ρ:Env}{hp:Hp}{w:World}(h:Mem E ρ hp w) (id:Nat):Mem E ρ (aN9 hp id) w:=
 h.sub λi o a=>by
  rw [vG]at a
  split at a
  ·cases a
  ·exact a
theorem aSs {w':World}{S S':Nat->Nat->Prop}{w:World}{e z:Nat}{v':Value}{rows:List (List D)}{vs:List Value}(hown:w'.ownsRow 0 e z v' rows.length vs) (hfl:Flat w S z rows vs)
  (hS: ∀g,v'.ownBlock=some g-> ∀k,k < rows.length * z->S' g k) (hr: ∀x v,RepD w S x v->RepD w' S' x v):RepD w' S' (.sl z rows) v':=by
 rcases aMe hown with⟨e1,e2⟩|⟨g,cap,e1,h,i⟩
 ·have d:rows=[]:=List.eq_nil_of_length_eq_zero e2
  rw [d,e1]
  exact RepD.mk_sl (b:=0) (off:=0) (by simp) (by simp) (λf=>absurd rfl f) ⟨by simp,by simp⟩ (by simp)
 ·have c:View w' S' z rows g 0:=by
   refine hfl.view (λk u l=> ?_) (λk j=> ?_) hr
   ·rw [Nat.zero_add];exact kG hown (g:=g) (by rw [e1];rfl) k u l
   ·rw [Nat.zero_add]
    refine hS g (by rw [e1];rfl) k ?_
    rw [hfl.len]at j
    exact j
  have a:RepD w' S' (.sl z rows) (.slice (some ⟨g,0,none⟩) rows.length cap):=RepD.mk_sl (b:=g) (off:=0) h i (λ_=>rfl) c rfl
  rw [<-e1]at a
  exact a
theorem Mem.newOwn {E:Entry}{ρ:Env}{hp:Hp}{w w':World}(h:Mem E ρ hp w) {id e z:Nat}{rows:List (List D)}{vs:List Value}{v':Value}(hg:Grew w w')
  (hown:w'.ownsRow 0 e z v' rows.length vs) (hnew: ∀g,v'.ownBlock=some g->w.heap.size<=g) (hfl:Flat w ρ.S z rows vs) (hid:id∉gH hp) (hpin:id∉E.pin):
  Mem E (ρ.grown id rows.length z v') ((id, .own e z rows.length)::hp) w'/\(∀fr J,id∉gD fr->dV ρ w fr J->dV (ρ.grown id rows.length z v') w' fr J)/\
   Rep w' (ρ.grown id rows.length z v') (.osl id z rows) v':=by
 have H:cF ρ.S w w':=hg.keeps h.slt
 have C: ∀b k,ρ.S b k->(ρ.grown id rows.length z v').S b k:= λb k m=> .inl m
 have F: ∀i,i≠id->ρ.moved (ρ.grown id rows.length z v') i:= λi hi=>⟨rfl, .inl (by simp [Env.grown,hi])⟩
 have q: ∀i o,i≠id->(ρ.grown id rows.length z v').at i o=ρ.at i o:=by
  intro i o hi
  cases o<;>simp [Env.at,Env.grown,hi]
 have l:(ρ.grown id rows.length z v').at id (.own e z rows.length)=v'.ownBlock:=by simp [Env.at,Env.grown]
 have f: ∀i o,aP ((id,HObj.own e z rows.length)::hp) i=some o->(i=id/\o= .own e z rows.length)\/(i≠id/\aP hp i=some o):=by
  intro i o p
  by_cases e:i=id
  ·subst e;simp [aP]at p;exact .inl ⟨rfl,p.symm⟩
  ·rw [cQ (λh=>e h.symm)]at p;exact .inr ⟨e,p⟩
 have G: ∀b,v'.ownBlock=some b->b < w'.heap.size:= λb hb=>(hown.lt b hb).2
 refine⟨⟨hg.os.trans h.os,hg.tape.trans h.tape,hg.output.trans h.output,Nat.le_trans h.size hg.size, ?_, ?_, ?_, ?_,h.kp.trans h.sold H, ?_, ?_, ?_, ?_, ?_,λb hb=>(hg.block b (bD (h.md b hb))).trans (h.md b hb)⟩, ?_, ?_⟩
 ·exact λb hb I=>(hg.block b (Nat.lt_of_lt_of_le hb h.size)).trans (h.old b hb I)
 ·exact λb k m=> .inl (h.sold b k m)
 ·rintro b k (m|⟨m,_⟩) hb I
  ·exact h.snew b k m hb I
  ·have:=hnew b m;have:=h.size;omega
 ·rintro b k (m|⟨m,_⟩)
  ·exact Nat.lt_of_lt_of_le (h.slt b k m) hg.size
  ·exact G b m
 ·intro i o p
  rcases f i o p with⟨rfl,rfl⟩|⟨e1,a⟩
  ·refine⟨by simp [Env.grown],vs,by simpa [Env.grown]using hown, ?_,hfl.one⟩
   intro g y k u
   simp only [Env.grown,if_true]at y u |-
   rcases u with m|⟨_,m⟩
   ·have:=hnew g y;have:=h.slt g k m;omega
   ·exact m
  ·refine(h.sat i o a).keep H C ?_ (by simp [Env.grown,e1]) ?_ ?_
   ·rintro j N
    exact F j λM=>hid (M ▸ bR a N)
   ·rintro g (s|⟨s,n⟩)
    ·exact hg.block g (h.blk_lt a s)
    ·exact hg.block g (h.ro_lt a n s)
   ·rintro g s k (m|⟨m,_⟩)
    ·exact m
    ·have:=hnew g m;have:=h.blk_lt a s;omega
 ·intro i o t o' g p A c d
  rcases f i o p with⟨e1,rfl⟩|⟨e1,a⟩
  ·rcases f t o' A with⟨e2,rfl⟩|⟨e2,r⟩
   ·rw [e1,e2]
   ·rw [e1,l]at c
    rw [q t o' e2]at d
    have:=hnew g c;have:=h.blk_lt r d;omega
  ·rw [q i o e1]at c
   rcases f t o' A with⟨e2,rfl⟩|⟨e2,r⟩
   ·rw [e2,l]at d
    have:=hnew g d;have:=h.blk_lt a c;omega
   ·rw [q t o' e2]at d
    exact h.inj i o t o' g a r c d
 ·intro i o g p c
  rcases f i o p with⟨e1,rfl⟩|⟨e1,a⟩
  ·rw [e1,l]at c
   have:=hnew g c;have:=h.size;left;omega
  ·rw [q i o e1]at c
   exact h.hb i o g a c
 ·exact λi hi=>Env.moved_trans (h.mv i hi) (F i λe=>hpin (e ▸ hi))
 ·intro i oR g p n c t o' A d
  rcases f i _ p with⟨_,L⟩|⟨e1,a⟩
  ·rw [L]at n;exact n.elim
  ·have B:ρ.blk i=some g:=c
   rcases f t o' A with⟨e2,rfl⟩|⟨e2,r⟩
   ·rw [e2,l]at d
    have:=hnew g d;have:=h.ro_lt a n B;omega
   ·rw [q t o' e2]at d
    exact h.ro i _ g a n B t o' r d
 ·exact λfr J O K=>K.mono H C λi hi=>F i λe=>O (e ▸ hi)
 ·refine .osl id z rows v' ?_ (by simp [Env.grown]) (by simp [Env.grown])
  exact aSs hown hfl (λg y k u=> .inr ⟨y,u⟩) λx v hx=>hx.mono H C
theorem Mem.newNil {E:Entry}{ρ:Env}{hp:Hp}{w:World}(h:Mem E ρ hp w) {id:Nat}(e z:Nat) (hid:id∉gH hp) (hpin:id∉E.pin):
  Mem E (ρ.grown id 0 z (.slice none 0 0)) ((id, .own e z 0)::hp) w/\(∀fr tm,id∉gD fr->dV ρ w fr tm->dV (ρ.grown id 0 z (.slice none 0 0)) w fr tm)/\
   Rep w (ρ.grown id 0 z (.slice none 0 0)) (.osl id z []) (.slice none 0 0):=
 h.newOwn (rows:=[]) (vs:=[]) (Grew.refl w) (World.ownsRow_nil w 0 e z) (by simp [Value.ownBlock]) (Flat.nil w ρ.S z) hid hpin
def Env.retop (ρ:Env) (id n:Nat) (v:Value):Env:={ ρ with n:= λi=>if i=id then n else ρ.n i,tv:= λi=>if i=id then v else ρ.tv i }
theorem Env.retop_at (ρ:Env) {id n:Nat}{v:Value}{i:Nat}{o:HObj}(h:i≠id):(ρ.retop id n v).at i o=ρ.at i o:=by
 cases o<;>simp [Env.at,Env.retop,h]
theorem Env.moved_retop (ρ:Env) {id n:Nat}{v:Value}{i:Nat}(h:i≠id):ρ.moved (ρ.retop id n v) i:=⟨rfl, .inl (by simp [Env.retop,h])⟩
theorem Mem.setMrow {E:Entry}{ρ:Env}{hp:Hp}{w w':World}(h:Mem E ρ hp w) {id e z cap:Nat}{rows:List (List D)}(ho:aP hp id=some (.mrow e z cap rows)) {cap':Nat}{rows':List (List D)}{v':Value}
  (hos:w'.os=w.os) (htape:w'.tape=w.tape) (hout:aQ8 w' w) (hsz:w.heap.size<=w'.heap.size) (hoth: ∀b,b < w.heap.size->gB (ρ.tv id)≠some b->w'.heap[b]? =w.heap[b]?)
  (hm:gX w' ρ.S e z cap' rows' v') (hblk: ∀g,gB v'=some g->gB (ρ.tv id)=some g\/w.heap.size<=g)
  (hver:(rows'.length=rows.length/\v'=ρ.tv id)\/rows.length < rows'.length):
  Mem E (ρ.retop id rows'.length v') (eY hp id (.mrow e z cap' rows')) w'/\cF ρ.S w w'/\ ∀i,ρ.moved (ρ.retop id rows'.length v') i:=by
 obtain⟨hn0,F⟩:=h.sat id _ ho
 have C: ∀g,gB (ρ.tv id)=some g-> ∀i,¬ ρ.S g i:=by
  intro g B
  rcases F with⟨_,_,A,e1⟩|⟨t,g',cur,e1,_,_,_,_,_,L⟩
  ·rw [e1]at B;cases A<;>simp [gB]at B
  ·rw [e1]at B
   have:cap≠0:=by omega
   simp only [gB,this,if_false,Option.some.injEq]at B
   subst B;exact L
 have J:cF ρ.S w w':= λb i G=>World.cell?_of_block (w:=w) (hoth b (h.slt b i G) λhb=>C b hb i G)
 have u: ∀i,ρ.moved (ρ.retop id rows'.length v') i:=by
  intro i
  by_cases e1:i=id
  ·subst e1
   refine⟨rfl, ?_⟩
   simp only [Env.retop,if_true]
   rcases hver with⟨a,b⟩|a
   ·left;exact⟨by omega,b⟩
   ·right;omega
  ·exact ρ.moved_retop e1
 have k: ∀j o,aP (eY hp id (.mrow e z cap' rows')) j=some o->(j=id/\o= .mrow e z cap' rows')\/(j≠id/\aP hp j=some o):=by
  intro j o f
  rw [bN _ ho]at f
  by_cases e1:j=id
  ·simp [e1]at f;exact .inl ⟨e1,f.symm⟩
  ·simp [e1]at f;exact .inr ⟨e1,f⟩
 have l:(ρ.retop id rows'.length v').at id (.mrow e z cap' rows')=gB v':=by simp [Env.at,Env.retop]
 have v: ∀j o b,j≠id->aP hp j=some o->ρ.at j o=some b->gB (ρ.tv id)≠some b:= λj o b f I hb c=>f (h.inj j o id _ b I ho hb c)
 have hlt': ∀b,gB v'=some b->b < w'.heap.size:= λb hb=>by obtain⟨cur,t⟩:=hm.heap hb;exact bD t
 refine⟨⟨hos.trans h.os,htape.trans h.tape,hout.trans h.output,Nat.le_trans h.size hsz, ?_,h.sold,h.snew,λb i G=>Nat.lt_of_lt_of_le (h.slt b i G) hsz,h.kp.trans h.sold J, ?_, ?_, ?_,λj f=>Env.moved_trans (h.mv j f) (u j), ?_, ?_⟩,J,u⟩
 ·intro b hb K
  rw [hoth b (Nat.lt_of_lt_of_le hb h.size) ?_]
  ·exact h.old b hb K
  ·intro c
   rcases h.hb id _ b ho c with q|H
   ·omega
   ·exact K H
 ·intro j o f
  rcases k j o f with⟨rfl,rfl⟩|⟨e1,f⟩
  ·refine⟨by simp [Env.retop], ?_⟩
   have:(ρ.retop j rows'.length v').tv j=v':=by simp [Env.retop]
   rw [this];exact hm
  ·refine(h.sat j o f).keep J (λ_ _ x=>x) (λa _=>u a) (by simp [Env.retop,e1]) ?_ (λ_ _ _ x=>x)
   rintro b (hb|⟨hb,n⟩)
   ·exact hoth b (h.blk_lt f hb) (v j o b e1 f hb)
   ·exact hoth b (h.ro_lt f n hb) λc=>h.ro j _ b f n hb id _ ho c
 ·intro j o y o' b f r hb d
  rcases k j o f with⟨e1,rfl⟩|⟨e1,m⟩
  ·rcases k y o' r with⟨e2,rfl⟩|⟨e2,p⟩
   ·rw [e1,e2]
   ·rw [e1,l]at hb
    rw [ρ.retop_at e2]at d
    rcases hblk b hb with c|q
    ·exact absurd c (v y o' b e2 p d)
    ·have:=h.blk_lt p d;omega
  ·rw [ρ.retop_at e1]at hb
   rcases k y o' r with⟨e2,rfl⟩|⟨e2,p⟩
   ·rw [e2,l]at d
    rcases hblk b d with c|q
    ·exact absurd c (v j o b e1 m hb)
    ·have:=h.blk_lt m hb;omega
   ·rw [ρ.retop_at e2]at d
    exact h.inj j o y o' b m p hb d
 ·intro j o b f hb
  rcases k j o f with⟨e1,rfl⟩|⟨e1,m⟩
  ·rw [e1,l]at hb
   rcases hblk b hb with c|q
   ·exact h.hb id _ b ho c
   ·have:=h.size;left;omega
  ·rw [ρ.retop_at e1]at hb
   exact h.hb j o b m hb
 ·intro j oR b f n hb y o' r d
  have s:ρ.blk j=some b:=hb
  rcases k j _ f with⟨_,t⟩|⟨e1,m⟩
  ·rw [t]at n;exact n.elim
  ·rcases k y o' r with⟨e2,rfl⟩|⟨e2,p⟩
   ·rw [e2,l]at d
    rcases hblk b d with c|q
    ·exact h.ro j _ b m n s id _ ho c
    ·have:=h.ro_lt m n s;omega
   ·rw [ρ.retop_at e2]at d
    exact h.ro j _ b m n s y o' p d
 ·intro b hb
  refine(hoth b (bD (h.md b hb)) λc=> ?_).trans (h.md b hb)
  obtain⟨cur,t⟩:=F.heap c
  rw [h.md b hb]at t;cases t
theorem Mem.newMrow {E:Entry}{ρ:Env}{hp:Hp}{w w':World}(h:Mem E ρ hp w) {id e z cap:Nat}{rows:List (List D)}{v:Value}(hid:id∉gH hp) (hpin:id∉E.pin) (hg:Grew w w')
  (hm:gX w' ρ.S e z cap rows v) (hnew: ∀g,gB v=some g->w.heap.size<=g):
  Mem E (ρ.retop id rows.length v) ((id, .mrow e z cap rows)::hp) w'/\cF ρ.S w w'/\ ∀i,i≠id->ρ.moved (ρ.retop id rows.length v) i:=by
 have u:cF ρ.S w w':=hg.keeps h.slt
 have r: ∀i,i≠id->ρ.moved (ρ.retop id rows.length v) i:= λi hi=>ρ.moved_retop hi
 have k:(ρ.retop id rows.length v).at id (.mrow e z cap rows)=gB v:=by simp [Env.at,Env.retop]
 have f: ∀i o,aP ((id,HObj.mrow e z cap rows)::hp) i=some o->(i=id/\o= .mrow e z cap rows)\/(i≠id/\aP hp i=some o):=by
  intro i o m
  by_cases e:i=id
  ·subst e;simp [aP]at m;exact .inl ⟨rfl,m.symm⟩
  ·rw [cQ (λh=>e h.symm)]at m;exact .inr ⟨e,m⟩
 refine⟨⟨hg.os.trans h.os,hg.tape.trans h.tape,hg.output.trans h.output,Nat.le_trans h.size hg.size, ?_,h.sold,h.snew,λb i C=>Nat.lt_of_lt_of_le (h.slt b i C) hg.size,h.kp.trans h.sold u, ?_, ?_, ?_, ?_, ?_,λb hb=>(hg.block b (bD (h.md b hb))).trans (h.md b hb)⟩,u,r⟩
 ·exact λb hb y=>(hg.block b (Nat.lt_of_lt_of_le hb h.size)).trans (h.old b hb y)
 ·intro i o m
  rcases f i o m with⟨rfl,rfl⟩|⟨e1,c⟩
  ·refine⟨by simp [Env.retop], ?_⟩
   have:(ρ.retop i rows.length v).tv i=v:=by simp [Env.retop]
   rw [this];exact hm
  ·refine(h.sat i o c).keep u (λ_ _ x=>x) ?_ (by simp [Env.retop,e1]) ?_ (λ_ _ _ x=>x)
   ·rintro j F
    exact r j λB=>hid (B ▸ bR c F)
   ·rintro g (s|⟨s,l⟩)
    ·exact hg.block g (h.blk_lt c s)
    ·exact hg.block g (h.ro_lt c l s)
 ·intro i o t o' g m p a d
  rcases f i o m with⟨e1,rfl⟩|⟨e1,c⟩
  ·rcases f t o' p with⟨e2,rfl⟩|⟨e2,n⟩
   ·rw [e1,e2]
   ·rw [e1,k]at a
    rw [ρ.retop_at e2]at d
    have:=hnew g a;have:=h.blk_lt n d;omega
  ·rw [ρ.retop_at e1]at a
   rcases f t o' p with⟨e2,rfl⟩|⟨e2,n⟩
   ·rw [e2,k]at d
    have:=hnew g d;have:=h.blk_lt c a;omega
   ·rw [ρ.retop_at e2]at d
    exact h.inj i o t o' g c n a d
 ·intro i o g m a
  rcases f i o m with⟨e1,rfl⟩|⟨e1,c⟩
  ·rw [e1,k]at a
   have:=hnew g a;have:=h.size;left;omega
  ·rw [ρ.retop_at e1]at a
   exact h.hb i o g c a
 ·exact λi hi=>Env.moved_trans (h.mv i hi) (r i λe=>hpin (e ▸ hi))
 ·intro i oR g m l a t o' p d
  rcases f i _ m with⟨_,A⟩|⟨e1,c⟩
  ·rw [A]at l;exact l.elim
  ·have q:ρ.blk i=some g:=a
   rcases f t o' p with⟨e2,rfl⟩|⟨e2,n⟩
   ·rw [e2,k]at d
    have:=hnew g d;have:=h.ro_lt c l q;omega
   ·rw [ρ.retop_at e2]at d
    exact h.ro i _ g c l q t o' n d
theorem gX.rep {w:World}{ρ:Env}{e z cap id:Nat}{rows:List (List D)}(h:gX w ρ.S e z cap rows (ρ.tv id)) (hn:ρ.n id=rows.length) {n:Nat}(hl:n=rows.length):Rep w ρ (.mw id z n) (ρ.tv id):=by
 obtain⟨A,e1,c,b,a⟩:=h.shape
 subst hl
 have:=Rep.mw (w:=w) (ρ:=ρ) id z rows.length cap A c b (λh0=>a (by omega)) (by omega) (λ_=>e1.symm)
 rw [e1];exact this
def aN (c:UInt8):List D:=[.int .u8 c.toNat]
def bFe:List D->UInt8
 | [.int .u8 n]=>UInt8.ofNat n.toNat
 |_=>0
def unb (rows:List (List D)):List UInt8:=rows.map bFe
theorem lL (l:List UInt8):unb (l.map aN)=l:=by
 unfold unb
 rw [List.map_map]
 conv=>rhs;rw [<-List.map_id l]
 apply List.map_congr_left
 intro c _
 simp [bFe,aN]
section
variable {P:Program}
def conv (k0 k:IntKind) (n:Int) (K:SV->Prop):Prop:=
 match k0 with
 | .u64=>K (.d (.int k (k.wrap n)))
 |_=>aJ8 k n K
theorem aU6 {k0 k:IntKind}{n:Int}{K:SV->Prop}(h:conv k0 k n K):K (.d (.int k (k.wrap n))):=by
 cases k0<;>simp only [conv]at h<;>first|exact sB h|exact h
def aZ6 (ti:TypeId->Option TI) (src dst:TypeId) (s:SV) (hp:Hp) (K:SV->Hp->Prop):Prop:=
 match ti dst with
 |some { td:= .int k, .. }=>(match s with| .d (.int k0 n)=>(ti src).isSome=true/\conv k0 k n λr=>K r hp|_=>aH "convert: to an int")
 |some { td:= .string, .. }=>
  (match s with
  | .d (.str l)=>(ti src).isSome=true/\K (.d (.str l)) hp
  |s=>
   match ti src with
   |some { td:= .slice e, .. }=>
    match ti e with
    |some { td:= .int .u8, .. }=>
     match s with
     | .d .nil=>K (.d (.str [])) hp
     |s=>match xJ s with
      |some (1,rows)=>rows=(unb rows).map aN/\K (.d (.str (unb rows))) hp
      |_=>aH "convert: to a string"
    |_=>aH "convert: to a string"
   |_=>aH "convert: to a string")
 |some { td:= .slice e, .. }=>
  match ti e with
  |some { td:= .int .u8, .. }=>
   (match s with
   | .d (.str l)=>(ti src).isSome=true/\K (.d (.sl 1 (l.map aN))) hp
   | .osl id 1 rows=>src=dst/\rows≠[]/\aP hp id=some (.own e 1 rows.length)/\aBg hp id λhp'=>K (.d (.sl 1 rows)) hp'
   |_=>aH "convert: to bytes")
  |_=>aH "convert: to a slice"
 |_=>aH "convert"
theorem yK {ti:TypeId->Option TI}(hti:fH P ti) {t:TypeId}(h:(ti t).isSome=true): ∃d,P.underlying t=some d:=by
 obtain⟨T,a⟩:=Option.isSome_iff_exists.1 h
 obtain⟨d,i,z,a⟩:=aO (hti _ _ a)
 exact⟨d,a.und⟩
theorem aKu {w:World}{g n k:Nat}: ∀b i,(w.freeze ⟨g,n,none⟩ k).cell? ⟨b,i,none⟩=w.cell? ⟨b,i,none⟩:=by
 intro b i
 unfold World.freeze
 split
 ·rfl
 ·unfold World.cell?
  simp only [Array.getElem?_modify]
  by_cases e:g=b
  ·subst e
   simp only [if_true]
   cases w.heap[g]? with
   |none=>rfl
   |some o=>cases o<;>rfl
  ·simp [e]
theorem lG {w:World}{g n k b:Nat}(h:b≠g):(w.freeze ⟨g,n,none⟩ k).heap[b]? =w.heap[b]? :=by
 unfold World.freeze
 split
 ·rfl
 ·simp [Array.getElem?_modify,Ne.symm h]
theorem aB2 {w:World}{g n k:Nat}:(w.freeze ⟨g,n,none⟩ k).heap.size=w.heap.size:=by
 unfold World.freeze
 split<;>simp
theorem Mem.freezeOwn {E:Entry}{ρ:Env}{hp:Hp}{w:World}(h:Mem E ρ hp w) {id e z n g:Nat}(ho:aP hp id=some (.own e z n)) (hg:(ρ.tv id).ownBlock=some g) (m k:Nat):
  Mem E ρ (aN9 hp id) (w.freeze ⟨g,m,none⟩ k)/\(∀fr p,dV ρ w fr p->dV ρ (w.freeze ⟨g,m,none⟩ k) fr p)/\ ∀s v,Rep w ρ s v->Rep (w.freeze ⟨g,m,none⟩ k) ρ s v:=by
 have l:cF ρ.S w (w.freeze ⟨g,m,none⟩ k):= λb i _=>aKu b i
 have c: ∀i,ρ.moved ρ i:=ρ.moved_refl
 have a:ρ.at id (.own e z n)=some g:=hg
 have t:=h.del id
 refine⟨⟨?_, ?_, ?_,by rw [aB2];exact h.size, ?_,h.sold,h.snew,by rw [aB2];exact h.slt,h.kp.trans h.sold l, ?_,t.inj,t.hb,h.mv,t.ro,λb hb=>(lG (λf=>by obtain⟨_,xs,A,_⟩:=h.sat id _ ho;subst f;exact oW A hg (h.md _ hb))).trans (h.md b hb)⟩, ?_, ?_⟩
 ·unfold World.freeze;split<;>exact h.os
 ·unfold World.freeze;split<;>exact h.tape
 ·unfold World.freeze;split<;>exact h.output
 ·intro b hb y
  rw [lG ?_]
  ·exact h.old b hb y
  ·rintro rfl
   rcases h.hb id _ b ho a with hge|u
   ·omega
   ·exact y u
 ·intro i o hi
  rw [vG]at hi
  split at hi
  ·cases hi
  ·rename_i q
   refine(h.sat i o hi).keep l (λ_ _ x=>x) (λj _=>c j) ⟨rfl,rfl⟩ ?_ (λ_ _ _ x=>x)
   rintro b (d|⟨d,r⟩)
   ·exact lG λf=>q (h.inj i o id _ b hi ho d (by rw [f];exact a))
   ·exact lG λf=>h.ro i _ b hi r d id _ ho (by rw [f];exact a)
 ·exact λfr p C=>C.mono l (λ_ _ x=>x) λi _=>c i
 ·exact λs v B=>B.mono l (λ_ _ x=>x) λi _=>c i
theorem bA1 {ti:TypeId->Option TI}(hti:fH P ti) {o:Oper}{src dst:TypeId}{x:Operand}(ho:o.op= .convert src dst x) {pin:Pin}{fr:Fr}{hp:Hp}{K:SV->Hp->Prop}
  (h:ev fr x λs=>aZ6 ti src dst s hp K):aEb P o pin fr hp K:=by
 intro E ρ a w _ hm hf next Q hn
 obtain⟨s,hs,m⟩:=dB h
 have O:=aV hf hs
 have C: ∀v w',(convert src dst (a.eval x)).run P w= .ok v w'->(execOp a.eval o).run P w= .ok (.value v) w':=by
  intro v w' e
  simp [execOp,ho,e]
 have same: ∀v r,(convert src dst (a.eval x)).run P w= .ok v w->Rep w ρ r v->K r hp->o.wp P a w next Q:= λv r e1 e2 e3=>
  bW (C _ _ e1) (hn v w ρ r hp e3 hm hf e2)
 unfold aZ6 at m
 split at m
 ·rename_i k _ _ _ q
  obtain⟨d,i,z,q⟩:=aO (hti _ _ q)
  have D:=mY q.td
  subst D
  split at m
  ·rename_i k0 n
   obtain⟨d',F⟩:=yK hti m.1
   refine same _ _ ?_ (.d _ _ (.int _ _)) (aU6 m.2)
   simp [convert,run_underlying F,run_underlying q.und,O.int_inv,Conv.intToInt]
  ·exact m.elim
 ·rename_i q
  obtain⟨d,i,z,q⟩:=aO (hti _ _ q)
  have D:=iB q.td
  subst D
  split at m
  ·rename_i l
   obtain⟨d',F⟩:=yK hti m.1
   refine same _ _ ?_ O m.2
   have e:=O.str_inv.1
   simp [convert,run_underlying F,run_underlying q.und,e]
  ·split at m
   ·rename_i e _ _ _ u
    obtain⟨d2,i2,z2,u⟩:=aO (hti _ _ u)
    have D:=cK u.td
    subst D
    split at m
    ·rename_i f
     obtain⟨d3,i3,z3,f⟩:=aO (hti _ _ f)
     have D:=mY f.td
     subst D
     split at m
     ·refine same (.string ⟨#[]⟩) _ ?_ (.d _ _ (RepD.str [] (by simp))) m
      rw [O.nil_inv,run_convert_bytes_string w src dst e none 0 0 u.und f.und q.und]
      rfl
     ·split at m
      ·rename_i rows N
       obtain⟨he,hk⟩:=m
       obtain⟨A,cap,b,off,e1,hnc,hcm,hA,L⟩:=(mA N O).of_sl
       have I:(unb rows).length=rows.length:=by simp [unb]
       have a8:(unb rows).length<=maxLen:=by rw [I];omega
       refine same _ _ ?_ (.d _ _ (RepD.str (unb rows) a8)) hk
       rw [e1]
       by_cases G:rows=[]
       ·subst G
        rcases A with _|ad
        ·rw [run_convert_bytes_string w src dst e _ _ _ u.und f.und q.und]
         rfl
        ·have:=run_convert_bytes_back (P:=P) w src dst e ad cap [] u.und f.und q.und (λj W=>by simp at W)
         simpa [unb]using this
       ·have a3:=hA G
        subst a3
        have := run_convert_bytes_back (P := P) w src dst e ⟨b, off, none⟩ cap (unb rows) u.und f.und q.und (λj W => by
         rw [cW]
         have hj':j < rows.length:=by omega
         have B:rows[j]? =some (aN (unb rows)[j]):=by
          conv=>lhs;rw [he]
          rw [List.getElem?_map,List.getElem?_eq_getElem W];rfl
         obtain⟨v,c1,_,_,c4⟩:=L.cell j _ 0 _ B (by simp [aN];rfl)
         cases c4
         have ej:j * 1+0=j:=by omega
         rw [ej]at c1
         exact c1)
        rw [I]at this
        exact this
      ·exact m.elim
    ·exact m.elim
   ·exact m.elim
 ·rename_i e _ _ _ q
  obtain⟨d,i,z,q⟩:=aO (hti _ _ q)
  have D:=cK q.td
  subst D
  split at m
  ·rename_i f
   obtain⟨d3,i3,z3,f⟩:=aO (hti _ _ f)
   have D:=mY f.td
   subst D
   split at m
   ·rename_i l
    obtain⟨d',F⟩:=yK hti m.1
    obtain⟨ex,hl⟩:=O.str_inv
    have R:(⟨l.toArray⟩:ByteArray).size=l.length:=rfl
    have p:=Lib.run_convert_string_bytes (P:=P) w src dst e ⟨l.toArray⟩ F q.und f.und
    rw [<-ex]at p
    have hg:Grew w (Lib.bytesWorld w e ⟨l.toArray⟩):=by
     refine⟨?_, ?_, ?_, ?_,λb hb=>Lib.bytesWorld_at_old w e _ b hb⟩
     ·unfold Lib.bytesWorld World.freeze;split<;>rfl
     ·unfold Lib.bytesWorld World.freeze;split<;>rfl
     ·unfold Lib.bytesWorld World.freeze;split<;>exact⟨rfl,Nat.le_succ _⟩
     ·rw [Lib.bytesWorld_size];omega
    have U:=hm.grow hg (λb i=>ρ.S b i\/(b=w.heap.size/\i < l.length)) (λ_ _ x=> .inl x) (λb i x=>by rcases x with x|⟨x,_⟩;exact .inl x;right;omega)
     (λb i x=>by rw [Lib.bytesWorld_size];rcases x with x|⟨x,_⟩;(have:=hm.slt b i x;omega);omega)
    refine bW (C _ _ p) (hn _ _ _ (.d (.sl 1 (l.map aN))) hp m.2 U.1 (U.2 fr _ hf) (.d _ _ ?_))
    have T:=grownCap_ge w l.length 0 e
    have J:grownCap w l.length 0 e<=maxLen:=grownCap_le_maxLen w l.length 0 e (by simpa only [maxLen]using hl)
    refine RepD.mk_sl (b:=w.heap.size) (off:=0) (by rw [List.length_map];exact T) J (λ_=>rfl) ⟨?_, ?_⟩ (by rw [List.length_map];exact R)
    ·intro a1 B
     obtain⟨c,_,rfl⟩:=List.mem_map.1 B
     rfl
    ·intro a' a1 j y h1 h2
     simp only [List.getElem?_map,Option.map_eq_some_iff]at h1
     obtain⟨c,hc,rfl⟩:=h1
     obtain⟨Z,hce⟩:=List.getElem?_eq_some_iff.1 hc
     have W:j=0/\y= .int .u8 c.toNat:=by
      cases j with
      |zero=>simp [aN]at h2;exact⟨rfl,h2.symm⟩
      |succ j=>simp [aN]at h2
     obtain⟨rfl,rfl⟩:=W
     refine⟨.int .u8 c.toNat, ?_, .inr ⟨rfl,by simpa using Z⟩,rfl, .int _ _⟩
     have:=Lib.bytesWorld_cell w e ⟨l.toArray⟩ a' (by rw [R];exact Z)
     simp only [Nat.mul_one,Nat.add_zero,Nat.zero_add]
     rw [this]
     simp [List.getD,hc]
   ·rename_i id rows
    obtain⟨rfl,G,Y,hk⟩:=m
    rw [vO]at hk
    obtain⟨a6,hnl,a2⟩:=O.osl_inv
    obtain⟨a4,xs,H,_,_⟩:=hm.sat id _ Y
    have a5:=a2 a4.symm
    rcases aMe H with⟨e1,e2⟩|⟨g,cap,e1,_,_⟩
    ·exact absurd (List.eq_nil_of_length_eq_zero (by omega)) G
    ·obtain⟨cur,hcur⟩: ∃cur,w.heap[g]? =some (.cells cur e (0,0)):=by
      rcases H.2 with⟨V,_⟩|⟨g',cap',cur,t,_,hh,_⟩
      ·rw [e1]at V;cases V
      ·rw [e1]at t
       injection t with t
       injection t with t
       injection t with t
       subst t
       exact⟨cur,hh⟩
     have M:=hm.freezeOwn Y (g:=g) (by rw [e1];rfl) cur.size 1
     have p:(convert src src (a.eval x)).run P w= .ok (a.eval x) (w.freeze ⟨g,cur.size,none⟩ 1):=by
      have a7:w.shape? g=some (e,cur.size):=by simp [World.shape?,hcur]
      rw [a5,e1]
      simp [convert,run_underlying q.und,run_underlying f.und,markStringish,a7]
     exact bW (C _ _ p) (hn _ _ ρ (.d (.sl 1 rows)) _ hk M.1 (M.2.1 fr _ hf) (M.2.2 _ _ (.d _ _ a6)))
   ·exact m.elim
  ·exact m.elim
 ·exact m.elim
end
section
variable {P:Program}
def aBa (fr:Fr):Option Operand->Option (Option SV)
 |none=>some none
 |some x=>match evO fr x with|some s=>some (some s)|none=>none
def cut (n:Nat) (lo hi mx:Option SV) (K:Nat->Nat->Prop):Prop:=
 match mx with
 |none=>
  (match lo, hi with
  |none,none=>K 0 n
  |some (.d (.int _ l)),none=>0<=l/\l.toNat<=n/\K l.toNat n
  |none,some (.d (.int _ h))=>0<=h/\h.toNat<=n/\K 0 h.toNat
  |some (.d (.int _ l)),some (.d (.int _ h))=>0<=l/\l<=h/\h.toNat<=n/\K l.toNat h.toNat
  |_,_=>aH "slice: bounds")
 |some (.d (.int _ m))=>
  (match lo, hi with
  |none,some (.d (.int _ h))=>0<=h/\h<=m/\m.toNat<=n/\K 0 h.toNat
  |some (.d (.int _ l)),some (.d (.int _ h))=>0<=l/\l<=h/\h<=m/\m.toNat<=n/\K l.toNat h.toNat
  |_,_=>aH "slice: bounds")
 |_=>aH "slice: bounds"
theorem View.part_ {w:World}{S:Nat->Nat->Prop}{z:Nat}{rows:List (List D)}{b o i off:Nat}{row:List D}(h:View w S z rows b o) (hi:rows[i]? =some row) (n:Nat):View w S 1 (((row.drop off).take n).map λc=>[c]) b (o+(i * z+off)):=by
 refine⟨λr f=> ?_,λk r j x a d=> ?_⟩
 ·obtain⟨c,_,rfl⟩:=List.mem_map.1 f;rfl
 ·rw [List.getElem?_map,Option.map_eq_some_iff]at a
  obtain⟨c,a,rfl⟩:=a
  have g:j=0/\x=c:=by
   cases j with
   |zero=>simp at d;exact⟨rfl,d.symm⟩
   |succ j=>simp at d
  obtain⟨rfl,rfl⟩:=g
  rw [List.getElem?_take]at a
  split at a
  ·rw [List.getElem?_drop]at a
   have:=h.cell i row (off+k) x hi a
   have e:o+(i * z+off)+(k * 1+0)=o+(i * z+(off+k)):=by omega
   rw [e];exact this
  ·cases a
def aQv (ti:TypeId->Option TI) (t:TypeId) (s:SV) (lo hi mx:Option SV) (K:SV->Prop):Prop:=
 match ti t with
 |some { td:= .string, .. }=>(match s with| .d (.str l)=>mx.isNone=true/\cut l.length lo hi mx λa b=>K (.d (.str ((l.take b).drop a)))|_=>aH "slice: no string")
 |some { td:= .slice e, .. }=>
  (match ti e with
  |some T=>
   (match s with
   | .d .nil=>cut 0 lo hi mx λ_ _=>K (.d (.sl T.size []))
   |s=>match xJ s with
    |some (z,rows)=>T.size=z/\cut rows.length lo hi mx λa b=>K (.d (.sl z ((rows.take b).drop a)))
    |none=>aH "slice: no slice")
  |none=>aH "slice: an element's type")
 |some { td:= .array n e, .. }=>
  (match ti e with
  | some T => (match s, lo, hi, mx with
   | .ptr id off,none,none,none=>n<=9223372036854775807/\K (.msl id T.size off n)
   | .ea z rows i off,none,none,none=> ∃row,rows[i]? =some row/\T.size=1/\off+n<=z/\n<=9223372036854775807/\K (.d (.sl 1 (((row.drop off).take n).map λc=>[c])))
   |_,_,_,_=>aH "slice: an array")
  |none=>aH "slice: an element's type")
 |_=>aH "slice: a type"
theorem aJy {n cap:Nat}(isSl:Bool) {lo hi mx:Option SV}{lv hv mv:Option Value}{w:World}{ρ:Env}{K:Nat->Nat->Prop}(hc:n<=cap)
  (hl: ∀s,lo=some s-> ∃v,lv=some v/\Rep w ρ s v) (hl0:lo=none->lv=none) (hh: ∀s,hi=some s-> ∃v,hv=some v/\Rep w ρ s v) (hh0:hi=none->hv=none)
  (hm: ∀s,mx=some s-> ∃v,mv=some v/\Rep w ρ s v) (e:mx=none->mv=none) (h:cut n lo hi mx K):
  ∃a b m,(∀w',(Instr.sliceBounds isSl n cap lv hv mv).run P w'= .ok (a,b,m) w')/\a<=b/\b<=n/\b<=m/\m<=cap/\K a b:=by
 unfold cut at h
 split at h
 ·have t:=e rfl
  subst t
  split at h
  ·have e1:=hl0 rfl;have e2:=hh0 rfl
   subst e1;subst e2
   exact⟨0,n,cap,λw'=>by simp [Instr.sliceBounds],by omega,by omega,hc,by omega,h⟩
  ·rename_i k l
   obtain⟨v,e1,i⟩:=hl _ rfl
   have e2:=hh0 rfl
   subst e1;subst e2
   obtain⟨f,p,g⟩:=h
   have d:l<=(n:Int):=by omega
   exact⟨l.toNat,n,cap,λw'=>by simp [Instr.sliceBounds,i.int_inv,run_sliceBound,f,d],by omega,by omega,hc,by omega,g⟩
  ·rename_i k c
   obtain⟨v,e1,i⟩:=hh _ rfl
   have e2:=hl0 rfl
   subst e1;subst e2
   obtain⟨f,p,g⟩:=h
   have d:c<=(cap:Int):=by omega
   exact⟨0,c.toNat,cap,λw'=>by simp [Instr.sliceBounds,i.int_inv,run_sliceBound,f,d],by omega,by omega,by omega,by omega,g⟩
  ·rename_i k l u c
   obtain⟨v,e1,i⟩:=hh _ rfl
   obtain⟨v',e2,r⟩:=hl _ rfl
   subst e1;subst e2
   obtain⟨f,p,y,g⟩:=h
   have d:c<=(cap:Int):=by omega
   have o:0<=c:=by omega
   have q:l<=(c.toNat:Int):=by omega
   refine⟨l.toNat,c.toNat,cap,λw'=> ?_,by omega,by omega,by omega,by omega,g⟩
   simp only [Instr.sliceBounds,i.int_inv,r.int_inv,Sem.run_bind,Sem.run_pure,Result.andThen_ok,run_sliceBound (P:=P) w' u c cap _ o d]
   simp only [run_sliceBound (P:=P) w' k l c.toNat _ f q,Result.andThen_ok]
  ·exact h.elim
 ·rename_i z m
  obtain⟨vm,t,x⟩:=hm _ rfl
  subst t
  split at h
  ·rename_i k c
   obtain⟨v,e1,i⟩:=hh _ rfl
   have e2:=hl0 rfl
   subst e1;subst e2
   obtain⟨f,p,y,g⟩:=h
   have e:0<=m:=by omega
   have j:m<=(cap:Int):=by omega
   have q:c<=(m.toNat:Int):=by omega
   refine⟨0,c.toNat,m.toNat,λw'=> ?_,by omega,by omega,by omega,by omega,g⟩
   simp only [Instr.sliceBounds,i.int_inv,x.int_inv,Sem.run_bind,Sem.run_pure,Result.andThen_ok,run_sliceBound (P:=P) w' z m cap _ e j]
   simp only [run_sliceBound (P:=P) w' k c m.toNat _ f q,Result.andThen_ok]
  ·rename_i k l u c
   obtain⟨v,e1,i⟩:=hh _ rfl
   obtain⟨v',e2,r⟩:=hl _ rfl
   subst e1;subst e2
   obtain⟨f,p,y,q,g⟩:=h
   have e:0<=m:=by omega
   have j:m<=(cap:Int):=by omega
   have o:0<=c:=by omega
   have A:c<=(m.toNat:Int):=by omega
   have B:l<=(c.toNat:Int):=by omega
   refine⟨l.toNat,c.toNat,m.toNat,λw'=> ?_,by omega,by omega,by omega,by omega,g⟩
   simp only [Instr.sliceBounds,i.int_inv,r.int_inv,x.int_inv,Sem.run_bind,Sem.run_pure,Result.andThen_ok,run_sliceBound (P:=P) w' z m cap _ e j]
   simp only [run_sliceBound (P:=P) w' u c m.toNat _ o A,Result.andThen_ok]
   simp only [run_sliceBound (P:=P) w' k l c.toNat _ f B,Result.andThen_ok]
  ·exact h.elim
 ·exact h.elim
theorem View.cut_ {w:World}{S:Nat->Nat->Prop}{z:Nat}{rows:List (List D)}{b off:Nat}(h:View w S z rows b off) (l m:Nat):View w S z ((rows.take m).drop l) b (off+l * z):=by
 refine⟨λa k=>h.hz a (List.mem_of_mem_take (List.mem_of_mem_drop k)),λi a j x c o=> ?_⟩
 rw [List.getElem?_drop,List.getElem?_take]at c
 split at c
 ·obtain⟨v,f,d,n,g⟩:=h.cell (l+i) a j x c o
  have e:off+((l+i)* z+j)=off+l * z+(i * z+j):=by rw [Nat.add_mul];omega
  rw [e]at f d
  exact⟨v,f,d,n,g⟩
 ·cases c
theorem vK {ρ:Env}{w:World}{fr:Fr}{a:Act}(hf:dV ρ w fr a.tmps) {x:Option Operand}{s:Option SV}(h:aBa fr x=some s):
  (∀r,s=some r-> ∃v,x.map a.eval=some v/\Rep w ρ r v)/\(s=none->x.map a.eval=none):=by
 cases x with
 |none=>simp [aBa]at h;subst h;simp
 |some x=>
  simp only [aBa]at h
  split at h
  ·rename_i r b
   simp at h
   subst h
   exact⟨λr' e=>⟨a.eval x,rfl,by injection e with e;subst e;exact aV hf b⟩,λe=>by cases e⟩
  ·cases h
theorem aWj {ti:TypeId->Option TI}(hti:fH P ti) {o:Oper}{t:TypeId}{x:Operand}{lo hi mx:Option Operand}(ho:o.op= .slice t x lo hi mx) {fr:Fr}{hp:Hp}{K:SV->Prop}
  (h : ev fr x λs => match aBa fr lo with
   | some l => (match aBa fr hi with
    |some h=>(match aBa fr mx with|some m=>aQv ti t s l h m K|none=>aH "slice: max")
    |none=>aH "slice: high")
   |none=>aH "slice: low"):fI P o fr hp K:=by
 intro E ρ a w hm V
 obtain⟨s,hs,p⟩:=dB h
 have R:=aV V hs
 split at p
 ·rename_i l hl
  split at p
  ·rename_i hh a4
   split at p
   ·rename_i m a5
    obtain⟨l1,C⟩:=vK V hl
    obtain⟨h1,Q⟩:=vK V a4
    obtain⟨Z,B⟩:=vK V a5
    have f:=p
    clear p
    unfold aQv at f
    split at f
    ·rename_i r
     obtain⟨d,i,z,r⟩:=aO (hti _ _ r)
     have H:=iB r.td
     subst H
     split at f
     ·rename_i L
      obtain⟨a1,f⟩:=f
      obtain⟨e,hle⟩:=R.str_inv
      have a3:m=none:=by simpa using a1
      obtain⟨a',b,m',j,O,M,N,S,I⟩:=aJy (P:=P) false (Nat.le_refl _) l1 C h1 Q Z B f
      have F:mx.map a.eval=none:=B a3
      rw [F]at j
      have hmxn:mx.isSome=false:=by cases mx<;>simp_all
      refine⟨.string ((⟨L.toArray⟩:ByteArray).extract a' b),_,λw' _=> ?_, ?_,I⟩
      ·have Y:(⟨L.toArray⟩:ByteArray).size=L.length:=rfl
       simp [execOp,ho,Instr.sliceAt,run_underlying r.und,Instr.slice,e,F,Y,j]
      ·have e2:(⟨L.toArray⟩:ByteArray).extract a' b=⟨((L.take b).drop a').toArray⟩:=by
        apply ByteArray.ext
        simp [ByteArray.data_extract,List.extract_toArray,List.drop_take]
       rw [e2]
       exact .d _ _ (.str _ (by simp only [maxLen,List.length_drop,List.length_take];omega))
     ·exact f.elim
    ·rename_i e _ _ _ r
     obtain⟨d,i,z,r⟩:=aO (hti _ _ r)
     have H:=cK r.td
     subst H
     split at f
     ·rename_i T q
      obtain⟨d2,i2,z2,q⟩:=aO (hti _ _ q)
      have G: ∀(A:Option Addr) (len cap a' b m':Nat),a.eval x= .slice A len cap->(∀w',(Instr.sliceBounds true len cap (lo.map a.eval) (hi.map a.eval) (mx.map a.eval)).run P w'= .ok (a',b,m') w')->
        ∀w',Kept ρ hp w w'->(execOp a.eval o).run P w'= .ok (.value (.slice (if m'=a' then A else A.map (·.add (a' * T.size))) (b - a') (m' - a'))) w':=by
       intro A len cap a' b m' e1 e2 w' _
       simp [execOp,ho,Instr.sliceAt,run_underlying r.und,Instr.slice,e1,e2,q.run_size]
      split at f
      ·have e1:=R.nil_inv
       obtain⟨a',b,m',j,O,M,N,S,I⟩:=aJy (P:=P) true (Nat.le_refl _) l1 C h1 Q Z B f
       refine⟨_,_,G _ _ _ _ _ _ e1 j, .d _ _ ?_,I⟩
       exact RepD.mk_sl (b:=0) (off:=0) (by simp) (by simp only [maxLen];omega) (λu=>absurd rfl u) ⟨by simp,by simp⟩ (by simp;omega)
      ·split at f
       ·rename_i W rows y
        obtain⟨hz,f⟩:=f
        obtain⟨A,cap,U,off,e1,a6,a2,hA,k⟩:=(mA y R).of_sl
        obtain⟨a',b,m',j,O,M,N,S,I⟩:=aJy (P:=P) true a6 l1 C h1 Q Z B f
        refine⟨_,_,G _ _ _ _ _ _ e1 j, .d _ _ ?_,I⟩
        refine RepD.mk_sl (b:=U) (off:=off+a' * W) (by simp only [List.length_drop,List.length_take];omega) (by simp only [maxLen]at a2 |-;omega) ?_ (k.cut_ a' b) (by simp only [List.length_drop,List.length_take];omega)
        intro u
        have hlt:a' < b:=by
         rcases Nat.lt_or_ge a' b with h|h
         ·exact h
         ·exact absurd (List.drop_eq_nil_of_le (by rw [List.length_take];omega)) u
        have J:rows≠[]:=by rintro rfl;simp at u
        rw [hA J,if_neg (by omega),hz]
        simp [cW]
       ·exact f.elim
     ·exact f.elim
    ·rename_i n e _ _ _ r
     obtain⟨d,i,z,r⟩:=aO (hti _ _ r)
     have H:=mQ r.td
     subst H
     split at f
     ·rename_i T q
      obtain⟨d2,i2,z2,q⟩:=aO (hti _ _ q)
      split at f
      ·rename_i id off
       obtain⟨g,hg,e1⟩:=R.ptr_inv
       have q1:=C rfl
       have q2:=Q rfl
       have q3:=B rfl
       refine⟨.slice (some ⟨g,off,none⟩) n n,_,λw' _=> ?_, .msl id T.size off n g n hg rfl (by simpa only [maxLen]using f.1),f.2⟩
       simp [execOp,ho,Instr.sliceAt,run_underlying r.und,e1,q1,q2,q3,Instr.sureAddr,Instr.sliceBounds,q.run_size,Addr.add]
      ·rename_i W rows i' off
       obtain⟨U,o',k,e1⟩:=R.ea_inv
       obtain⟨D,g1,g2,g3,g4,g5⟩:=f
       have q1:=C rfl
       have q2:=Q rfl
       have q3:=B rfl
       have hrow:=k.hz D (List.mem_of_getElem? g1)
       have v:(((D.drop off).take n).map λc=>[c]).length=n:=by rw [List.length_map,List.length_take,List.length_drop];omega
       refine⟨.slice (some ⟨U,o'+(i' * W+off),none⟩) n n,_,λw' _=> ?_, .d _ _ (RepD.mk_sl (b:=U) (off:=o'+(i' * W+off)) (by rw [v];exact Nat.le_refl _) (by simpa only [maxLen]using g4) (λ_=>rfl) (k.part_ g1 n) v.symm),g5⟩
       simp [execOp,ho,Instr.sliceAt,run_underlying r.und,e1,q1,q2,q3,Instr.sureAddr,Instr.sliceBounds,q.run_size,Addr.add]
      ·exact f.elim
     ·exact f.elim
    ·exact f.elim
   ·exact p.elim
  ·exact p.elim
 ·exact p.elim
def fE (id:Nat) (pin:Pin) (fr:Fr) (hp:Hp):Prop:=id∉pin/\id∉gD fr/\id∉gH hp
def aQu (ti:TypeId->Option TI) (t:TypeId) (s x:SV) (hp:Hp) (K:Hp->Prop):Prop:=
 match ti t with
 |some T=>
  (match s with
  | .ptr id off=>
   (match aP hp id with
   |some (.cells t' cs)=>
    if T.td.isAgg then
     (match vS x with
     |some ns=>ns.length=T.size/\off+T.size<=cs.length/\(∀n∈ns,aC9 n=true)/\iY hp id (.cells t' (jV cs off ns)) K
     |none=>aH "store: no struct")
    else T.size=1/\aC9 x=true/\off < cs.length/\iY hp id (.cells t' (cs.set off x)) K
   |_=>aH "store: no such object")
  |_=>aH "store: no address of an object")
 |none=>aH "store: a type"
theorem aOc (cs:List SV) (off:Nat) (x:SV) (h:off < cs.length):jV cs off [x]=cs.set off x:=by
 unfold jV
 rw [List.set_eq_take_append_cons_drop,if_pos h]
 simp
theorem xI {t:TypeId}{T:TI}{d:TypeDesc}{i:TypeInfo}{z:Value}(hT:TIok P t T d i z) (w:World) (g off:Nat) (v:Value) (hv:v.cells.size=T.size) (cur:Array Value) (t':TypeId) (hg:w.heap[g]? =some (.cells cur t' (0,0)))
  (hfit:off+v.cells.toList.length<=cur.size) (h1: ∀u∈v.cells.toList,u.oneCell'=true):
  (storeVar t ⟨g,off,none⟩ v).run P w= .ok () (w.setRow g (cur.toList.take off++v.cells.toList++cur.toList.drop (off+v.cells.toList.length)).toArray):=by
 have:=run_storeCells_at P g off t' v.cells.toList 0 cur w hg (by simpa using hfit) h1
 simp only [Nat.add_zero]at this
 simp only [storeVar,Sem.run_bind,hT.run_size,Result.andThen_ok,hv,ne_eq,not_true_eq_false,if_false]
 exact this
theorem aWi {ti:TypeId->Option TI}(hti:fH P ti) {o:Oper}{t:TypeId}{x y:Operand}(ho:o.op= .store t x y) {pin:Pin}{fr:Fr}{hp:Hp}{K:SV->Hp->Prop}
  (h:ev fr x λs=>ev fr y λr=>aQu ti t s r hp λhp'=>K (.d (.lit undef)) hp'):aEb P o pin fr hp K:=by
 intro E ρ a w _ hm I next Q hn
 obtain⟨s,hs,p⟩:=dB h
 obtain⟨r,hr,c⟩:=dB p
 clear p
 have R:=aV I hs
 have G:=aV I hr
 unfold aQu at c
 split at c
 ·rename_i T D
  obtain⟨d,i,z,D⟩:=aO (hti _ _ D)
  split at c
  ·rename_i id off
   obtain⟨g,S,e1⟩:=R.ptr_inv
   split at c
   ·rename_i L cs C
    have q: ∀(k:List SV) (v:Value),a.eval y=v->v.cells.toList.length=k.length->v.cells.size=T.size->off+k.length<=cs.length->(∀u∈v.cells.toList,u.oneCell'=true)->
      (∀(j:Nat) (s:SV) (u:Value),k[j]? =some s->v.cells.toList[j]? =some u->Rep w ρ s u)->K (.d (.lit undef)) (eY hp id (.cells L (jV cs off k)))->o.wp P a w next Q:=by
     intro k v l q1 q2 U J V m
     obtain⟨cur,Y,W,Z,c4⟩:=hm.store C S k v.cells.toList q1 U J V
     refine aEc ?_ (hn undef _ ρ _ _ m Z (c4 fr _ I) (.d _ _ (.lit _)))
     simp [execOp,ho,Instr.storeAt,e1,l,Instr.sureAddr,xI D w g off v q2 cur L Y W J]
    split at c
    ·split at c
     ·rename_i k A
      obtain⟨N,O,H,m⟩:=c
      rw [eJ]at m
      obtain⟨vs,l,hl,M⟩:=tP A G
      refine q k (.agg vs) l (by simpa [Value.cells]using hl) (by simp [Value.cells];omega) (by omega) ?_ ?_ m
      ·intro u f
       obtain⟨j,B,rfl⟩:=List.getElem_of_mem f
       simp only [Value.cells]at B |-
       have n:j < k.length:=by rw [<-hl];simpa using B
       exact yW (M j k[j] _ (List.getElem?_eq_getElem n) (by simp [Array.getElem?_eq_getElem (show j < vs.size by simpa using B)])) (H _ (List.getElem_mem n))
      ·intro j s u e f
       exact M j s u e (by simpa [Value.cells]using f)
     ·exact c.elim
    ·obtain⟨N,O,H,m⟩:=c
     rw [eJ]at m
     have F:=yW G O
     have b:(a.eval y).cells= #[a.eval y]:=by
      generalize a.eval y=u at *
      cases u<;>simp_all [Value.oneCell',Value.cells]
     refine q [r] (a.eval y) rfl (by simp [b]) (by simp [b,N]) (by simp only [List.length_singleton];omega) ?_ ?_ (by rw [aOc cs off r H];exact m)
     ·intro u f
      simp [b]at f
      subst f
      exact F
     ·intro j s u e f
      simp only [b]at f
      cases j with
      |zero=>simp at e f;subst e;subst f;exact G
      |succ j=>simp at e
   ·exact c.elim
  ·exact c.elim
 ·exact c.elim
theorem Env.upd_kb (ρ:Env) {id g i:Nat}{x:HObj}(h:i≠id):(ρ.upd id g).kb i x=ρ.kb i x:=by
 cases x<;>simp [Env.kb,Env.upd,h]
theorem aDj {o:Oper}{a:Act}{w:World}{E:Entry}{ρ:Env}{hp:Hp}{fr:Fr}{pin:Pin}{next:Act->World->Prop}{Q:Exit->Act->World->Prop}{K:SV->Hp->Prop}(hp':E.pin=pin) (hm:Mem E ρ hp w) (hf:dV ρ w fr a.tmps)
  (hn: ∀v w' ρ' s hp',K s hp'->Mem E ρ' hp' w'->dV ρ' w' fr a.tmps->Rep w' ρ' s v->KInfo ρ hp w ρ' hp' w'->next (a.put o.dst v) w')
  (id:Nat) (t:TypeId) (cs:List SV) (vs:Array Value) (hfr:fE id pin fr hp) (hids:id∉SV.idsL cs) (hl:vs.size=cs.length) (h1: ∀v∈vs,v.oneCell'=true)
  (hr: ∀(j:Nat) (s:SV) (v:Value),cs[j]? =some s->vs[j]? =some v->Rep w ρ s v) (hk:K (.ptr id 0) ((id, .cells t cs)::hp))
  (hrun:(execOp a.eval o).run P w= .ok (.value (.pointer (some ⟨w.heap.size,0,none⟩))) (w.alloc (.cells vs t))):o.wp P a w next Q:=by
 obtain⟨h,f,c⟩:=hfr
 obtain⟨k,l,_⟩:=hm.alloc id vs t cs c (by rw [hp'];exact h) hl h1 hr hids
 refine bW hrun (hn _ _ _ _ _ hk k (l fr _ f hf) (.ptr id 0 _ (by simp [Env.upd])) (KInfo.mk_ (hm.kept_grew (Grew.alloc w _)) (λ_ _ x=>x) λi x g hx d=> ?_))
 have b:i≠id:= λe=>c (e ▸ bR hx (.inl rfl))
 exact⟨by rw [cQ (Ne.symm b)];exact hx,by rw [ρ.upd_kb b];exact d⟩
theorem aMh {ti:TypeId->Option TI}(hti:fH P ti) {o:Oper}{t:TypeId}{id:Nat}(ho:o.op= .alloc t) {pin:Pin}{fr:Fr}{hp:Hp}{K:SV->Hp->Prop}
  (h : match ti t with
   |some T=>fE id pin fr hp/\K (.ptr id 0) ((id, .cells t (T.zero.map .d))::hp)
   |none=>aH "alloc: a type"):aBu P o pin fr hp K:=by
 intro E ρ a w hp' m y next Q q
 split at h
 ·rename_i T b
  obtain⟨d,i,z,b⟩:=aO (hti _ _ b)
  obtain⟨g,p⟩:=h
  have c: ∀l:List D,SV.idsL (l.map SV.d)=[]:=by
   intro l;induction l with
   |nil=>rfl
   |cons x r ih=>simp [SV.idsL,SV.ids,ih]
  refine aDj hp' m y q id t _ z.cells g (by rw [c];simp) (by simp [b.zs]) b.one ?_ p ?_
  ·intro j s v f k
   rw [b.zs]at f
   simp only [List.map_map,List.getElem?_map,Option.map_eq_some_iff]at f
   obtain⟨u,n,rfl⟩:=f
   have:u=v:=by
    have e:z.cells[j]? =some u:=by simpa using n
    rw [e]at k;injection k
   subst this
   exact .d _ _ (uL w ρ.S u)
  ·simp [execOp,ho,Instr.alloc,zeroValue,typeInfo,b.info,b.zero,newVar,newRow]
 ·exact h.elim
def kF (s:SV):Option (List SV):=
 match vS s with
 |some cs=>if cs.all aC9 then some cs else none
 |none=>if aC9 s then some [s]else none
theorem oV {w:World}{ρ:Env}{s:SV}{v:Value}{cs:List SV}(h:kF s=some cs) (hr:Rep w ρ s v):
  v.cells.size=cs.length/\(∀u∈v.cells,u.oneCell'=true)/\ ∀(j:Nat) (s:SV) (u:Value),cs[j]? =some s->v.cells[j]? =some u->Rep w ρ s u:=by
 unfold kF at h
 split at h
 ·rename_i cs' f
  split at h
  ·rename_i b
   simp at h
   subst h
   obtain⟨vs,e,hl,k⟩:=tP f hr
   subst e
   refine⟨hl,λu c=> ?_,k⟩
   obtain⟨j,l,rfl⟩:=Array.mem_iff_getElem.1 c
   simp only [Value.cells]at l |-
   have d:j < cs'.length:=by omega
   rw [List.all_eq_true]at b
   exact yW (k j cs'[j] _ (List.getElem?_eq_getElem d) (Array.getElem?_eq_getElem l)) (b _ (List.getElem_mem d))
  ·cases h
 ·split at h
  ·rename_i hl
   simp at h
   subst h
   have i:=yW hr hl
   have a:v.cells= #[v]:=by cases v<;>simp_all [Value.oneCell',Value.cells]
   rw [a]
   refine⟨rfl,λu c=>by simp at c;subst c;exact i,λj s' u g c=> ?_⟩
   cases j with
   |zero=>simp at g c;subst g;subst c;exact hr
   |succ j=>simp at g
  ·cases h
theorem aYa {o:Oper}{t:TypeId}{x:Operand}{id:Nat}(ho:o.op= .box t x) {pin:Pin}{fr:Fr}{hp:Hp}{K:SV->Hp->Prop}
  (h : ev fr x λs => match kF s with
   |some cs=>fE id pin fr hp/\id∉SV.idsL cs/\K (.ptr id 0) ((id, .cells t cs)::hp)
   |none=>aH "box: cells"):aBu P o pin fr hp K:=by
 intro E ρ a w hp' e d next Q l
 obtain⟨s,j,b⟩:=dB h
 have i:=aV d j
 split at b
 ·rename_i cs c
  obtain⟨g,k,f⟩:=oV c i
  exact aDj hp' e d l id t cs _ b.1 b.2.1 g k f b.2.2 (by simp [execOp,ho,Instr.box,newVar,newRow])
 ·exact b.elim
end
end
end Go.Proofs.YtbobcfjlbcgchaaGreatDoor
