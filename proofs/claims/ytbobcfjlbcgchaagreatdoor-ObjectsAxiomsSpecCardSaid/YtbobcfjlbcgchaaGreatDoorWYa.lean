/-
  The hash: rotations.
  Conditions: none.
-/
import Derived.Test.YtbobcfjlbcgchaaGreatDoorWSq
import Derived.Test.YtbobcfjlbcgchaaGreatDoorWSna
import Derived.Test.YtbobcfjlbcgchaaGreatDoorWOl
import Derived.Test.YtbobcfjlbcgchaaGreatDoorWSf
import Derived.Test.YtbobcfjlbcgchaaGreatDoorWAr
import Derived.Test.YtbobcfjlbcgchaaGreatDoorWA8
set_option linter.unnecessarySimpa false
set_option linter.unusedSectionVars false
set_option linter.unusedSimpArgs false
set_option linter.unusedVariables false
set_option maxHeartbeats 16000000
namespace Go.Proofs.YtbobcfjlbcgchaaGreatDoor
section
open Go.RowKit
def SV.ren (σ:Nat->Nat):SV->SV
 | .ptr i o=> .ptr (σ i) o
 | .osl i z r=> .osl (σ i) z r
 | .mw i z n=> .mw (σ i) z n
 |s=>s
def SV.sim:SV->Prop
 | .ptr _ _=>True
 | .osl _ _ _=>True
 | .mw _ _ _=>True
 |s=>s.ids=[]
def HObj.ren (σ:Nat->Nat):HObj->HObj
 | .cells t cs=> .cells t (cs.map (SV.ren σ))
 | .ro t cs=> .ro t (cs.map (SV.ren σ))
 |o=>o
def HObj.sim:HObj->Prop
 | .cells _ cs=> ∀s∈cs,s.sim
 | .ro _ cs=> ∀s∈cs,s.sim
 | .own _ _ _=>True
 | .mrow _ _ _ _=>True
 | .glob _ _ _=>True
 | .ext X=>X.ids=[]
 | .rox X=>X.ids=[]
 | .loop _ _=>False
def Env.like (a b:Env) (σ:Nat->Nat) (i:Nat):Prop:=b.blk (σ i)=a.blk i/\b.n (σ i)=a.n i/\b.tv (σ i)=a.tv i
section
variable {P:Program}
theorem Rep.noids {w:World}{ρ ρ':Env}{s:SV}{v:Value}(h:Rep w ρ s v) (hs:ρ'.S=ρ.S) (hi:s.ids=[]):Rep w ρ' s v:=
 h.mono (λ_ _ _=>rfl) (λb i x=>by rw [hs];exact x) (λid a=>by rw [hi]at a;cases a)
theorem RepD.noS {w:World}{S S':Nat->Nat->Prop}{x:D}{v:Value}(h:RepD w S x v) (hs:S'=S):RepD w S' x v:=by rw [hs];exact h
theorem Rep.toRen {w:World}{a b:Env}{σ:Nat->Nat}{s:SV}{v:Value}(hs:s.sim) (hS:b.S=a.S) (hl: ∀i∈s.ids,a.like b σ i) (h:Rep w a s v):Rep w b (s.ren σ) v:=by
 cases s with
 |ptr i o=>
  cases h with
  |ptr _ _ g hg=>exact .ptr _ _ g ((hl i (by simp [SV.ids])).1.trans hg)
 |osl i z r=>
  obtain⟨_,c,d⟩:=hl i (by simp [SV.ids])
  cases h with
  |osl _ _ _ _ h hn ht=>exact .osl _ _ _ _ (h.noS hS) (by rw [c];exact hn) (by rw [c,d];exact ht)
 |mw i z n=>
  obtain⟨_,c,d⟩:=hl i (by simp [SV.ids])
  cases h with
  |mw _ _ _ cap A hn hc hA h4 h5=>exact .mw _ _ _ cap A hn hc hA (by rw [c];exact h4) (by rw [c,d];exact h5)
 |_=>exact h.noids hS hs
theorem Rep.ofRen {w:World}{a b:Env}{σ:Nat->Nat}{s:SV}{v:Value}(hs:s.sim) (hS:b.S=a.S) (hl: ∀i∈s.ids,a.like b σ i) (h:Rep w b (s.ren σ) v):Rep w a s v:=by
 cases s with
 |ptr i o=>
  cases h with
  |ptr _ _ g hg=>exact .ptr _ _ g ((hl i (by simp [SV.ids])).1.symm.trans hg)
 |osl i z r=>
  obtain⟨_,c,d⟩:=hl i (by simp [SV.ids])
  cases h with
  |osl _ _ _ _ h hn ht=>exact .osl _ _ _ _ (h.noS hS.symm) (by rw [<-c];exact hn) (by rw [<-c,<-d];exact ht)
 |mw i z n=>
  obtain⟨_,c,d⟩:=hl i (by simp [SV.ids])
  cases h with
  |mw _ _ _ cap A hn hc hA h4 h5=>exact .mw _ _ _ cap A hn hc hA (by rw [<-c];exact h4) (by rw [<-c,<-d];exact h5)
 |_=>exact h.noids hS.symm hs
theorem eP.toRen {w:World}{a b:Env}{σ:Nat->Nat}{g:Nat}{t:TypeId}{cs:List SV}(hs: ∀s∈cs,s.sim) (hS:b.S=a.S) (hl: ∀i∈SV.idsL cs,a.like b σ i) (h:eP w a g t cs):eP w b g t (cs.map (SV.ren σ)):=by
 obtain⟨cur,d,e,l,f⟩:=h
 refine⟨cur,d,by rw [List.length_map];exact e,l,λj s v e1 e2=> ?_⟩
 rw [List.getElem?_map]at e1
 obtain⟨k,c,rfl⟩:=Option.map_eq_some_iff.1 e1
 exact(f j k v c e2).toRen (hs _ (List.mem_of_getElem? c)) hS λi hi=>hl i (SV.mem_idsL c hi)
theorem eP.ofRen {w:World}{a b:Env}{σ:Nat->Nat}{g:Nat}{t:TypeId}{cs:List SV}(hs: ∀s∈cs,s.sim) (hS:b.S=a.S) (hl: ∀i∈SV.idsL cs,a.like b σ i) (h:eP w b g t (cs.map (SV.ren σ))):eP w a g t cs:=by
 obtain⟨cur,d,c,f,e⟩:=h
 refine⟨cur,d,by rw [List.length_map]at c;exact c,f,λj s v e1 e2=> ?_⟩
 exact(e j (s.ren σ) v (by rw [List.getElem?_map,e1];rfl) e2).ofRen (hs _ (List.mem_of_getElem? e1)) hS λi hi=>hl i (SV.mem_idsL e1 hi)
theorem HObj.at_ren {a b:Env}{σ:Nat->Nat}{i:Nat}{o:HObj}(hs:o.sim) (hl:a.like b σ i):b.at (σ i) (o.ren σ)=a.at i o:=by
 obtain⟨d,h2,c⟩:=hl
 cases o<;>simp only [HObj.ren,Env.at,d,c]
theorem aGj.toRen {w:World}{a b:Env}{σ:Nat->Nat}{id:Nat}{o:HObj}(hs:o.sim) (hS:b.S=a.S) (hl: ∀i,i=id\/i∈o.ids->a.like b σ i) (h:aGj w a id o):aGj w b (σ id) (o.ren σ):=by
 obtain⟨j,k,l⟩:=hl id (.inl rfl)
 cases o with
 |cells t cs=>
  obtain⟨g,c,d,f⟩:=h
  exact⟨g,j.trans c,d.toRen hs hS λi hi=>hl i (.inr hi),λi=>by rw [hS];exact f i⟩
 |ro t cs=>
  obtain⟨g,c,d⟩:=h
  exact⟨g,j.trans c,d.toRen hs hS λi hi=>hl i (.inr hi)⟩
 |own e z n=>
  obtain⟨c,xs,d,f,m⟩:=h
  refine⟨k.trans c,xs, ?_, ?_,m⟩
  ·rw [k,l];exact d
  ·rw [k,l,hS];exact f
 |mrow e z cap rows=>
  obtain⟨c,d⟩:=h
  refine⟨k.trans c, ?_⟩
  rw [l,hS];exact d
 |loop L s=>exact hs.elim
 |ext X=>
  obtain⟨g,r,c,d,f,m⟩:=h
  refine⟨g,r,j.trans c,d,X.keep w w a b r (λ_ _ _=>rfl) (λ_ _ x=>by rw [hS];exact x) (λi hi=> ?_) f,λi=>by rw [hS];exact m i⟩
  rw [show X.ids=[]from hs]at hi;cases hi
 |glob g z rows=>
  show View w b.S z rows g 0
  rw [hS];exact h
 |rox X=>
  obtain⟨g,r,c,d,f⟩:=h
  refine⟨g,r,j.trans c,d,X.keep w w a b r (λ_ _ _=>rfl) (λ_ _ x=>by rw [hS];exact x) (λi hi=> ?_) f⟩
  rw [show X.ids=[]from hs]at hi;cases hi
theorem aGj.ofRen {w:World}{a b:Env}{σ:Nat->Nat}{id:Nat}{o:HObj}(hs:o.sim) (hS:b.S=a.S) (hl: ∀i,i=id\/i∈o.ids->a.like b σ i) (h:aGj w b (σ id) (o.ren σ)):aGj w a id o:=by
 obtain⟨j,k,l⟩:=hl id (.inl rfl)
 cases o with
 |cells t cs=>
  obtain⟨g,c,d,f⟩:=h
  exact⟨g,j.symm.trans c,d.ofRen hs hS λi hi=>hl i (.inr hi),λi=>by rw [<-hS];exact f i⟩
 |ro t cs=>
  obtain⟨g,c,d⟩:=h
  exact⟨g,j.symm.trans c,d.ofRen hs hS λi hi=>hl i (.inr hi)⟩
 |own e z n=>
  obtain⟨c,xs,d,f,m⟩:=h
  refine⟨k.symm.trans c,xs, ?_, ?_,m⟩
  ·rw [<-k,<-l];exact d
  ·rw [<-k,<-l,<-hS];exact f
 |mrow e z cap rows=>
  obtain⟨c,d⟩:=h
  refine⟨k.symm.trans c, ?_⟩
  rw [<-l,<-hS];exact d
 |loop L s=>exact hs.elim
 |ext X=>
  obtain⟨g,r,c,d,f,m⟩:=h
  refine⟨g,r,j.symm.trans c,d,X.keep w w b a r (λ_ _ _=>rfl) (λ_ _ x=>by rw [<-hS];exact x) (λi hi=> ?_) f,λi=>by rw [<-hS];exact m i⟩
  rw [show X.ids=[]from hs]at hi;cases hi
 |glob g z rows=>
  have h:View w b.S z rows g 0:=h
  rw [hS]at h;exact h
 |rox X=>
  obtain⟨g,r,c,d,f⟩:=h
  refine⟨g,r,j.symm.trans c,d,X.keep w w b a r (λ_ _ _=>rfl) (λ_ _ x=>by rw [<-hS];exact x) (λi hi=> ?_) f⟩
  rw [show X.ids=[]from hs]at hi;cases hi
theorem HObj.rd_ren {σ:Nat->Nat}{o:HObj}:(o.ren σ).Rd↔o.Rd:=by cases o<;>exact Iff.rfl
def Env.pull (ρ:Env) (σ:Nat->Nat):Env:=⟨ρ.S,λi=>ρ.blk (σ i),λi=>ρ.n (σ i),λi=>ρ.tv (σ i)⟩
theorem Env.pull_like (ρ:Env) (σ:Nat->Nat) (i:Nat):(ρ.pull σ).like ρ σ i:=⟨rfl,rfl,rfl⟩
def aQg (σ:Nat->Nat) (W:List Nat) (i:Nat):Option Nat:=W.find? λk=>σ k==i
def Env.push (ρ ρ1:Env) (σ:Nat->Nat) (W:List Nat):Env:=
 ⟨ρ1.S,λi=>match aQg σ W i with|some k=>ρ1.blk k|none=>ρ.blk i,λi=>match aQg σ W i with|some k=>ρ1.n k|none=>ρ.n i,λi=>match aQg σ W i with|some k=>ρ1.tv k|none=>ρ.tv i⟩
theorem aAx {σ:Nat->Nat}{W:List Nat}{i k:Nat}(h:aQg σ W i=some k):k∈W/\σ k=i:=by
 unfold aQg at h
 exact⟨List.mem_of_find?_eq_some h,by simpa using List.find?_some h⟩
theorem bA9 {σ:Nat->Nat}{W:List Nat}(hinj: ∀a∈W,∀b∈W,σ a=σ b->a=b) {k:Nat}(hk:k∈W):aQg σ W (σ k)=some k:=by
 cases h:aQg σ W (σ k)with
 |none=>
  unfold aQg at h
  rw [List.find?_eq_none]at h
  exact absurd (beq_self_eq_true (σ k)) (h k hk)
 |some j=>
  obtain⟨c,d⟩:=aAx h
  rw [hinj j c k hk d]
theorem Env.push_like {ρ ρ1:Env}{σ:Nat->Nat}{W:List Nat}(hinj: ∀a∈W,∀b∈W,σ a=σ b->a=b) {k:Nat}(hk:k∈W):ρ1.like (ρ.push ρ1 σ W) σ k:=by
 unfold Env.like Env.push
 simp only [bA9 hinj hk,and_self]
structure Left (σ:Nat->Nat) (W:List Nat) (h1 hp hp2:Hp):Prop where
 up: ∀k∈W,∃o,aP h1 k=some o/\o.sim/\¬ o.Rd/\(∀i∈o.ids,i∈W)/\aP hp2 (σ k)=some (o.ren σ)
 rest: ∀i o,aP hp2 i=some o->(∃k∈W,i=σ k)\/aP hp i=some o
structure Among (σ:Nat->Nat) (W:List Nat) (hpI hp:Hp):Prop where
 sub: ∀id o,aP hpI id=some o->aP hp (σ id)=some (o.ren σ)/\o.sim
 inj: ∀id o id' o',aP hpI id=some o->aP hpI id'=some o'->σ id=σ id'->id=id'
 w: ∀k∈W,∃o,aP hpI k=some o
 rd: ∀id o,aP hpI id=some o->id∈W\/ ∀ρ:Env,ρ.at id o=none
theorem Mem.framed {E:Entry}{ρ ρ1:Env}{σ:Nat->Nat}{W:List Nat}{hpI h1 hp hp2:Hp}{w w':World}{pin:Pin}{rd:Option Nat}(hm:Mem E ρ hp w) (A:Among σ W hpI hp) (L:Left σ W h1 hp hp2) (hW: ∀k∈W,k∈pin)
  (hm':Mem (cN w (ρ.pull σ) hpI pin rd E.D) ρ1 h1 w'):Mem E (ρ.push ρ1 σ W) hp2 w'/\ ∀i,ρ.moved (ρ.push ρ1 σ W) i:=by
 have z: ∀a∈W,∀b∈W,σ a=σ b->a=b:=by
  intro a ha b hb e
  obtain⟨o,h1⟩:=A.w a ha
  obtain⟨o',p⟩:=A.w b hb
  exact A.inj _ _ _ _ h1 p e
 have P: ∀i,ρ.moved (ρ.push ρ1 σ W) i:=by
  intro i
  cases h:aQg σ W i with
  |none=>exact⟨by simp only [Env.push,h], .inl ⟨by simp only [Env.push,h],by simp only [Env.push,h]⟩⟩
  |some k=>
   obtain⟨N,R⟩:=aAx h
   subst R
   have:=hm'.mv k (hW k N)
   unfold Env.moved at this |-
   simp only [Env.push,h]
   exact this
 have I: ∀b,(cN w (ρ.pull σ) hpI pin rd E.D).B b-> ∃k∈W,∃o,aP hpI k=some o/\aP hp (σ k)=some (o.ren σ)/\ρ.at (σ k) (o.ren σ)=some b:=by
  rintro b ⟨k,o,e1,e2⟩
  obtain⟨s1,s2⟩:=A.sub k o e1
  rcases A.rd k o e1 with y|hn
  ·exact⟨k,y,o,e1,s1,by rw [HObj.at_ren s2 (ρ.pull_like σ k)];exact e2⟩
  ·rw [hn]at e2;cases e2
 have a1:cF ρ.S w w':=hm'.kp
 have H: ∀b i,ρ.S b i->ρ1.S b i:=hm'.sold
 have f: ∀i o,aQg σ W i=none->(ρ.push ρ1 σ W).at i o=ρ.at i o:=by
  intro i o h
  cases o<;>simp only [Env.at,Env.push,h]
 have d: ∀i,(¬ ∃k∈W,i=σ k)->aQg σ W i=none:=by
  intro i h
  cases e:aQg σ W i with
  |none=>rfl
  |some k=>obtain⟨N,R⟩:=aAx e;exact absurd ⟨k,N,R.symm⟩ h
 have x: ∀k∈W,∀o,aP hp2 (σ k)=some o-> ∃u,aP h1 k=some u/\u.sim/\¬ u.Rd/\o=u.ren σ/\(ρ.push ρ1 σ W).at (σ k) o=ρ1.at k u:=by
  intro k y o t
  obtain⟨u,e1,e2,V,Y,M⟩:=L.up k y
  rw [M]at t
  injection t with t
  subst t
  exact⟨u,e1,e2,V,rfl,HObj.at_ren e2 (Env.push_like z y)⟩
 have n: ∀i o g,(¬ ∃k∈W,i=σ k)->aP hp i=some o->(ρ.at i o=some g\/ρ.blk i=some g/\o.Rd)->¬ (cN w (ρ.pull σ) hpI pin rd E.D).B g:=by
  intro i o g hi t c v
  obtain⟨k,N,o',R,O,K⟩:=I g v
  rcases c with c|⟨c,r⟩
  ·exact hi ⟨k,N,hm.inj _ _ _ _ g t O c K⟩
  ·exact hm.ro i o g t r c _ _ O K
 have G: ∀i o g,aP hp i=some o->(ρ.at i o=some g\/ρ.blk i=some g/\o.Rd)->g < w.heap.size:=by
  intro i o g t c
  rcases c with c|⟨c,r⟩
  ·exact hm.blk_lt t c
  ·exact hm.ro_lt t r c
 refine⟨⟨hm'.os.trans hm.os,hm'.tape.trans hm.tape,hm'.output.trans hm.output,Nat.le_trans hm.size hm'.size, ?_,λb i hs=>H b i (hm.sold b i hs), ?_,hm'.slt,hm.kp.trans hm.sold a1, ?_, ?_, ?_,λid a2=>Env.moved_trans (hm.mv id a2) (P id), ?_,hm'.md⟩,P⟩
 ·intro b hb C
  refine(hm'.old b (Nat.lt_of_lt_of_le hb hm.size) λv=> ?_).trans (hm.old b hb C)
  obtain⟨k,N,o,R,O,K⟩:=I b v
  rcases hm.hb _ _ b O K with h|h
  ·omega
  ·exact C h
 ·intro b i hs hb C
  refine hm.snew b i (hm'.snew b i hs (Nat.lt_of_lt_of_le hb hm.size) λv=> ?_) hb C
  obtain⟨k,N,o,R,O,K⟩:=I b v
  rcases hm.hb _ _ b O K with h|h
  ·omega
  ·exact C h
 ·intro i o t
  by_cases hi: ∃k∈W,i=σ k
  ·obtain⟨k,y,rfl⟩:=hi
   obtain⟨u,e1,e2,V,Y,M⟩:=L.up k y
   rw [M]at t
   injection t with t
   subst t
   exact aGj.toRen (a := ρ1) e2 rfl (hl := λj hj => by
    rcases hj with rfl|hj
    ·exact Env.push_like z y
    ·exact Env.push_like z (Y j hj)) (h:=hm'.sat k u e1)
  ·rcases L.rest i o t with h|h
   ·exact absurd h hi
   ·have hn:=d i hi
    refine(hm.sat i o h).keep a1 H (λj _=>P j) ⟨by simp only [Env.push,hn],by simp only [Env.push,hn]⟩ ?_ ?_
    ·intro g c
     exact hm'.old g (G i o g h c) (n i o g hi h c)
    ·intro g c j hj
     exact hm'.snew g j hj (G i o g h (.inl c)) (n i o g hi h (.inl c))
 ·intro i o s o' g h U c l
  by_cases hi: ∃k∈W,i=σ k
  ·obtain⟨k,y,rfl⟩:=hi
   obtain⟨u,e1,e2,V,Y,M⟩:=x k y o h
   rw [M]at c
   by_cases m: ∃k∈W,s=σ k
   ·obtain⟨T,F,rfl⟩:=m
    obtain⟨J,f1,f2,f3,f4,Z⟩:=x T F o' U
    rw [Z]at l
    rw [hm'.inj _ _ _ _ g e1 f1 c l]
   ·rcases L.rest s o' U with p|p
    ·exact absurd p m
    ·rw [f s o' (d s m)]at l
     rcases hm'.hb k u g e1 c with q|v
     ·have:=G s o' g p (.inl l)
      have q:w.heap.size<=g:=q
      omega
     ·exact absurd v (n s o' g m p (.inl l))
  ·rcases L.rest i o h with p|p
   ·exact absurd p hi
   ·rw [f i o (d i hi)]at c
    by_cases m: ∃k∈W,s=σ k
    ·obtain⟨T,F,rfl⟩:=m
     obtain⟨J,f1,f2,f3,f4,Z⟩:=x T F o' U
     rw [Z]at l
     rcases hm'.hb T J g f1 l with q|v
     ·have:=G i o g p (.inl c)
      have q:w.heap.size<=g:=q
      omega
     ·exact absurd v (n i o g hi p (.inl c))
    ·rcases L.rest s o' U with Q|Q
     ·exact absurd Q m
     ·rw [f s o' (d s m)]at l
      exact hm.inj i o s o' g p Q c l
 ·intro i o g h c
  by_cases hi: ∃k∈W,i=σ k
  ·obtain⟨k,y,rfl⟩:=hi
   obtain⟨u,e1,e2,V,Y,M⟩:=x k y o h
   rw [M]at c
   rcases hm'.hb k u g e1 c with q|v
   ·exact .inl (Nat.le_trans hm.size q)
   ·obtain⟨k,N,o,R,O,K⟩:=I g v
    exact hm.hb _ _ g O K
  ·rcases L.rest i o h with p|p
   ·exact absurd p hi
   ·rw [f i o (d i hi)]at c
    exact hm.hb i o g p c
 ·intro i o g h r c s o' U l
  by_cases hi: ∃k∈W,i=σ k
  ·obtain⟨k,y,rfl⟩:=hi
   obtain⟨u,e1,e2,V,Y,M⟩:=x k y o h
   rw [Y]at r
   exact V (HObj.rd_ren.1 r)
  ·rcases L.rest i o h with p|p
   ·exact absurd p hi
   ·have c:ρ.blk i=some g:=by simpa only [Env.push,d i hi]using c
    by_cases m: ∃k∈W,s=σ k
    ·obtain⟨T,F,rfl⟩:=m
     obtain⟨J,f1,f2,f3,f4,Z⟩:=x T F o' U
     rw [Z]at l
     rcases hm'.hb T J g f1 l with q|v
     ·have:=G i o g p (.inr ⟨c,r⟩)
      have q:w.heap.size<=g:=q
      omega
     ·exact absurd v (n i o g hi p (.inr ⟨c,r⟩))
    ·rcases L.rest s o' U with Q|Q
     ·exact absurd Q m
     ·rw [f s o' (d s m)]at l
      exact hm.ro i o g p r c s o' Q l
theorem Mem.pulled {E:Entry}{ρ:Env}{σ:Nat->Nat}{W:List Nat}{hpI hp:Hp}{w:World}(pin:Pin) (rd:Option Nat) (hm:Mem E ρ hp w) (A:Among σ W hpI hp):Mem (cN w (ρ.pull σ) hpI pin rd E.D) (ρ.pull σ) hpI w:=by
 refine⟨rfl,rfl, .refl _,Nat.le_refl _,λ_ _ _=>rfl,λ_ _ h=>h,λ_ _ h _ _=>h,hm.slt,λ_ _ _=>rfl, ?_, ?_,λid o _ a b=> .inr ⟨id,o,a,b⟩,λid _=>(ρ.pull σ).moved_refl id, ?_,hm.md⟩
 ·intro id o h
  obtain⟨e,f⟩:=A.sub id o h
  exact aGj.ofRen (b:=ρ) (σ:=σ) f rfl (λi _=>ρ.pull_like σ i) (hm.sat _ _ e)
 ·intro id o c o' g h k j d
  obtain⟨e,f⟩:=A.sub id o h
  obtain⟨n,l⟩:=A.sub c o' k
  rw [<-HObj.at_ren f (ρ.pull_like σ id)]at j
  rw [<-HObj.at_ren l (ρ.pull_like σ c)]at d
  exact A.inj _ _ _ _ h k (hm.inj _ _ _ _ g e n j d)
 ·intro id o g h m j c o' k d
  obtain⟨e,f⟩:=A.sub id o h
  obtain⟨n,l⟩:=A.sub c o' k
  rw [<-HObj.at_ren l (ρ.pull_like σ c)]at d
  exact hm.ro _ _ g e (HObj.rd_ren.2 m) j _ _ n d
theorem tQ {pin:Pin}{fr:Fr}{hp:Hp}{f:FuncId}{args:List SV}{K:SV->Hp->Prop}(σ:Nat->Nat) (W:List Nat) (hpI:Hp) {pinI:Pin}{argsI:List SV}{KI:SV->Hp->Prop}
  (hc:aF P pinI [] hpI f argsI KI) (A:Among σ W hpI hp) (hW: ∀k∈W,k∈pinI) (hargs:args=argsI.map (SV.ren σ)) (hsim: ∀s∈argsI,s.sim)
  (hk: ∀s d,KI s d->s.sim/\(∀i∈s.ids,i∈W)/\ ∃c,Left σ W d hp c/\K (s.ren σ) c)
  (hkp: ∀d,pinI.kp [] d-> ∃c,Left σ W d hp c/\pin.kp fr c):aF P pin fr hp f args K:=by
 intro E ρ w tm hpin r C vs y
 have l: ∀a∈W,∀b∈W,σ a=σ b->a=b:=by
  intro a F b hb e
  obtain⟨o,d⟩:=A.w a F
  obtain⟨o',H⟩:=A.w b hb
  exact A.inj _ _ _ _ d H e
 have x:=r.pulled pinI none A
 refine(hc _ _ w #[] rfl x (λt s h=>by simp [jB]at h) vs ⟨by rw [y.1,hargs,List.length_map],λj s v B hx=> ?_⟩).mono ?_
 ·refine Rep.ofRen (b:=ρ) (σ:=σ) (hsim s (List.mem_of_getElem? B)) rfl (λi _=>ρ.pull_like σ i) (y.2 j _ v ?_ hx)
  rw [hargs,List.getElem?_map,B];rfl
 ·rintro e w' (⟨v,z,s,d,rfl,u,g,I,D⟩|⟨M,z,d,rfl,J,u,g,I⟩)
  ·obtain⟨L,G,c,m,p⟩:=hk s d u
   obtain⟨q,n⟩:=r.framed A m hW g
   exact .inl ⟨v,_,s.ren σ,c,rfl,p,q,C.mono g.kp g.sold (λi _=>n i),Rep.toRen (a:=z) L rfl (hl:= λi hi=>Env.push_like l (G i hi)) (h:=D)⟩
  ·obtain⟨c,m,p⟩:=hkp d u
   obtain⟨q,n⟩:=r.framed A m hW g
   exact .inr ⟨M,_,c,rfl,J,p,q,C.mono g.kp g.sold (λi _=>n i)⟩
theorem bA8 {i:Nat}{h1 hp:Hp}{x o:HObj}(hx:aP hp i=some x) (ho:aP h1 3=some o) (hs:o.sim) (hr:¬ o.Rd) (hi:o.ids=[]) (he:o.ren (λ_=>i)=o):Left (λ_=>i) [3] h1 hp (eY hp i o):=by
 refine⟨λk d=> ?_,λj y b=> ?_⟩
 ·obtain rfl:k=3:=by simpa using d
  have a: ∀j∈o.ids,j∈[3]:=by
   intro j c
   rw [hi]at c
   cases c
  refine⟨o,ho,hs,hr,a, ?_⟩
  show aP (eY hp i o) i=_
  rw [bN o hx,if_pos rfl,he]
 ·rw [bN o hx]at b
  split at b
  ·rename_i e;exact .inl ⟨3,by simp,e⟩
  ·exact .inr b
theorem aYt {i:Nat}{hp:Hp}{x o:HObj}(hx:aP hp i=some x) (he:o.ren (λ_=>i)=x) (hs:o.sim):Among (λ_=>i) [3] [(3,o)] hp:=by
 refine⟨λid y a=> ?_,λid y id' y' h b _=> ?_,λk c=> ?_,λid y a=> ?_⟩
 ·simp only [aP]at a
  split at a
  ·rename_i e;injection a with a;subst a;subst e
   exact⟨by rw [he];exact hx,hs⟩
  ·cases a
 ·simp only [aP]at h b
  split at h
  ·split at b
   ·rename_i e1 e2;rw [<-e1,<-e2]
   ·cases b
  ·cases h
 ·obtain rfl:k=3:=by simpa using c
  exact⟨o,by simp [aP]⟩
 ·simp only [aP]at a
  split at a
  ·rename_i e;subst e;exact .inl (by simp)
  ·cases a
end
def fR (a b:SV):Prop:= ∀(w:World) (ρ:Env) (v:Value),Rep w ρ a v->Rep w ρ b v
theorem fR.refl (a:SV):fR a a:= λ_ _ _ h=>h
theorem fR.osl {id z:Nat}{rows:List (List D)}:fR (.osl id z rows) (.d (.sl z rows)):= λ_ _ _ h=> .d _ _ h.osl_inv.1
theorem fR.wkd {a b:D}(h:WkD a b):fR (.d a) (.d b):= λ_ _ _ c=>by
 cases c with
 |d _ _ hd=>exact .d _ _ (aNq hd b h)
theorem fR.nil {z:Nat}:fR (.d .nil) (.d (.sl z [])):=fR.wkd rfl
theorem fR.agg {l m:List SV}(hl:l.length=m.length) (h: ∀(j:Nat) (a b:SV),l[j]? =some a->m[j]? =some b->fR a b):fR (.agg l) (.agg m):= λw ρ v e=>by
 obtain⟨vs,rfl,d,g⟩:=e.agg_inv
 refine .agg _ _ (d.trans hl) λj b u hb f=> ?_
 have c:j < l.length:=by rw [hl];exact(List.getElem?_eq_some_iff.1 hb).1
 exact h j _ b (List.getElem?_eq_getElem c) hb w ρ u (g j _ u (List.getElem?_eq_getElem c) f)
theorem fR.aggD {l:List D}:fR (.agg (l.map .d)) (.d (.agg l)):= λw ρ v b=>by
 obtain⟨vs,rfl,a,e⟩:=b.agg_inv
 refine .d _ _ (.agg _ _ (by rw [a,List.length_map]) λj x u hx c=> ?_)
 have:=e j (.d x) u (by rw [List.getElem?_map,hx];rfl) c
 cases this with
 |d _ _ h=>exact h
def aQ7:List SV->List D->Prop
 | [],[]=>True
 |a::l,b::m=>fR a (.d b)/\aQ7 l m
 |_,_=>False
theorem aQ7.at: ∀(l:List SV) (m:List D),aQ7 l m->l.length=m.length/\ ∀(j:Nat) (a:SV) (b:D),l[j]? =some a->m[j]? =some b->fR a (.d b)
 | [],[],_=>⟨rfl,by simp⟩
 |a::l,b::m,h=>by
  obtain⟨e,f⟩:=aQ7.at l m h.2
  refine⟨by simp [e],λj x y hx c=> ?_⟩
  cases j with
  |zero=>simp at hx c;subst hx c;exact h.1
  |succ j=>exact f j x y (by simpa using hx) (by simpa using c)
theorem fR.cells {l:List SV}{m:List D}(h:aQ7 l m):fR (.agg l) (.d (.agg m)):= λw ρ v e=>by
 obtain⟨c,i⟩:=aQ7.at l m h
 refine fR.aggD w ρ v (fR.agg (by rw [List.length_map,c]) (λj a b f hb=> ?_) w ρ v e)
 rw [List.getElem?_map]at hb
 obtain⟨y,g,rfl⟩:=Option.map_eq_some_iff.1 hb
 exact i j a y f g
section
variable {P:Program}
theorem aF.says {pin:Pin}{fr:Fr}{hp:Hp}{f:FuncId}{args:List SV}{K:SV->Hp->Prop}(h:aF P pin fr hp f args λs hp'=> ∃a,fR s a/\K a hp'):aF P pin fr hp f args K:=by
 intro E ρ w b g c o vs j
 refine(h E ρ w b g c o vs j).mono ?_
 rintro e w' (⟨v,l,s,hp',rfl,⟨a,i,n⟩,m,d,k⟩|q)
 ·exact .inl ⟨v,l,a,hp',rfl,n,m,d,i _ _ _ k⟩
 ·exact .inr q
theorem aF.args {pin:Pin}{fr:Fr}{hp:Hp}{f:FuncId}{args args':List SV}{K:SV->Hp->Prop}(h:aF P pin fr hp f args' K) (hl:args.length=args'.length) (hs: ∀(j:Nat) (a b:SV),args[j]? =some a->args'[j]? =some b->fR a b):aF P pin fr hp f args K:=by
 intro E ρ w k e g l vs c
 refine h E ρ w k e g l vs ⟨c.1.trans hl,λj b v hb i=> ?_⟩
 have d:j < args.length:=by rw [hl];exact(List.getElem?_eq_some_iff.1 hb).1
 exact hs j _ b (List.getElem?_eq_getElem d) hb w ρ v (c.2 j _ v (List.getElem?_eq_getElem d) i)
theorem aRs {s:SV}(h:s.ids=[]):s.sim:=by cases s<;>first|trivial|exact h
theorem aS9 {σ:Nat->Nat}{s:SV}(h:s.ids=[]):s.ren σ=s:=by cases s<;>first|rfl|(simp [SV.ids]at h)
theorem aF9 {σ:Nat->Nat}: ∀{l:List SV},SV.idsL l=[]->l.map (SV.ren σ)=l
 | [],_=>rfl
 |s::r,h=>by
  rw [SV.idsL,List.append_eq_nil_iff]at h
  rw [List.map_cons,aS9 h.1,aF9 h.2]
theorem aF0: ∀{l:List SV},SV.idsL l=[]-> ∀s∈l,s.sim
 |s::r,h,x,hx=>by
  rw [SV.idsL,List.append_eq_nil_iff]at h
  rcases List.mem_cons.1 hx with rfl|hx
  ·exact aRs h.1
  ·exact aF0 h.2 x hx
end
end
section
attribute [local irreducible] aK aF Tri aH YVC cG aT
open Go.RowKit
set_option maxRecDepth 10000
abbrev rdO (b:List UInt8):HObj:= .cells 104 [.d (.sl 1 (b.map aN))]
abbrev bFu (q:Prop):Pin:=⟨[3],λ_ h=>q/\ ∃b:List UInt8,aP h 3=some (rdO b),[]⟩
def RdT {α:Type}(f:FuncId) (ex:List SV) (r:Rd α) (e:α->SV):Prop:= ∀bs:List UInt8,bs.length<=1000000->
 aF Tryz.prog (bFu (r bs=none)) [] [(3,rdO bs)] f (.ptr 3 0::ex) (λs h=> ∃x c,r bs=some (x,c)/\s=e x/\aP h 3=some (rdO c))
theorem RdC.t {α:Type}{f:FuncId}{r:Rd α}{e:α->SV}(h:RdC f r e):RdT f [] r e:= λbs _=>
 h bs [] (λx c a=>⟨x,c,a,rfl,rfl⟩) (λa b=>⟨a,b,rfl⟩)
theorem lV (m:Nat) (hm:m<=8):RdT 100 [.d (.int .i64 m)] (aHc m) (λn=> .d (.int .u64 n)):= λbs _=>
 jG bs m hm [] (λb=>⟨_,_,aFd b,rfl,rfl⟩) (λa=>⟨aFe a,bs,rfl⟩)
theorem yS:RdT 156 [] aQe (λz=> .d (.int .i64 z)):=aT2.t
theorem aFp:RdT 101 [] aK8 (λz=> .d (.int .i64 z)):=aWs.t
theorem xF:RdT 78 [] aA5 (λs=> .d (.str s)):=aZ9.t
theorem RdT.call {α:Type}{f:FuncId}{ex:List SV}{r:Rd α}{e:α->SV}(h:RdT f ex r e) (hx:SV.idsL ex=[]) (he: ∀x,(e x).ids=[]) {pin:Pin}{fr:Fr}{hp:Hp}{i:Nat}{K:SV->Hp->Prop}(bs:List UInt8) (hb:bs.length<=1000000) (hg:aP hp i=some (rdO bs))
  (hok: ∀x c,r bs=some (x,c)->iY hp i (rdO c) (K (e x))) (hno:r bs=none-> ∀b,pin.kp fr (eY hp i (rdO b))):aF Tryz.prog pin fr hp f (.ptr i 0::ex) K:=by
 have a: ∀b,(rdO b).sim:= λb s a=>by simp at a;subst a;exact rfl
 refine tQ (λ_=>i) [3] [(3,rdO bs)] (h bs hb) (aYt hg rfl (a bs)) (λk n=>n) (by rw [List.map_cons,aF9 hx];rfl) ?_ ?_ ?_
 ·intro s a
  rcases List.mem_cons.1 a with rfl|a
  ·trivial
  ·exact aF0 hx s a
 ·rintro s l ⟨x,c,e1,rfl,d⟩
  refine⟨aRs (he x), ?_,_,bA8 hg d (a c) (λh=>h) rfl rfl, ?_⟩
  ·intro j g
   rw [he]at g
   cases g
  rw [aS9 (he x)]
  have:=hok x c e1
  rw [eJ]at this
  exact this
 ·rintro l ⟨m,b,d⟩
  exact⟨_,bA8 hg d (a b) (λh=>h) rfl rfl,hno m b⟩
def aBe (d:Dig):List D:=d.1.map λc=> .int .u8 c.toNat
theorem aXh (d:Dig):(aBe d).length=32:=by unfold aBe;rw [List.length_map,d.2]
theorem bV {l:List UInt8}{n:Nat}(h:l.length=n+1): ∃c m,l=c::m/\m.length=n:=by
 cases l with
 |nil=>cases h
 |cons c m=>exact⟨c,m,rfl,by simpa using h⟩
theorem aFv {l:List UInt8}(h:l.length=32): ∃c0 C S D H c5 F L Z R q c p d t u v k w j b m s o n i g f e r x a:UInt8,l=[c0,C,S,D,H,c5,F,L,Z,R,q,c,p,d,t,u,v,k,w,j,b,m,s,o,n,i,g,f,e,r,x,a]:=by
 obtain⟨c0,l0,rfl,h0⟩:=bV h
 obtain⟨C,l1,rfl,h1⟩:=bV h0
 obtain⟨S,l2,rfl,h2⟩:=bV h1
 obtain⟨D,l3,rfl,h3⟩:=bV h2
 obtain⟨H,l4,rfl,h4⟩:=bV h3
 obtain⟨c5,l5,rfl,h5⟩:=bV h4
 obtain⟨F,l6,rfl,h6⟩:=bV h5
 obtain⟨L,l7,rfl,h7⟩:=bV h6
 obtain⟨Z,l8,rfl,h8⟩:=bV h7
 obtain⟨R,l9,rfl,h9⟩:=bV h8
 obtain⟨q,l10,rfl,G⟩:=bV h9
 obtain⟨c,l11,rfl,N⟩:=bV G
 obtain⟨p,l12,rfl,T⟩:=bV N
 obtain⟨d,l13,rfl,a2⟩:=bV T
 obtain⟨t,l14,rfl,a3⟩:=bV a2
 obtain⟨u,l15,rfl,a1⟩:=bV a3
 obtain⟨v,l16,rfl,K⟩:=bV a1
 obtain⟨k,l17,rfl,B⟩:=bV K
 obtain⟨w,l18,rfl,A⟩:=bV B
 obtain⟨j,l19,rfl,I⟩:=bV A
 obtain⟨b,l20,rfl,Q⟩:=bV I
 obtain⟨m,l21,rfl,E⟩:=bV Q
 obtain⟨s,l22,rfl,M⟩:=bV E
 obtain⟨o,l23,rfl,U⟩:=bV M
 obtain⟨n,l24,rfl,O⟩:=bV U
 obtain⟨i,l25,rfl,y⟩:=bV O
 obtain⟨g,l26,rfl,W⟩:=bV y
 obtain⟨f,l27,rfl,J⟩:=bV W
 obtain⟨e,l28,rfl,P⟩:=bV J
 obtain⟨r,l29,rfl,Y⟩:=bV P
 obtain⟨x,l30,rfl,V⟩:=bV Y
 obtain⟨a,l31,rfl,z⟩:=bV V
 rw [List.length_eq_zero_iff.1 z]
 exact⟨c0,C,S,D,H,c5,F,L,Z,R,q,c,p,d,t,u,v,k,w,j,b,m,s,o,n,i,g,f,e,r,x,a,rfl⟩
def bB8 (z:Int):List D:=[.int .i64 z]
theorem iF {α:Type}{r:Rd α}{k:Nat}(h:aCi k r) {b c:List UInt8}{x:α}(e:r b=some (x,c)):c.length+k<=b.length:=by
 obtain⟨a,d,h2⟩:=h b x c e
 rw [d,List.length_append];omega
theorem oQ {α:Type}{r:Rd α}{b c d:List UInt8}{l:List α}{x:α}(h:tF r l.length b=some (l,c)) (e:r c=some (x,d)):tF r (l++[x]).length b=some (l++[x],d):=by
 rw [List.length_append,List.length_singleton,uO,h]
 simp only [Option.bind_some,e,Option.map_some]
theorem oP {α:Type}{r:Rd α}{b c:List UInt8}{l:List α}{N:Nat}(h:tF r l.length b=some (l,c)) (e:r c=none) (hN:l.length < N):tF r N b=none:=by
 refine aSi (n:=l.length+1) ?_ (by omega)
 rw [uO,h]
 simp only [Option.bind_some,e,Option.map_none]
theorem uP {bs c:List UInt8}{N:Nat}(h:aHc 4 bs=some (N,c)):N < 4294967296:=by
 obtain⟨l,a,rfl⟩:=aM9 h
 have hl:l.length=4:=by
  unfold tE at a
  split at a
  ·injection a with a;injection a with a _
   rw [<-a,List.length_take];omega
  ·cases a
 exact xT 4 l hl
theorem aTd {N k:Nat}(h:k < N) (hN:N < 4294967296):IntKind.u64.wrap (((N - k:Nat):Int) - 1)=((N - (k+1):Nat):Int):=by
 have e:((N - k:Nat):Int) - 1=((N - (k+1):Nat):Int):=by omega
 rw [e]
 exact gK _ (by omega)
theorem aI0:RdT 77 [.fn 78 [] []] (iZ aA5) (λl=> .d (.sl 1 (l.map bJ))):=by
 intro bs hb
 refine aF.says ?_
 refine aG false [] hty Tryz.func77 rfl (kp [0,1,4,5,9]) 100 (by simp [Tryz.f77]) ?_
 refine qX ?_;intros
 refine RdT.call (lV 4 (by decide)) rfl (λ_=>rfl) bs hb rfl (λN c0 e1=> ?_) (λe1 b=>⟨bE e1,b,rfl⟩)
 have a:iZ aA5 bs=tF aA5 N c0:=aQ e1
 have hc0:=iF (jM 4) e1
 have m:=uP e1
 clear e1
 refine qX ?_;intros
 refine aK.own 4 104 9 1 rfl (bQ (by with_unfolding_all exact rfl)) ?_
 refine aD hty (λy:List (List UInt8)×List UInt8=>([(0, .ptr 3 0),(1, .fn 78 [] []),(4, .osl 104 1 (y.1.map bJ)),(5, .d (.int .u64 ((N - y.1.length:Nat):Int)))],[(104, .own 9 1 (y.1.map bJ).length),(3,rdO y.2)])) (λy=>tF aA5 y.1.length c0=some y/\y.1.length<=N/\y.2.length+y.1.length<=c0.length) (λy=>N - y.1.length) ([],c0) ⟨rfl,Nat.zero_le _,Nat.le_refl _⟩ ⟨qB,qB⟩ ?_
 rintro⟨l,c⟩ ⟨h,k,o⟩
 dsimp only at h k o
 have g:(l.map bJ).length=l.length:=List.length_map ..
 have hb63:(l.map bJ).length+1<=9223372036854775807:=by rw [g];omega
 have hb48:((l.map bJ).length+1)* 16<=140737488355328:=by rw [g];omega
 refine qX ?_;intros
 refine aA (λi=> ?_) (λi=> ?_)
 ·have f:l.length < N:=by dsimp only at i;omega
  have n:=aTd f m
  refine RdT.call (e:= λx=>SV.d (.str x)) xF rfl (λ_=>rfl) c (by omega) rfl (λx d e2=> ?_) (λe2 b=>⟨a.trans (oP h e2 f),b,rfl⟩)
  have hd:=iF dR e2
  refine qZ ?_;intros
  rw [n]
  refine⟨(l++[_],d),⟨oQ h e2,by rw [List.length_append];exact f,by dsimp only;rw [List.length_append,List.length_singleton];omega⟩,by dsimp only;rw [List.length_append,List.length_singleton];omega, ?_⟩
  dsimp only
  rw [List.map_append,List.length_append,List.length_append]
  exact⟨qB,qB⟩
 ·have j:l.length=N:=by dsimp only at i;omega
  subst j
  refine qX ?_;intros
  exact⟨_,fR.osl,l,c,a.trans h,rfl,rfl⟩
def cmR (c:Cm):List D:=[.int .i64 c.no, .sl 1 (c.parents.map bB8)]++aBe c.base++[.str c.message]
theorem cO {α β:Type}{r:Rd α}{f:α->Rd β}{b c:List UInt8}{x:α}(h:r b=some (x,c)) (k:f x c=none):cX r f b=none:=(aQ h).trans k
theorem oT {α β:Type}{r:Rd α}{f:α->Rd β}{b c d:List UInt8}{x:α}{y:β}(h:r b=some (x,c)) (k:f x c=some (y,d)):cX r f b=some (y,d):=(aQ h).trans k
theorem aBk: ∀(k d:Nat),d+k=9->RdT 102 [.d (.int .i64 d)] (rC k) (λc=> .d (.agg (cnR c)))
 | 0,d,s=>by
  intro bs hb
  refine aG false [] hty Tryz.func102 rfl (kp [0,1,3,4,6]) 100 (by simp [Tryz.f102]) ?_
  refine qX ?_;intros
  refine aA (λf=> ?_) (λf=> ?_)
  ·((conv=>whnf);repeat ((first|(refine iP hty rfl (by with_unfolding_all exact rfl) rfl rfl ?_) |(intro u;try simp only [lnS]at u)|refine sI ?_|refine qE_ ?_);conv=>whnf))
   exact⟨bs,rfl⟩
  ·omega
 |k+1,d,s=>by
  intro bs hb
  have z:RdT 102 [.d (.int .i64 ((d:Int)+1))] (rC k) (λc=> .d (.agg (cnR c))):=by
   rw [show ((d:Int)+1)=((d+1:Nat):Int)by omega]
   exact aBk k (d+1) (by omega)
  refine aG false [] hty Tryz.func102 rfl (kp [0,1,3,4,6]) 100 (by simp [Tryz.f102]) ?_
  refine qX ?_;intros
  refine aA (λf=> ?_) (λf=> ?_)
  ·omega
  clear f
  refine qX ?_;intros
  refine RdT.call aFp rfl (λ_=>rfl) bs hb rfl (λkd w e1=> ?_) (λe1 b=>⟨bE e1,b,rfl⟩)
  have q1:=iF lH e1
  refine qX ?_;intros
  refine RdT.call xF rfl (λ_=>rfl) w (by omega) rfl (λj t e2=> ?_) (λe2 b=>⟨cO e1 (bE e2),b,rfl⟩)
  have q2:=iF dR e2
  refine qX ?_;intros
  refine RdT.call yS rfl (λ_=>rfl) t (by omega) rfl (λlo C h=> ?_) (λh b=>⟨cO e1 (cO e2 (bE h)),b,rfl⟩)
  have q3:=iF nJ h
  refine qX ?_;intros
  refine RdT.call yS rfl (λ_=>rfl) C (by omega) rfl (λhi o m=> ?_) (λm b=>⟨cO e1 (cO e2 (cO h (bE m))),b,rfl⟩)
  have q4:=iF nJ m
  have key: ∀{y:List Cn} {c:List UInt8},iZ (rC k) o=some (y,c)->rC (k+1) bs=some (.mk kd j lo hi y,c):= λe=>oT e1 (oT e2 (oT h (oT m (cL e))))
  have g:iZ (rC k) o=none->rC (k+1) bs=none:= λe=>cO e1 (cO e2 (cO h (cO m (iR e))))
  clear e1 e2 h m
  refine qX ?_;intros
  refine aF.says ?_
  refine aG false [] hty Tryz.func157 rfl (kp [0,1,4,5,9]) 200 (by simp [Tryz.f157]) ?_
  refine qX ?_;intros
  refine RdT.call (lV 4 (by decide)) rfl (λ_=>rfl) o (by omega) rfl (λN c0 e1=> ?_) (λe1 b=>⟨g (bE e1),b,rfl⟩)
  have a:iZ (rC k) o=tF (rC k) N c0:=aQ e1
  have hc0:=iF (jM 4) e1
  have B:=uP e1
  clear e1
  refine qX ?_;intros
  refine aK.own 4 204 45 5 rfl (bQ (by with_unfolding_all exact rfl)) ?_
  refine aD hty (λy:List Cn×List UInt8=>([(0, .ptr 3 0),(1, .fn 158 [] [.ptr 103 0]),(4, .osl 204 5 (y.1.map cnR)),(5, .d (.int .u64 ((N - y.1.length:Nat):Int)))],[(204, .own 45 5 (y.1.map cnR).length),(3,rdO y.2),(103, .cells 3 [.d (.int .i64 d)]),(104, .cells 45 [.d (.int .i64 kd), .d (.str j), .d (.int .i64 lo), .d (.int .i64 hi), .d .nil])])) (λy=>tF (rC k) y.1.length c0=some y/\y.1.length<=N/\y.2.length+y.1.length<=c0.length) (λy=>N - y.1.length) ([],c0) ⟨rfl,Nat.zero_le _,Nat.le_refl _⟩ ⟨qB,qB⟩ ?_
  rintro⟨l,c⟩ ⟨f,A,v⟩
  dsimp only at f A v
  have n:(l.map cnR).length=l.length:=List.length_map ..
  have hb63:(l.map cnR).length+1<=9223372036854775807:=by rw [n];omega
  have hb48:((l.map cnR).length+1)* 64<=140737488355328:=by rw [n];omega
  refine qX ?_;intros
  refine aA (λq=> ?_) (λq=> ?_)
  ·have i:l.length < N:=by dsimp only at q;omega
   have p:=aTd i B
   refine qX ?_;intros
   refine aG false [] hty Tryz.func158 rfl (kp [0,1,3]) 300 (by simp [Tryz.f158]) ?_
   refine qX ?_;intros
   refine RdT.call z rfl (λ_=>rfl) c (by omega) rfl (λx d e2=> ?_) (λe2 b=>⟨g (a.trans (oP f e2 i)),b,rfl⟩)
   have s:=iF (aDy k) e2
   rw [aJ x]
   refine qZ ?_;intros
   rw [p]
   refine⟨(l++[x],d),⟨oQ f e2,by rw [List.length_append];exact i,by dsimp only;rw [List.length_append,List.length_singleton];omega⟩,by dsimp only;rw [List.length_append,List.length_singleton];omega, ?_⟩
   dsimp only
   rw [List.map_append,List.length_append,List.length_append,List.map_singleton,aJ x]
   exact⟨qB,qB⟩
  ·have r:l.length=N:=by dsimp only at q;omega
   subst r
   refine qX ?_;intros
   refine⟨_,fR.osl, ?_⟩
   refine qX ?_;intros
   refine⟨.mk kd j lo hi l,c,key (a.trans f), ?_,rfl⟩
   show _=SV.d (D.agg (cnR (.mk kd j lo hi l)))
   rw [show cnR (.mk kd j lo hi l)=[.int .i64 kd, .str j, .int .i64 lo, .int .i64 hi, .sl 5 (l.map cnR)]from aJ _]
   rfl
theorem bAs:RdT 55 [] (rA 9) (λx=> .d (.agg (axR x))):=by
 intro bs hb
 refine aG false [] hty Tryz.func55 rfl (kp [0,2]) 100 (by simp [Tryz.f55]) ?_
 refine qX ?_;intros
 refine RdT.call aFp rfl (λ_=>rfl) bs hb rfl (λkd k e1=> ?_) (λe1 b=>⟨bE e1,b,rfl⟩)
 have q1:=iF lH e1
 refine qX ?_;intros
 refine RdT.call aFp rfl (λ_=>rfl) k (by omega) rfl (λop i e2=> ?_) (λe2 b=>⟨cO e1 (bE (iR e2)),b,rfl⟩)
 have q2:=iF lH e2
 have e2:rB k=some (decide (op=1),i):=cL e2
 refine qX ?_;intros
 refine RdT.call (aBk 9 0 rfl) rfl (λ_=>rfl) i (by omega) rfl (λle t a=> ?_) (λa b=>⟨cO e1 (cO e2 (bE a)),b,rfl⟩)
 have q3:=iF (aDy 9) a
 rw [aJ le]
 refine qX ?_;intros
 refine RdT.call (aBk 9 0 rfl) rfl (λ_=>rfl) t (by omega) rfl (λj o c=> ?_) (λc b=>⟨cO e1 (cO e2 (cO a (bE c))),b,rfl⟩)
 have q4:=iF (aDy 9) c
 rw [aJ j]
 refine qX ?_;intros
 refine RdT.call aI0 rfl (λ_=>rfl) o (by omega) rfl (λrs n e=> ?_) (λe b=>⟨cO e1 (cO e2 (cO a (cO c (bE e)))),b,rfl⟩)
 have q5:=iF (qK dR) e
 refine qX ?_;intros
 refine RdT.call xF rfl (λ_=>rfl) n (by omega) rfl (λr s f=> ?_) (λf b=>⟨cO e1 (cO e2 (cO a (cO c (cO e (bE f))))),b,rfl⟩)
 have q6:=iF dR f
 refine qX ?_;intros
 refine RdT.call xF rfl (λ_=>rfl) s (by omega) rfl (λq l g=> ?_) (λg b=>⟨cO e1 (cO e2 (cO a (cO c (cO e (cO f (bE g)))))),b,rfl⟩)
 have q7:=iF dR g
 refine qX ?_;intros
 refine RdT.call xF rfl (λ_=>rfl) l (by omega) rfl (λm p h=> ?_) (λh b=>⟨cO e1 (cO e2 (cO a (cO c (cO e (cO f (cO g (iR h))))))),b,rfl⟩)
 refine qX ?_;intros
 exact⟨⟨kd,_,le,j,rs,r,q,m⟩,p,oT e1 (oT e2 (oT a (oT c (oT e (oT f (oT g (cL h))))))),rfl,rfl⟩
theorem aNk (x:Ax):axR x=[.int .i64 x.kind, .bool x.isopen, .int .i64 x.left.kind, .str x.left.name, .int .i64 x.left.lo, .int .i64 x.left.hi, .sl 5 (x.left.parts.map cnR), .int .i64 x.right.kind, .str x.right.name, .int .i64 x.right.lo, .int .i64 x.right.hi, .sl 5 (x.right.parts.map cnR), .sl 1 (x.roles.map bJ), .str x.role, .str x.a, .str x.b]:=rfl
theorem aX3:RdT 54 [.fn 55 [] []] (iZ (rA 9)) (λl=> .d (.sl 16 (l.map axR))):=by
 intro bs hb
 refine aF.says ?_
 refine aG false [] hty Tryz.func54 rfl (kp [0,1,4,5,9]) 100 (by simp [Tryz.f54]) ?_
 refine qX ?_;intros
 refine RdT.call (lV 4 (by decide)) rfl (λ_=>rfl) bs hb rfl (λN c0 e1=> ?_) (λe1 b=>⟨bE e1,b,rfl⟩)
 have a:iZ (rA 9) bs=tF (rA 9) N c0:=aQ e1
 have hc0:=iF (jM 4) e1
 have m:=uP e1
 clear e1
 refine qX ?_;intros
 refine aK.own 4 104 48 16 rfl (bQ (by with_unfolding_all exact rfl)) ?_
 refine aD hty (λy:List Ax×List UInt8=>([(0, .ptr 3 0),(1, .fn 55 [] []),(4, .osl 104 16 (y.1.map axR)),(5, .d (.int .u64 ((N - y.1.length:Nat):Int)))],[(104, .own 48 16 (y.1.map axR).length),(3,rdO y.2)])) (λy=>tF (rA 9) y.1.length c0=some y/\y.1.length<=N/\y.2.length+y.1.length<=c0.length) (λy=>N - y.1.length) ([],c0) ⟨rfl,Nat.zero_le _,Nat.le_refl _⟩ ⟨qB,qB⟩ ?_
 rintro⟨l,c⟩ ⟨h,k,o⟩
 dsimp only at h k o
 have g:(l.map axR).length=l.length:=List.length_map ..
 have hb63:(l.map axR).length+1<=9223372036854775807:=by rw [g];omega
 have hb48:((l.map axR).length+1)* 200<=140737488355328:=by rw [g];omega
 refine qX ?_;intros
 refine aA (λi=> ?_) (λi=> ?_)
 ·have f:l.length < N:=by dsimp only at i;omega
  have n:=aTd f m
  refine RdT.call (e:= λx=>SV.d (.agg (axR x))) bAs rfl (λ_=>rfl) c (by omega) rfl (λx d e2=> ?_) (λe2 b=>⟨a.trans (oP h e2 f),b,rfl⟩)
  have hd:=iF (qL (bCp 9) (Nat.le_refl _)) e2
  rw [aNk]
  refine qZ ?_;intros
  rw [n]
  refine⟨(l++[_],d),⟨oQ h e2,by rw [List.length_append];exact f,by dsimp only;rw [List.length_append,List.length_singleton];omega⟩,by dsimp only;rw [List.length_append,List.length_singleton];omega, ?_⟩
  dsimp only
  rw [List.map_append,List.length_append,List.length_append]
  exact⟨qB,qB⟩
 ·have j:l.length=N:=by dsimp only at i;omega
  subst j
  refine qX ?_;intros
  exact⟨_,fR.osl,l,c,a.trans h,rfl,rfl⟩
theorem aY0:RdT 25 [] (rAs 9) (λl=> .d (.sl 16 (l.map axR))):=by
 intro bs hb
 refine aG false [] hty Tryz.func25 rfl (kp [0,2]) 100 (by simp [Tryz.f25]) ?_
 refine qX ?_;intros
 refine RdT.call aX3 rfl (λ_=>rfl) bs hb rfl (λl a e1=> ?_) (λe1 b=>⟨e1,b,rfl⟩)
 refine qX ?_;intros
 exact⟨l,a,e1,rfl,rfl⟩
def atR (a:At):List D:=[.int .i64 a.kind, .str a.name, .str a.x, .str a.y, .int .i64 a.lo, .int .i64 a.hi]
def aFj (p:List At):List D:=[.sl 6 (p.map atR)]
theorem bD4:RdT 136 [] rAt (λa=> .d (.agg (atR a))):=by
 intro bs hb
 refine aG false [] hty Tryz.func136 rfl (kp [0,2]) 100 (by simp [Tryz.f136]) ?_
 refine qX ?_;intros
 refine RdT.call aFp rfl (λ_=>rfl) bs hb rfl (λkd l e1=> ?_) (λe1 b=>⟨bE e1,b,rfl⟩)
 have q1:=iF lH e1
 refine qX ?_;intros
 refine RdT.call xF rfl (λ_=>rfl) l (by omega) rfl (λo i e2=> ?_) (λe2 b=>⟨cO e1 (bE e2),b,rfl⟩)
 have q2:=iF dR e2
 refine qX ?_;intros
 refine RdT.call xF rfl (λ_=>rfl) i (by omega) rfl (λm n c=> ?_) (λc b=>⟨cO e1 (cO e2 (bE c)),b,rfl⟩)
 have q3:=iF dR c
 refine qX ?_;intros
 refine RdT.call xF rfl (λ_=>rfl) n (by omega) rfl (λh k e=> ?_) (λe b=>⟨cO e1 (cO e2 (cO c (bE e))),b,rfl⟩)
 have q4:=iF dR e
 refine qX ?_;intros
 refine RdT.call yS rfl (λ_=>rfl) k (by omega) rfl (λlo j f=> ?_) (λf b=>⟨cO e1 (cO e2 (cO c (cO e (bE f)))),b,rfl⟩)
 have q5:=iF nJ f
 refine qX ?_;intros
 refine RdT.call yS rfl (λ_=>rfl) j (by omega) rfl (λhi p g=> ?_) (λg b=>⟨cO e1 (cO e2 (cO c (cO e (cO f (iR g))))),b,rfl⟩)
 refine qX ?_;intros
 exact⟨⟨kd,o,m,h,lo,hi⟩,p,oT e1 (oT e2 (oT c (oT e (oT f (cL g))))),rfl,rfl⟩
theorem aX4:RdT 135 [.fn 136 [] []] (iZ rAt) (λl=> .d (.sl 6 (l.map atR))):=by
 intro bs hb
 refine aF.says ?_
 refine aG false [] hty Tryz.func135 rfl (kp [0,1,4,5,9]) 100 (by simp [Tryz.f135]) ?_
 refine qX ?_;intros
 refine RdT.call (lV 4 (by decide)) rfl (λ_=>rfl) bs hb rfl (λN c0 e1=> ?_) (λe1 b=>⟨bE e1,b,rfl⟩)
 have a:iZ rAt bs=tF rAt N c0:=aQ e1
 have hc0:=iF (jM 4) e1
 have m:=uP e1
 clear e1
 refine qX ?_;intros
 refine aK.own 4 104 188 6 rfl (bQ (by with_unfolding_all exact rfl)) ?_
 refine aD hty (λy:List At×List UInt8=>([(0, .ptr 3 0),(1, .fn 136 [] []),(4, .osl 104 6 (y.1.map atR)),(5, .d (.int .u64 ((N - y.1.length:Nat):Int)))],[(104, .own 188 6 (y.1.map atR).length),(3,rdO y.2)])) (λy=>tF rAt y.1.length c0=some y/\y.1.length<=N/\y.2.length+y.1.length<=c0.length) (λy=>N - y.1.length) ([],c0) ⟨rfl,Nat.zero_le _,Nat.le_refl _⟩ ⟨qB,qB⟩ ?_
 rintro⟨l,c⟩ ⟨h,k,o⟩
 dsimp only at h k o
 have g:(l.map atR).length=l.length:=List.length_map ..
 have hb63:(l.map atR).length+1<=9223372036854775807:=by rw [g];omega
 have hb48:((l.map atR).length+1)* 72<=140737488355328:=by rw [g];omega
 refine qX ?_;intros
 refine aA (λi=> ?_) (λi=> ?_)
 ·have f:l.length < N:=by dsimp only at i;omega
  have n:=aTd f m
  refine RdT.call (e:= λx=>SV.d (.agg (atR x))) bD4 rfl (λ_=>rfl) c (by omega) rfl (λx d e2=> ?_) (λe2 b=>⟨a.trans (oP h e2 f),b,rfl⟩)
  have hd:=iF aTz e2
  refine qZ ?_;intros
  rw [n]
  refine⟨(l++[_],d),⟨oQ h e2,by rw [List.length_append];exact f,by dsimp only;rw [List.length_append,List.length_singleton];omega⟩,by dsimp only;rw [List.length_append,List.length_singleton];omega, ?_⟩
  dsimp only
  rw [List.map_append,List.length_append,List.length_append]
  exact⟨qB,qB⟩
 ·have j:l.length=N:=by dsimp only at i;omega
  subst j
  refine qX ?_;intros
  exact⟨_,fR.osl,l,c,a.trans h,rfl,rfl⟩
theorem bC1:RdT 80 [] (iZ rAt) (λp=> .d (.agg (aFj p))):=by
 intro bs hb
 refine aG false [] hty Tryz.func80 rfl (kp [0,2]) 100 (by simp [Tryz.f80]) ?_
 refine qX ?_;intros
 refine RdT.call aX4 rfl (λ_=>rfl) bs hb rfl (λl a e1=> ?_) (λe1 b=>⟨e1,b,rfl⟩)
 refine qX ?_;intros
 exact⟨l,a,e1,rfl,rfl⟩
theorem aPc:RdT 79 [.fn 80 [] []] (iZ (iZ rAt)) (λl=> .d (.sl 1 (l.map aFj))):=by
 intro bs hb
 refine aF.says ?_
 refine aG false [] hty Tryz.func79 rfl (kp [0,1,4,5,9]) 100 (by simp [Tryz.f79]) ?_
 refine qX ?_;intros
 refine RdT.call (lV 4 (by decide)) rfl (λ_=>rfl) bs hb rfl (λN c0 e1=> ?_) (λe1 b=>⟨bE e1,b,rfl⟩)
 have a:iZ (iZ rAt) bs=tF (iZ rAt) N c0:=aQ e1
 have hc0:=iF (jM 4) e1
 have m:=uP e1
 clear e1
 refine qX ?_;intros
 refine aK.own 4 104 136 1 rfl (bQ (by with_unfolding_all exact rfl)) ?_
 refine aD hty (λy:List (List At)×List UInt8=>([(0, .ptr 3 0),(1, .fn 80 [] []),(4, .osl 104 1 (y.1.map aFj)),(5, .d (.int .u64 ((N - y.1.length:Nat):Int)))],[(104, .own 136 1 (y.1.map aFj).length),(3,rdO y.2)])) (λy=>tF (iZ rAt) y.1.length c0=some y/\y.1.length<=N/\y.2.length+y.1.length<=c0.length) (λy=>N - y.1.length) ([],c0) ⟨rfl,Nat.zero_le _,Nat.le_refl _⟩ ⟨qB,qB⟩ ?_
 rintro⟨l,c⟩ ⟨h,k,o⟩
 dsimp only at h k o
 have g:(l.map aFj).length=l.length:=List.length_map ..
 have hb63:(l.map aFj).length+1<=9223372036854775807:=by rw [g];omega
 have hb48:((l.map aFj).length+1)* 24<=140737488355328:=by rw [g];omega
 refine qX ?_;intros
 refine aA (λi=> ?_) (λi=> ?_)
 ·have f:l.length < N:=by dsimp only at i;omega
  have n:=aTd f m
  refine RdT.call (e:= λx=>SV.d (.agg (aFj x))) bC1 rfl (λ_=>rfl) c (by omega) rfl (λx d e2=> ?_) (λe2 b=>⟨a.trans (oP h e2 f),b,rfl⟩)
  have hd:=iF (qK aTz) e2
  refine qZ ?_;intros
  rw [n]
  refine⟨(l++[_],d),⟨oQ h e2,by rw [List.length_append];exact f,by dsimp only;rw [List.length_append,List.length_singleton];omega⟩,by dsimp only;rw [List.length_append,List.length_singleton];omega, ?_⟩
  dsimp only
  rw [List.map_append,List.length_append,List.length_append]
  exact⟨qB,qB⟩
 ·have j:l.length=N:=by dsimp only at i;omega
  subst j
  refine qX ?_;intros
  exact⟨_,fR.osl,l,c,a.trans h,rfl,rfl⟩
def qyR (q:Qy):List D:=[.sl 1 (q.told.map bJ), .sl 1 (q.parts.map aFj)]
theorem aZt:RdT 38 [] rQy (λq=> .d (.agg (qyR q))):=by
 intro bs hb
 refine aG false [] hty Tryz.func38 rfl (kp [0,2]) 100 (by simp [Tryz.f38]) ?_
 refine qX ?_;intros
 refine RdT.call aI0 rfl (λ_=>rfl) bs hb rfl (λl c e1=> ?_) (λe1 b=>⟨bE e1,b,rfl⟩)
 have q1:=iF (qK dR) e1
 refine qX ?_;intros
 refine RdT.call aPc rfl (λ_=>rfl) c (by omega) rfl (λp a e2=> ?_) (λe2 b=>⟨cO e1 (iR e2),b,rfl⟩)
 refine qX ?_;intros
 exact⟨⟨l,p⟩,a,oT e1 (cL e2),rfl,rfl⟩
def alR (a:Al):List D:=[.str a.name]++aBe a.base++[.sl 16 (a.axioms.map axR)]++aBe a.pub++[.int .i64 a.index, .sl 32 (a.parts.map aBe), .sl 32 (a.path.map aBe)]
end
section
open Go.RowKit
set_option maxRecDepth 100000
theorem aY8:Tryz.prog.underlying 23=some (.slice 5):=by kernel_rfl
theorem bE0:Tryz.prog.underlying 5=some (.int .u8):=by kernel_rfl
theorem bEz:Tryz.prog.cellsOf 5=1:=by kernel_rfl
def TX:List TypeId:=58::32::56::23::5::TT
theorem aUl {n:Nat}{ds:List D}(h:TyD Tryz.prog n 23 ds): ∃b:List UInt8,aL9 Tryz.prog 23 ds= .d (.sl 1 (b.map aN)):=by
 obtain⟨m,rfl,rows,rfl,hn,a⟩:=tY aY8 h
 obtain⟨b,rfl⟩:=aJz (f:=aN) (λr a=>by obtain⟨c,rfl⟩:=bBo bE0 a;exact⟨c,rfl⟩) rows a
 exact⟨b,by simp only [aL9,aY8,bEz]⟩
def TYY:List TypeId:=52::136::188::50::134::64::62::60::TX
theorem clY:Cl Tryz.prog (· ∈TYY):=bEy (by kernel_rfl)
end
section
abbrev wI (x:UInt32):Int:=(x.toNat:Int)
theorem aCn (n:Nat):IntKind.u32.wrap (n:Int)=wI (UInt32.ofNat n):=by
 unfold wI
 rw [UInt32.toNat_ofNat']
 rfl
theorem oB (x y:UInt32):IntKind.u32.wrap (wI x+wI y)=wI (x+y):=by
 rw [show wI x+wI y=((x.toNat+y.toNat:Nat):Int)by unfold wI;omega,aCn]
 unfold wI
 rw [UInt32.toNat_add,UInt32.toNat_ofNat']
theorem wG (x:UInt32):BitVec.ofInt 32 (wI x)=x.toBitVec:=by
 unfold wI
 rw [BitVec.ofInt_natCast]
 exact BitVec.ofNat_toNat ..
theorem aQm (b:BitVec 32):IntKind.u32.wrap (b.toNat:Int)=wI (UInt32.ofBitVec b):=by
 have h:=b.isLt
 unfold wI
 show (((b.toNat:Nat):Int) % 4294967296)=_
 rw [show (UInt32.ofBitVec b).toNat=b.toNat from rfl]
 omega
theorem aJi (x y:UInt32):bits .and .u32 (wI x) (wI y)=wI (x &&& y):=by
 show IntKind.u32.wrap ((BitVec.ofInt 32 (wI x) &&& BitVec.ofInt 32 (wI y)).toNat:Int)=_
 rw [wG,wG,aQm];rfl
theorem bBi (x y:UInt32):bits .or .u32 (wI x) (wI y)=wI (x ||| y):=by
 show IntKind.u32.wrap ((BitVec.ofInt 32 (wI x) ||| BitVec.ofInt 32 (wI y)).toNat:Int)=_
 rw [wG,wG,aQm];rfl
theorem sC (x y:UInt32):bits .xor .u32 (wI x) (wI y)=wI (x ^^^ y):=by
 show IntKind.u32.wrap ((BitVec.ofInt 32 (wI x) ^^^ BitVec.ofInt 32 (wI y)).toNat:Int)=_
 rw [wG,wG,aQm];rfl
theorem bDv (x:UInt32):bits .xor .u32 (if IntKind.u32.signed then -1 else IntKind.u32.max) (wI x)=wI (x ^^^ 4294967295):=by
 show bits .xor .u32 (wI 4294967295) (wI x)=_
 rw [sC,UInt32.xor_comm]
theorem bBg (x:UInt32) (n:Nat) (h:n < 32):(wI x).fdiv (2 ^ n)=wI (x >>>UInt32.ofNat n):=by
 unfold wI
 rw [UInt32.toNat_shiftRight,UInt32.toNat_ofNat',Nat.mod_eq_of_lt (a:=n) (by omega),Nat.mod_eq_of_lt (a:=n) h,Nat.shiftRight_eq_div_pow,Int.fdiv_eq_ediv_of_nonneg _ (Int.pow_nonneg (by decide)),Int.natCast_ediv,Int.natCast_pow]
 rfl
theorem bBh (x:UInt32) (n:Nat) (h:n < 32):IntKind.u32.wrap (wI x * 2 ^ n)=wI (x <<< UInt32.ofNat n):=by
 rw [show wI x * 2 ^ n=((x.toNat * 2 ^ n:Nat):Int)by unfold wI;rw [Int.natCast_mul,Int.natCast_pow];rfl,aCn]
 unfold wI
 rw [UInt32.toNat_shiftLeft,UInt32.toNat_ofNat',UInt32.toNat_ofNat',Nat.mod_eq_of_lt (a:=n) (b:=2 ^ 32) (by omega),Nat.mod_eq_of_lt (a:=n) h,Nat.shiftLeft_eq]
def mB (n:Nat) (x:UInt32):UInt32:=(x >>>UInt32.ofNat n) ||| (x <<< UInt32.ofNat (32 - n))
theorem aS5 (n:Nat) (x:UInt32):(x <<< UInt32.ofNat (32 - n)) ||| (x >>>UInt32.ofNat n)=mB n x:=by
 unfold mB
 exact UInt32.or_comm _ _
def sg0 (x:UInt32):UInt32:=mB 7 x ^^^ mB 18 x ^^^ (x >>>3)
def sg1 (x:UInt32):UInt32:=mB 17 x ^^^ mB 19 x ^^^ (x >>>10)
def aV0 (ws:List UInt32):UInt32:=ws.getD (ws.length - 16) 0+sg0 (ws.getD (ws.length - 15) 0)+ws.getD (ws.length - 7) 0+sg1 (ws.getD (ws.length - 2) 0)
def sD:Nat->List UInt32->List UInt32
 | 0,ws=>ws
 |n+1,ws=>sD n (ws++[aV0 ws])
theorem wH: ∀(n:Nat) (ws:List UInt32),sD (n+1) ws=sD n ws++[aV0 (sD n ws)]
 | 0,ws=>rfl
 |n+1,ws=>by
  show sD (n+1) (ws++[aV0 ws])=_
  rw [wH n];rfl
theorem oD: ∀(n:Nat) (ws:List UInt32),(sD n ws).length=ws.length+n
 | 0,ws=>rfl
 |n+1,ws=>by
  show (sD n (ws++[aV0 ws])).length=_
  rw [oD n,List.length_append,List.length_singleton];omega
def be4 (a b c d:UInt8):UInt32:=(UInt32.ofNat a.toNat <<< 24) ||| (UInt32.ofNat b.toNat <<< 16) ||| (UInt32.ofNat c.toNat <<< 8) ||| UInt32.ofNat d.toNat
def kU (b:List UInt8) (n:Nat):List UInt32:=(List.range n).map λi=>be4 (b.getD (4 * i) 0) (b.getD (4 * i+1) 0) (b.getD (4 * i+2) 0) (b.getD (4 * i+3) 0)
theorem aCk (b:List UInt8) (n:Nat):kU b (n+1)=kU b n++[be4 (b.getD (4 * n) 0) (b.getD (4 * n+1) 0) (b.getD (4 * n+2) 0) (b.getD (4 * n+3) 0)]:=by
 unfold kU
 rw [List.range_succ,List.map_append];rfl
theorem tS (b:List UInt8) (n:Nat):(kU b n).length=n:=by unfold kU;simp
structure S8 where
 a:UInt32
 b:UInt32
 c:UInt32
 d:UInt32
 e:UInt32
 f:UInt32
 g:UInt32
 h:UInt32
def aVw (k w:UInt32) (s:S8):UInt32:=s.h+(mB 6 s.e ^^^ mB 11 s.e ^^^ mB 25 s.e)+((s.e &&& s.f) ^^^ ((s.e ^^^ 4294967295) &&& s.g))+k+w
def bBw (s:S8):UInt32:=(mB 2 s.a ^^^ mB 13 s.a ^^^ mB 22 s.a)+((s.a &&& s.b) ^^^ (s.a &&& s.c) ^^^ (s.b &&& s.c))
def rnd (k w:UInt32) (s:S8):S8:=⟨aVw k w s+bBw s,s.a,s.b,s.c,s.d+aVw k w s,s.e,s.f,s.g⟩
def aQd (ks ws:List UInt32):Nat->S8->S8
 | 0,s=>s
 |n+1,s=>rnd (ks.getD n 0) (ws.getD n 0) (aQd ks ws n s)
def S8.add (x y:S8):S8:=⟨x.a+y.a,x.b+y.b,x.c+y.c,x.d+y.d,x.e+y.e,x.f+y.f,x.g+y.g,x.h+y.h⟩
def uI : List UInt32 := [0x428a2f98, 0x71374491, 0xb5c0fbcf, 0xe9b5dba5, 0x3956c25b, 0x59f111f1, 0x923f82a4, 0xab1c5ed5,
 0xd807aa98,0x12835b01,0x243185be,0x550c7dc3,0x72be5d74,0x80deb1fe,0x9bdc06a7,0xc19bf174,
 0xe49b69c1,0xefbe4786,0x0fc19dc6,0x240ca1cc,0x2de92c6f,0x4a7484aa,0x5cb0a9dc,0x76f988da,
 0x983e5152,0xa831c66d,0xb00327c8,0xbf597fc7,0xc6e00bf3,0xd5a79147,0x06ca6351,0x14292967,
 0x27b70a85,0x2e1b2138,0x4d2c6dfc,0x53380d13,0x650a7354,0x766a0abb,0x81c2c92e,0x92722c85,
 0xa2bfe8a1,0xa81a664b,0xc24b8b70,0xc76c51a3,0xd192e819,0xd6990624,0xf40e3585,0x106aa070,
 0x19a4c116,0x1e376c08,0x2748774c,0x34b0bcb5,0x391c0cb3,0x4ed8aa4a,0x5b9cca4f,0x682e6ff3,
 0x748f82ee,0x78a5636f,0x84c87814,0x8cc70208,0x90befffa,0xa4506ceb,0xbef9a3f7,0xc67178f2]
theorem yO:uI.length=64:=rfl
def aBo (s:S8) (b:List UInt8):S8:=s.add (aQd uI (sD 48 (kU b 16)) 64 s)
def aVr:S8:=⟨0x6a09e667,0xbb67ae85,0x3c6ef372,0xa54ff53a,0x510e527f,0x9b05688c,0x1f83d9ab,0x5be0cd19⟩
def jD:Nat->S8->List UInt8->S8
 | 0,s,_=>s
 |n+1,s,b=>jD n (aBo s (b.take 64)) (b.drop 64)
theorem qV: ∀(n:Nat) (s:S8) (b:List UInt8),jD (n+1) s b=aBo (jD n s b) ((b.drop (64 * n)).take 64)
 | 0,s,b=>by simp [jD]
 |n+1,s,b=>by
  show jD (n+1) (aBo s (b.take 64)) (b.drop 64)=_
  rw [qV n,List.drop_drop,show 64+64 * n=64 * (n+1)by omega];rfl
def aFk (n:Nat):Nat:=(119 - n % 64) % 64
def aFm (b:List UInt8):List UInt8:=b++[128]++List.replicate (aFk b.length) 0++beN 8 (8 * b.length)
theorem aSp {n k:Nat}(h:k<=aFk n):(n+1+k) % 64=56↔k=aFk n:=by
 unfold aFk at *
 omega
theorem aAg (n:Nat):aFk n < 64:=Nat.mod_lt _ (by decide)
theorem aFl (b:List UInt8):(aFm b).length=b.length+1+aFk b.length+8:=by
 unfold aFm
 simp only [List.length_append,List.length_replicate,aW,List.length_singleton]
theorem aMd (b:List UInt8):(aFm b).length=64 * ((aFm b).length / 64):=by
 have h:=aFl b
 unfold aFk at h
 omega
def bBs (b:List UInt8):S8:=jD ((aFm b).length / 64) aVr (aFm b)
def by4 (x:UInt32):List UInt8:=[(x >>>24).toUInt8,(x >>>16).toUInt8,(x >>>8).toUInt8,x.toUInt8]
def aWg (s:S8):List UInt8:=by4 s.a++by4 s.b++by4 s.c++by4 s.d++by4 s.e++by4 s.f++by4 s.g++by4 s.h
def aD1 (b:List UInt8):Dig:=⟨aWg (bBs b),rfl⟩
def aVf (tag b:List UInt8):Dig:=aD1 ((aD1 tag).1++b)
theorem bBj (x:UInt32):IntKind.u8.wrap (wI x)=((x.toUInt8.toNat:Nat):Int):=by
 unfold wI
 show (((x.toNat:Nat):Int) % 256)=_
 rw [UInt32.toNat_toUInt8]
 omega
end
section
attribute [local irreducible] aK aF Tri aH YVC cG aT
open Go.RowKit
set_option maxRecDepth 10000
abbrev wD (x:UInt32):D:= .int .u32 (wI x)
theorem bE8: ∀n:Nat,1<=n->n<=31->bits .and .u64 (IntKind.u64.wrap (0 - (n:Int))) 31=((32 - n:Nat):Int):=by
 have h: ∀n:Fin 32,1<=n.1->bits .and .u64 (IntKind.u64.wrap (0 - (n.1:Int))) 31=((32 - n.1:Nat):Int):=by decide+kernel
 exact λn a h2=>h ⟨n,by omega⟩ a
theorem aS6 (x:UInt32) (n:Nat) (h1:1<=n) (h2:n<=31):Tri Tryz.prog 181 [.d (wD x), .d (.int .i64 (0 - (n:Int)))] [] (λr=>r= .d (wD (mB n x))):=by
 have a:=bE8 n h1 h2
 refine qG [] hty Tryz.func181 [0,1,4,5] ?_
 refine qX ?_;intros
 rw [a]
 have b:IntKind.u64.wrap (32 - ((32 - n:Nat):Int))=(n:Int):=by
  rw [show (32:Int) - ((32 - n:Nat):Int)=((n:Nat):Int)by omega,gK _ (by omega)]
 rw [b]
 refine And.intro (Int.natCast_nonneg _) ?_
 refine qX ?_;intros
 refine congrArg (λz=>SV.d (.int .u32 z)) ?_
 have e1:min (((32 - n:Nat):Int)).toNat IntKind.u32.bits=32 - n:=by
  rw [Int.toNat_natCast]
  show min (32 - n) 32=_
  omega
 have e2:min ((n:Nat):Int).toNat IntKind.u32.bits=n:=by
  rw [Int.toNat_natCast]
  show min n 32=_
  omega
 rw [e1,e2,bBh _ _ (by omega),bBg _ _ (by omega),bBi,aS5]
theorem fZ (x:UInt32) (n:Nat) (h1:1<=n) (h2:n<=31):Tri Tryz.prog 133 [.d (wD x), .d (.int .i64 (n:Int))] [] (λr=>r= .d (wD (mB n x))):=by
 have c:=aS6 x n h1 h2
 refine qG [] hty Tryz.func133 [0,1,4] ?_
 (repeat' first|(refine qW ?_;intros)|((conv=>whnf);first|refine dwR ?_|((first|refine aA ?_ ?_|refine aC ?_ ?_)<;>intro hb<;>(first|exact ddX hb|try simp only [lnS]at hb))|(refine aB ?_ ?_<;>intro hb<;>try exact dsX hb)))
 rfl
end
end Go.Proofs.YtbobcfjlbcgchaaGreatDoor
