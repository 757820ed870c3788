/-
  A contract over the callee's own few objects, under other numbers, in any memory of the caller's. A result that says less. Objects: a reader's contract, over its own object alone; how it is used. Objects: the reader reads digests.
  Conditions: none.
-/
import Derived.Test.YtleihcnongldbaaGreatDoorVSq
import Derived.Test.YtleihcnongldbaaGreatDoorVSna
import Derived.Test.YtleihcnongldbaaGreatDoorVOl
set_option linter.unnecessarySimpa false
set_option linter.unusedSectionVars false
set_option linter.unusedSimpArgs false
set_option linter.unusedVariables false
set_option maxHeartbeats 8000000
namespace Go.Proofs.YtleihcnongldbaaGreatDoor
open Go.RowKit
def SV.ren (σ:Nat->Nat):SV->SV
 | .ptr i o=> .ptr (σ i) o
 | .osl i z r=> .osl (σ i) z r
 | .mw i z n=> .mw (σ i) z n
 |s=>s
def SV.sim:SV->Prop
 | .ptr _ _=>True
 | .osl _ _ _=>True
 | .mw _ _ _=>True
 |s=>s.ids=[]
def HObj.ren (σ:Nat->Nat):HObj->HObj
 | .cells t cs=> .cells t (cs.map (SV.ren σ))
 | .ro t cs=> .ro t (cs.map (SV.ren σ))
 |o=>o
def HObj.sim:HObj->Prop
 | .cells _ cs=> ∀s∈cs,s.sim
 | .ro _ cs=> ∀s∈cs,s.sim
 | .own _ _ _=>True
 | .mrow _ _ _ _=>True
 | .glob _ _ _=>True
 | .ext X=>X.ids=[]
 | .rox X=>X.ids=[]
 | .loop _ _=>False
def Env.like (a b:Env) (σ:Nat->Nat) (i:Nat):Prop:=b.blk (σ i)=a.blk i/\b.n (σ i)=a.n i/\b.tv (σ i)=a.tv i
section
variable {P:Program}
theorem Rep.noids {w:World}{ρ ρ':Env}{s:SV}{v:Value}(h:Rep w ρ s v) (hs:ρ'.S=ρ.S) (hi:s.ids=[]):Rep w ρ' s v:=
 h.mono (λ_ _ _=>rfl) (λb i x=>by rw [hs];exact x) (λid hid=>by rw [hi]at hid;cases hid)
theorem RepD.noS {w:World}{S S':Nat->Nat->Prop}{x:D}{v:Value}(h:RepD w S x v) (hs:S'=S):RepD w S' x v:=by rw [hs];exact h
theorem Rep.toRen {w:World}{a b:Env}{σ:Nat->Nat}{s:SV}{v:Value}(hs:s.sim) (hS:b.S=a.S) (hl: ∀i∈s.ids,a.like b σ i) (h:Rep w a s v):Rep w b (s.ren σ) v:=by
 cases s with
 |ptr i o=>
  cases h with
  |ptr _ _ g hg=>exact .ptr _ _ g ((hl i (by simp [SV.ids])).1.trans hg)
 |osl i z r=>
  obtain⟨_,h2,h3⟩:=hl i (by simp [SV.ids])
  cases h with
  |osl _ _ _ _ h hn ht=>exact .osl _ _ _ _ (h.noS hS) (by rw [h2];exact hn) (by rw [h2,h3];exact ht)
 |mw i z n=>
  obtain⟨_,h2,h3⟩:=hl i (by simp [SV.ids])
  cases h with
  |mw _ _ _ cap A hn hc hA h4 h5=>exact .mw _ _ _ cap A hn hc hA (by rw [h2];exact h4) (by rw [h2,h3];exact h5)
 |_=>exact h.noids hS hs
theorem Rep.ofRen {w:World}{a b:Env}{σ:Nat->Nat}{s:SV}{v:Value}(hs:s.sim) (hS:b.S=a.S) (hl: ∀i∈s.ids,a.like b σ i) (h:Rep w b (s.ren σ) v):Rep w a s v:=by
 cases s with
 |ptr i o=>
  cases h with
  |ptr _ _ g hg=>exact .ptr _ _ g ((hl i (by simp [SV.ids])).1.symm.trans hg)
 |osl i z r=>
  obtain⟨_,h2,h3⟩:=hl i (by simp [SV.ids])
  cases h with
  |osl _ _ _ _ h hn ht=>exact .osl _ _ _ _ (h.noS hS.symm) (by rw [<-h2];exact hn) (by rw [<-h2,<-h3];exact ht)
 |mw i z n=>
  obtain⟨_,h2,h3⟩:=hl i (by simp [SV.ids])
  cases h with
  |mw _ _ _ cap A hn hc hA h4 h5=>exact .mw _ _ _ cap A hn hc hA (by rw [<-h2];exact h4) (by rw [<-h2,<-h3];exact h5)
 |_=>exact h.noids hS.symm hs
theorem cP.toRen {w:World}{a b:Env}{σ:Nat->Nat}{g:Nat}{t:TypeId}{cs:List SV}(hs: ∀s∈cs,s.sim) (hS:b.S=a.S) (hl: ∀i∈SV.idsL cs,a.like b σ i) (h:cP w a g t cs):cP w b g t (cs.map (SV.ren σ)):=by
 obtain⟨cur,h1,h2,h3,h4⟩:=h
 refine⟨cur,h1,by rw [List.length_map];exact h2,h3,λj s v e1 e2=> ?_⟩
 rw [List.getElem?_map]at e1
 obtain⟨s0,e3,rfl⟩:=Option.map_eq_some_iff.1 e1
 exact(h4 j s0 v e3 e2).toRen (hs _ (List.mem_of_getElem? e3)) hS λi hi=>hl i (SV.mem_idsL e3 hi)
theorem cP.ofRen {w:World}{a b:Env}{σ:Nat->Nat}{g:Nat}{t:TypeId}{cs:List SV}(hs: ∀s∈cs,s.sim) (hS:b.S=a.S) (hl: ∀i∈SV.idsL cs,a.like b σ i) (h:cP w b g t (cs.map (SV.ren σ))):cP w a g t cs:=by
 obtain⟨cur,h1,h2,h3,h4⟩:=h
 refine⟨cur,h1,by rw [List.length_map]at h2;exact h2,h3,λj s v e1 e2=> ?_⟩
 exact(h4 j (s.ren σ) v (by rw [List.getElem?_map,e1];rfl) e2).ofRen (hs _ (List.mem_of_getElem? e1)) hS λi hi=>hl i (SV.mem_idsL e1 hi)
theorem HObj.at_ren {a b:Env}{σ:Nat->Nat}{i:Nat}{o:HObj}(hs:o.sim) (hl:a.like b σ i):b.at (σ i) (o.ren σ)=a.at i o:=by
 obtain⟨h1,h2,h3⟩:=hl
 cases o<;>simp only [HObj.ren,Env.at,h1,h3]
theorem yH.toRen {w:World}{a b:Env}{σ:Nat->Nat}{id:Nat}{o:HObj}(hs:o.sim) (hS:b.S=a.S) (hl: ∀i,i=id\/i∈o.ids->a.like b σ i) (h:yH w a id o):yH w b (σ id) (o.ren σ):=by
 obtain⟨l1,l2,l3⟩:=hl id (.inl rfl)
 cases o with
 |cells t cs=>
  obtain⟨g,h1,h2,h3⟩:=h
  exact⟨g,l1.trans h1,h2.toRen hs hS λi hi=>hl i (.inr hi),λi=>by rw [hS];exact h3 i⟩
 |ro t cs=>
  obtain⟨g,h1,h2⟩:=h
  exact⟨g,l1.trans h1,h2.toRen hs hS λi hi=>hl i (.inr hi)⟩
 |own e z n=>
  obtain⟨h1,xs,h2,h3,h4⟩:=h
  refine⟨l2.trans h1,xs, ?_, ?_,h4⟩
  ·rw [l2,l3];exact h2
  ·rw [l2,l3,hS];exact h3
 |mrow e z cap rows=>
  obtain⟨h1,h2⟩:=h
  refine⟨l2.trans h1, ?_⟩
  rw [l3,hS];exact h2
 |loop L s=>exact hs.elim
 |ext X=>
  obtain⟨g,r,h1,h2,h3,h4⟩:=h
  refine⟨g,r,l1.trans h1,h2,X.keep w w a b r (λ_ _ _=>rfl) (λ_ _ x=>by rw [hS];exact x) (λi hi=> ?_) h3,λi=>by rw [hS];exact h4 i⟩
  rw [show X.ids=[]from hs]at hi;cases hi
 |glob g z rows=>
  show View w b.S z rows g 0
  rw [hS];exact h
 |rox X=>
  obtain⟨g,r,h1,h2,h3⟩:=h
  refine⟨g,r,l1.trans h1,h2,X.keep w w a b r (λ_ _ _=>rfl) (λ_ _ x=>by rw [hS];exact x) (λi hi=> ?_) h3⟩
  rw [show X.ids=[]from hs]at hi;cases hi
theorem yH.ofRen {w:World}{a b:Env}{σ:Nat->Nat}{id:Nat}{o:HObj}(hs:o.sim) (hS:b.S=a.S) (hl: ∀i,i=id\/i∈o.ids->a.like b σ i) (h:yH w b (σ id) (o.ren σ)):yH w a id o:=by
 obtain⟨l1,l2,l3⟩:=hl id (.inl rfl)
 cases o with
 |cells t cs=>
  obtain⟨g,h1,h2,h3⟩:=h
  exact⟨g,l1.symm.trans h1,h2.ofRen hs hS λi hi=>hl i (.inr hi),λi=>by rw [<-hS];exact h3 i⟩
 |ro t cs=>
  obtain⟨g,h1,h2⟩:=h
  exact⟨g,l1.symm.trans h1,h2.ofRen hs hS λi hi=>hl i (.inr hi)⟩
 |own e z n=>
  obtain⟨h1,xs,h2,h3,h4⟩:=h
  refine⟨l2.symm.trans h1,xs, ?_, ?_,h4⟩
  ·rw [<-l2,<-l3];exact h2
  ·rw [<-l2,<-l3,<-hS];exact h3
 |mrow e z cap rows=>
  obtain⟨h1,h2⟩:=h
  refine⟨l2.symm.trans h1, ?_⟩
  rw [<-l3,<-hS];exact h2
 |loop L s=>exact hs.elim
 |ext X=>
  obtain⟨g,r,h1,h2,h3,h4⟩:=h
  refine⟨g,r,l1.symm.trans h1,h2,X.keep w w b a r (λ_ _ _=>rfl) (λ_ _ x=>by rw [<-hS];exact x) (λi hi=> ?_) h3,λi=>by rw [<-hS];exact h4 i⟩
  rw [show X.ids=[]from hs]at hi;cases hi
 |glob g z rows=>
  have h:View w b.S z rows g 0:=h
  rw [hS]at h;exact h
 |rox X=>
  obtain⟨g,r,h1,h2,h3⟩:=h
  refine⟨g,r,l1.symm.trans h1,h2,X.keep w w b a r (λ_ _ _=>rfl) (λ_ _ x=>by rw [<-hS];exact x) (λi hi=> ?_) h3⟩
  rw [show X.ids=[]from hs]at hi;cases hi
theorem HObj.rd_ren {σ:Nat->Nat}{o:HObj}:(o.ren σ).Rd↔o.Rd:=by cases o<;>exact Iff.rfl
def Env.pull (ρ:Env) (σ:Nat->Nat):Env:=⟨ρ.S,λi=>ρ.blk (σ i),λi=>ρ.n (σ i),λi=>ρ.tv (σ i)⟩
theorem Env.pull_like (ρ:Env) (σ:Nat->Nat) (i:Nat):(ρ.pull σ).like ρ σ i:=⟨rfl,rfl,rfl⟩
def aDu (σ:Nat->Nat) (W:List Nat) (i:Nat):Option Nat:=W.find? λk=>σ k==i
def Env.push (ρ ρ1:Env) (σ:Nat->Nat) (W:List Nat):Env:=
 ⟨ρ1.S,λi=>match aDu σ W i with|some k=>ρ1.blk k|none=>ρ.blk i,λi=>match aDu σ W i with|some k=>ρ1.n k|none=>ρ.n i,λi=>match aDu σ W i with|some k=>ρ1.tv k|none=>ρ.tv i⟩
theorem sN {σ:Nat->Nat}{W:List Nat}{i k:Nat}(h:aDu σ W i=some k):k∈W/\σ k=i:=by
 unfold aDu at h
 exact⟨List.mem_of_find?_eq_some h,by simpa using List.find?_some h⟩
theorem aLb {σ:Nat->Nat}{W:List Nat}(hinj: ∀a∈W,∀b∈W,σ a=σ b->a=b) {k:Nat}(hk:k∈W):aDu σ W (σ k)=some k:=by
 cases h:aDu σ W (σ k)with
 |none=>
  unfold aDu at h
  rw [List.find?_eq_none]at h
  exact absurd (beq_self_eq_true (σ k)) (h k hk)
 |some j=>
  obtain⟨h1,h2⟩:=sN h
  rw [hinj j h1 k hk h2]
theorem Env.push_like {ρ ρ1:Env}{σ:Nat->Nat}{W:List Nat}(hinj: ∀a∈W,∀b∈W,σ a=σ b->a=b) {k:Nat}(hk:k∈W):ρ1.like (ρ.push ρ1 σ W) σ k:=by
 unfold Env.like Env.push
 simp only [aLb hinj hk,and_self]
structure Left (σ:Nat->Nat) (W:List Nat) (h1 hp hp2:Hp):Prop where
 up: ∀k∈W,∃o,aQ h1 k=some o/\o.sim/\¬ o.Rd/\(∀i∈o.ids,i∈W)/\aQ hp2 (σ k)=some (o.ren σ)
 rest: ∀i o,aQ hp2 i=some o->(∃k∈W,i=σ k)\/aQ hp i=some o
structure Among (σ:Nat->Nat) (W:List Nat) (hpI hp:Hp):Prop where
 sub: ∀id o,aQ hpI id=some o->aQ hp (σ id)=some (o.ren σ)/\o.sim
 inj: ∀id o id' o',aQ hpI id=some o->aQ hpI id'=some o'->σ id=σ id'->id=id'
 w: ∀k∈W,∃o,aQ hpI k=some o
 rd: ∀id o,aQ hpI id=some o->id∈W\/ ∀ρ:Env,ρ.at id o=none
theorem Mem.framed {E:Entry}{ρ ρ1:Env}{σ:Nat->Nat}{W:List Nat}{hpI h1 hp hp2:Hp}{w w':World}{pin:Pin}{rd:Option Nat}(hm:Mem E ρ hp w) (A:Among σ W hpI hp) (L:Left σ W h1 hp hp2) (hW: ∀k∈W,k∈pin)
  (hm':Mem (bU w (ρ.pull σ) hpI pin rd E.D) ρ1 h1 w'):Mem E (ρ.push ρ1 σ W) hp2 w'/\ ∀i,ρ.moved (ρ.push ρ1 σ W) i:=by
 have hinj: ∀a∈W,∀b∈W,σ a=σ b->a=b:=by
  intro a ha b hb e
  obtain⟨o,h1⟩:=A.w a ha
  obtain⟨o',h2⟩:=A.w b hb
  exact A.inj _ _ _ _ h1 h2 e
 have hmv: ∀i,ρ.moved (ρ.push ρ1 σ W) i:=by
  intro i
  cases h:aDu σ W i with
  |none=>exact⟨by simp only [Env.push,h], .inl ⟨by simp only [Env.push,h],by simp only [Env.push,h]⟩⟩
  |some k=>
   obtain⟨k1,k2⟩:=sN h
   subst k2
   have:=hm'.mv k (hW k k1)
   unfold Env.moved at this |-
   simp only [Env.push,h]
   exact this
 have hBI: ∀b,(bU w (ρ.pull σ) hpI pin rd E.D).B b-> ∃k∈W,∃o,aQ hpI k=some o/\aQ hp (σ k)=some (o.ren σ)/\ρ.at (σ k) (o.ren σ)=some b:=by
  rintro b ⟨k,o,e1,e2⟩
  obtain⟨s1,s2⟩:=A.sub k o e1
  rcases A.rd k o e1 with hk|hn
  ·exact⟨k,hk,o,e1,s1,by rw [HObj.at_ren s2 (ρ.pull_like σ k)];exact e2⟩
  ·rw [hn]at e2;cases e2
 have hkp:bS ρ.S w w':=hm'.kp
 have hsold: ∀b i,ρ.S b i->ρ1.S b i:=hm'.sold
 have hother: ∀i o,aDu σ W i=none->(ρ.push ρ1 σ W).at i o=ρ.at i o:=by
  intro i o h
  cases o<;>simp only [Env.at,Env.push,h]
 have hnone: ∀i,(¬ ∃k∈W,i=σ k)->aDu σ W i=none:=by
  intro i h
  cases e:aDu σ W i with
  |none=>rfl
  |some k=>obtain⟨k1,k2⟩:=sN e;exact absurd ⟨k,k1,k2.symm⟩ h
 have hup: ∀k∈W,∀o,aQ hp2 (σ k)=some o-> ∃o1,aQ h1 k=some o1/\o1.sim/\¬ o1.Rd/\o=o1.ren σ/\(ρ.push ρ1 σ W).at (σ k) o=ρ1.at k o1:=by
  intro k hk o ho
  obtain⟨o1,e1,e2,e3,e4,e5⟩:=L.up k hk
  rw [e5]at ho
  injection ho with ho
  subst ho
  exact⟨o1,e1,e2,e3,rfl,HObj.at_ren e2 (Env.push_like hinj hk)⟩
 have hnotB: ∀i o g,(¬ ∃k∈W,i=σ k)->aQ hp i=some o->(ρ.at i o=some g\/ρ.blk i=some g/\o.Rd)->¬ (bU w (ρ.pull σ) hpI pin rd E.D).B g:=by
  intro i o g hi ho hg hB
  obtain⟨k,k1,o',k2,k3,k4⟩:=hBI g hB
  rcases hg with hg|⟨hg,hrd⟩
  ·exact hi ⟨k,k1,hm.inj _ _ _ _ g ho k3 hg k4⟩
  ·exact hm.ro i o g ho hrd hg _ _ k3 k4
 have hlt: ∀i o g,aQ hp i=some o->(ρ.at i o=some g\/ρ.blk i=some g/\o.Rd)->g < w.heap.size:=by
  intro i o g ho hg
  rcases hg with hg|⟨hg,hrd⟩
  ·exact hm.blk_lt ho hg
  ·exact hm.ro_lt ho hrd hg
 refine⟨⟨hm'.os.trans hm.os,hm'.tape.trans hm.tape,hm'.output.trans hm.output,Nat.le_trans hm.size hm'.size, ?_,λb i hs=>hsold b i (hm.sold b i hs), ?_,hm'.slt,hm.kp.trans hm.sold hkp, ?_, ?_, ?_,λid hid=>Env.moved_trans (hm.mv id hid) (hmv id), ?_,hm'.md⟩,hmv⟩
 ·intro b hb hnb
  refine(hm'.old b (Nat.lt_of_lt_of_le hb hm.size) λhB=> ?_).trans (hm.old b hb hnb)
  obtain⟨k,k1,o,k2,k3,k4⟩:=hBI b hB
  rcases hm.hb _ _ b k3 k4 with h|h
  ·omega
  ·exact hnb h
 ·intro b i hs hb hnb
  refine hm.snew b i (hm'.snew b i hs (Nat.lt_of_lt_of_le hb hm.size) λhB=> ?_) hb hnb
  obtain⟨k,k1,o,k2,k3,k4⟩:=hBI b hB
  rcases hm.hb _ _ b k3 k4 with h|h
  ·omega
  ·exact hnb h
 ·intro i o ho
  by_cases hi: ∃k∈W,i=σ k
  ·obtain⟨k,hk,rfl⟩:=hi
   obtain⟨o1,e1,e2,e3,e4,e5⟩:=L.up k hk
   rw [e5]at ho
   injection ho with ho
   subst ho
   exact yH.toRen (a := ρ1) e2 rfl (hl := λj hj => by
    rcases hj with rfl|hj
    ·exact Env.push_like hinj hk
    ·exact Env.push_like hinj (e4 j hj)) (h:=hm'.sat k o1 e1)
  ·rcases L.rest i o ho with h|h
   ·exact absurd h hi
   ·have hn:=hnone i hi
    refine(hm.sat i o h).keep hkp hsold (λj _=>hmv j) ⟨by simp only [Env.push,hn],by simp only [Env.push,hn]⟩ ?_ ?_
    ·intro g hg
     exact hm'.old g (hlt i o g h hg) (hnotB i o g hi h hg)
    ·intro g hg j hj
     exact hm'.snew g j hj (hlt i o g h (.inl hg)) (hnotB i o g hi h (.inl hg))
 ·intro i o i' o' g h h' hg hg'
  by_cases hi: ∃k∈W,i=σ k
  ·obtain⟨k,hk,rfl⟩:=hi
   obtain⟨o1,e1,e2,e3,e4,e5⟩:=hup k hk o h
   rw [e5]at hg
   by_cases hi': ∃k∈W,i'=σ k
   ·obtain⟨k',hk',rfl⟩:=hi'
    obtain⟨o1',f1,f2,f3,f4,f5⟩:=hup k' hk' o' h'
    rw [f5]at hg'
    rw [hm'.inj _ _ _ _ g e1 f1 hg hg']
   ·rcases L.rest i' o' h' with h2|h2
    ·exact absurd h2 hi'
    ·rw [hother i' o' (hnone i' hi')]at hg'
     rcases hm'.hb k o1 g e1 hg with hge|hB
     ·have:=hlt i' o' g h2 (.inl hg')
      have hge:w.heap.size<=g:=hge
      omega
     ·exact absurd hB (hnotB i' o' g hi' h2 (.inl hg'))
  ·rcases L.rest i o h with h2|h2
   ·exact absurd h2 hi
   ·rw [hother i o (hnone i hi)]at hg
    by_cases hi': ∃k∈W,i'=σ k
    ·obtain⟨k',hk',rfl⟩:=hi'
     obtain⟨o1',f1,f2,f3,f4,f5⟩:=hup k' hk' o' h'
     rw [f5]at hg'
     rcases hm'.hb k' o1' g f1 hg' with hge|hB
     ·have:=hlt i o g h2 (.inl hg)
      have hge:w.heap.size<=g:=hge
      omega
     ·exact absurd hB (hnotB i o g hi h2 (.inl hg))
    ·rcases L.rest i' o' h' with h3|h3
     ·exact absurd h3 hi'
     ·rw [hother i' o' (hnone i' hi')]at hg'
      exact hm.inj i o i' o' g h2 h3 hg hg'
 ·intro i o g h hg
  by_cases hi: ∃k∈W,i=σ k
  ·obtain⟨k,hk,rfl⟩:=hi
   obtain⟨o1,e1,e2,e3,e4,e5⟩:=hup k hk o h
   rw [e5]at hg
   rcases hm'.hb k o1 g e1 hg with hge|hB
   ·exact .inl (Nat.le_trans hm.size hge)
   ·obtain⟨k,k1,o,k2,k3,k4⟩:=hBI g hB
    exact hm.hb _ _ g k3 k4
  ·rcases L.rest i o h with h2|h2
   ·exact absurd h2 hi
   ·rw [hother i o (hnone i hi)]at hg
    exact hm.hb i o g h2 hg
 ·intro i o g h hrd hg i' o' h' hg'
  by_cases hi: ∃k∈W,i=σ k
  ·obtain⟨k,hk,rfl⟩:=hi
   obtain⟨o1,e1,e2,e3,e4,e5⟩:=hup k hk o h
   rw [e4]at hrd
   exact e3 (HObj.rd_ren.1 hrd)
  ·rcases L.rest i o h with h2|h2
   ·exact absurd h2 hi
   ·have hg:ρ.blk i=some g:=by simpa only [Env.push,hnone i hi]using hg
    by_cases hi': ∃k∈W,i'=σ k
    ·obtain⟨k',hk',rfl⟩:=hi'
     obtain⟨o1',f1,f2,f3,f4,f5⟩:=hup k' hk' o' h'
     rw [f5]at hg'
     rcases hm'.hb k' o1' g f1 hg' with hge|hB
     ·have:=hlt i o g h2 (.inr ⟨hg,hrd⟩)
      have hge:w.heap.size<=g:=hge
      omega
     ·exact absurd hB (hnotB i o g hi h2 (.inr ⟨hg,hrd⟩))
    ·rcases L.rest i' o' h' with h3|h3
     ·exact absurd h3 hi'
     ·rw [hother i' o' (hnone i' hi')]at hg'
      exact hm.ro i o g h2 hrd hg i' o' h3 hg'
theorem Mem.pulled {E:Entry}{ρ:Env}{σ:Nat->Nat}{W:List Nat}{hpI hp:Hp}{w:World}(pin:Pin) (rd:Option Nat) (hm:Mem E ρ hp w) (A:Among σ W hpI hp):Mem (bU w (ρ.pull σ) hpI pin rd E.D) (ρ.pull σ) hpI w:=by
 refine⟨rfl,rfl, .refl _,Nat.le_refl _,λ_ _ _=>rfl,λ_ _ h=>h,λ_ _ h _ _=>h,hm.slt,λ_ _ _=>rfl, ?_, ?_,λid o _ a b=> .inr ⟨id,o,a,b⟩,λid _=>(ρ.pull σ).moved_refl id, ?_,hm.md⟩
 ·intro id o h
  obtain⟨h1,h2⟩:=A.sub id o h
  exact yH.ofRen (b:=ρ) (σ:=σ) h2 rfl (λi _=>ρ.pull_like σ i) (hm.sat _ _ h1)
 ·intro id o id' o' g h h' hg hg'
  obtain⟨h1,h2⟩:=A.sub id o h
  obtain⟨h3,h4⟩:=A.sub id' o' h'
  rw [<-HObj.at_ren h2 (ρ.pull_like σ id)]at hg
  rw [<-HObj.at_ren h4 (ρ.pull_like σ id')]at hg'
  exact A.inj _ _ _ _ h h' (hm.inj _ _ _ _ g h1 h3 hg hg')
 ·intro id o g h hrd hg id' o' h' hg'
  obtain⟨h1,h2⟩:=A.sub id o h
  obtain⟨h3,h4⟩:=A.sub id' o' h'
  rw [<-HObj.at_ren h4 (ρ.pull_like σ id')]at hg'
  exact hm.ro _ _ g h1 (HObj.rd_ren.2 hrd) hg _ _ h3 hg'
theorem nI {pin:Pin}{fr:Fr}{hp:Hp}{f:FuncId}{args:List SV}{K:SV->Hp->Prop}(σ:Nat->Nat) (W:List Nat) (hpI:Hp) {pinI:Pin}{argsI:List SV}{KI:SV->Hp->Prop}
  (hc:aH P pinI [] hpI f argsI KI) (A:Among σ W hpI hp) (hW: ∀k∈W,k∈pinI) (hargs:args=argsI.map (SV.ren σ)) (hsim: ∀s∈argsI,s.sim)
  (hk: ∀s h1,KI s h1->s.sim/\(∀i∈s.ids,i∈W)/\ ∃hp2,Left σ W h1 hp hp2/\K (s.ren σ) hp2)
  (hkp: ∀h1,pinI.kp [] h1-> ∃hp2,Left σ W h1 hp hp2/\pin.kp fr hp2):aH P pin fr hp f args K:=by
 intro E ρ w tm hpin hm hf vs hv
 have hinj: ∀a∈W,∀b∈W,σ a=σ b->a=b:=by
  intro a ha b hb e
  obtain⟨o,h1⟩:=A.w a ha
  obtain⟨o',h2⟩:=A.w b hb
  exact A.inj _ _ _ _ h1 h2 e
 have hm0:=hm.pulled pinI none A
 refine(hc _ _ w #[] rfl hm0 (λt s h=>by simp [fK]at h) vs ⟨by rw [hv.1,hargs,List.length_map],λj s v hs hx=> ?_⟩).mono ?_
 ·refine Rep.ofRen (b:=ρ) (σ:=σ) (hsim s (List.mem_of_getElem? hs)) rfl (λi _=>ρ.pull_like σ i) (hv.2 j _ v ?_ hx)
  rw [hargs,List.getElem?_map,hs];rfl
 ·rintro e w' (⟨v,ρ1,s,h1,rfl,k1,k2,k3,k4⟩|⟨ch,ρ1,h1,rfl,k0,k1,k2,k3⟩)
  ·obtain⟨s1,s2,hp2,s3,s4⟩:=hk s h1 k1
   obtain⟨m1,m2⟩:=hm.framed A s3 hW k2
   exact .inl ⟨v,_,s.ren σ,hp2,rfl,s4,m1,hf.mono k2.kp k2.sold (λi _=>m2 i),Rep.toRen (a:=ρ1) s1 rfl (hl:= λi hi=>Env.push_like hinj (s2 i hi)) (h:=k4)⟩
  ·obtain⟨hp2,s3,s4⟩:=hkp h1 k1
   obtain⟨m1,m2⟩:=hm.framed A s3 hW k2
   exact .inr ⟨ch,_,hp2,rfl,k0,s4,m1,hf.mono k2.kp k2.sold (λi _=>m2 i)⟩
theorem aLa {i:Nat}{h1 hp:Hp}{x o:HObj}(hx:aQ hp i=some x) (ho:aQ h1 3=some o) (hs:o.sim) (hr:¬ o.Rd) (hi:o.ids=[]) (he:o.ren (λ_=>i)=o):Left (λ_=>i) [3] h1 hp (gI hp i o):=by
 refine⟨λk hk=> ?_,λj y hy=> ?_⟩
 ·obtain rfl:k=3:=by simpa using hk
  have hnone: ∀j∈o.ids,j∈[3]:=by
   intro j hj
   rw [hi]at hj
   cases hj
  refine⟨o,ho,hs,hr,hnone, ?_⟩
  show aQ (gI hp i o) i=_
  rw [bD o hx,if_pos rfl,he]
 ·rw [bD o hx]at hy
  split at hy
  ·rename_i e;exact .inl ⟨3,by simp,e⟩
  ·exact .inr hy
theorem aJo {i:Nat}{hp:Hp}{x o:HObj}(hx:aQ hp i=some x) (he:o.ren (λ_=>i)=x) (hs:o.sim):Among (λ_=>i) [3] [(3,o)] hp:=by
 refine⟨λid y hy=> ?_,λid y id' y' h h' _=> ?_,λk hk=> ?_,λid y hy=> ?_⟩
 ·simp only [aQ]at hy
  split at hy
  ·rename_i e;injection hy with hy;subst hy;subst e
   exact⟨by rw [he];exact hx,hs⟩
  ·cases hy
 ·simp only [aQ]at h h'
  split at h
  ·split at h'
   ·rename_i e1 e2;rw [<-e1,<-e2]
   ·cases h'
  ·cases h
 ·obtain rfl:k=3:=by simpa using hk
  exact⟨o,by simp [aQ]⟩
 ·simp only [aQ]at hy
  split at hy
  ·rename_i e;subst e;exact .inl (by simp)
  ·cases hy
end
end Go.Proofs.YtleihcnongldbaaGreatDoor
namespace Go.Proofs.YtleihcnongldbaaGreatDoor
open Go.RowKit
def eG (a b:SV):Prop:= ∀(w:World) (ρ:Env) (v:Value),Rep w ρ a v->Rep w ρ b v
theorem eG.refl (a:SV):eG a a:= λ_ _ _ h=>h
theorem eG.osl {id z:Nat}{rows:List (List D)}:eG (.osl id z rows) (.d (.sl z rows)):= λ_ _ _ h=> .d _ _ h.osl_inv.1
theorem eG.wkd {a b:D}(h:WkD a b):eG (.d a) (.d b):= λ_ _ _ hr=>by
 cases hr with
 |d _ _ hd=>exact .d _ _ (aCb hd b h)
theorem eG.nil {z:Nat}:eG (.d .nil) (.d (.sl z [])):=eG.wkd rfl
theorem eG.agg {l m:List SV}(hl:l.length=m.length) (h: ∀(j:Nat) (a b:SV),l[j]? =some a->m[j]? =some b->eG a b):eG (.agg l) (.agg m):= λw ρ v hr=>by
 obtain⟨vs,rfl,h1,h2⟩:=hr.agg_inv
 refine .agg _ _ (h1.trans hl) λj b u hb hu=> ?_
 have hj:j < l.length:=by rw [hl];exact(List.getElem?_eq_some_iff.1 hb).1
 exact h j _ b (List.getElem?_eq_getElem hj) hb w ρ u (h2 j _ u (List.getElem?_eq_getElem hj) hu)
theorem eG.aggD {l:List D}:eG (.agg (l.map .d)) (.d (.agg l)):= λw ρ v hr=>by
 obtain⟨vs,rfl,h1,h2⟩:=hr.agg_inv
 refine .d _ _ (.agg _ _ (by rw [h1,List.length_map]) λj x u hx hu=> ?_)
 have:=h2 j (.d x) u (by rw [List.getElem?_map,hx];rfl) hu
 cases this with
 |d _ _ h=>exact h
def aDs:List SV->List D->Prop
 | [],[]=>True
 |a::l,b::m=>eG a (.d b)/\aDs l m
 |_,_=>False
theorem aDs.at: ∀(l:List SV) (m:List D),aDs l m->l.length=m.length/\ ∀(j:Nat) (a:SV) (b:D),l[j]? =some a->m[j]? =some b->eG a (.d b)
 | [],[],_=>⟨rfl,by simp⟩
 |a::l,b::m,h=>by
  obtain⟨h1,h2⟩:=aDs.at l m h.2
  refine⟨by simp [h1],λj x y hx hy=> ?_⟩
  cases j with
  |zero=>simp at hx hy;subst hx hy;exact h.1
  |succ j=>exact h2 j x y (by simpa using hx) (by simpa using hy)
theorem eG.cells {l:List SV}{m:List D}(h:aDs l m):eG (.agg l) (.d (.agg m)):= λw ρ v hr=>by
 obtain⟨h1,h2⟩:=aDs.at l m h
 refine eG.aggD w ρ v (eG.agg (by rw [List.length_map,h1]) (λj a b ha hb=> ?_) w ρ v hr)
 rw [List.getElem?_map]at hb
 obtain⟨y,hy,rfl⟩:=Option.map_eq_some_iff.1 hb
 exact h2 j a y ha hy
section
variable {P:Program}
theorem aH.says {pin:Pin}{fr:Fr}{hp:Hp}{f:FuncId}{args:List SV}{K:SV->Hp->Prop}(h:aH P pin fr hp f args λs hp'=> ∃s',eG s s'/\K s' hp'):aH P pin fr hp f args K:=by
 intro E ρ w tm h1 h2 h3 vs h4
 refine(h E ρ w tm h1 h2 h3 vs h4).mono ?_
 rintro e w' (⟨v,ρ',s,hp',rfl,⟨s',hs,hk⟩,k2,k3,k4⟩|q)
 ·exact .inl ⟨v,ρ',s',hp',rfl,hk,k2,k3,hs _ _ _ k4⟩
 ·exact .inr q
theorem aH.args {pin:Pin}{fr:Fr}{hp:Hp}{f:FuncId}{args args':List SV}{K:SV->Hp->Prop}(h:aH P pin fr hp f args' K) (hl:args.length=args'.length) (hs: ∀(j:Nat) (a b:SV),args[j]? =some a->args'[j]? =some b->eG a b):aH P pin fr hp f args K:=by
 intro E ρ w tm h1 h2 h3 vs h4
 refine h E ρ w tm h1 h2 h3 vs ⟨h4.1.trans hl,λj b v hb hv=> ?_⟩
 have hj:j < args.length:=by rw [hl];exact(List.getElem?_eq_some_iff.1 hb).1
 exact hs j _ b (List.getElem?_eq_getElem hj) hb w ρ v (h4.2 j _ v (List.getElem?_eq_getElem hj) hv)
theorem aEq {s:SV}(h:s.ids=[]):s.sim:=by cases s<;>first|trivial|exact h
theorem aEv {σ:Nat->Nat}{s:SV}(h:s.ids=[]):s.ren σ=s:=by cases s<;>first|rfl|(simp [SV.ids]at h)
theorem wT {σ:Nat->Nat}: ∀{l:List SV},SV.idsL l=[]->l.map (SV.ren σ)=l
 | [],_=>rfl
 |s::r,h=>by
  rw [SV.idsL,List.append_eq_nil_iff]at h
  rw [List.map_cons,aEv h.1,wT h.2]
theorem wR: ∀{l:List SV},SV.idsL l=[]-> ∀s∈l,s.sim
 |s::r,h,x,hx=>by
  rw [SV.idsL,List.append_eq_nil_iff]at h
  rcases List.mem_cons.1 hx with rfl|hx
  ·exact aEq h.1
  ·exact wR h.2 x hx
end
end Go.Proofs.YtleihcnongldbaaGreatDoor
namespace Go.Proofs.YtleihcnongldbaaGreatDoor
open Go.Proofs Go.RowKit
set_option maxRecDepth 10000
attribute [local irreducible] aO aH Tri aG YVC cL bB
abbrev rdO (b:List UInt8):HObj:= .cells 131 [.d (.sl 1 (b.map aV))]
abbrev aQ1 (q:Prop):Pin:=⟨[3],λ_ h=>q/\ ∃b:List UInt8,aQ h 3=some (rdO b),[]⟩
def RdT {α:Type}(f:FuncId) (ex:List SV) (r:Rd α) (e:α->SV):Prop:= ∀bs:List UInt8,bs.length<=1000000->
 aH Tryz.prog (aQ1 (r bs=none)) [] [(3,rdO bs)] f (.ptr 3 0::ex) (λs h=> ∃x c,r bs=some (x,c)/\s=e x/\aQ h 3=some (rdO c))
theorem RdC.t {α:Type}{f:FuncId}{r:Rd α}{e:α->SV}(h:RdC f r e):RdT f [] r e:= λbs _=>
 h bs [] (λx c hr=>⟨x,c,hr,rfl,rfl⟩) (λhr b=>⟨hr,b,rfl⟩)
theorem aMd (m:Nat):RdT 128 [.d (.int .i64 m)] (jN m) (λl=> .d (.sl 1 (l.map aV))):= λbs _=>
 rU bs m [] (λhle=>⟨_,_,wX hle,rfl,rfl⟩) (λhlt=>⟨wZ hlt,bs,rfl⟩)
theorem eK (m:Nat) (hm:m<=8):RdT 127 [.d (.int .i64 m)] (aBf m) (λn=> .d (.int .u64 n)):= λbs _=>
 fL bs m hm [] (λhle=>⟨_,_,xB hle,rfl,rfl⟩) (λhlt=>⟨xD hlt,bs,rfl⟩)
theorem iU:RdT 90 [] yW (λz=> .d (.int .i64 z)):=aF9.t
theorem xK:RdT 137 [] aHh (λz=> .d (.int .i64 z)):=aHy.t
theorem mS:RdT 80 [] wW (λs=> .d (.str s)):=aKf.t
theorem RdT.call {α:Type}{f:FuncId}{ex:List SV}{r:Rd α}{e:α->SV}(h:RdT f ex r e) (hx:SV.idsL ex=[]) (he: ∀x,(e x).ids=[]) {pin:Pin}{fr:Fr}{hp:Hp}{i:Nat}{K:SV->Hp->Prop}(bs:List UInt8) (hb:bs.length<=1000000) (hg:aQ hp i=some (rdO bs))
  (hok: ∀x c,r bs=some (x,c)->eH hp i (rdO c) (K (e x))) (hno:r bs=none-> ∀b,pin.kp fr (gI hp i (rdO b))):aH Tryz.prog pin fr hp f (.ptr i 0::ex) K:=by
 have hs: ∀b,(rdO b).sim:= λb s hs=>by simp at hs;subst hs;exact rfl
 refine nI (λ_=>i) [3] [(3,rdO bs)] (h bs hb) (aJo hg rfl (hs bs)) (λk hk=>hk) (by rw [List.map_cons,wT hx];rfl) ?_ ?_ ?_
 ·intro s hs
  rcases List.mem_cons.1 hs with rfl|hs
  ·trivial
  ·exact wR hx s hs
 ·rintro s h1 ⟨x,c,e1,rfl,e3⟩
  refine⟨aEq (he x), ?_,_,aLa hg e3 (hs c) (λh=>h) rfl rfl, ?_⟩
  ·intro j hj
   rw [he]at hj
   cases hj
  rw [aEv (he x)]
  have:=hok x c e1
  rw [cU]at this
  exact this
 ·rintro h1 ⟨hn,b,e3⟩
  exact⟨_,aLa hg e3 (hs b) (λh=>h) rfl rfl,hno hn b⟩
def lS (d:Dig):List D:=d.1.map λc=> .int .u8 c.toNat
theorem aKq {bs l c:List UInt8}(h:jN 32 bs=some (l,c)): ∃e:l.length=32,xE bs=some (⟨l,e⟩,c):=by
 unfold jN at h
 split at h
 ·rename_i h1
  injection h with h
  injection h with h2 h3
  subst h2 h3
  exact⟨by rw [List.length_take];omega,by unfold xE;rw [dif_pos h1]⟩
 ·cases h
theorem aKr {bs:List UInt8}(h:jN 32 bs=none):xE bs=none:=by
 unfold jN at h
 split at h
 ·cases h
 ·rename_i h1
  unfold xE
  rw [dif_neg h1]
theorem aIn (l:List UInt8):l.map aV=(l.map λc=>(D.int .u8 c.toNat)).map λc=>[c]:=by rw [List.map_map];rfl
end Go.Proofs.YtleihcnongldbaaGreatDoor
namespace Go.Proofs.YtleihcnongldbaaGreatDoor
open Go.Proofs Go.RowKit
set_option maxRecDepth 10000
attribute [local irreducible] aO aH Tri aG YVC cL bB
theorem bJ {l:List UInt8}{n:Nat}(h:l.length=n+1): ∃c m,l=c::m/\m.length=n:=by
 cases l with
 |nil=>cases h
 |cons c m=>exact⟨c,m,rfl,by simpa using h⟩
theorem fM {l:List UInt8}(h:l.length=32): ∃c0 c1 c2 c3 c4 c5 c6 c7 c8 c9 c10 c11 c12 c13 c14 c15 c16 c17 c18 c19 c20 c21 c22 c23 c24 c25 c26 c27 c28 c29 c30 c31:UInt8,l=[c0,c1,c2,c3,c4,c5,c6,c7,c8,c9,c10,c11,c12,c13,c14,c15,c16,c17,c18,c19,c20,c21,c22,c23,c24,c25,c26,c27,c28,c29,c30,c31]:=by
 obtain⟨c0,l0,rfl,h0⟩:=bJ h
 obtain⟨c1,l1,rfl,h1⟩:=bJ h0
 obtain⟨c2,l2,rfl,h2⟩:=bJ h1
 obtain⟨c3,l3,rfl,h3⟩:=bJ h2
 obtain⟨c4,l4,rfl,h4⟩:=bJ h3
 obtain⟨c5,l5,rfl,h5⟩:=bJ h4
 obtain⟨c6,l6,rfl,h6⟩:=bJ h5
 obtain⟨c7,l7,rfl,h7⟩:=bJ h6
 obtain⟨c8,l8,rfl,h8⟩:=bJ h7
 obtain⟨c9,l9,rfl,h9⟩:=bJ h8
 obtain⟨c10,l10,rfl,h10⟩:=bJ h9
 obtain⟨c11,l11,rfl,h11⟩:=bJ h10
 obtain⟨c12,l12,rfl,h12⟩:=bJ h11
 obtain⟨c13,l13,rfl,h13⟩:=bJ h12
 obtain⟨c14,l14,rfl,h14⟩:=bJ h13
 obtain⟨c15,l15,rfl,h15⟩:=bJ h14
 obtain⟨c16,l16,rfl,h16⟩:=bJ h15
 obtain⟨c17,l17,rfl,h17⟩:=bJ h16
 obtain⟨c18,l18,rfl,h18⟩:=bJ h17
 obtain⟨c19,l19,rfl,h19⟩:=bJ h18
 obtain⟨c20,l20,rfl,h20⟩:=bJ h19
 obtain⟨c21,l21,rfl,h21⟩:=bJ h20
 obtain⟨c22,l22,rfl,h22⟩:=bJ h21
 obtain⟨c23,l23,rfl,h23⟩:=bJ h22
 obtain⟨c24,l24,rfl,h24⟩:=bJ h23
 obtain⟨c25,l25,rfl,h25⟩:=bJ h24
 obtain⟨c26,l26,rfl,h26⟩:=bJ h25
 obtain⟨c27,l27,rfl,h27⟩:=bJ h26
 obtain⟨c28,l28,rfl,h28⟩:=bJ h27
 obtain⟨c29,l29,rfl,h29⟩:=bJ h28
 obtain⟨c30,l30,rfl,h30⟩:=bJ h29
 obtain⟨c31,l31,rfl,h31⟩:=bJ h30
 rw [List.length_eq_zero_iff.1 h31]
 exact⟨c0,c1,c2,c3,c4,c5,c6,c7,c8,c9,c10,c11,c12,c13,c14,c15,c16,c17,c18,c19,c20,c21,c22,c23,c24,c25,c26,c27,c28,c29,c30,c31,rfl⟩
theorem rE:RdT 89 [] xE (λd=> .d (.agg (lS d))):=by
 intro bs hb
 refine aI false [] hty Tryz.func89 rfl (kp [0,2]) 100 (by simp [Tryz.f89]) ?_
 ((conv=>whnf);repeat ((first|(intro hq;try simp only [lnS]at hq)|refine sI ?_|refine .intro _ (.intro rfl ?_));(conv=>whnf)))
 refine RdT.call (aMd 32) rfl (λ_=>rfl) bs hb rfl (λl c e1=> ?_) (λe1 b=>⟨aKr e1,b,rfl⟩)
 obtain⟨e,e2⟩:=aKq e1
 rw [aIn]
 obtain⟨c0,c1,c2,c3,c4,c5,c6,c7,c8,c9,c10,c11,c12,c13,c14,c15,c16,c17,c18,c19,c20,c21,c22,c23,c24,c25,c26,c27,c28,c29,c30,c31,rfl⟩:=fM e
 ((conv=>whnf);repeat ((first|(intro hq;try simp only [lnS]at hq)|refine sI ?_|refine .intro _ (.intro rfl ?_));(conv=>whnf)))
 refine(aA3 hty rfl (by with_unfolding_all exact rfl) rfl [.int .u8 c0.toNat, .int .u8 c1.toNat, .int .u8 c2.toNat, .int .u8 c3.toNat, .int .u8 c4.toNat, .int .u8 c5.toNat, .int .u8 c6.toNat, .int .u8 c7.toNat, .int .u8 c8.toNat, .int .u8 c9.toNat, .int .u8 c10.toNat, .int .u8 c11.toNat, .int .u8 c12.toNat, .int .u8 c13.toNat, .int .u8 c14.toNat, .int .u8 c15.toNat, .int .u8 c16.toNat, .int .u8 c17.toNat, .int .u8 c18.toNat, .int .u8 c19.toNat, .int .u8 c20.toNat, .int .u8 c21.toNat, .int .u8 c22.toNat, .int .u8 c23.toNat, .int .u8 c24.toNat, .int .u8 c25.toNat, .int .u8 c26.toNat, .int .u8 c27.toNat, .int .u8 c28.toNat, .int .u8 c29.toNat, .int .u8 c30.toNat, .int .u8 c31.toNat] rfl rfl (Nat.succ_pos 31) ?_)
 ((conv=>whnf);repeat ((first|(intro hq;try simp only [lnS]at hq)|refine sI ?_|refine .intro _ (.intro rfl ?_));(conv=>whnf)))
 exact⟨_,_,e2,rfl,rfl⟩
end Go.Proofs.YtleihcnongldbaaGreatDoor
