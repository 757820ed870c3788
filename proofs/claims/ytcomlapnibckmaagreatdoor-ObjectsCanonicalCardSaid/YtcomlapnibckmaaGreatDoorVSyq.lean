/-
  The reference of objects: its reader reads numbers, texts and digests. The reference of objects: its reader reads digests. A nil cell takes up rows of its own, at a call; contracts whose result says less. Contracts of functions that hand back bytes of a row of their own, onto which the caller may append.
  Conditions: none.
-/
import Derived.Test.YtcomlapnibckmaaGreatDoorVOv
import Derived.Test.YtcomlapnibckmaaGreatDoorVOt
import Derived.Test.YtcomlapnibckmaaGreatDoorVSyi
import Derived.Test.YtcomlapnibckmaaGreatDoorVOn
import Derived.Test.YtcomlapnibckmaaGreatDoorVSs
set_option linter.unnecessarySimpa false
set_option linter.unusedSectionVars false
set_option linter.unusedSimpArgs false
set_option linter.unusedVariables false
namespace Go.Proofs.YtcomlapnibckmaaGreatDoor
open Go.Proofs Go.RowKit
set_option maxRecDepth 10000
attribute [local irreducible] aN aH Tri aF YVC cM bB
abbrev rfO (s:RS):HObj:= .cells 101 [.d (.sl 1 (s.1.map bC)), .d (.bool s.2)]
abbrev aJf:Pin:=⟨[3],λ_ _=>False,[]⟩
def RfT {α:Type}(f:FuncId) (ex:List SV) (t:Tr α) (e:α->SV):Prop:= ∀s:RS,s.1.length<=1000000->
 aH Tryz.prog aJf [] [(3,rfO s)] f (.ptr 3 0::ex) (λr h=>r=e (t s).1/\aO h 3=some (rfO (t s).2))
theorem RfT.call {α:Type}{f:FuncId}{ex:List SV}{t:Tr α}{e:α->SV}(h:RfT f ex t e) (hx:SV.idsL ex=[]) (he: ∀x,(e x).ids=[]) {pin:Pin}{fr:Fr}{hp:Hp}{i:Nat}{K:SV->Hp->Prop}(s:RS) (hb:s.1.length<=1000000) (hg:aO hp i=some (rfO s))
  (hok:dK hp i (rfO (t s).2) (K (e (t s).1))):aH Tryz.prog pin fr hp f (.ptr i 0::ex) K:=by
 have hs: ∀b,(rfO b).sim:= λb s hs=>by
  simp at hs
  rcases hs with rfl|rfl<;>exact rfl
 refine lF (λ_=>i) [3] [(3,rfO s)] (h s hb) (aEj hg rfl (hs s)) (λk hk=>hk) (by rw [List.map_cons,sB hx];rfl) ?_ ?_ ?_
 ·intro s hs
  rcases List.mem_cons.1 hs with rfl|hs
  ·trivial
  ·exact rZ hx s hs
 ·rintro r h1 ⟨rfl,e3⟩
  refine⟨aAt (he _), ?_,_,aFo hg e3 (hs _) (λh=>h) rfl rfl, ?_⟩
  ·intro j hj
   rw [he]at hj
   cases hj
  ·rw [aAz (he _)]
   rw [cN]at hok
   exact hok
 ·exact λh1 h2=>h2.elim
end Go.Proofs.YtcomlapnibckmaaGreatDoor
namespace Go.Proofs.YtcomlapnibckmaaGreatDoor
open Go.Proofs Go.RowKit
set_option maxRecDepth 10000
attribute [local irreducible] aN aH Tri aF YVC cM bB
end Go.Proofs.YtcomlapnibckmaaGreatDoor
namespace Go.Proofs.YtcomlapnibckmaaGreatDoor
open Go.RowKit
section
variable {P:Program}
theorem aH.ownH {pin:Pin}{fr:Fr}{hp:Hp}{f:FuncId}{args:List SV}{K:SV->Hp->Prop}(i id t e z:Nat) (hnil:aO hp i=some (.cells t [.d .nil])) (hfr:gN id pin fr hp) (hna:id∉SV.idsL args)
  (h:aH P pin fr ((id, .own e z 0)::fI hp i (.cells t [.osl id z []])) f args K):aH P pin fr hp f args K:=by
 intro E ρ w tm hpin h3 h4 vs hargs
 obtain⟨f1,f2,f3⟩:=hfr
 obtain⟨m1,m2,m3⟩:=h3.newNil (id:=id) e z f3 (by rw [hpin];exact f1)
 have hne:i≠id:= λe=>f3 (by subst e;exact bE hnil (.inl rfl))
 have hi':aO ((id,HObj.own e z 0)::hp) i=some (.cells t [.d .nil]):=by
  simp only [aO];rw [if_neg (Ne.symm hne)];exact hnil
 have m4 := m1.recell hi' (cs' := [.osl id z []]) rfl (λj s' v hs' hv => by
  cases j with
  |zero=>
   simp at hs'
   subst hs'
   have:=(hv (.d .nil) rfl).nil_inv
   subst this
   exact m3
  |succ j=>simp at hs')
 have e2:fI ((id,HObj.own e z 0)::hp) i (.cells t [.osl id z []])=(id, .own e z 0)::fI hp i (.cells t [.osl id z []]):=by
  simp only [fI];rw [if_neg (Ne.symm hne)]
 rw [e2]at m4
 have hidsA: ∀(l:List SV) (k:Nat),id∉SV.idsL l->id∉eG (fM k l):=by
  intro l
  induction l with
  |nil=>intro k h;simp [fM,eG]
  |cons s r ih=>
   intro k hn
   rw [SV.idsL,List.mem_append,not_or]at hn
   simp only [fM,eG,List.flatMap_cons,List.mem_append,not_or]
   exact⟨hn.1,ih (k+1) hn.2⟩
 have hget: ∀(l:List SV) (k j:Nat) (s:SV),l[j]? =some s->eH (fM k l) (k+j)=some s:=by
  intro l
  induction l with
  |nil=>intro k j s h;simp at h
  |cons x r ih=>
   intro k j s h
   cases j with
   |zero=>simp at h;subst h;simp [fM,eH]
   |succ j=>
    simp at h
    have:=ih (k+1) j s h
    simp only [fM,eH]
    rw [if_neg (by omega)]
    rw [show k+(j+1)=k+1+j by omega];exact this
 have hav:cE ρ w (fM 0 args) vs:=by
  intro u s hu
  obtain⟨_,q⟩:=gA args 0 u s hu
  simp only [Nat.sub_zero]at q
  have hlt:=(List.getElem?_eq_some_iff.1 q).1
  have hlt':u < vs.size:=by rw [hargs.1];exact hlt
  exact⟨vs[u],Array.getElem?_eq_getElem hlt',hargs.2 u s _ q (Array.getElem?_eq_getElem hlt')⟩
 have hav2:=m2 (fM 0 args) vs (hidsA args 0 hna) hav
 refine h E _ w tm hpin m4 (m2 fr tm f2 h4) vs ⟨hargs.1,λj s v hs hv=> ?_⟩
 have h0:=hget args 0 j s hs
 rw [Nat.zero_add]at h0
 obtain⟨u,q1,q2⟩:=hav2 j s h0
 rw [hv]at q1
 injection q1 with q1
 rw [q1];exact q2
theorem Tri.says {f:FuncId}{args:List SV}{hp:Hp}{post:SV->Prop}(h:Tri P f args hp λs=> ∃s',dJ s s'/\post s'):Tri P f args hp post:=
 λw ρ vs a b c=>(h w ρ vs a b c).mono λ_ _ ⟨v,S',s,h1,⟨s',h2,h3⟩,h4,h5,h6,h7,h8⟩=>⟨v,S',s',h1,h3,h4,h5,h6,h7,h2 _ _ _ h8⟩
theorem dJ.tup {l m:List SV}(hl:l.length=m.length) (h: ∀(j:Nat) (a b:SV),l[j]? =some a->m[j]? =some b->dJ a b):dJ (.tup l) (.tup m):= λw ρ v hr=>by
 obtain⟨vs,rfl,h1,h2⟩:=hr.tup_inv
 refine .tup _ _ (h1.trans hl) λj b u hb hu=> ?_
 have hj:j < l.length:=by rw [hl];exact(List.getElem?_eq_some_iff.1 hb).1
 exact h j _ b (List.getElem?_eq_getElem hj) hb w ρ u (h2 j _ u (List.getElem?_eq_getElem hj) hu)
theorem dJ.pair {a b c:SV}(h:dJ a b):dJ (.tup [a,c]) (.tup [b,c]):=dJ.tup rfl λj x y hx hy=>by
 match j with
 | 0=>simp at hx hy;subst hx hy;exact h
 | 1=>simp at hx hy;subst hx hy;exact .refl _
 |j+2=>simp at hx
end
end Go.Proofs.YtcomlapnibckmaaGreatDoor
namespace Go.Proofs.YtcomlapnibckmaaGreatDoor
open Go.RowKit
section
variable {P:Program}
def uR (l:List UInt8):List Value:=l.map λc=> .int .u8 c.toNat
def aEp (P:Program) (f:FuncId) (args:List SV) (e:TypeId) (bs:List UInt8):Prop:=
 ∀(w:World) (ρ:Env) (vs:Array Value),(∀b i,ρ.S b i->b < w.heap.size)->bU w ρ args vs->
  Calls P f vs w λx w'=> ∃v,x= .returned v/\Grew w w'/\w'.ownsRow 0 e 1 v bs.length (uR bs)/\ ∀g,v.ownBlock=some g->w.heap.size<=g
theorem zQ {w:World}{S:Nat->Nat->Prop}(l:List UInt8):Flat w S 1 (l.map bC) (uR l):=by
 refine⟨by simp [uR],λrow h=> ?_,λv h=> ?_,λi row j x h1 h2=> ?_⟩
 ·obtain⟨c,_,rfl⟩:=List.mem_map.1 h;rfl
 ·obtain⟨c,_,rfl⟩:=List.mem_map.1 h;rfl
 ·rw [List.getElem?_map,Option.map_eq_some_iff]at h1
  obtain⟨c,hc,rfl⟩:=h1
  have hj:j=0/\x= .int .u8 c.toNat:=by
   cases j with
   |zero=>simp [bC]at h2;exact⟨rfl,h2.symm⟩
   |succ j=>simp [bC]at h2
  obtain⟨rfl,rfl⟩:=hj
  exact⟨.int .u8 c.toNat,by simp [uR,hc], .int _ _⟩
theorem aEp.tri {f:FuncId}{args:List SV}{e:TypeId}{bs:List UInt8}(h:aEp P f args e bs):Tri P f args [] (λr=>r= .d (.sl 1 (bs.map bC))):=by
 intro w ρ vs hslt hargs _
 refine(h w ρ vs hslt hargs).mono ?_
 rintro x w' ⟨v,rfl,h1,h2,h3⟩
 have hl:(bs.map bC).length=bs.length:=List.length_map ..
 have hm:Mem ⟨w,ρ.S,λ_=>False,⟨[],λ_ _=>False,[]⟩,ρ,none,[],0⟩ ρ [] w:=
  ⟨rfl,rfl, .refl _,Nat.le_refl _,λ_ _ _=>rfl,λ_ _ h=>h,λ_ _ h _ _=>h,hslt,λ_ _ _=>rfl,λ_ _ h=>by simp [aO]at h,λ_ _ _ _ _ h=>by simp [aO]at h,λ_ _ _ h=>by simp [aO]at h,λid _=>ρ.moved_refl id,λ_ _ _ h=>by simp [aO]at h,λb hb=>by cases hb⟩
 obtain⟨m1,m2,m3⟩:=hm.newOwn (id:=0) (e:=e) (z:=1) (rows:=bs.map bC) (vs:=uR bs) h1 (by rw [hl];exact h2) h3 (zQ bs) (by simp [mH]) (λh=>by cases h)
 refine⟨v,_,_,rfl,rfl,h1,m1.sold,λb i hs=> ?_,m1.slt,(Rep.d _ _ m3.osl_inv.1:Rep w' _ (.d (.sl 1 (bs.map bC))) v).noids rfl rfl⟩
 rcases Nat.lt_or_ge b w.heap.size with hlt|hge
 ·exact .inl (m1.snew b i hs hlt (λh=>h))
 ·exact .inr hge
end
end Go.Proofs.YtcomlapnibckmaaGreatDoor
