/-
  The words of the proofs: data without addresses (D), symbolic values (SV), what it means that a value in a world stands for one (RepD, Rep), symbolic memory, and that all of it is kept while the world grows. How symbolic memory is kept: when the world grows, at a new block, at a store, at an append.
  Conditions: none.
-/
import Derived.WalkKit
import Derived.Maps.AppendAt
import Derived.Deep.Quiet
import Derived.BigQuiet
set_option linter.unusedSectionVars false
set_option linter.unusedSimpArgs false
set_option linter.unusedVariables false
namespace Go.Proofs.YtdjfkmkdkclahaaGreatDoor
section
open Go.RowKit
theorem qB {p:Prop}(h:p:=by repeat' (first|exact trivial|exact rfl|refine And.intro ?_ ?_)):p:=h
theorem qO {p:Prop}(h:p:=by dsimp only;omega):p:=h
theorem qE_ {α:Sort _}{A K:α->Prop}{s:α}(k:K s) (h:A s:=by exact rfl): ∃s,A s/\K s:=⟨s,h,k⟩
inductive D where
 |int (k:IntKind) (n:Int)
 |bool (b:Bool)
 |str (l:List UInt8)
 |nil
 |sl (z:Nat) (rows:List (List D))
 |agg (cs:List D)
 |lit (v:Value)
inductive SV where
 |d (x:D)
 |agg (cs:List SV)
 |tup (vs:List SV)
 |ptr (id off:Nat)
 |ea (z:Nat) (rows:List (List D)) (i off:Nat)
 |osl (id z:Nat) (rows:List (List D))
 |msl (id z off n:Nat)
 |fn (f:FuncId) (first cap:List SV)
 |mw (id z n:Nat)
 |ms (id z lo n ver:Nat)
 |mp (id z i off ver:Nat)
 |zc
 |yld (id:Nat)
 |xv (id:Nat) (mk:Nat->Value)
structure Env where
 S:Nat->Nat->Prop
 blk:Nat->Option Nat
 n:Nat->Nat
 tv:Nat->Value
inductive RepD (w:World) (S:Nat->Nat->Prop):D->Value->Prop
 |int (k:IntKind) (n:Int):RepD w S (.int k n) (.int k n)
 |bool (b:Bool):RepD w S (.bool b) (.bool b)
 |str (l:List UInt8) (h:l.length<=maxLen):RepD w S (.str l) (.string ⟨l.toArray⟩)
 |nil:RepD w S .nil (.slice none 0 0)
 |sl (z:Nat) (rows:List (List D)) (A:Option Addr) (cap b off:Nat) (f:Nat->Value)
   (hz: ∀row∈rows,row.length=z) (hn:rows.length<=cap) (hc:cap<=maxLen)
   (hA:rows≠[]->A=some ⟨b,off,none⟩)
   (hcell : ∀ (i : Nat) (row : List D) (j : Nat) (x : D), rows[i]? = some row -> row[j]? = some x ->
    w.cell? ⟨b,off+(i * z+j),none⟩=some (f (i * z+j))/\S b (off+(i * z+j))/\(f (i * z+j)).oneCell'=true)
   (hrep: ∀(i:Nat) (row:List D) (j:Nat) (x:D),rows[i]? =some row->row[j]? =some x->RepD w S x (f (i * z+j))):
   RepD w S (.sl z rows) (.slice A rows.length cap)
 |agg (cs:List D) (vs:Array Value) (hl:vs.size=cs.length)
   (h: ∀(j:Nat) (x:D) (v:Value),cs[j]? =some x->vs[j]? =some v->RepD w S x v):RepD w S (.agg cs) (.agg vs)
 |lit (v:Value):RepD w S (.lit v) v
def aKf (z lo n:Nat) (u v:Value):Prop:=
 ∃A len cap,u= .slice A len cap/\lo+n<=len/\len<=cap/\(len≠0-> ∃g,A=some ⟨g,0,none⟩)/\ ∃A',v= .slice A' n (cap - lo)/\(cap - lo≠0->A'=A.map (·.add (lo * z)))
def dM:Value->Option Nat
 | .slice (some a) _ cap=>if cap=0 then none else some a.block
 |_=>none
structure View (w:World) (S:Nat->Nat->Prop) (z:Nat) (rows:List (List D)) (b off:Nat):Prop where
 hz: ∀row∈rows,row.length=z
 cell: ∀(i:Nat) (row:List D) (j:Nat) (x:D),rows[i]? =some row->row[j]? =some x->
  ∃v,w.cell? ⟨b,off+(i * z+j),none⟩=some v/\S b (off+(i * z+j))/\v.oneCell'=true/\RepD w S x v
inductive Rep (w:World) (ρ:Env):SV->Value->Prop
 |d (x:D) (v:Value) (h:RepD w ρ.S x v):Rep w ρ (.d x) v
 |agg (cs:List SV) (vs:Array Value) (hl:vs.size=cs.length)
   (h: ∀(j:Nat) (s:SV) (v:Value),cs[j]? =some s->vs[j]? =some v->Rep w ρ s v):Rep w ρ (.agg cs) (.agg vs)
 |tup (cs:List SV) (vs:Array Value) (hl:vs.size=cs.length)
   (h: ∀(j:Nat) (s:SV) (v:Value),cs[j]? =some s->vs[j]? =some v->Rep w ρ s v):Rep w ρ (.tup cs) (.tuple vs)
 |ptr (id off g:Nat) (h:ρ.blk id=some g):Rep w ρ (.ptr id off) (.pointer (some ⟨g,off,none⟩))
 |ea (z:Nat) (rows:List (List D)) (i off b o:Nat) (h:View w ρ.S z rows b o):Rep w ρ (.ea z rows i off) (.pointer (some ⟨b,o+(i * z+off),none⟩))
 |osl (id z:Nat) (rows:List (List D)) (v:Value) (h:RepD w ρ.S (.sl z rows) v) (hn:rows.length<=ρ.n id) (ht:rows.length=ρ.n id->v=ρ.tv id):
   Rep w ρ (.osl id z rows) v
 |msl (id z off n g cap:Nat) (h:ρ.blk id=some g) (hn:n=cap) (hc:cap<=maxLen):Rep w ρ (.msl id z off n) (.slice (some ⟨g,off,none⟩) n cap)
 |fn (f:FuncId) (first cap:List SV) (fv cv:Array Value) (hf:fv.size=first.length) (hc:cv.size=cap.length)
   (h1: ∀(j:Nat) (s:SV) (v:Value),first[j]? =some s->fv[j]? =some v->Rep w ρ s v)
   (h2: ∀(j:Nat) (s:SV) (v:Value),cap[j]? =some s->cv[j]? =some v->Rep w ρ s v):Rep w ρ (.fn f first cap) (.func (.func f) fv cv)
 |mw (id z n cap:Nat) (A:Option Addr) (hn:n<=cap) (hc:cap<=maxLen) (hA:n≠0-> ∃g,A=some ⟨g,0,none⟩) (h1:n<=ρ.n id) (h2:n=ρ.n id-> .slice A n cap=ρ.tv id):Rep w ρ (.mw id z n) (.slice A n cap)
 |ms (id z lo n ver cap:Nat) (A:Option Addr) (hn:n<=cap) (hc:cap<=maxLen) (hA:n≠0-> ∃a,A=some a) (h1:ver<=ρ.n id) (h2:ver=ρ.n id->aKf z lo n (ρ.tv id) (.slice A n cap)):Rep w ρ (.ms id z lo n ver) (.slice A n cap)
 |mp (id z i off ver:Nat) (a:Addr) (h1:ver<=ρ.n id) (h2:ver=ρ.n id-> ∃g,dM (ρ.tv id)=some g/\a=⟨g,i * z+off,none⟩):Rep w ρ (.mp id z i off ver) (.pointer (some a))
 |zc (A:Option Addr):Rep w ρ .zc (.slice A 0 0)
 |yld (id l:Nat) (h:ρ.blk id=some l):Rep w ρ (.yld id) (.func (.yield l) #[] #[])
 |xv (id:Nat) (mk:Nat->Value) (g:Nat) (h:ρ.blk id=some g) (h1:(mk g).oneCell'=true):Rep w ρ (.xv id mk) (mk g)
theorem RepD.of_sl {w:World}{S:Nat->Nat->Prop}{z:Nat}{rows:List (List D)}{v:Value}(h:RepD w S (.sl z rows) v):
  ∃(A:Option Addr) (cap b off:Nat),v= .slice A rows.length cap/\rows.length<=cap/\cap<=maxLen/\(rows≠[]->A=some ⟨b,off,none⟩)/\View w S z rows b off:=by
 cases h with
 |sl z rows A cap b off f hz hn hc hA hcell hrep=>
  exact⟨A,cap,b,off,rfl,hn,hc,hA,hz,λi row j x h1 h2=>⟨_,(hcell i row j x h1 h2).1,(hcell i row j x h1 h2).2.1,(hcell i row j x h1 h2).2.2,hrep i row j x h1 h2⟩⟩
open Classical in
theorem RepD.mk_sl {w:World}{S:Nat->Nat->Prop}{z:Nat}{rows:List (List D)}{A:Option Addr}{cap b off n:Nat}(hn:rows.length<=cap) (hc:cap<=maxLen)
  (hA:rows≠[]->A=some ⟨b,off,none⟩) (hv:View w S z rows b off) (he:n=rows.length):RepD w S (.sl z rows) (.slice A n cap):=by
 subst he
 have key: ∀(i:Nat) (row:List D) (j:Nat) (x:D),rows[i]? =some row->row[j]? =some x->
   w.cell? ⟨b,off+(i * z+j),none⟩=some ((w.cell? ⟨b,off+(i * z+j),none⟩).getD undef):=by
  intro i row j x h1 h2
  obtain⟨v,hv1,_⟩:=hv.cell i row j x h1 h2
  rw [hv1];rfl
 refine RepD.sl z rows A cap b off (λk=>(w.cell? ⟨b,off+k,none⟩).getD undef) hv.hz hn hc hA ?_ ?_
 ·intro i row j x h1 h2
  obtain⟨v,hv1,hs,ho,_⟩:=hv.cell i row j x h1 h2
  exact⟨key i row j x h1 h2,hs,by simp only [hv1,Option.getD_some];exact ho⟩
 ·intro i row j x h1 h2
  obtain⟨v,hv1,hs,ho,hr⟩:=hv.cell i row j x h1 h2
  simp only [hv1,Option.getD_some];exact hr
def bL (S:Nat->Nat->Prop) (w w':World):Prop:= ∀b i,S b i->w'.cell? ⟨b,i,none⟩=w.cell? ⟨b,i,none⟩
theorem RepD.mono {w w':World}{S S':Nat->Nat->Prop}{x:D}{v:Value}(h:RepD w S x v) (hk:bL S w w') (hs: ∀b i,S b i->S' b i):RepD w' S' x v:=by
 induction h with
 |int k n=>exact .int k n
 |bool b=>exact .bool b
 |str l h=>exact .str l h
 |nil=>exact .nil
 |sl z rows A cap b off f hz hn hc hA hcell hrep ih=>
  refine .sl z rows A cap b off f hz hn hc hA ?_ ih
  intro i row j x h1 h2
  obtain⟨a1,a2,a3⟩:=hcell i row j x h1 h2
  exact⟨(hk _ _ a2).trans a1,hs _ _ a2,a3⟩
 |agg cs vs hl h ih=>exact .agg cs vs hl ih
 |lit v=>exact .lit v
theorem View.mono {w w':World}{S S':Nat->Nat->Prop}{z:Nat}{rows:List (List D)}{b off:Nat}(h:View w S z rows b off) (hk:bL S w w') (hs: ∀b i,S b i->S' b i):View w' S' z rows b off:=
 ⟨h.hz, λi row j x h1 h2 => by
  obtain⟨v,a1,a2,a3,a4⟩:=h.cell i row j x h1 h2
  exact⟨v,(hk _ _ a2).trans a1,hs _ _ a2,a3,a4.mono hk hs⟩⟩
mutual
def SV.ids:SV->List Nat
 | .d _=>[]
 | .agg cs=>SV.idsL cs
 | .tup cs=>SV.idsL cs
 | .ptr id _=>[id]
 | .ea _ _ _ _=>[]
 | .osl id _ _=>[id]
 | .msl id _ _ _=>[id]
 | .fn _ first cap=>SV.idsL first++SV.idsL cap
 | .mw id _ _=>[id]
 | .ms id _ _ _ _=>[id]
 | .mp id _ _ _ _=>[id]
 | .zc=>[]
 | .yld id=>[id]
 | .xv id _=>[id]
def SV.idsL:List SV->List Nat
 | []=>[]
 |s::r=>SV.ids s++SV.idsL r
end
theorem SV.mem_idsL {cs:List SV}{j:Nat}{s:SV}{id:Nat}(h:cs[j]? =some s) (hm:id∈s.ids):id∈SV.idsL cs:=by
 induction cs generalizing j with
 |nil=>simp at h
 |cons c r ih=>
  cases j with
  |zero=>simp at h;subst h;simp [SV.idsL,hm]
  |succ j=>simp at h;simp [SV.idsL,ih h]
def Env.moved (ρ ρ':Env) (id:Nat):Prop:=ρ'.blk id=ρ.blk id/\((ρ'.n id=ρ.n id/\ρ'.tv id=ρ.tv id)\/ρ.n id < ρ'.n id)
theorem Env.moved_trans {ρ ρ' ρ'':Env}{id:Nat}(h:ρ.moved ρ' id) (k:ρ'.moved ρ'' id):ρ.moved ρ'' id:=by
 refine⟨k.1.trans h.1, ?_⟩
 rcases h.2 with⟨a,b⟩|a<;>rcases k.2 with⟨c,d⟩|c
 ·exact .inl ⟨c.trans a,d.trans b⟩
 ·right;omega
 ·right;omega
 ·right;omega
theorem Env.moved_refl (ρ:Env) (id:Nat):ρ.moved ρ id:=⟨rfl, .inl ⟨rfl,rfl⟩⟩
theorem Rep.mono {w w':World}{ρ ρ':Env}{s:SV}{v:Value}(h:Rep w ρ s v) (hk:bL ρ.S w w') (hs: ∀b i,ρ.S b i->ρ'.S b i)
  (hm: ∀id∈s.ids,ρ.moved ρ' id):Rep w' ρ' s v:=by
 induction h with
 |d x v h=>exact .d x v (h.mono hk hs)
 |agg cs vs hl h ih=>exact .agg cs vs hl λj s v h1 h2=>ih j s v h1 h2 λid hid=>hm id (by simp only [SV.ids];exact SV.mem_idsL h1 hid)
 |tup cs vs hl h ih=>exact .tup cs vs hl λj s v h1 h2=>ih j s v h1 h2 λid hid=>hm id (by simp only [SV.ids];exact SV.mem_idsL h1 hid)
 |ptr id off g h=>exact .ptr id off g ((hm id (by simp [SV.ids])).1.trans h)
 |ea z rows i off b o h=>exact .ea z rows i off b o (h.mono hk hs)
 |osl id z rows v h hn ht=>
  obtain⟨_,hh⟩:=hm id (by simp [SV.ids])
  rcases hh with⟨e1,e2⟩|hlt
  ·exact .osl id z rows v (h.mono hk hs) (by rw [e1];exact hn) (by rw [e1,e2];exact ht)
  ·exact .osl id z rows v (h.mono hk hs) (by omega) (λe=>by omega)
 |msl id z off n g cap h hn hc=>exact .msl id z off n g cap ((hm id (by simp [SV.ids])).1.trans h) hn hc
 |fn f first cap fv cv hf hc h1 h2 ih1 ih2=>
  exact .fn f first cap fv cv hf hc (λj s v a b=>ih1 j s v a b λid hid=>hm id (by simp only [SV.ids,List.mem_append];exact .inl (SV.mem_idsL a hid)))
   (λj s v a b=>ih2 j s v a b λid hid=>hm id (by simp only [SV.ids,List.mem_append];exact .inr (SV.mem_idsL a hid)))
 |mw id z n cap A hn hc hA h1 h2=>
  obtain⟨_,hh⟩:=hm id (by simp [SV.ids])
  rcases hh with⟨e1,e2⟩|hlt
  ·exact .mw id z n cap A hn hc hA (by omega) (by rw [e1,e2];exact h2)
  ·exact .mw id z n cap A hn hc hA (by omega) (λe=>by omega)
 |ms id z lo n ver cap A hn hc hA h1 h2=>
  obtain⟨_,hh⟩:=hm id (by simp [SV.ids])
  rcases hh with⟨e1,e2⟩|hlt
  ·exact .ms id z lo n ver cap A hn hc hA (by omega) (by rw [e1,e2];exact h2)
  ·exact .ms id z lo n ver cap A hn hc hA (by omega) (λe=>by omega)
 |mp id z i off ver a h1 h2=>
  obtain⟨_,hh⟩:=hm id (by simp [SV.ids])
  rcases hh with⟨e1,e2⟩|hlt
  ·exact .mp id z i off ver a (by omega) (by rw [e1,e2];exact h2)
  ·exact .mp id z i off ver a (by omega) (λe=>by omega)
 |zc A=>exact .zc A
 |yld id l h=>exact .yld id l ((hm id (by simp [SV.ids])).1.trans h)
 |xv id mk g h h1=>exact .xv id mk g ((hm id (by simp [SV.ids])).1.trans h) h1
structure Flat (w:World) (S:Nat->Nat->Prop) (z:Nat) (rows:List (List D)) (vs:List Value):Prop where
 len:vs.length=rows.length * z
 hz: ∀row∈rows,row.length=z
 one: ∀v∈vs,v.oneCell'=true
 at_: ∀(i:Nat) (row:List D) (j:Nat) (x:D),rows[i]? =some row->row[j]? =some x-> ∃v,vs[i * z+j]? =some v/\RepD w S x v
abbrev Fr:=List (Nat×SV)
def dE:Fr->Nat->Option SV
 | [],_=>none
 |(k,s)::r,t=>if k=t then some s else dE r t
def fS (fr:Fr):List Nat:=fr.flatMap λp=>p.2.ids
def bW (ρ:Env) (w:World) (fr:Fr) (tm:Array Value):Prop:= ∀t s,dE fr t=some s-> ∃v,tm[t]? =some v/\Rep w ρ s v
inductive LoopAt where
 |ready
 |busy
 |done (c:Code)
structure LoopI where
 nt:Nat
 ps:Array Tmp
 assign:Code
 body:Code
 fr:Fr
structure ExtO where
 ids:List Nat
 sat:World->Env->Obj->Prop
 keep: ∀(w w':World) (ρ ρ':Env) (o:Obj),bL ρ.S w w'->(∀b i,ρ.S b i->ρ'.S b i)->(∀id∈ids,ρ.moved ρ' id)->sat w ρ o->sat w' ρ' o
 nd: ∀(w:World) (ρ:Env) (x:Option (List Deferred)),¬ sat w ρ (.deferred x)
inductive HObj where
 |cells (t:TypeId) (cs:List SV)
 |ro (t:TypeId) (cs:List SV)
 |own (e z n:Nat)
 |mrow (e z cap:Nat) (rows:List (List D))
 |loop (L:LoopI) (at_:LoopAt)
 |ext (X:ExtO)
 |glob (g z:Nat) (rows:List (List D))
 |rox (X:ExtO)
def HObj.ids:HObj->List Nat
 | .cells _ cs=>SV.idsL cs
 | .ro _ cs=>SV.idsL cs
 | .own _ _ _=>[]
 | .mrow _ _ _ _=>[]
 | .loop L _=>fS L.fr
 | .ext X=>X.ids
 | .glob _ _ _=>[]
 | .rox X=>X.ids
def cI (w:World) (ρ:Env) (g:Nat) (t:TypeId) (cs:List SV):Prop:=
 ∃cur:Array Value,w.heap[g]? =some (.cells cur t (0,0))/\cur.size=cs.length/\(∀v∈cur,v.oneCell'=true)/\ ∀(j:Nat) (s:SV) (v:Value),cs[j]? =some s->cur[j]? =some v->Rep w ρ s v
def dY (w:World) (S:Nat->Nat->Prop) (e z cap:Nat) (rows:List (List D)) (v:Value):Prop:=
 (rows=[]/\cap=0/\ ∃A,v= .slice A 0 0)\/
 (0 < cap /\ ∃ g cur, v = .slice (some ⟨g, 0, none⟩) rows.length cap /\ w.heap[g]? = some (.cells cur e (0, 0)) /\ rows.length <= cap /\ cap <= maxLen /\ cur.size = cap * z /\
  Flat w S z rows (cur.toList.take (rows.length * z))/\ ∀i,¬ S g i)
def LoopAt.state:LoopAt->LoopState×Option Code
 | .ready=>(.ready,none)
 | .busy=>(.busy,none)
 | .done c=>(.done,some c)
def wL (w:World) (ρ:Env) (id:Nat):HObj->Prop
 | .cells t cs=> ∃g,ρ.blk id=some g/\cI w ρ g t cs/\ ∀i,¬ ρ.S g i
 | .ro t cs=> ∃g,ρ.blk id=some g/\cI w ρ g t cs
 | .own e z n=>ρ.n id=n/\ ∃xs,w.ownsRow 0 e z (ρ.tv id) (ρ.n id) xs/\(∀g,(ρ.tv id).ownBlock=some g-> ∀i,ρ.S g i->i < ρ.n id * z)/\ ∀v∈xs,v.oneCell'=true
 | .mrow e z cap rows=>ρ.n id=rows.length/\dY w ρ.S e z cap rows (ρ.tv id)
 | .loop L s=> ∃g r,ρ.blk id=some g/\w.heap[g]? =some (.loop r)/\r.params=L.ps/\r.assign=L.assign/\r.body=L.body/\r.tmps.size=L.nt/\bW ρ w L.fr r.tmps/\(r.state,r.pending)=s.state
 | .ext X=> ∃g o,ρ.blk id=some g/\w.heap[g]? =some o/\X.sat w ρ o/\ ∀i,¬ ρ.S g i
 | .glob g z rows=>View w ρ.S z rows g 0
 | .rox X=> ∃g o,ρ.blk id=some g/\w.heap[g]? =some o/\X.sat w ρ o
def Env.at (ρ:Env) (id:Nat):HObj->Option Nat
 | .cells _ _=>ρ.blk id
 | .ro _ _=>none
 | .own _ _ _=>(ρ.tv id).ownBlock
 | .mrow _ _ _ _=>dM (ρ.tv id)
 | .loop _ _=>ρ.blk id
 | .ext _=>ρ.blk id
 | .glob _ _ _=>none
 | .rox _=>none
def HObj.Rd:HObj->Prop
 | .ro _ _=>True
 | .rox _=>True
 |_=>False
abbrev Hp:=List (Nat×HObj)
def aM:Hp->Nat->Option HObj
 | [],_=>none
 |(k,o)::r,t=>if k=t then some o else aM r t
def dQ:Hp->Nat->HObj->Hp
 | [],_,_=>[]
 |(k,o)::r,t,x=>if k=t then (k,x)::r else (k,o)::dQ r t x
def jP (hp:Hp):List Nat:=hp.flatMap λp=>p.1::p.2.ids
theorem aAk {fr:Fr}{t:Nat}{s:SV}{id:Nat}(h:dE fr t=some s) (hm:id∈s.ids):id∈fS fr:=by
 induction fr with
 |nil=>simp [dE]at h
 |cons p r ih=>
  obtain⟨k,s'⟩:=p
  simp only [dE]at h
  simp only [fS,List.flatMap_cons,List.mem_append]
  by_cases e:k=t
  ·simp [e]at h;subst h;exact .inl hm
  ·simp [e]at h;exact .inr (ih h)
theorem bA {hp:Hp}{i:Nat}{o:HObj}{id:Nat}(h:aM hp i=some o) (hm:id=i\/id∈o.ids):id∈jP hp:=by
 induction hp with
 |nil=>simp [aM]at h
 |cons p r ih=>
  obtain⟨k,o'⟩:=p
  simp only [aM]at h
  simp only [jP,List.flatMap_cons,List.mem_append,List.mem_cons]
  by_cases e:k=i
  ·simp [e]at h;subst h;subst e
   rcases hm with rfl|hm
   ·exact .inl (.inl rfl)
   ·exact .inl (.inr hm)
  ·simp [e]at h;exact .inr (ih h)
structure Pin where
 ids:List Nat
 kp:Fr->Hp->Prop
 pre:List Deferred
 pv:Option (TypeId->Value->Prop)
instance:Membership Nat Pin:=⟨λp k=>k∈p.ids⟩
instance:HAppend Pin (List Nat) Pin:=⟨λp l=>⟨p.ids++l,p.kp,[],p.pv⟩⟩
def aOp:Option (TypeId->Value->Prop)->TypeId->Value->Prop
 |none,_,_=>True
 |some f,t,v=>f t v
def pvK:Option (TypeId->Value->Prop)->TypeId->Value->Prop->Prop
 |none,_,_,K=>K
 |some f,t,v,K=>f t v/\K
theorem aJs {pv:Option (TypeId->Value->Prop)}{t:TypeId}{v:Value}{K:Prop}(h:pvK pv t v K):aOp pv t v/\K:=by
 cases pv with
 |none=>exact⟨trivial,h⟩
 |some f=>exact h
def Chn (pv:Option (TypeId->Value->Prop)) (ch:List PanicEntry):Prop:= ∃t v,ch=[{ v:= .iface t v,recovered:=false }]/\aOp pv t v
def dL (l:List Nat):Pin:=⟨l,λ_ _=>False,[],none⟩
def Pin.calm (p:Pin):Pin:=⟨p.ids,λ_ _=>False,[],p.pv⟩
@[simp] theorem aOd {k:Nat} {p:Pin}:k∈p.calm↔k∈p:=Iff.rfl
@[simp] theorem aOc {k:Nat} {l:List Nat}:k∈dL l↔k∈l:=Iff.rfl
@[simp] theorem aOb {k:Nat} {p:Pin} {l:List Nat}:k∈p++l↔k∈p\/k∈l:=List.mem_append
def Pin.under (p:Pin) (fr:Fr) (l:List Nat):Pin:=⟨p.ids++l,λ_ hp=>p.kp fr hp,[],p.pv⟩
@[simp] theorem pN {k:Nat} {p:Pin} {fr:Fr} {l:List Nat}:k∈p.under fr l↔k∈p\/k∈l:=List.mem_append
@[simp] theorem aO8 {p:Pin} {l:List Nat}:(p++l).pre=[]:=rfl
@[simp] theorem aOr {p:Pin} {l:List Nat}:(p++l).kp=p.kp:=rfl
structure Entry where
 w:World
 S:Nat->Nat->Prop
 B:Nat->Prop
 pin:Pin
 ρ:Env
 rd:Option Nat
 D:List Nat
 k:Nat
def aH8 (a b:World):Prop:=a.output=b.output/\b.drawn<=a.drawn
theorem aH8.trans {a b c:World}(h:aH8 a b) (k:aH8 b c):aH8 a c:=⟨h.1.trans k.1,Nat.le_trans k.2 h.2⟩
theorem aH8.refl (a:World):aH8 a a:=⟨rfl,Nat.le_refl _⟩
structure Mem (E:Entry) (ρ:Env) (hp:Hp) (w:World):Prop where
 os:w.os=E.w.os
 tape:w.tape=E.w.tape
 output:aH8 w E.w
 size:E.w.heap.size<=w.heap.size
 old: ∀b,b < E.w.heap.size->¬ E.B b->w.heap[b]? =E.w.heap[b]?
 sold: ∀b i,E.S b i->ρ.S b i
 snew: ∀b i,ρ.S b i->b < E.w.heap.size->¬ E.B b->E.S b i
 slt: ∀b i,ρ.S b i->b < w.heap.size
 kp:bL E.S E.w w
 sat: ∀id o,aM hp id=some o->wL w ρ id o
 inj: ∀id o id' o' g,aM hp id=some o->aM hp id'=some o'->ρ.at id o=some g->ρ.at id' o'=some g->id=id'
 hb: ∀id o g,aM hp id=some o->ρ.at id o=some g->E.w.heap.size<=g\/E.B g
 mv: ∀id∈E.pin,E.ρ.moved ρ id
 ro: ∀id o g,aM hp id=some o->o.Rd->ρ.blk id=some g->(∀id' o',aM hp id'=some o'->ρ.at id' o'≠some g)
 md: ∀b∈E.D,w.heap[b]? =some (.deferred (some []))
theorem Mem.calm {E:Entry}{ρ:Env}{hp:Hp}{w:World}(h:Mem E ρ hp w):Mem { E with pin:=E.pin.calm } ρ hp w:=
 ⟨h.os,h.tape,h.output,h.size,h.old,h.sold,h.snew,h.slt,h.kp,h.sat,h.inj,h.hb,h.mv,h.ro,h.md⟩
theorem Mem.uncalm {E:Entry}{ρ:Env}{hp:Hp}{w:World}(h:Mem { E with pin:=E.pin.calm } ρ hp w):Mem E ρ hp w:=
 ⟨h.os,h.tape,h.output,h.size,h.old,h.sold,h.snew,h.slt,h.kp,h.sat,h.inj,h.hb,h.mv,h.ro,h.md⟩
structure St where
 fr:Fr
 hp:Hp
def tZ (b:Nat):Deferred:={ target:= .collected b,args:= #[] }
structure Sat (E:Entry) (nt:Nat) (σ:St) (a:Act) (w:World):Prop where
 nt:a.tmps.size=nt
 df:a.defers=(E.D.take E.k).map tZ++E.pin.pre
 mem: ∃ρ,Mem E ρ σ.hp w/\bW ρ w σ.fr a.tmps
theorem lnS:(∀{α:Type}(l:List α) (i:Nat) (a:α),(l.set i a).length=l.length)/\(∀{α:Type}(n:Nat) (a:α),(List.replicate n a).length=n)/\(∀{α β:Type}(f:α->β) (l:List α),(l.map f).length=l.length)/\
  (∀{α:Type} (l m:List α),(l++m).length=l.length+m.length)/\(∀{α:Type} (i:Nat) (l:List α),(l.drop i).length=l.length - i)/\(∀{α:Type} (i:Nat) (l:List α),(l.take i).length=min i l.length)/\
  (∀{α:Type} (a:α) (l:List α),(a::l).length=l.length+1)/\(∀{α:Type},([]:List α).length=0):=
 ⟨λl i a=>List.length_set ..,λn a=>List.length_replicate ..,λf l=>List.length_map ..,λl m=>List.length_append ..,λi l=>List.length_drop ..,λi l=>List.length_take ..,λa l=>List.length_cons ..,List.length_nil⟩
end
section
open Go.RowKit
structure Grew (w w':World):Prop where
 os:w'.os=w.os
 tape:w'.tape=w.tape
 output:aH8 w' w
 size:w.heap.size<=w'.heap.size
 block: ∀b,b < w.heap.size->w'.heap[b]? =w.heap[b]?
theorem Grew.refl (w:World):Grew w w:=⟨rfl,rfl, .refl _,Nat.le_refl _,λ_ _=>rfl⟩
theorem Grew.trans {a b c:World}(h:Grew a b) (k:Grew b c):Grew a c:=
 ⟨k.os.trans h.os,k.tape.trans h.tape,k.output.trans h.output,Nat.le_trans h.size k.size,λi hi=>(k.block i (Nat.lt_of_lt_of_le hi h.size)).trans (h.block i hi)⟩
theorem Grew.drew (w:World):Grew w w.drew:=⟨rfl,rfl,⟨rfl,Nat.le_succ _⟩,Nat.le_refl _,λ_ _=>rfl⟩
theorem Grew.drewN (w:World) (n:Nat):Grew w (w.drewN n):=⟨rfl,rfl,⟨rfl,Nat.le_add_right _ _⟩,Nat.le_refl _,λ_ _=>rfl⟩
theorem Grew.alloc (w:World) (o:Obj):Grew w (w.alloc o):=⟨rfl,rfl,⟨rfl,Nat.le_refl _⟩,by simp,λb hb=>Below.heap_alloc w o b hb⟩
theorem Grew.below {w w':World}(h:Grew w w'):Below w.heap.size w w':=⟨h.os,h.tape,h.output.1,h.size,h.block⟩
theorem Grew.keeps {w w':World}(h:Grew w w') {S:Nat->Nat->Prop}(hs: ∀b i,S b i->b < w.heap.size):bL S w w':=
 λb i hb=>World.cell?_of_block (w:=w) (h.block b (hs b i hb))
theorem bL.trans {S S':Nat->Nat->Prop}{a b c:World}(h:bL S a b) (hs: ∀x i,S x i->S' x i) (k:bL S' b c):bL S a c:= λx i hx=>(k x i (hs x i hx)).trans (h x i hx)
theorem aW {w:World}{g:Nat}{o:Obj}(h:w.heap[g]? =some o):g < w.heap.size:=(Array.getElem?_eq_some_iff.1 h).1
def Env.withS (ρ:Env) (S:Nat->Nat->Prop):Env:={ ρ with S:=S }
theorem Env.moved_withS (ρ:Env) (S:Nat->Nat->Prop) (id:Nat):ρ.moved (ρ.withS S) id:=⟨rfl, .inl ⟨rfl,rfl⟩⟩
theorem cI.mono {w w':World}{ρ ρ':Env}{g:Nat}{t:TypeId}{cs:List SV}(h:cI w ρ g t cs) (hb:w'.heap[g]? =w.heap[g]?) (hk:bL ρ.S w w') (hs: ∀b i,ρ.S b i->ρ'.S b i)
  (hm: ∀id∈SV.idsL cs,ρ.moved ρ' id):cI w' ρ' g t cs:=by
 obtain⟨cur,h1,h2,h3,h4⟩:=h
 exact⟨cur,hb.trans h1,h2,h3,λj s v a b=>(h4 j s v a b).mono hk hs λid hid=>hm id (SV.mem_idsL a hid)⟩
theorem vJ {w w':World}{base:Nat}{e:TypeId}{size:Nat}{v:Value}{n:Nat}{xs:List Value}(h:w.ownsRow base e size v n xs) (hb: ∀g,v.ownBlock=some g->w'.heap[g]? =w.heap[g]?):
  w'.ownsRow base e size v n xs:=by
 refine⟨h.1, ?_⟩
 rcases h.2 with hn|⟨g,cap,cur,rfl,hbb,hg,rest⟩
 ·exact .inl hn
 ·exact .inr ⟨g,cap,cur,rfl,hbb,(hb g (by simp [Value.ownBlock])).trans hg,rest⟩
theorem Flat.mono {w w':World}{S S':Nat->Nat->Prop}{z:Nat}{rows:List (List D)}{vs:List Value}(h:Flat w S z rows vs) (hk:bL S w w') (hs: ∀b i,S b i->S' b i):Flat w' S' z rows vs:=
 ⟨h.len, h.hz, h.one, λi row j x h1 h2 => by
  obtain⟨v,a,b⟩:=h.at_ i row j x h1 h2
  exact⟨v,a,b.mono hk hs⟩⟩
theorem dY.heap {w:World}{S:Nat->Nat->Prop}{e z cap:Nat}{rows:List (List D)}{v:Value}(h:dY w S e z cap rows v) {g:Nat}(hg:dM v=some g): ∃cur,w.heap[g]? =some (.cells cur e (0,0)):=by
 rcases h with⟨_,_,A,rfl⟩|⟨hc,g',cur,rfl,h1,_⟩
 ·cases A<;>simp [dM]at hg
 ·have:cap≠0:=by omega
  simp only [dM,this,if_false,Option.some.injEq]at hg
  subst hg
  exact⟨cur,h1⟩
theorem dY.mono {w w':World}{S S':Nat->Nat->Prop}{e z cap:Nat}{rows:List (List D)}{v:Value}(h:dY w S e z cap rows v) (hb: ∀g,dM v=some g->w'.heap[g]? =w.heap[g]?) (hk:bL S w w')
  (hs: ∀b i,S b i->S' b i) (hS: ∀g,dM v=some g-> ∀i,S' g i->S g i):dY w' S' e z cap rows v:=by
 rcases h with h|⟨hc,g,cur,rfl,h1,h2,h3,h4,h6,h7⟩
 ·exact .inl h
 ·have hm:dM (.slice (some ⟨g,0,none⟩) rows.length cap)=some g:=by
   have:cap≠0:=by omega
   simp [dM,this]
  exact .inr ⟨hc,g,cur,rfl,(hb g hm).trans h1,h2,h3,h4,h6.mono hk hs,λi hi=>h7 i (hS g hm i hi)⟩
theorem bW.mono {w w':World}{ρ ρ':Env}{fr:Fr}{tm:Array Value}(h:bW ρ w fr tm) (hk:bL ρ.S w w') (hs: ∀b i,ρ.S b i->ρ'.S b i)
  (hm: ∀id∈fS fr,ρ.moved ρ' id):bW ρ' w' fr tm:= λt s hg=>by
 obtain⟨v,h1,h2⟩:=h t s hg
 exact⟨v,h1,h2.mono hk hs λid hid=>hm id (aAk hg hid)⟩
theorem wL.blk_lt {w:World}{ρ:Env}{id:Nat}{o:HObj}{g:Nat}(h:wL w ρ id o) (hg:ρ.at id o=some g):g < w.heap.size:=by
 cases o with
 |cells t cs=>
  obtain⟨g',h1,⟨cur,h2,_⟩,_⟩:=h
  simp only [Env.at]at hg
  rw [h1]at hg
  injection hg with hg
  subst hg
  exact aW h2
 |ro t cs=>simp [Env.at]at hg
 |own e z n=>
  obtain⟨_,xs,h1,_⟩:=h
  exact(h1.lt g hg).2
 |mrow e z cap rows=>
  obtain⟨_,h1⟩:=h
  obtain⟨cur,h2⟩:=h1.heap hg
  exact aW h2
 |loop L s=>
  obtain⟨g',r,h1,h2,_⟩:=h
  simp only [Env.at]at hg
  rw [h1]at hg
  injection hg with hg
  subst hg
  exact aW h2
 |ext X=>
  obtain⟨g',r,h1,h2,_⟩:=h
  simp only [Env.at]at hg
  rw [h1]at hg
  injection hg with hg
  subst hg
  exact aW h2
 |glob g z rows=>simp [Env.at]at hg
 |rox X=>simp [Env.at]at hg
theorem wL.keep {w w':World}{ρ ρ':Env}{id:Nat}{o:HObj}(h:wL w ρ id o) (hk:bL ρ.S w w') (hs: ∀b i,ρ.S b i->ρ'.S b i)
  (hm: ∀i,i=id\/i∈o.ids->ρ.moved ρ' i) (hn:ρ'.n id=ρ.n id/\ρ'.tv id=ρ.tv id)
  (hb: ∀g,(ρ.at id o=some g\/ρ.blk id=some g/\o.Rd)->w'.heap[g]? =w.heap[g]?)
  (hS: ∀g,ρ.at id o=some g-> ∀i,ρ'.S g i->ρ.S g i):wL w' ρ' id o:=by
 have hbl:=(hm id (.inl rfl)).1
 cases o with
 |cells t cs=>
  obtain⟨g,h1,h2,h3⟩:=h
  exact⟨g,hbl.trans h1,h2.mono (hb g (.inl h1)) hk hs λi hi=>hm i (.inr hi),λi hi=>h3 i (hS g h1 i hi)⟩
 |ro t cs=>
  obtain⟨g,h1,h2⟩:=h
  exact⟨g,hbl.trans h1,h2.mono (hb g (.inr ⟨h1,trivial⟩)) hk hs λi hi=>hm i (.inr hi)⟩
 |own e z n=>
  obtain⟨h0,xs,h1,h2,h3⟩:=h
  refine⟨hn.1.trans h0,xs, ?_, ?_,h3⟩
  ·rw [hn.1,hn.2]
   exact vJ h1 λg hg=>hb g (.inl hg)
  ·rw [hn.1,hn.2]
   exact λg hg i hi=>h2 g hg i (hS g hg i hi)
 |mrow e z cap rows=>
  obtain⟨h0,h1⟩:=h
  refine⟨hn.1.trans h0, ?_⟩
  rw [hn.2]
  exact h1.mono (λg hg=>hb g (.inl hg)) hk hs (λg hg=>hS g hg)
 |loop L s=>
  obtain⟨g,r,h1,h2,h3,h4,h5,h6,h7,h8⟩:=h
  exact⟨g,r,hbl.trans h1,(hb g (.inl h1)).trans h2,h3,h4,h5,h6,h7.mono hk hs λi hi=>hm i (.inr hi),h8⟩
 |ext X=>
  obtain⟨g,r,h1,h2,h3,h4⟩:=h
  exact⟨g,r,hbl.trans h1,(hb g (.inl h1)).trans h2,X.keep w w' ρ ρ' r hk hs (λi hi=>hm i (.inr hi)) h3,λi hi=>h4 i (hS g h1 i hi)⟩
 |glob g z rows=>exact View.mono h hk hs
 |rox X=>
  obtain⟨g,r,h1,h2,h3⟩:=h
  exact⟨g,r,hbl.trans h1,(hb g (.inr ⟨h1,trivial⟩)).trans h2,X.keep w w' ρ ρ' r hk hs (λi hi=>hm i (.inr hi)) h3⟩
theorem Mem.blk_lt {E:Entry}{ρ:Env}{hp:Hp}{w:World}(h:Mem E ρ hp w) {id:Nat}{o:HObj}{g:Nat}(ho:aM hp id=some o) (hg:ρ.at id o=some g):g < w.heap.size:=
 (h.sat id o ho).blk_lt hg
theorem Mem.ro_lt {E:Entry}{ρ:Env}{hp:Hp}{w:World}(h:Mem E ρ hp w) {id:Nat}{o:HObj}{g:Nat}(ho:aM hp id=some o) (hrd:o.Rd) (hg:ρ.blk id=some g):g < w.heap.size:=by
 have hs:=h.sat id _ ho
 cases o with
 |ro t cs=>
  obtain⟨g',h1,cur,h2,_⟩:=hs
  rw [h1]at hg
  injection hg with hg
  subst hg
  exact aW h2
 |rox X=>
  obtain⟨g',r,h1,h2,_⟩:=hs
  rw [h1]at hg
  injection hg with hg
  subst hg
  exact aW h2
 |_=>exact hrd.elim
theorem Mem.grow {E:Entry}{ρ:Env}{hp:Hp}{w w':World}(h:Mem E ρ hp w) (hg:Grew w w') (S':Nat->Nat->Prop)
  (h1: ∀b i,ρ.S b i->S' b i) (h2: ∀b i,S' b i->ρ.S b i\/w.heap.size<=b) (h3: ∀b i,S' b i->b < w'.heap.size):
  Mem E (ρ.withS S') hp w'/\ ∀fr tm,bW ρ w fr tm->bW (ρ.withS S') w' fr tm:=by
 have hk:bL ρ.S w w':=hg.keeps h.slt
 refine⟨⟨hg.os.trans h.os,hg.tape.trans h.tape,hg.output.trans h.output,Nat.le_trans h.size hg.size, ?_, ?_, ?_,h3,h.kp.trans h.sold hk, ?_, ?_, ?_, ?_, ?_,λb hb=>(hg.block b (aW (h.md b hb))).trans (h.md b hb)⟩, ?_⟩
 ·exact λb hb hB=>(hg.block b (Nat.lt_of_lt_of_le hb h.size)).trans (h.old b hb hB)
 ·exact λb i hs=>h1 b i (h.sold b i hs)
 ·intro b i hs hb hB
  rcases h2 b i hs with hs'|hge
  ·exact h.snew b i hs' hb hB
  ·have:=h.size;omega
 ·intro id o ho
  refine(h.sat id o ho).keep hk h1 (λi _=>ρ.moved_withS S' i) ⟨rfl,rfl⟩ ?_ ?_
  ·rintro g (hg'|⟨hg',hrd⟩)
   ·exact hg.block g (h.blk_lt ho hg')
   ·exact hg.block g (h.ro_lt ho hrd hg')
  ·intro g hg' i hi
   rcases h2 g i hi with hs'|hge
   ·exact hs'
   ·have:=h.blk_lt ho hg';omega
 ·exact h.inj
 ·exact h.hb
 ·exact λid hid=>Env.moved_trans (h.mv id hid) (ρ.moved_withS S' id)
 ·exact h.ro
 ·exact λfr tm hf=>hf.mono hk h1 λi _=>ρ.moved_withS S' i
theorem Mem.grow_same {E:Entry}{ρ:Env}{hp:Hp}{w w':World}(h:Mem E ρ hp w) (hg:Grew w w'):
  Mem E ρ hp w'/\ ∀fr tm,bW ρ w fr tm->bW ρ w' fr tm:=by
 have:=h.grow hg ρ.S (λ_ _ x=>x) (λ_ _ x=> .inl x) (λb i x=>Nat.lt_of_lt_of_le (h.slt b i x) hg.size)
 simpa [Env.withS]using this
theorem RepD.grow {w w':World}{S:Nat->Nat->Prop}{x:D}{v:Value}(h:RepD w S x v) (hg:Grew w w') (hs: ∀b i,S b i->b < w.heap.size):RepD w' S x v:=
 h.mono (hg.keeps hs) λ_ _ x=>x
theorem Rep.grow {w w':World}{ρ:Env}{s:SV}{v:Value}(h:Rep w ρ s v) (hg:Grew w w') (hs: ∀b i,ρ.S b i->b < w.heap.size):Rep w' ρ s v:=
 h.mono (hg.keeps hs) (λ_ _ x=>x) λid _=>ρ.moved_refl id
def Env.upd (ρ:Env) (id g:Nat):Env:={ ρ with blk:= λi=>if i=id then some g else ρ.blk i }
theorem Env.moved_upd (ρ:Env) {id g i:Nat}(h:i≠id):ρ.moved (ρ.upd id g) i:=⟨by simp [Env.upd,h], .inl ⟨rfl,rfl⟩⟩
theorem cF {hp:Hp}{k:Nat}{o:HObj}{t:Nat}(h:k≠t):aM ((k,o)::hp) t=aM hp t:=by simp [aM,h]
theorem cI.alloc {w:World}{ρ ρ':Env}{vs:Array Value}{t:TypeId}{cs:List SV}(hl:vs.size=cs.length) (h1: ∀v∈vs,v.oneCell'=true)
  (hr: ∀(j:Nat) (s:SV) (v:Value),cs[j]? =some s->vs[j]? =some v->Rep w ρ s v) (hslt: ∀b i,ρ.S b i->b < w.heap.size) (hS: ∀b i,ρ.S b i->ρ'.S b i)
  (hm: ∀i∈SV.idsL cs,ρ.moved ρ' i):cI (w.alloc (.cells vs t)) ρ' w.heap.size t cs:=
 ⟨vs,heap_alloc_new w _,hl,h1,λj s v a b=>(hr j s v a b).mono ((Grew.alloc w _).keeps hslt) hS λi hi=>hm i (SV.mem_idsL a hi)⟩
theorem Mem.alloc {E:Entry}{ρ:Env}{hp:Hp}{w:World}(h:Mem E ρ hp w) (id:Nat) (vs:Array Value) (t:TypeId) (cs:List SV)
  (hid:id∉jP hp) (hpin:id∉E.pin) (hl:vs.size=cs.length) (h1: ∀v∈vs,v.oneCell'=true)
  (hr: ∀(j:Nat) (s:SV) (v:Value),cs[j]? =some s->vs[j]? =some v->Rep w ρ s v) (hids:id∉SV.idsL cs):
  Mem E (ρ.upd id w.heap.size) ((id, .cells t cs)::hp) (w.alloc (.cells vs t))/\
  (∀fr tm,id∉fS fr->bW ρ w fr tm->bW (ρ.upd id w.heap.size) (w.alloc (.cells vs t)) fr tm)/\
  (∀s v,id∉s.ids->Rep w ρ s v->Rep (w.alloc (.cells vs t)) (ρ.upd id w.heap.size) s v):=by
 have hg:=Grew.alloc w (.cells vs t)
 have hk:bL ρ.S w _:=hg.keeps h.slt
 have hmv: ∀i,i≠id->ρ.moved (ρ.upd id w.heap.size) i:= λi hi=>ρ.moved_upd hi
 have hat: ∀i o,i≠id->(ρ.upd id w.heap.size).at i o=ρ.at i o:=by
  intro i o hi
  cases o<;>simp [Env.at,Env.upd,hi]
 have hne: ∀i o,aM hp i=some o->i≠id:= λi o ho e=>hid (e ▸ bA ho (.inl rfl))
 have hget: ∀i o,aM ((id,HObj.cells t cs)::hp) i=some o->(i=id/\o= .cells t cs)\/(i≠id/\aM hp i=some o):=by
  intro i o ho
  by_cases e:i=id
  ·subst e;simp [aM]at ho;exact .inl ⟨rfl,ho.symm⟩
  ·rw [cF (λh=>e h.symm)]at ho;exact .inr ⟨e,ho⟩
 refine⟨⟨h.os,h.tape,h.output,by have:=h.size;simp;omega, ?_,h.sold,h.snew, ?_,h.kp.trans h.sold hk, ?_, ?_, ?_, ?_, ?_,λb hb=>(hg.block b (aW (h.md b hb))).trans (h.md b hb)⟩, ?_, ?_⟩
 ·exact λb hb hB=>(hg.block b (Nat.lt_of_lt_of_le hb h.size)).trans (h.old b hb hB)
 ·intro b i hs;have:=h.slt b i hs;simp;omega
 ·intro i o ho
  rcases hget i o ho with⟨rfl,rfl⟩|⟨e,ho'⟩
  ·refine⟨w.heap.size,by simp [Env.upd], ?_,λj hj=> ?_⟩
   ·exact cI.alloc (ρ:=ρ) hl h1 hr h.slt (λ_ _ x=>x) λj hj=>hmv j λe=>hids (e ▸ hj)
   ·have:=h.slt _ j hj;omega
  ·refine(h.sat i o ho').keep hk (λ_ _ x=>x) ?_ ⟨rfl,rfl⟩ ?_ (λ_ _ _ x=>x)
   ·rintro j hj
    exact hmv j λe'=>hid (e' ▸ bA ho' hj)
   ·rintro g (hg'|⟨hg',hrd⟩)
    ·exact hg.block g (h.blk_lt ho' hg')
    ·exact hg.block g (h.ro_lt ho' hrd hg')
 ·intro i o i' o' g ho ho' hg1 hg2
  rcases hget i o ho with⟨rfl,rfl⟩|⟨e,ho1⟩
  ·rcases hget i' o' ho' with⟨rfl,rfl⟩|⟨e',ho1'⟩
   ·rfl
   ·rw [hat i' o' e']at hg2
    have hlt:=h.blk_lt ho1' hg2
    simp [Env.at,Env.upd]at hg1
    omega
  ·rw [hat i o e]at hg1
   rcases hget i' o' ho' with⟨rfl,rfl⟩|⟨e',ho1'⟩
   ·have hlt:=h.blk_lt ho1 hg1
    simp [Env.at,Env.upd]at hg2
    omega
   ·rw [hat i' o' e']at hg2
    exact h.inj i o i' o' g ho1 ho1' hg1 hg2
 ·intro i o g ho hg1
  rcases hget i o ho with⟨rfl,rfl⟩|⟨e,ho1⟩
  ·simp [Env.at,Env.upd]at hg1
   have:=h.size;omega
  ·rw [hat i o e]at hg1
   exact h.hb i o g ho1 hg1
 ·exact λi hi=>Env.moved_trans (h.mv i hi) (hmv i λe=>hpin (e ▸ hi))
 ·intro i oR g ho hrd hg1 i' o' ho' hg2
  rcases hget i _ ho with⟨_,hc⟩|⟨e,ho1⟩
  ·rw [hc]at hrd;exact hrd.elim
  ·have hg1':ρ.blk i=some g:=by simpa [Env.upd,e]using hg1
   rcases hget i' o' ho' with⟨rfl,rfl⟩|⟨e',ho1'⟩
   ·have:=h.ro_lt ho1 hrd hg1'
    simp [Env.at,Env.upd]at hg2
    omega
   ·rw [hat i' o' e']at hg2
    exact h.ro i _ g ho1 hrd hg1' i' o' ho1' hg2
 ·exact λfr tm hf hfs=>hfs.mono hk (λ_ _ x=>x) λi hi=>hmv i λe=>hf (e ▸ hi)
 ·exact λs v hs hr=>hr.mono hk (λ_ _ x=>x) λi hi=>hmv i λe=>hs (e ▸ hi)
def iH (cs:List SV) (off:Nat) (ns:List SV):List SV:=cs.take off++ns++cs.drop (off+ns.length)
theorem splice_getElem? {α:Type}(cs ns:List α) (off j:Nat) (h:off+ns.length<=cs.length):
  (cs.take off++ns++cs.drop (off+ns.length))[j]? =if j < off then cs[j]? else if j < off+ns.length then ns[j - off]? else cs[j]? :=by
 have hto:(cs.take off).length=off:=by rw [List.length_take];omega
 rw [List.append_assoc]
 by_cases h1:j < off
 ·rw [if_pos h1,List.getElem?_append_left (by omega),List.getElem?_take,if_pos h1]
 ·rw [if_neg h1,List.getElem?_append_right (by omega),hto]
  by_cases h2:j < off+ns.length
  ·rw [if_pos h2,List.getElem?_append_left (by omega)]
  ·rw [if_neg h2,List.getElem?_append_right (by omega),List.getElem?_drop]
   congr 1
   omega
theorem aX {hp:Hp}{id:Nat}{o:HObj}(x:HObj) (h:aM hp id=some o) (i:Nat):aM (dQ hp id x) i=if i=id then some x else aM hp i:=by
 induction hp with
 |nil=>simp [aM]at h
 |cons p r ih=>
  obtain⟨k,o'⟩:=p
  simp only [aM]at h
  by_cases e:k=id
  ·subst e
   simp only [dQ,if_true,aM]
   by_cases e':i=k
   ·simp [e']
   ·simp [e',Ne.symm e']
  ·simp only [e,if_false]at h
   simp only [dQ,e,if_false,aM]
   by_cases e':k=i
   ·subst e';simp [e]
   ·simp [e',ih h]
theorem Mem.store {E:Entry}{ρ:Env}{hp:Hp}{w:World}(h:Mem E ρ hp w) {id off g:Nat}{t:TypeId}{cs:List SV}(ho:aM hp id=some (.cells t cs)) (hg:ρ.blk id=some g)
  (ns:List SV) (nv:List Value) (hn:nv.length=ns.length) (hoff:off+ns.length<=cs.length) (h1: ∀v∈nv,v.oneCell'=true)
  (hr: ∀(j:Nat) (s:SV) (v:Value),ns[j]? =some s->nv[j]? =some v->Rep w ρ s v):
  ∃cur:Array Value,w.heap[g]? =some (.cells cur t (0,0))/\off+nv.length<=cur.size/\
   Mem E ρ (dQ hp id (.cells t (iH cs off ns))) (w.setRow g (cur.toList.take off++nv++cur.toList.drop (off+nv.length)).toArray)/\
   (∀fr tm,bW ρ w fr tm->bW ρ (w.setRow g (cur.toList.take off++nv++cur.toList.drop (off+nv.length)).toArray) fr tm):=by
 obtain⟨g',hg',⟨cur,hc1,hc2,hc3,hc4⟩,hns⟩:=h.sat id _ ho
 rw [hg]at hg'
 injection hg' with hg'
 subst hg'
 refine⟨cur,hc1,by omega, ?_⟩
 generalize hw':w.setRow g (cur.toList.take off++nv++cur.toList.drop (off+nv.length)).toArray=w'
 have hoth: ∀b,b≠g->w'.heap[b]? =w.heap[b]? := λb hb=>by rw [<-hw'];exact setRow_other w g b _ hb
 have hsz:w'.heap.size=w.heap.size:=by rw [<-hw'];simp [World.setRow]
 have hk:bL ρ.S w w':= λb i hs=>World.cell?_of_block (w:=w) (hoth b λe=>hns i (e ▸ hs))
 have hrf: ∀i,ρ.moved ρ i:=ρ.moved_refl
 have hat: ∀i o,aM (dQ hp id (.cells t (iH cs off ns))) i=some o-> ∃o',aM hp i=some o'/\ρ.at i o=ρ.at i o':=by
  intro i o hi
  rw [aX _ ho]at hi
  by_cases e:i=id
  ·subst e;simp at hi;subst hi;exact⟨_,ho,rfl⟩
  ·simp [e]at hi;exact⟨o,hi,rfl⟩
 refine⟨⟨?_, ?_, ?_,by rw [hsz];exact h.size, ?_,h.sold,h.snew,by rw [hsz];exact h.slt,h.kp.trans h.sold hk, ?_, ?_, ?_,h.mv, ?_,λb hb=>(hoth b (λe=>by subst e;have:=h.md b hb;rw [hc1]at this;cases this)).trans (h.md b hb)⟩, ?_⟩
 ·rw [<-hw'];exact h.os
 ·rw [<-hw'];exact h.tape
 ·rw [<-hw'];exact h.output
 ·intro b hb hB
  rw [hoth b ?_]
  ·exact h.old b hb hB
  ·rintro rfl
   rcases h.hb id _ b ho hg with hge|hB'
   ·omega
   ·exact hB hB'
 ·intro i o hi
  rw [aX _ ho]at hi
  by_cases e:i=id
  ·subst e
   simp at hi
   subst hi
   refine⟨g,hg,⟨_,by rw [<-hw'];exact setRow_heap w g cur _ t _ hc1, ?_, ?_, ?_⟩,hns⟩
   ·simp only [List.size_toArray,List.length_append,List.length_take,List.length_drop,iH,Array.length_toList];omega
   ·intro v hv
    simp only [List.mem_toArray,List.mem_append]at hv
    rcases hv with(hv|hv)|hv
    ·exact hc3 v (by simpa using List.mem_of_mem_take hv)
    ·exact h1 v hv
    ·exact hc3 v (by simpa using List.mem_of_mem_drop hv)
   ·intro j s v hs hv
    have hv':(cur.toList.take off++nv++cur.toList.drop (off+nv.length))[j]? =some v:=by simpa using hv
    rw [splice_getElem? _ _ _ _ (by have:=Array.length_toList (xs:=cur);omega)]at hv'
    unfold iH at hs
    rw [splice_getElem? _ _ _ _ hoff]at hs
    rw [hn]at hv'
    have fin: ∀{s v},Rep w ρ s v->Rep w' ρ s v:= λhr=>hr.mono hk (λ_ _ x=>x) λi _=>hrf i
    split at hs
    ·rename_i hlt;rw [if_pos hlt]at hv';exact fin (hc4 j s v hs (by simpa using hv'))
    ·rename_i hlt
     rw [if_neg hlt]at hv'
     split at hs
     ·rename_i hlt2;rw [if_pos hlt2]at hv';exact fin (hr _ s v hs hv')
     ·rename_i hlt2;rw [if_neg hlt2]at hv';exact fin (hc4 j s v hs (by simpa using hv'))
  ·simp [e]at hi
   refine(h.sat i o hi).keep hk (λ_ _ x=>x) (λj _=>hrf j) ⟨rfl,rfl⟩ ?_ (λ_ _ _ x=>x)
   rintro b (hb'|⟨hb',hrd⟩)
   ·exact hoth b λe'=>e (h.inj i o id _ b hi ho hb' (by rw [e'];exact hg))
   ·exact hoth b λe'=>h.ro i _ b hi hrd hb' id _ ho (by rw [e'];exact hg)
 ·intro i o i' o' b hi hi' hb1 hb2
  obtain⟨o1,k1,e1⟩:=hat i o hi
  obtain⟨o2,k2,e2⟩:=hat i' o' hi'
  exact h.inj i o1 i' o2 b k1 k2 (e1 ▸ hb1) (e2 ▸ hb2)
 ·intro i o b hi hb1
  obtain⟨o1,k1,e1⟩:=hat i o hi
  exact h.hb i o1 b k1 (e1 ▸ hb1)
 ·intro i oR b hi hrd hb1 i' o' hi' hb2
  have hi0:aM hp i=some oR:=by
   rw [aX _ ho]at hi
   by_cases e:i=id
   ·subst e;simp at hi;subst hi;exact hrd.elim
   ·simpa [e]using hi
  obtain⟨o2,k2,e2⟩:=hat i' o' hi'
  exact h.ro i _ b hi0 hrd hb1 i' o2 k2 (e2 ▸ hb2)
 ·exact λfr tm hf=>hf.mono hk (λ_ _ x=>x) λi _=>hrf i
end
end Go.Proofs.YtdjfkmkdkclahaaGreatDoor
