/-
  The words of the proofs: data without addresses (D), symbolic values (SV), what it means that a value in a world stands for one (RepD, Rep), symbolic memory, and that all of it is kept while the world grows. How symbolic memory is kept: when the world grows, at a new block, at a store, at an append. append onto a row of the call's own: what it does to symbolic memory. Symbolic operations: what each operation of the model does to symbolic values and memory, and that this is so.
  Conditions: none.
-/
import Derived.WalkKit
import Derived.Maps.AppendAt
import Derived.Deep.Quiet
import Derived.BigQuiet
import Derived.Lib.ConvBytes
set_option linter.unusedSectionVars false
set_option linter.unusedSimpArgs false
set_option linter.unusedVariables false
set_option maxHeartbeats 1000000
namespace Go.Proofs.YtbobcfjlbcgchaaGreatDoor
open Go.RowKit
inductive D where
 |int (k:IntKind) (n:Int)
 |bool (b:Bool)
 |str (l:List UInt8)
 |nil
 |sl (z:Nat) (rows:List (List D))
 |agg (cs:List D)
 |lit (v:Value)
inductive SV where
 |d (x:D)
 |agg (cs:List SV)
 |tup (vs:List SV)
 |ptr (id off:Nat)
 |ea (z:Nat) (rows:List (List D)) (i off:Nat)
 |osl (id z:Nat) (rows:List (List D))
 |msl (id z off n:Nat)
 |fn (f:FuncId) (first cap:List SV)
 |mw (id z n:Nat)
 |ms (id z lo n ver:Nat)
 |mp (id z i off ver:Nat)
 |zc
 |yld (id:Nat)
 |xv (id:Nat) (mk:Nat->Value)
structure Env where
 S:Nat->Nat->Prop
 blk:Nat->Option Nat
 n:Nat->Nat
 tv:Nat->Value
inductive RepD (w:World) (S:Nat->Nat->Prop):D->Value->Prop
 |int (k:IntKind) (n:Int):RepD w S (.int k n) (.int k n)
 |bool (b:Bool):RepD w S (.bool b) (.bool b)
 |str (l:List UInt8) (h:l.length<=maxLen):RepD w S (.str l) (.string ⟨l.toArray⟩)
 |nil:RepD w S .nil (.slice none 0 0)
 |sl (z:Nat) (rows:List (List D)) (A:Option Addr) (cap b off:Nat) (f:Nat->Value)
   (hz: ∀row∈rows,row.length=z) (hn:rows.length<=cap) (hc:cap<=maxLen)
   (hA:rows≠[]->A=some ⟨b,off,none⟩)
   (hcell : ∀ (i : Nat) (row : List D) (j : Nat) (x : D), rows[i]? = some row -> row[j]? = some x ->
    w.cell? ⟨b,off+(i * z+j),none⟩=some (f (i * z+j))/\S b (off+(i * z+j))/\(f (i * z+j)).oneCell'=true)
   (hrep: ∀(i:Nat) (row:List D) (j:Nat) (x:D),rows[i]? =some row->row[j]? =some x->RepD w S x (f (i * z+j))):
   RepD w S (.sl z rows) (.slice A rows.length cap)
 |agg (cs:List D) (vs:Array Value) (hl:vs.size=cs.length)
   (h: ∀(j:Nat) (x:D) (v:Value),cs[j]? =some x->vs[j]? =some v->RepD w S x v):RepD w S (.agg cs) (.agg vs)
 |lit (v:Value):RepD w S (.lit v) v
def aS0 (z lo n:Nat) (u v:Value):Prop:=
 ∃A len cap,u= .slice A len cap/\lo+n<=len/\len<=cap/\(len≠0-> ∃g,A=some ⟨g,0,none⟩)/\ ∃A',v= .slice A' n (cap - lo)/\(cap - lo≠0->A'=A.map (·.add (lo * z)))
def eM:Value->Option Nat
 | .slice (some a) _ cap=>if cap=0 then none else some a.block
 |_=>none
structure View (w:World) (S:Nat->Nat->Prop) (z:Nat) (rows:List (List D)) (b off:Nat):Prop where
 hz: ∀row∈rows,row.length=z
 cell: ∀(i:Nat) (row:List D) (j:Nat) (x:D),rows[i]? =some row->row[j]? =some x->
  ∃v,w.cell? ⟨b,off+(i * z+j),none⟩=some v/\S b (off+(i * z+j))/\v.oneCell'=true/\RepD w S x v
inductive Rep (w:World) (ρ:Env):SV->Value->Prop
 |d (x:D) (v:Value) (h:RepD w ρ.S x v):Rep w ρ (.d x) v
 |agg (cs:List SV) (vs:Array Value) (hl:vs.size=cs.length)
   (h: ∀(j:Nat) (s:SV) (v:Value),cs[j]? =some s->vs[j]? =some v->Rep w ρ s v):Rep w ρ (.agg cs) (.agg vs)
 |tup (cs:List SV) (vs:Array Value) (hl:vs.size=cs.length)
   (h: ∀(j:Nat) (s:SV) (v:Value),cs[j]? =some s->vs[j]? =some v->Rep w ρ s v):Rep w ρ (.tup cs) (.tuple vs)
 |ptr (id off g:Nat) (h:ρ.blk id=some g):Rep w ρ (.ptr id off) (.pointer (some ⟨g,off,none⟩))
 |ea (z:Nat) (rows:List (List D)) (i off b o:Nat) (h:View w ρ.S z rows b o):Rep w ρ (.ea z rows i off) (.pointer (some ⟨b,o+(i * z+off),none⟩))
 |osl (id z:Nat) (rows:List (List D)) (v:Value) (h:RepD w ρ.S (.sl z rows) v) (hn:rows.length<=ρ.n id) (ht:rows.length=ρ.n id->v=ρ.tv id):
   Rep w ρ (.osl id z rows) v
 |msl (id z off n g cap:Nat) (h:ρ.blk id=some g) (hn:n=cap) (hc:cap<=maxLen):Rep w ρ (.msl id z off n) (.slice (some ⟨g,off,none⟩) n cap)
 |fn (f:FuncId) (first cap:List SV) (fv cv:Array Value) (hf:fv.size=first.length) (hc:cv.size=cap.length)
   (h1: ∀(j:Nat) (s:SV) (v:Value),first[j]? =some s->fv[j]? =some v->Rep w ρ s v)
   (h2: ∀(j:Nat) (s:SV) (v:Value),cap[j]? =some s->cv[j]? =some v->Rep w ρ s v):Rep w ρ (.fn f first cap) (.func (.func f) fv cv)
 |mw (id z n cap:Nat) (A:Option Addr) (hn:n<=cap) (hc:cap<=maxLen) (hA:n≠0-> ∃g,A=some ⟨g,0,none⟩) (h1:n<=ρ.n id) (h2:n=ρ.n id-> .slice A n cap=ρ.tv id):Rep w ρ (.mw id z n) (.slice A n cap)
 |ms (id z lo n ver cap:Nat) (A:Option Addr) (hn:n<=cap) (hc:cap<=maxLen) (hA:n≠0-> ∃a,A=some a) (h1:ver<=ρ.n id) (h2:ver=ρ.n id->aS0 z lo n (ρ.tv id) (.slice A n cap)):Rep w ρ (.ms id z lo n ver) (.slice A n cap)
 |mp (id z i off ver:Nat) (a:Addr) (h1:ver<=ρ.n id) (h2:ver=ρ.n id-> ∃g,eM (ρ.tv id)=some g/\a=⟨g,i * z+off,none⟩):Rep w ρ (.mp id z i off ver) (.pointer (some a))
 |zc (A:Option Addr):Rep w ρ .zc (.slice A 0 0)
 |yld (id l:Nat) (h:ρ.blk id=some l):Rep w ρ (.yld id) (.func (.yield l) #[] #[])
 |xv (id:Nat) (mk:Nat->Value) (g:Nat) (h:ρ.blk id=some g) (h1:(mk g).oneCell'=true):Rep w ρ (.xv id mk) (mk g)
theorem RepD.of_sl {w:World}{S:Nat->Nat->Prop}{z:Nat}{rows:List (List D)}{v:Value}(h:RepD w S (.sl z rows) v):
  ∃(A:Option Addr) (cap b off:Nat),v= .slice A rows.length cap/\rows.length<=cap/\cap<=maxLen/\(rows≠[]->A=some ⟨b,off,none⟩)/\View w S z rows b off:=by
 cases h with
 |sl z rows A cap b off f hz hn hc hA hcell hrep=>
  exact⟨A,cap,b,off,rfl,hn,hc,hA,hz,λi row j x h1 h2=>⟨_,(hcell i row j x h1 h2).1,(hcell i row j x h1 h2).2.1,(hcell i row j x h1 h2).2.2,hrep i row j x h1 h2⟩⟩
open Classical in
theorem RepD.mk_sl {w:World}{S:Nat->Nat->Prop}{z:Nat}{rows:List (List D)}{A:Option Addr}{cap b off n:Nat}(hn:rows.length<=cap) (hc:cap<=maxLen)
  (hA:rows≠[]->A=some ⟨b,off,none⟩) (hv:View w S z rows b off) (he:n=rows.length):RepD w S (.sl z rows) (.slice A n cap):=by
 subst he
 have key: ∀(i:Nat) (row:List D) (j:Nat) (x:D),rows[i]? =some row->row[j]? =some x->
   w.cell? ⟨b,off+(i * z+j),none⟩=some ((w.cell? ⟨b,off+(i * z+j),none⟩).getD undef):=by
  intro i row j x h1 h2
  obtain⟨v,hv1,_⟩:=hv.cell i row j x h1 h2
  rw [hv1];rfl
 refine RepD.sl z rows A cap b off (λk=>(w.cell? ⟨b,off+k,none⟩).getD undef) hv.hz hn hc hA ?_ ?_
 ·intro i row j x h1 h2
  obtain⟨v,hv1,hs,ho,_⟩:=hv.cell i row j x h1 h2
  exact⟨key i row j x h1 h2,hs,by simp only [hv1,Option.getD_some];exact ho⟩
 ·intro i row j x h1 h2
  obtain⟨v,hv1,hs,ho,hr⟩:=hv.cell i row j x h1 h2
  simp only [hv1,Option.getD_some];exact hr
def cD (S:Nat->Nat->Prop) (w w':World):Prop:= ∀b i,S b i->w'.cell? ⟨b,i,none⟩=w.cell? ⟨b,i,none⟩
theorem RepD.mono {w w':World}{S S':Nat->Nat->Prop}{x:D}{v:Value}(h:RepD w S x v) (hk:cD S w w') (hs: ∀b i,S b i->S' b i):RepD w' S' x v:=by
 induction h with
 |int k n=>exact .int k n
 |bool b=>exact .bool b
 |str l h=>exact .str l h
 |nil=>exact .nil
 |sl z rows A cap b off f hz hn hc hA hcell hrep ih=>
  refine .sl z rows A cap b off f hz hn hc hA ?_ ih
  intro i row j x h1 h2
  obtain⟨a1,a2,a3⟩:=hcell i row j x h1 h2
  exact⟨(hk _ _ a2).trans a1,hs _ _ a2,a3⟩
 |agg cs vs hl h ih=>exact .agg cs vs hl ih
 |lit v=>exact .lit v
theorem View.mono {w w':World}{S S':Nat->Nat->Prop}{z:Nat}{rows:List (List D)}{b off:Nat}(h:View w S z rows b off) (hk:cD S w w') (hs: ∀b i,S b i->S' b i):View w' S' z rows b off:=
 ⟨h.hz, λi row j x h1 h2 => by
  obtain⟨v,a1,a2,a3,a4⟩:=h.cell i row j x h1 h2
  exact⟨v,(hk _ _ a2).trans a1,hs _ _ a2,a3,a4.mono hk hs⟩⟩
mutual
def SV.ids:SV->List Nat
 | .d _=>[]
 | .agg cs=>SV.idsL cs
 | .tup cs=>SV.idsL cs
 | .ptr id _=>[id]
 | .ea _ _ _ _=>[]
 | .osl id _ _=>[id]
 | .msl id _ _ _=>[id]
 | .fn _ first cap=>SV.idsL first++SV.idsL cap
 | .mw id _ _=>[id]
 | .ms id _ _ _ _=>[id]
 | .mp id _ _ _ _=>[id]
 | .zc=>[]
 | .yld id=>[id]
 | .xv id _=>[id]
def SV.idsL:List SV->List Nat
 | []=>[]
 |s::r=>SV.ids s++SV.idsL r
end
theorem SV.mem_idsL {cs:List SV}{j:Nat}{s:SV}{id:Nat}(h:cs[j]? =some s) (hm:id∈s.ids):id∈SV.idsL cs:=by
 induction cs generalizing j with
 |nil=>simp at h
 |cons c r ih=>
  cases j with
  |zero=>simp at h;subst h;simp [SV.idsL,hm]
  |succ j=>simp at h;simp [SV.idsL,ih h]
def Env.moved (ρ ρ':Env) (id:Nat):Prop:=ρ'.blk id=ρ.blk id/\((ρ'.n id=ρ.n id/\ρ'.tv id=ρ.tv id)\/ρ.n id < ρ'.n id)
theorem Env.moved_trans {ρ ρ' ρ'':Env}{id:Nat}(h:ρ.moved ρ' id) (k:ρ'.moved ρ'' id):ρ.moved ρ'' id:=by
 refine⟨k.1.trans h.1, ?_⟩
 rcases h.2 with⟨a,b⟩|a<;>rcases k.2 with⟨c,d⟩|c
 ·exact .inl ⟨c.trans a,d.trans b⟩
 ·right;omega
 ·right;omega
 ·right;omega
theorem Env.moved_refl (ρ:Env) (id:Nat):ρ.moved ρ id:=⟨rfl, .inl ⟨rfl,rfl⟩⟩
theorem Rep.mono {w w':World}{ρ ρ':Env}{s:SV}{v:Value}(h:Rep w ρ s v) (hk:cD ρ.S w w') (hs: ∀b i,ρ.S b i->ρ'.S b i)
  (hm: ∀id∈s.ids,ρ.moved ρ' id):Rep w' ρ' s v:=by
 induction h with
 |d x v h=>exact .d x v (h.mono hk hs)
 |agg cs vs hl h ih=>exact .agg cs vs hl λj s v h1 h2=>ih j s v h1 h2 λid hid=>hm id (by simp only [SV.ids];exact SV.mem_idsL h1 hid)
 |tup cs vs hl h ih=>exact .tup cs vs hl λj s v h1 h2=>ih j s v h1 h2 λid hid=>hm id (by simp only [SV.ids];exact SV.mem_idsL h1 hid)
 |ptr id off g h=>exact .ptr id off g ((hm id (by simp [SV.ids])).1.trans h)
 |ea z rows i off b o h=>exact .ea z rows i off b o (h.mono hk hs)
 |osl id z rows v h hn ht=>
  obtain⟨_,hh⟩:=hm id (by simp [SV.ids])
  rcases hh with⟨e1,e2⟩|hlt
  ·exact .osl id z rows v (h.mono hk hs) (by rw [e1];exact hn) (by rw [e1,e2];exact ht)
  ·exact .osl id z rows v (h.mono hk hs) (by omega) (λe=>by omega)
 |msl id z off n g cap h hn hc=>exact .msl id z off n g cap ((hm id (by simp [SV.ids])).1.trans h) hn hc
 |fn f first cap fv cv hf hc h1 h2 ih1 ih2=>
  exact .fn f first cap fv cv hf hc (λj s v a b=>ih1 j s v a b λid hid=>hm id (by simp only [SV.ids,List.mem_append];exact .inl (SV.mem_idsL a hid)))
   (λj s v a b=>ih2 j s v a b λid hid=>hm id (by simp only [SV.ids,List.mem_append];exact .inr (SV.mem_idsL a hid)))
 |mw id z n cap A hn hc hA h1 h2=>
  obtain⟨_,hh⟩:=hm id (by simp [SV.ids])
  rcases hh with⟨e1,e2⟩|hlt
  ·exact .mw id z n cap A hn hc hA (by omega) (by rw [e1,e2];exact h2)
  ·exact .mw id z n cap A hn hc hA (by omega) (λe=>by omega)
 |ms id z lo n ver cap A hn hc hA h1 h2=>
  obtain⟨_,hh⟩:=hm id (by simp [SV.ids])
  rcases hh with⟨e1,e2⟩|hlt
  ·exact .ms id z lo n ver cap A hn hc hA (by omega) (by rw [e1,e2];exact h2)
  ·exact .ms id z lo n ver cap A hn hc hA (by omega) (λe=>by omega)
 |mp id z i off ver a h1 h2=>
  obtain⟨_,hh⟩:=hm id (by simp [SV.ids])
  rcases hh with⟨e1,e2⟩|hlt
  ·exact .mp id z i off ver a (by omega) (by rw [e1,e2];exact h2)
  ·exact .mp id z i off ver a (by omega) (λe=>by omega)
 |zc A=>exact .zc A
 |yld id l h=>exact .yld id l ((hm id (by simp [SV.ids])).1.trans h)
 |xv id mk g h h1=>exact .xv id mk g ((hm id (by simp [SV.ids])).1.trans h) h1
structure Flat (w:World) (S:Nat->Nat->Prop) (z:Nat) (rows:List (List D)) (vs:List Value):Prop where
 len:vs.length=rows.length * z
 hz: ∀row∈rows,row.length=z
 one: ∀v∈vs,v.oneCell'=true
 at_: ∀(i:Nat) (row:List D) (j:Nat) (x:D),rows[i]? =some row->row[j]? =some x-> ∃v,vs[i * z+j]? =some v/\RepD w S x v
abbrev Fr:=List (Nat×SV)
def gM:Fr->Nat->Option SV
 | [],_=>none
 |(k,s)::r,t=>if k=t then some s else gM r t
def eQ (fr:Fr):List Nat:=fr.flatMap λp=>p.2.ids
def dD (ρ:Env) (w:World) (fr:Fr) (tm:Array Value):Prop:= ∀t s,gM fr t=some s-> ∃v,tm[t]? =some v/\Rep w ρ s v
inductive LoopAt where
 |ready
 |busy
 |done (c:Code)
structure LoopI where
 nt:Nat
 ps:Array Tmp
 assign:Code
 body:Code
 fr:Fr
structure ExtO where
 ids:List Nat
 sat:World->Env->Obj->Prop
 keep: ∀(w w':World) (ρ ρ':Env) (o:Obj),cD ρ.S w w'->(∀b i,ρ.S b i->ρ'.S b i)->(∀id∈ids,ρ.moved ρ' id)->sat w ρ o->sat w' ρ' o
 nd: ∀(w:World) (ρ:Env) (x:Option (List Deferred)),¬ sat w ρ (.deferred x)
inductive HObj where
 |cells (t:TypeId) (cs:List SV)
 |ro (t:TypeId) (cs:List SV)
 |own (e z n:Nat)
 |mrow (e z cap:Nat) (rows:List (List D))
 |loop (L:LoopI) (at_:LoopAt)
 |ext (X:ExtO)
 |glob (g z:Nat) (rows:List (List D))
 |rox (X:ExtO)
def HObj.ids:HObj->List Nat
 | .cells _ cs=>SV.idsL cs
 | .ro _ cs=>SV.idsL cs
 | .own _ _ _=>[]
 | .mrow _ _ _ _=>[]
 | .loop L _=>eQ L.fr
 | .ext X=>X.ids
 | .glob _ _ _=>[]
 | .rox X=>X.ids
def dS (w:World) (ρ:Env) (g:Nat) (t:TypeId) (cs:List SV):Prop:=
 ∃cur:Array Value,w.heap[g]? =some (.cells cur t (0,0))/\cur.size=cs.length/\(∀v∈cur,v.oneCell'=true)/\ ∀(j:Nat) (s:SV) (v:Value),cs[j]? =some s->cur[j]? =some v->Rep w ρ s v
def fI (w:World) (S:Nat->Nat->Prop) (e z cap:Nat) (rows:List (List D)) (v:Value):Prop:=
 (rows=[]/\cap=0/\ ∃A,v= .slice A 0 0)\/
 (0 < cap /\ ∃ g cur, v = .slice (some ⟨g, 0, none⟩) rows.length cap /\ w.heap[g]? = some (.cells cur e (0, 0)) /\ rows.length <= cap /\ cap <= maxLen /\ cur.size = cap * z /\
  Flat w S z rows (cur.toList.take (rows.length * z))/\ ∀i,¬ S g i)
def LoopAt.state:LoopAt->LoopState×Option Code
 | .ready=>(.ready,none)
 | .busy=>(.busy,none)
 | .done c=>(.done,some c)
def aC1 (w:World) (ρ:Env) (id:Nat):HObj->Prop
 | .cells t cs=> ∃g,ρ.blk id=some g/\dS w ρ g t cs/\ ∀i,¬ ρ.S g i
 | .ro t cs=> ∃g,ρ.blk id=some g/\dS w ρ g t cs
 | .own e z n=>ρ.n id=n/\ ∃xs,w.ownsRow 0 e z (ρ.tv id) (ρ.n id) xs/\(∀g,(ρ.tv id).ownBlock=some g-> ∀i,ρ.S g i->i < ρ.n id * z)/\ ∀v∈xs,v.oneCell'=true
 | .mrow e z cap rows=>ρ.n id=rows.length/\fI w ρ.S e z cap rows (ρ.tv id)
 | .loop L s=> ∃g r,ρ.blk id=some g/\w.heap[g]? =some (.loop r)/\r.params=L.ps/\r.assign=L.assign/\r.body=L.body/\r.tmps.size=L.nt/\dD ρ w L.fr r.tmps/\(r.state,r.pending)=s.state
 | .ext X=> ∃g o,ρ.blk id=some g/\w.heap[g]? =some o/\X.sat w ρ o/\ ∀i,¬ ρ.S g i
 | .glob g z rows=>View w ρ.S z rows g 0
 | .rox X=> ∃g o,ρ.blk id=some g/\w.heap[g]? =some o/\X.sat w ρ o
def Env.at (ρ:Env) (id:Nat):HObj->Option Nat
 | .cells _ _=>ρ.blk id
 | .ro _ _=>none
 | .own _ _ _=>(ρ.tv id).ownBlock
 | .mrow _ _ _ _=>eM (ρ.tv id)
 | .loop _ _=>ρ.blk id
 | .ext _=>ρ.blk id
 | .glob _ _ _=>none
 | .rox _=>none
def HObj.Rd:HObj->Prop
 | .ro _ _=>True
 | .rox _=>True
 |_=>False
abbrev Hp:=List (Nat×HObj)
def aN:Hp->Nat->Option HObj
 | [],_=>none
 |(k,o)::r,t=>if k=t then some o else aN r t
def dU:Hp->Nat->HObj->Hp
 | [],_,_=>[]
 |(k,o)::r,t,x=>if k=t then (k,x)::r else (k,o)::dU r t x
def fG (hp:Hp):List Nat:=hp.flatMap λp=>p.1::p.2.ids
theorem wV {fr:Fr}{t:Nat}{s:SV}{id:Nat}(h:gM fr t=some s) (hm:id∈s.ids):id∈eQ fr:=by
 induction fr with
 |nil=>simp [gM]at h
 |cons p r ih=>
  obtain⟨k,s'⟩:=p
  simp only [gM]at h
  simp only [eQ,List.flatMap_cons,List.mem_append]
  by_cases e:k=t
  ·simp [e]at h;subst h;exact .inl hm
  ·simp [e]at h;exact .inr (ih h)
theorem bJ {hp:Hp}{i:Nat}{o:HObj}{id:Nat}(h:aN hp i=some o) (hm:id=i\/id∈o.ids):id∈fG hp:=by
 induction hp with
 |nil=>simp [aN]at h
 |cons p r ih=>
  obtain⟨k,o'⟩:=p
  simp only [aN]at h
  simp only [fG,List.flatMap_cons,List.mem_append,List.mem_cons]
  by_cases e:k=i
  ·simp [e]at h;subst h;subst e
   rcases hm with rfl|hm
   ·exact .inl (.inl rfl)
   ·exact .inl (.inr hm)
  ·simp [e]at h;exact .inr (ih h)
structure Pin where
 ids:List Nat
 kp:Fr->Hp->Prop
 pre:List Deferred
instance:Membership Nat Pin:=⟨λp k=>k∈p.ids⟩
instance:HAppend Pin (List Nat) Pin:=⟨λp l=>⟨p.ids++l,p.kp,[]⟩⟩
def Chn (ch:List PanicEntry):Prop:= ∃t v,ch=[{ v:= .iface t v,recovered:=false }]
def tW (l:List Nat):Pin:=⟨l,λ_ _=>False,[]⟩
def Pin.calm (p:Pin):Pin:=⟨p.ids,λ_ _=>False,[]⟩
@[simp] theorem aQe {k:Nat} {p:Pin}:k∈p.calm↔k∈p:=Iff.rfl
@[simp] theorem aWf {k:Nat} {l:List Nat}:k∈tW l↔k∈l:=Iff.rfl
@[simp] theorem aQd {k:Nat} {p:Pin} {l:List Nat}:k∈p++l↔k∈p\/k∈l:=List.mem_append
def Pin.under (p:Pin) (fr:Fr) (l:List Nat):Pin:=⟨p.ids++l,λ_ hp=>p.kp fr hp,[]⟩
@[simp] theorem gH {k:Nat} {p:Pin} {fr:Fr} {l:List Nat}:k∈p.under fr l↔k∈p\/k∈l:=List.mem_append
@[simp] theorem aWe {p:Pin} {l:List Nat}:(p++l).pre=[]:=rfl
@[simp] theorem aX6 {p:Pin} {l:List Nat}:(p++l).kp=p.kp:=rfl
structure Entry where
 w:World
 S:Nat->Nat->Prop
 B:Nat->Prop
 pin:Pin
 ρ:Env
 rd:Option Nat
 D:List Nat
 k:Nat
def aKg (a b:World):Prop:=a.output=b.output/\b.drawn<=a.drawn
theorem aKg.trans {a b c:World}(h:aKg a b) (k:aKg b c):aKg a c:=⟨h.1.trans k.1,Nat.le_trans k.2 h.2⟩
theorem aKg.refl (a:World):aKg a a:=⟨rfl,Nat.le_refl _⟩
structure Mem (E:Entry) (ρ:Env) (hp:Hp) (w:World):Prop where
 os:w.os=E.w.os
 tape:w.tape=E.w.tape
 output:aKg w E.w
 size:E.w.heap.size<=w.heap.size
 old: ∀b,b < E.w.heap.size->¬ E.B b->w.heap[b]? =E.w.heap[b]?
 sold: ∀b i,E.S b i->ρ.S b i
 snew: ∀b i,ρ.S b i->b < E.w.heap.size->¬ E.B b->E.S b i
 slt: ∀b i,ρ.S b i->b < w.heap.size
 kp:cD E.S E.w w
 sat: ∀id o,aN hp id=some o->aC1 w ρ id o
 inj: ∀id o id' o' g,aN hp id=some o->aN hp id'=some o'->ρ.at id o=some g->ρ.at id' o'=some g->id=id'
 hb: ∀id o g,aN hp id=some o->ρ.at id o=some g->E.w.heap.size<=g\/E.B g
 mv: ∀id∈E.pin,E.ρ.moved ρ id
 ro: ∀id o g,aN hp id=some o->o.Rd->ρ.blk id=some g->(∀id' o',aN hp id'=some o'->ρ.at id' o'≠some g)
 md: ∀b∈E.D,w.heap[b]? =some (.deferred (some []))
theorem Mem.calm {E:Entry}{ρ:Env}{hp:Hp}{w:World}(h:Mem E ρ hp w):Mem { E with pin:=E.pin.calm } ρ hp w:=
 ⟨h.os,h.tape,h.output,h.size,h.old,h.sold,h.snew,h.slt,h.kp,h.sat,h.inj,h.hb,h.mv,h.ro,h.md⟩
theorem Mem.uncalm {E:Entry}{ρ:Env}{hp:Hp}{w:World}(h:Mem { E with pin:=E.pin.calm } ρ hp w):Mem E ρ hp w:=
 ⟨h.os,h.tape,h.output,h.size,h.old,h.sold,h.snew,h.slt,h.kp,h.sat,h.inj,h.hb,h.mv,h.ro,h.md⟩
structure St where
 fr:Fr
 hp:Hp
def tL (b:Nat):Deferred:={ target:= .collected b,args:= #[] }
structure Sat (E:Entry) (nt:Nat) (σ:St) (a:Act) (w:World):Prop where
 nt:a.tmps.size=nt
 df:a.defers=(E.D.take E.k).map tL++E.pin.pre
 mem: ∃ρ,Mem E ρ σ.hp w/\dD ρ w σ.fr a.tmps
theorem lnS:(∀{α:Type}(l:List α) (i:Nat) (a:α),(l.set i a).length=l.length)/\(∀{α:Type}(n:Nat) (a:α),(List.replicate n a).length=n)/\(∀{α β:Type}(f:α->β) (l:List α),(l.map f).length=l.length)/\
  (∀{α:Type} (l m:List α),(l++m).length=l.length+m.length)/\(∀{α:Type} (i:Nat) (l:List α),(l.drop i).length=l.length - i)/\(∀{α:Type} (i:Nat) (l:List α),(l.take i).length=min i l.length)/\
  (∀{α:Type} (a:α) (l:List α),(a::l).length=l.length+1)/\(∀{α:Type},([]:List α).length=0):=
 ⟨λl i a=>List.length_set ..,λn a=>List.length_replicate ..,λf l=>List.length_map ..,λl m=>List.length_append ..,λi l=>List.length_drop ..,λi l=>List.length_take ..,λa l=>List.length_cons ..,List.length_nil⟩
end Go.Proofs.YtbobcfjlbcgchaaGreatDoor
namespace Go.Proofs.YtbobcfjlbcgchaaGreatDoor
open Go.RowKit
structure Grew (w w':World):Prop where
 os:w'.os=w.os
 tape:w'.tape=w.tape
 output:aKg w' w
 size:w.heap.size<=w'.heap.size
 block: ∀b,b < w.heap.size->w'.heap[b]? =w.heap[b]?
theorem Grew.refl (w:World):Grew w w:=⟨rfl,rfl, .refl _,Nat.le_refl _,λ_ _=>rfl⟩
theorem Grew.trans {a b c:World}(h:Grew a b) (k:Grew b c):Grew a c:=
 ⟨k.os.trans h.os,k.tape.trans h.tape,k.output.trans h.output,Nat.le_trans h.size k.size,λi hi=>(k.block i (Nat.lt_of_lt_of_le hi h.size)).trans (h.block i hi)⟩
theorem Grew.drew (w:World):Grew w w.drew:=⟨rfl,rfl,⟨rfl,Nat.le_succ _⟩,Nat.le_refl _,λ_ _=>rfl⟩
theorem Grew.drewN (w:World) (n:Nat):Grew w (w.drewN n):=⟨rfl,rfl,⟨rfl,Nat.le_add_right _ _⟩,Nat.le_refl _,λ_ _=>rfl⟩
theorem Grew.alloc (w:World) (o:Obj):Grew w (w.alloc o):=⟨rfl,rfl,⟨rfl,Nat.le_refl _⟩,by simp,λb hb=>Below.heap_alloc w o b hb⟩
theorem Grew.below {w w':World}(h:Grew w w'):Below w.heap.size w w':=⟨h.os,h.tape,h.output.1,h.size,h.block⟩
theorem Grew.keeps {w w':World}(h:Grew w w') {S:Nat->Nat->Prop}(hs: ∀b i,S b i->b < w.heap.size):cD S w w':=
 λb i hb=>World.cell?_of_block (w:=w) (h.block b (hs b i hb))
theorem cD.trans {S S':Nat->Nat->Prop}{a b c:World}(h:cD S a b) (hs: ∀x i,S x i->S' x i) (k:cD S' b c):cD S a c:= λx i hx=>(k x i (hs x i hx)).trans (h x i hx)
theorem aV {w:World}{g:Nat}{o:Obj}(h:w.heap[g]? =some o):g < w.heap.size:=(Array.getElem?_eq_some_iff.1 h).1
def Env.withS (ρ:Env) (S:Nat->Nat->Prop):Env:={ ρ with S:=S }
theorem Env.moved_withS (ρ:Env) (S:Nat->Nat->Prop) (id:Nat):ρ.moved (ρ.withS S) id:=⟨rfl, .inl ⟨rfl,rfl⟩⟩
theorem dS.mono {w w':World}{ρ ρ':Env}{g:Nat}{t:TypeId}{cs:List SV}(h:dS w ρ g t cs) (hb:w'.heap[g]? =w.heap[g]?) (hk:cD ρ.S w w') (hs: ∀b i,ρ.S b i->ρ'.S b i)
  (hm: ∀id∈SV.idsL cs,ρ.moved ρ' id):dS w' ρ' g t cs:=by
 obtain⟨cur,h1,h2,h3,h4⟩:=h
 exact⟨cur,hb.trans h1,h2,h3,λj s v a b=>(h4 j s v a b).mono hk hs λid hid=>hm id (SV.mem_idsL a hid)⟩
theorem aB6 {w w':World}{base:Nat}{e:TypeId}{size:Nat}{v:Value}{n:Nat}{xs:List Value}(h:w.ownsRow base e size v n xs) (hb: ∀g,v.ownBlock=some g->w'.heap[g]? =w.heap[g]?):
  w'.ownsRow base e size v n xs:=by
 refine⟨h.1, ?_⟩
 rcases h.2 with hn|⟨g,cap,cur,rfl,hbb,hg,rest⟩
 ·exact .inl hn
 ·exact .inr ⟨g,cap,cur,rfl,hbb,(hb g (by simp [Value.ownBlock])).trans hg,rest⟩
theorem Flat.mono {w w':World}{S S':Nat->Nat->Prop}{z:Nat}{rows:List (List D)}{vs:List Value}(h:Flat w S z rows vs) (hk:cD S w w') (hs: ∀b i,S b i->S' b i):Flat w' S' z rows vs:=
 ⟨h.len, h.hz, h.one, λi row j x h1 h2 => by
  obtain⟨v,a,b⟩:=h.at_ i row j x h1 h2
  exact⟨v,a,b.mono hk hs⟩⟩
theorem fI.heap {w:World}{S:Nat->Nat->Prop}{e z cap:Nat}{rows:List (List D)}{v:Value}(h:fI w S e z cap rows v) {g:Nat}(hg:eM v=some g): ∃cur,w.heap[g]? =some (.cells cur e (0,0)):=by
 rcases h with⟨_,_,A,rfl⟩|⟨hc,g',cur,rfl,h1,_⟩
 ·cases A<;>simp [eM]at hg
 ·have:cap≠0:=by omega
  simp only [eM,this,if_false,Option.some.injEq]at hg
  subst hg
  exact⟨cur,h1⟩
theorem fI.mono {w w':World}{S S':Nat->Nat->Prop}{e z cap:Nat}{rows:List (List D)}{v:Value}(h:fI w S e z cap rows v) (hb: ∀g,eM v=some g->w'.heap[g]? =w.heap[g]?) (hk:cD S w w')
  (hs: ∀b i,S b i->S' b i) (hS: ∀g,eM v=some g-> ∀i,S' g i->S g i):fI w' S' e z cap rows v:=by
 rcases h with h|⟨hc,g,cur,rfl,h1,h2,h3,h4,h6,h7⟩
 ·exact .inl h
 ·have hm:eM (.slice (some ⟨g,0,none⟩) rows.length cap)=some g:=by
   have:cap≠0:=by omega
   simp [eM,this]
  exact .inr ⟨hc,g,cur,rfl,(hb g hm).trans h1,h2,h3,h4,h6.mono hk hs,λi hi=>h7 i (hS g hm i hi)⟩
theorem dD.mono {w w':World}{ρ ρ':Env}{fr:Fr}{tm:Array Value}(h:dD ρ w fr tm) (hk:cD ρ.S w w') (hs: ∀b i,ρ.S b i->ρ'.S b i)
  (hm: ∀id∈eQ fr,ρ.moved ρ' id):dD ρ' w' fr tm:= λt s hg=>by
 obtain⟨v,h1,h2⟩:=h t s hg
 exact⟨v,h1,h2.mono hk hs λid hid=>hm id (wV hg hid)⟩
theorem aC1.blk_lt {w:World}{ρ:Env}{id:Nat}{o:HObj}{g:Nat}(h:aC1 w ρ id o) (hg:ρ.at id o=some g):g < w.heap.size:=by
 cases o with
 |cells t cs=>
  obtain⟨g',h1,⟨cur,h2,_⟩,_⟩:=h
  simp only [Env.at]at hg
  rw [h1]at hg
  injection hg with hg
  subst hg
  exact aV h2
 |ro t cs=>simp [Env.at]at hg
 |own e z n=>
  obtain⟨_,xs,h1,_⟩:=h
  exact(h1.lt g hg).2
 |mrow e z cap rows=>
  obtain⟨_,h1⟩:=h
  obtain⟨cur,h2⟩:=h1.heap hg
  exact aV h2
 |loop L s=>
  obtain⟨g',r,h1,h2,_⟩:=h
  simp only [Env.at]at hg
  rw [h1]at hg
  injection hg with hg
  subst hg
  exact aV h2
 |ext X=>
  obtain⟨g',r,h1,h2,_⟩:=h
  simp only [Env.at]at hg
  rw [h1]at hg
  injection hg with hg
  subst hg
  exact aV h2
 |glob g z rows=>simp [Env.at]at hg
 |rox X=>simp [Env.at]at hg
theorem aC1.keep {w w':World}{ρ ρ':Env}{id:Nat}{o:HObj}(h:aC1 w ρ id o) (hk:cD ρ.S w w') (hs: ∀b i,ρ.S b i->ρ'.S b i)
  (hm: ∀i,i=id\/i∈o.ids->ρ.moved ρ' i) (hn:ρ'.n id=ρ.n id/\ρ'.tv id=ρ.tv id)
  (hb: ∀g,(ρ.at id o=some g\/ρ.blk id=some g/\o.Rd)->w'.heap[g]? =w.heap[g]?)
  (hS: ∀g,ρ.at id o=some g-> ∀i,ρ'.S g i->ρ.S g i):aC1 w' ρ' id o:=by
 have hbl:=(hm id (.inl rfl)).1
 cases o with
 |cells t cs=>
  obtain⟨g,h1,h2,h3⟩:=h
  exact⟨g,hbl.trans h1,h2.mono (hb g (.inl h1)) hk hs λi hi=>hm i (.inr hi),λi hi=>h3 i (hS g h1 i hi)⟩
 |ro t cs=>
  obtain⟨g,h1,h2⟩:=h
  exact⟨g,hbl.trans h1,h2.mono (hb g (.inr ⟨h1,trivial⟩)) hk hs λi hi=>hm i (.inr hi)⟩
 |own e z n=>
  obtain⟨h0,xs,h1,h2,h3⟩:=h
  refine⟨hn.1.trans h0,xs, ?_, ?_,h3⟩
  ·rw [hn.1,hn.2]
   exact aB6 h1 λg hg=>hb g (.inl hg)
  ·rw [hn.1,hn.2]
   exact λg hg i hi=>h2 g hg i (hS g hg i hi)
 |mrow e z cap rows=>
  obtain⟨h0,h1⟩:=h
  refine⟨hn.1.trans h0, ?_⟩
  rw [hn.2]
  exact h1.mono (λg hg=>hb g (.inl hg)) hk hs (λg hg=>hS g hg)
 |loop L s=>
  obtain⟨g,r,h1,h2,h3,h4,h5,h6,h7,h8⟩:=h
  exact⟨g,r,hbl.trans h1,(hb g (.inl h1)).trans h2,h3,h4,h5,h6,h7.mono hk hs λi hi=>hm i (.inr hi),h8⟩
 |ext X=>
  obtain⟨g,r,h1,h2,h3,h4⟩:=h
  exact⟨g,r,hbl.trans h1,(hb g (.inl h1)).trans h2,X.keep w w' ρ ρ' r hk hs (λi hi=>hm i (.inr hi)) h3,λi hi=>h4 i (hS g h1 i hi)⟩
 |glob g z rows=>exact View.mono h hk hs
 |rox X=>
  obtain⟨g,r,h1,h2,h3⟩:=h
  exact⟨g,r,hbl.trans h1,(hb g (.inr ⟨h1,trivial⟩)).trans h2,X.keep w w' ρ ρ' r hk hs (λi hi=>hm i (.inr hi)) h3⟩
theorem Mem.blk_lt {E:Entry}{ρ:Env}{hp:Hp}{w:World}(h:Mem E ρ hp w) {id:Nat}{o:HObj}{g:Nat}(ho:aN hp id=some o) (hg:ρ.at id o=some g):g < w.heap.size:=
 (h.sat id o ho).blk_lt hg
theorem Mem.ro_lt {E:Entry}{ρ:Env}{hp:Hp}{w:World}(h:Mem E ρ hp w) {id:Nat}{o:HObj}{g:Nat}(ho:aN hp id=some o) (hrd:o.Rd) (hg:ρ.blk id=some g):g < w.heap.size:=by
 have hs:=h.sat id _ ho
 cases o with
 |ro t cs=>
  obtain⟨g',h1,cur,h2,_⟩:=hs
  rw [h1]at hg
  injection hg with hg
  subst hg
  exact aV h2
 |rox X=>
  obtain⟨g',r,h1,h2,_⟩:=hs
  rw [h1]at hg
  injection hg with hg
  subst hg
  exact aV h2
 |_=>exact hrd.elim
theorem Mem.grow {E:Entry}{ρ:Env}{hp:Hp}{w w':World}(h:Mem E ρ hp w) (hg:Grew w w') (S':Nat->Nat->Prop)
  (h1: ∀b i,ρ.S b i->S' b i) (h2: ∀b i,S' b i->ρ.S b i\/w.heap.size<=b) (h3: ∀b i,S' b i->b < w'.heap.size):
  Mem E (ρ.withS S') hp w'/\ ∀fr tm,dD ρ w fr tm->dD (ρ.withS S') w' fr tm:=by
 have hk:cD ρ.S w w':=hg.keeps h.slt
 refine⟨⟨hg.os.trans h.os,hg.tape.trans h.tape,hg.output.trans h.output,Nat.le_trans h.size hg.size, ?_, ?_, ?_,h3,h.kp.trans h.sold hk, ?_, ?_, ?_, ?_, ?_,λb hb=>(hg.block b (aV (h.md b hb))).trans (h.md b hb)⟩, ?_⟩
 ·exact λb hb hB=>(hg.block b (Nat.lt_of_lt_of_le hb h.size)).trans (h.old b hb hB)
 ·exact λb i hs=>h1 b i (h.sold b i hs)
 ·intro b i hs hb hB
  rcases h2 b i hs with hs'|hge
  ·exact h.snew b i hs' hb hB
  ·have:=h.size;omega
 ·intro id o ho
  refine(h.sat id o ho).keep hk h1 (λi _=>ρ.moved_withS S' i) ⟨rfl,rfl⟩ ?_ ?_
  ·rintro g (hg'|⟨hg',hrd⟩)
   ·exact hg.block g (h.blk_lt ho hg')
   ·exact hg.block g (h.ro_lt ho hrd hg')
  ·intro g hg' i hi
   rcases h2 g i hi with hs'|hge
   ·exact hs'
   ·have:=h.blk_lt ho hg';omega
 ·exact h.inj
 ·exact h.hb
 ·exact λid hid=>Env.moved_trans (h.mv id hid) (ρ.moved_withS S' id)
 ·exact h.ro
 ·exact λfr tm hf=>hf.mono hk h1 λi _=>ρ.moved_withS S' i
theorem Mem.grow_same {E:Entry}{ρ:Env}{hp:Hp}{w w':World}(h:Mem E ρ hp w) (hg:Grew w w'):
  Mem E ρ hp w'/\ ∀fr tm,dD ρ w fr tm->dD ρ w' fr tm:=by
 have:=h.grow hg ρ.S (λ_ _ x=>x) (λ_ _ x=> .inl x) (λb i x=>Nat.lt_of_lt_of_le (h.slt b i x) hg.size)
 simpa [Env.withS]using this
theorem RepD.grow {w w':World}{S:Nat->Nat->Prop}{x:D}{v:Value}(h:RepD w S x v) (hg:Grew w w') (hs: ∀b i,S b i->b < w.heap.size):RepD w' S x v:=
 h.mono (hg.keeps hs) λ_ _ x=>x
theorem Rep.grow {w w':World}{ρ:Env}{s:SV}{v:Value}(h:Rep w ρ s v) (hg:Grew w w') (hs: ∀b i,ρ.S b i->b < w.heap.size):Rep w' ρ s v:=
 h.mono (hg.keeps hs) (λ_ _ x=>x) λid _=>ρ.moved_refl id
def Env.upd (ρ:Env) (id g:Nat):Env:={ ρ with blk:= λi=>if i=id then some g else ρ.blk i }
theorem Env.moved_upd (ρ:Env) {id g i:Nat}(h:i≠id):ρ.moved (ρ.upd id g) i:=⟨by simp [Env.upd,h], .inl ⟨rfl,rfl⟩⟩
theorem cK {hp:Hp}{k:Nat}{o:HObj}{t:Nat}(h:k≠t):aN ((k,o)::hp) t=aN hp t:=by simp [aN,h]
theorem dS.alloc {w:World}{ρ ρ':Env}{vs:Array Value}{t:TypeId}{cs:List SV}(hl:vs.size=cs.length) (h1: ∀v∈vs,v.oneCell'=true)
  (hr: ∀(j:Nat) (s:SV) (v:Value),cs[j]? =some s->vs[j]? =some v->Rep w ρ s v) (hslt: ∀b i,ρ.S b i->b < w.heap.size) (hS: ∀b i,ρ.S b i->ρ'.S b i)
  (hm: ∀i∈SV.idsL cs,ρ.moved ρ' i):dS (w.alloc (.cells vs t)) ρ' w.heap.size t cs:=
 ⟨vs,heap_alloc_new w _,hl,h1,λj s v a b=>(hr j s v a b).mono ((Grew.alloc w _).keeps hslt) hS λi hi=>hm i (SV.mem_idsL a hi)⟩
theorem Mem.alloc {E:Entry}{ρ:Env}{hp:Hp}{w:World}(h:Mem E ρ hp w) (id:Nat) (vs:Array Value) (t:TypeId) (cs:List SV)
  (hid:id∉fG hp) (hpin:id∉E.pin) (hl:vs.size=cs.length) (h1: ∀v∈vs,v.oneCell'=true)
  (hr: ∀(j:Nat) (s:SV) (v:Value),cs[j]? =some s->vs[j]? =some v->Rep w ρ s v) (hids:id∉SV.idsL cs):
  Mem E (ρ.upd id w.heap.size) ((id, .cells t cs)::hp) (w.alloc (.cells vs t))/\
  (∀fr tm,id∉eQ fr->dD ρ w fr tm->dD (ρ.upd id w.heap.size) (w.alloc (.cells vs t)) fr tm)/\
  (∀s v,id∉s.ids->Rep w ρ s v->Rep (w.alloc (.cells vs t)) (ρ.upd id w.heap.size) s v):=by
 have hg:=Grew.alloc w (.cells vs t)
 have hk:cD ρ.S w _:=hg.keeps h.slt
 have hmv: ∀i,i≠id->ρ.moved (ρ.upd id w.heap.size) i:= λi hi=>ρ.moved_upd hi
 have hat: ∀i o,i≠id->(ρ.upd id w.heap.size).at i o=ρ.at i o:=by
  intro i o hi
  cases o<;>simp [Env.at,Env.upd,hi]
 have hne: ∀i o,aN hp i=some o->i≠id:= λi o ho e=>hid (e ▸ bJ ho (.inl rfl))
 have hget: ∀i o,aN ((id,HObj.cells t cs)::hp) i=some o->(i=id/\o= .cells t cs)\/(i≠id/\aN hp i=some o):=by
  intro i o ho
  by_cases e:i=id
  ·subst e;simp [aN]at ho;exact .inl ⟨rfl,ho.symm⟩
  ·rw [cK (λh=>e h.symm)]at ho;exact .inr ⟨e,ho⟩
 refine⟨⟨h.os,h.tape,h.output,by have:=h.size;simp;omega, ?_,h.sold,h.snew, ?_,h.kp.trans h.sold hk, ?_, ?_, ?_, ?_, ?_,λb hb=>(hg.block b (aV (h.md b hb))).trans (h.md b hb)⟩, ?_, ?_⟩
 ·exact λb hb hB=>(hg.block b (Nat.lt_of_lt_of_le hb h.size)).trans (h.old b hb hB)
 ·intro b i hs;have:=h.slt b i hs;simp;omega
 ·intro i o ho
  rcases hget i o ho with⟨rfl,rfl⟩|⟨e,ho'⟩
  ·refine⟨w.heap.size,by simp [Env.upd], ?_,λj hj=> ?_⟩
   ·exact dS.alloc (ρ:=ρ) hl h1 hr h.slt (λ_ _ x=>x) λj hj=>hmv j λe=>hids (e ▸ hj)
   ·have:=h.slt _ j hj;omega
  ·refine(h.sat i o ho').keep hk (λ_ _ x=>x) ?_ ⟨rfl,rfl⟩ ?_ (λ_ _ _ x=>x)
   ·rintro j hj
    exact hmv j λe'=>hid (e' ▸ bJ ho' hj)
   ·rintro g (hg'|⟨hg',hrd⟩)
    ·exact hg.block g (h.blk_lt ho' hg')
    ·exact hg.block g (h.ro_lt ho' hrd hg')
 ·intro i o i' o' g ho ho' hg1 hg2
  rcases hget i o ho with⟨rfl,rfl⟩|⟨e,ho1⟩
  ·rcases hget i' o' ho' with⟨rfl,rfl⟩|⟨e',ho1'⟩
   ·rfl
   ·rw [hat i' o' e']at hg2
    have hlt:=h.blk_lt ho1' hg2
    simp [Env.at,Env.upd]at hg1
    omega
  ·rw [hat i o e]at hg1
   rcases hget i' o' ho' with⟨rfl,rfl⟩|⟨e',ho1'⟩
   ·have hlt:=h.blk_lt ho1 hg1
    simp [Env.at,Env.upd]at hg2
    omega
   ·rw [hat i' o' e']at hg2
    exact h.inj i o i' o' g ho1 ho1' hg1 hg2
 ·intro i o g ho hg1
  rcases hget i o ho with⟨rfl,rfl⟩|⟨e,ho1⟩
  ·simp [Env.at,Env.upd]at hg1
   have:=h.size;omega
  ·rw [hat i o e]at hg1
   exact h.hb i o g ho1 hg1
 ·exact λi hi=>Env.moved_trans (h.mv i hi) (hmv i λe=>hpin (e ▸ hi))
 ·intro i oR g ho hrd hg1 i' o' ho' hg2
  rcases hget i _ ho with⟨_,hc⟩|⟨e,ho1⟩
  ·rw [hc]at hrd;exact hrd.elim
  ·have hg1':ρ.blk i=some g:=by simpa [Env.upd,e]using hg1
   rcases hget i' o' ho' with⟨rfl,rfl⟩|⟨e',ho1'⟩
   ·have:=h.ro_lt ho1 hrd hg1'
    simp [Env.at,Env.upd]at hg2
    omega
   ·rw [hat i' o' e']at hg2
    exact h.ro i _ g ho1 hrd hg1' i' o' ho1' hg2
 ·exact λfr tm hf hfs=>hfs.mono hk (λ_ _ x=>x) λi hi=>hmv i λe=>hf (e ▸ hi)
 ·exact λs v hs hr=>hr.mono hk (λ_ _ x=>x) λi hi=>hmv i λe=>hs (e ▸ hi)
def iE (cs:List SV) (off:Nat) (ns:List SV):List SV:=cs.take off++ns++cs.drop (off+ns.length)
theorem splice_getElem? {α:Type}(cs ns:List α) (off j:Nat) (h:off+ns.length<=cs.length):
  (cs.take off++ns++cs.drop (off+ns.length))[j]? =if j < off then cs[j]? else if j < off+ns.length then ns[j - off]? else cs[j]? :=by
 have hto:(cs.take off).length=off:=by rw [List.length_take];omega
 rw [List.append_assoc]
 by_cases h1:j < off
 ·rw [if_pos h1,List.getElem?_append_left (by omega),List.getElem?_take,if_pos h1]
 ·rw [if_neg h1,List.getElem?_append_right (by omega),hto]
  by_cases h2:j < off+ns.length
  ·rw [if_pos h2,List.getElem?_append_left (by omega)]
  ·rw [if_neg h2,List.getElem?_append_right (by omega),List.getElem?_drop]
   congr 1
   omega
theorem bD {hp:Hp}{id:Nat}{o:HObj}(x:HObj) (h:aN hp id=some o) (i:Nat):aN (dU hp id x) i=if i=id then some x else aN hp i:=by
 induction hp with
 |nil=>simp [aN]at h
 |cons p r ih=>
  obtain⟨k,o'⟩:=p
  simp only [aN]at h
  by_cases e:k=id
  ·subst e
   simp only [dU,if_true,aN]
   by_cases e':i=k
   ·simp [e']
   ·simp [e',Ne.symm e']
  ·simp only [e,if_false]at h
   simp only [dU,e,if_false,aN]
   by_cases e':k=i
   ·subst e';simp [e]
   ·simp [e',ih h]
theorem Mem.store {E:Entry}{ρ:Env}{hp:Hp}{w:World}(h:Mem E ρ hp w) {id off g:Nat}{t:TypeId}{cs:List SV}(ho:aN hp id=some (.cells t cs)) (hg:ρ.blk id=some g)
  (ns:List SV) (nv:List Value) (hn:nv.length=ns.length) (hoff:off+ns.length<=cs.length) (h1: ∀v∈nv,v.oneCell'=true)
  (hr: ∀(j:Nat) (s:SV) (v:Value),ns[j]? =some s->nv[j]? =some v->Rep w ρ s v):
  ∃cur:Array Value,w.heap[g]? =some (.cells cur t (0,0))/\off+nv.length<=cur.size/\
   Mem E ρ (dU hp id (.cells t (iE cs off ns))) (w.setRow g (cur.toList.take off++nv++cur.toList.drop (off+nv.length)).toArray)/\
   (∀fr tm,dD ρ w fr tm->dD ρ (w.setRow g (cur.toList.take off++nv++cur.toList.drop (off+nv.length)).toArray) fr tm):=by
 obtain⟨g',hg',⟨cur,hc1,hc2,hc3,hc4⟩,hns⟩:=h.sat id _ ho
 rw [hg]at hg'
 injection hg' with hg'
 subst hg'
 refine⟨cur,hc1,by omega, ?_⟩
 generalize hw':w.setRow g (cur.toList.take off++nv++cur.toList.drop (off+nv.length)).toArray=w'
 have hoth: ∀b,b≠g->w'.heap[b]? =w.heap[b]? := λb hb=>by rw [<-hw'];exact setRow_other w g b _ hb
 have hsz:w'.heap.size=w.heap.size:=by rw [<-hw'];simp [World.setRow]
 have hk:cD ρ.S w w':= λb i hs=>World.cell?_of_block (w:=w) (hoth b λe=>hns i (e ▸ hs))
 have hrf: ∀i,ρ.moved ρ i:=ρ.moved_refl
 have hat: ∀i o,aN (dU hp id (.cells t (iE cs off ns))) i=some o-> ∃o',aN hp i=some o'/\ρ.at i o=ρ.at i o':=by
  intro i o hi
  rw [bD _ ho]at hi
  by_cases e:i=id
  ·subst e;simp at hi;subst hi;exact⟨_,ho,rfl⟩
  ·simp [e]at hi;exact⟨o,hi,rfl⟩
 refine⟨⟨?_, ?_, ?_,by rw [hsz];exact h.size, ?_,h.sold,h.snew,by rw [hsz];exact h.slt,h.kp.trans h.sold hk, ?_, ?_, ?_,h.mv, ?_,λb hb=>(hoth b (λe=>by subst e;have:=h.md b hb;rw [hc1]at this;cases this)).trans (h.md b hb)⟩, ?_⟩
 ·rw [<-hw'];exact h.os
 ·rw [<-hw'];exact h.tape
 ·rw [<-hw'];exact h.output
 ·intro b hb hB
  rw [hoth b ?_]
  ·exact h.old b hb hB
  ·rintro rfl
   rcases h.hb id _ b ho hg with hge|hB'
   ·omega
   ·exact hB hB'
 ·intro i o hi
  rw [bD _ ho]at hi
  by_cases e:i=id
  ·subst e
   simp at hi
   subst hi
   refine⟨g,hg,⟨_,by rw [<-hw'];exact setRow_heap w g cur _ t _ hc1, ?_, ?_, ?_⟩,hns⟩
   ·simp only [List.size_toArray,List.length_append,List.length_take,List.length_drop,iE,Array.length_toList];omega
   ·intro v hv
    simp only [List.mem_toArray,List.mem_append]at hv
    rcases hv with(hv|hv)|hv
    ·exact hc3 v (by simpa using List.mem_of_mem_take hv)
    ·exact h1 v hv
    ·exact hc3 v (by simpa using List.mem_of_mem_drop hv)
   ·intro j s v hs hv
    have hv':(cur.toList.take off++nv++cur.toList.drop (off+nv.length))[j]? =some v:=by simpa using hv
    rw [splice_getElem? _ _ _ _ (by have:=Array.length_toList (xs:=cur);omega)]at hv'
    unfold iE at hs
    rw [splice_getElem? _ _ _ _ hoff]at hs
    rw [hn]at hv'
    have fin: ∀{s v},Rep w ρ s v->Rep w' ρ s v:= λhr=>hr.mono hk (λ_ _ x=>x) λi _=>hrf i
    split at hs
    ·rename_i hlt;rw [if_pos hlt]at hv';exact fin (hc4 j s v hs (by simpa using hv'))
    ·rename_i hlt
     rw [if_neg hlt]at hv'
     split at hs
     ·rename_i hlt2;rw [if_pos hlt2]at hv';exact fin (hr _ s v hs hv')
     ·rename_i hlt2;rw [if_neg hlt2]at hv';exact fin (hc4 j s v hs (by simpa using hv'))
  ·simp [e]at hi
   refine(h.sat i o hi).keep hk (λ_ _ x=>x) (λj _=>hrf j) ⟨rfl,rfl⟩ ?_ (λ_ _ _ x=>x)
   rintro b (hb'|⟨hb',hrd⟩)
   ·exact hoth b λe'=>e (h.inj i o id _ b hi ho hb' (by rw [e'];exact hg))
   ·exact hoth b λe'=>h.ro i _ b hi hrd hb' id _ ho (by rw [e'];exact hg)
 ·intro i o i' o' b hi hi' hb1 hb2
  obtain⟨o1,k1,e1⟩:=hat i o hi
  obtain⟨o2,k2,e2⟩:=hat i' o' hi'
  exact h.inj i o1 i' o2 b k1 k2 (e1 ▸ hb1) (e2 ▸ hb2)
 ·intro i o b hi hb1
  obtain⟨o1,k1,e1⟩:=hat i o hi
  exact h.hb i o1 b k1 (e1 ▸ hb1)
 ·intro i oR b hi hrd hb1 i' o' hi' hb2
  have hi0:aN hp i=some oR:=by
   rw [bD _ ho]at hi
   by_cases e:i=id
   ·subst e;simp at hi;subst hi;exact hrd.elim
   ·simpa [e]using hi
  obtain⟨o2,k2,e2⟩:=hat i' o' hi'
  exact h.ro i _ b hi0 hrd hb1 i' o2 k2 (e2 ▸ hb2)
 ·exact λfr tm hf=>hf.mono hk (λ_ _ x=>x) λi _=>hrf i
end Go.Proofs.YtbobcfjlbcgchaaGreatDoor
namespace Go.Proofs.YtbobcfjlbcgchaaGreatDoor
open Go.RowKit
theorem vS {rows:List (List D)}{z i j:Nat}{row:List D}{x:D}(hz: ∀row∈rows,row.length=z) (h1:rows[i]? =some row) (h2:row[j]? =some x):i < rows.length/\j < z/\i * z+j < rows.length * z:=by
 have hi:i < rows.length:=(List.getElem?_eq_some_iff.1 h1).1
 have hm:row∈rows:=List.mem_of_getElem? h1
 have hj:j < row.length:=(List.getElem?_eq_some_iff.1 h2).1
 rw [hz row hm]at hj
 refine⟨hi,hj, ?_⟩
 have:(i+1)* z<=rows.length * z:=Nat.mul_le_mul_right z hi
 rw [Nat.add_mul]at this
 omega
theorem Flat.nil (w:World) (S:Nat->Nat->Prop) (z:Nat):Flat w S z [] []:=⟨by simp,by simp,by simp,by simp⟩
theorem Flat.append {w:World}{S:Nat->Nat->Prop}{z:Nat}{rows rows':List (List D)}{vs vs':List Value}(h:Flat w S z rows vs) (h':Flat w S z rows' vs'):Flat w S z (rows++rows') (vs++vs'):=by
 refine⟨by rw [List.length_append,List.length_append,h.len,h'.len,Nat.add_mul], ?_, ?_, ?_⟩
 ·intro row hr
  rcases List.mem_append.1 hr with hr|hr
  ·exact h.hz row hr
  ·exact h'.hz row hr
 ·intro v hv
  rcases List.mem_append.1 hv with hv|hv
  ·exact h.one v hv
  ·exact h'.one v hv
 ·intro i row j x h1 h2
  by_cases hi:i < rows.length
  ·rw [List.getElem?_append_left hi]at h1
   obtain⟨v,a,b⟩:=h.at_ i row j x h1 h2
   have:=vS h.hz h1 h2
   exact⟨v,by rw [List.getElem?_append_left (by rw [h.len];exact this.2.2)];exact a,b⟩
  ·rw [List.getElem?_append_right (by omega)]at h1
   obtain⟨v,a,b⟩:=h'.at_ _ row j x h1 h2
   refine⟨v, ?_,b⟩
   have e:i * z=rows.length * z+(i - rows.length)* z:=by rw [<-Nat.add_mul];congr 1;omega
   rw [List.getElem?_append_right (by rw [h.len];omega),h.len]
   rw [<-a]
   congr 1
   omega
theorem Flat.view {w:World}{S S':Nat->Nat->Prop}{z:Nat}{rows:List (List D)}{vs:List Value}(h:Flat w S z rows vs) {w':World}{b off:Nat}
  (hc: ∀k v,vs[k]? =some v->w'.cell? ⟨b,off+k,none⟩=some v) (hs: ∀k,k < vs.length->S' b (off+k)) (hr: ∀x v,RepD w S x v->RepD w' S' x v):View w' S' z rows b off:=
 ⟨h.hz, λi row j x h1 h2 => by
  obtain⟨v,a,b⟩:=h.at_ i row j x h1 h2
  have hlt:=(List.getElem?_eq_some_iff.1 a).1
  exact⟨v,hc _ v a,hs _ hlt,h.one v (List.mem_of_getElem? a),hr x v b⟩⟩
theorem View.flat {w:World}{S:Nat->Nat->Prop}{z:Nat}{rows:List (List D)}{b off:Nat}(h:View w S z rows b off):
  ∃vs,Flat w S z rows vs/\(∀k v,vs[k]? =some v->w.cell? ⟨b,off+k,none⟩=some v)/\ ∀k,k < vs.length->S b (off+k):=by
 have key: ∀k,k < rows.length * z-> ∃v,w.cell? ⟨b,off+k,none⟩=some v/\S b (off+k)/\v.oneCell'=true:=by
  intro k hk
  have hz:0 < z:=by
   rcases Nat.eq_zero_or_pos z with e|e
   ·subst e;simp at hk
   ·exact e
  have hi:k / z < rows.length:=(Nat.div_lt_iff_lt_mul hz).2 hk
  have hj:k % z < z:=Nat.mod_lt _ hz
  have hrow:rows[k / z]? =some rows[k / z]:=List.getElem?_eq_getElem hi
  have hl:=h.hz rows[k / z] (List.getElem_mem hi)
  have hx:rows[k / z][k % z]? =some (rows[k / z][k % z]'(by omega)):=List.getElem?_eq_getElem (by omega)
  obtain⟨v,a1,a2,a3,_⟩:=h.cell _ _ _ _ hrow hx
  have e:k / z * z+k % z=k:=by rw [Nat.mul_comm];exact Nat.div_add_mod k z
  rw [e]at a1 a2
  exact⟨v,a1,a2,a3⟩
 have hcell: ∀k v,((List.range (rows.length * z)).map λk=>(w.cell? ⟨b,off+k,none⟩).getD undef)[k]? =some v->w.cell? ⟨b,off+k,none⟩=some v:=by
  intro k v hv
  simp only [List.getElem?_map,Option.map_eq_some_iff]at hv
  obtain⟨k',hk',rfl⟩:=hv
  obtain⟨hk1,hk2⟩:=List.getElem?_eq_some_iff.1 hk'
  simp at hk1 hk2
  obtain⟨u,hu,_⟩:=key k hk1
  subst hk2
  rw [hu];rfl
 refine⟨(List.range (rows.length * z)).map λk=>(w.cell? ⟨b,off+k,none⟩).getD undef,⟨by simp,h.hz, ?_, ?_⟩,hcell, ?_⟩
 ·intro v hv
  obtain⟨k,hk,rfl⟩:=List.mem_map.1 hv
  obtain⟨u,hu,_,ho⟩:=key k (List.mem_range.1 hk)
  rw [hu];exact ho
 ·intro i row j x h1 h2
  have hlt:=vS h.hz h1 h2
  obtain⟨v,a1,a2,a3,a4⟩:=h.cell i row j x h1 h2
  refine⟨v, ?_,a4⟩
  simp [hlt.2.2,a1]
 ·intro k hk
  simp at hk
  exact(key k hk).choose_spec.2.1
theorem dC (g k:Nat):(⟨g,0,none⟩:Addr).add k=⟨g,k,none⟩:=by unfold Addr.add;split<;>simp_all
theorem cN (b off k:Nat):(⟨b,off,none⟩:Addr).add k=⟨b,off+k,none⟩:=by unfold Addr.add;split<;>simp_all
theorem iL {w:World}{base:Nat}{e:TypeId}{size:Nat}{v:Value}{n:Nat}{xs:List Value}(h:w.ownsRow base e size v n xs) {g:Nat}(hg:v.ownBlock=some g):
  ∀k u,xs[k]? =some u->w.cell? ⟨g,k,none⟩=some u:= λk u hu=>by
 have:=h.cells hg k u hu
 rwa [dC]at this
theorem mF {w:World}{base:Nat}{e:TypeId}{size:Nat}{v:Value}{n:Nat}{xs:List Value}(h:w.ownsRow base e size v n xs) {b:Nat}(hb:v.ownBlock=some b) {x:Option (List Deferred)}(hd:w.heap[b]? =some (.deferred x)):False:=by
 rcases h.2 with⟨rfl,_⟩|⟨g,cap,cur,rfl,_,hg,_⟩
 ·simp [Value.ownBlock]at hb
 ·simp only [Value.ownBlock,Option.some.injEq]at hb
  subst hb
  rw [hd]at hg;cases hg
section
variable {P:Program}
theorem oD (w:World) (t tx ty e:TypeId) (i:TypeInfo) (z:Value) (dx:TypeDesc) (ht:P.underlying t=some (.slice e)) (htx:P.underlying tx=some dx) (hdx:dx= .string\/ ∃e',dx= .slice e')
  (hi:P.info? e=some i) (hz:i.zero=some z) (hzs:z.cells.size=i.size)
  (v:Value) (n:Nat) (xs:List Value) (hown:w.ownsRow 0 e i.size v n xs)
  (x:Value) (m:Nat) (news:List Value) (hl:news.length=m * i.size) (hlen: ∀u:World,(Builtin.lenOf x).run P u= .ok m u)
  (hfc: ∀u:World,u.heap=w.heap->(Builtin.firstCells i.size m x).run P u= .ok news.toArray u) (h1: ∀u∈news,u.oneCell'=true)
  (h63:n+m<=maxLen) (hbytes:(n+m)* i.bytes<=140737488355328):
  ∃v' w',(Builtin.append_ #[t,tx] ty #[v,x]).run P w= .ok v' w'/\w'.ownsRow 0 e i.size v' (n+m) (xs++news)/\
   ((v'=v/\m=0/\w'=w)\/(∃g cap cs,v= .slice (some ⟨g,0,none⟩) n cap/\v'= .slice (some ⟨g,0,none⟩) (n+m) cap/\w'=w.setRow g cs)\/(v'.ownBlock=some w.heap.size/\Grew w w'/\0 < m)):=by
 have hsmall:n+m<=9223372036854775807:=by simp only [maxLen]at h63;omega
 have hlen':(xs++news).length=(n+m)* i.size:=by rw [List.length_append,hown.1,hl,Nat.add_mul]
 have grown: ∀(old:Nat),old < n+m->
   (w.drew.alloc (.cells (xs.toArray++news.toArray++Builtin.zeroCells z.cells (grownCap w (n+m) old e - (n+m))) e)).ownsRow 0 e i.size
    (.slice (some ⟨w.heap.size,0,none⟩) (n+m) (grownCap w (n+m) old e)) (n+m) (xs++news):=by
  intro old ho
  have hge:=grownCap_ge w (n+m) old e
  have hcm:grownCap w (n+m) old e<=maxLen:=grownCap_le_maxLen w (n+m) old e h63
  refine⟨hlen', .inr ⟨w.heap.size,_,_,rfl,Nat.zero_le _,heap_alloc_new w.drew _,hge,hcm, ?_, ?_⟩⟩
  ·simp only [Array.size_append,List.size_toArray,size_zeroCells,hzs,hown.1,hl,<-Nat.add_mul]
   congr 1
   omega
  ·simp only [Array.toList_append,List.append_assoc]
   rw [<-List.append_assoc,<-hlen']
   exact List.take_left
 have hgrew: ∀o,Grew w (w.drew.alloc o):= λo=>(Grew.drew w).trans (Grew.alloc _ _)
 rcases hown.2 with⟨rfl,rfl⟩|⟨g,cap,cur,rfl,hbg,hg,hnc,hcm,hcs,htake⟩
 ·have hx0:xs=[]:=List.eq_nil_of_length_eq_zero (by simpa using hown.1)
  subst hx0
  by_cases hm:m=0
  ·subst hm
   have hn:news=[]:=List.eq_nil_of_length_eq_zero (by simpa using hl)
   subst hn
   refine⟨.slice none 0 0,w, ?_,World.ownsRow_nil w 0 e i.size, .inl ⟨rfl,rfl,rfl⟩⟩
   have hf:=hfc w rfl
   rcases hdx with rfl|⟨e',rfl⟩<;>simp [Builtin.append_,run_underlying ht,run_underlying htx,sizeOf,typeInfo,hi,hlen,hf]
  ·have hgr:=grown 0 (by omega)
   have h63':¬ (9223372036854775807 < (m:Int)):=by omega
   have h48':¬ (281474976710656 < Builtin.nextslicecap m 0 * i.bytes):=by
    have:=growslice_fits (need:=m) (old:=0) (bytes:=i.bytes) (by omega) (by simpa using hbytes)
    omega
   have hf:=hfc w.drew rfl
   refine⟨.slice (some ⟨w.heap.size,0,none⟩) (0+m) (grownCap w (0+m) 0 e),_, ?_,hgr, .inr (.inr ⟨rfl,hgrew _,by omega⟩)⟩
   rcases hdx with rfl|⟨e',rfl⟩<;>simp [Builtin.append_,run_underlying ht,run_underlying htx,sizeOf,typeInfo,zeroValue,hi,hz,hlen,hm,h63',h48',Question.forced,run_firstCells_none,hf,newRow,grownCap]
 ·by_cases hroom:n+m<=cap
  ·have hfit:n * i.size+news.length<=cur.size:=by rw [hl,hcs,<-Nat.add_mul];exact Nat.mul_le_mul_right _ hroom
   have hst:=run_storeCells_at P g (n * i.size) e news 0 cur w hg (by simpa using hfit) h1
   simp only [Nat.add_zero]at hst
   have hf:=hfc w rfl
   refine⟨.slice (some ⟨g,0,none⟩) (n+m) cap,w.setRow g (cur.toList.take (n * i.size)++news++cur.toList.drop (n * i.size+news.length)).toArray, ?_, ?_, .inr (.inl ⟨g,cap,_,rfl,rfl,rfl⟩)⟩
   ·rcases hdx with rfl|⟨e',rfl⟩<;>simp [Builtin.append_,run_underlying ht,run_underlying htx,sizeOf,typeInfo,hi,hlen,hroom,hf,Addr.add_lit,hst]
   ·refine⟨hlen', .inr ⟨g,cap,_,rfl,Nat.zero_le _,setRow_heap w g cur _ e _ hg,hroom,hcm, ?_, ?_⟩⟩
    ·simp only [List.size_toArray,List.length_append,List.length_take,List.length_drop,Array.length_toList]
     omega
    ·rw [htake,<-hlen',List.append_assoc,<-List.append_assoc]
     exact List.take_left
  ·have hgr:=grown cap (by omega)
   have h63':¬ (9223372036854775807 < ((n:Int)+(m:Int))):=by omega
   have h48':¬ (281474976710656 < Builtin.nextslicecap (n+m) cap * i.bytes):=by
    have:=growslice_fits (need:=n+m) (old:=cap) (bytes:=i.bytes) (by omega) hbytes
    omega
   have hf:=hfc w.drew rfl
   have hfo:=run_firstCells_some (P:=P) w.drew i.size n ⟨g,0,none⟩ n cap xs hown.1 (λj u hu=>by rw [dC];exact iL hown rfl j u hu)
   refine⟨.slice (some ⟨w.heap.size,0,none⟩) (n+m) (grownCap w (n+m) cap e),_, ?_,hgr, .inr (.inr ⟨rfl,hgrew _,by omega⟩)⟩
   rcases hdx with rfl|⟨e',rfl⟩<;>(simp [Builtin.append_,run_underlying ht,run_underlying htx,sizeOf,typeInfo,zeroValue,hi,hz,hlen,hroom,h63',h48',Question.forced,hf,hfo,newRow,grownCap];congr 2;apply Array.ext';simp [List.append_assoc])
end
theorem aGv {w:World}{base:Nat}{e:TypeId}{size:Nat}{v:Value}{n:Nat}{xs:List Value}(h:w.ownsRow base e size v n xs):(v= .slice none 0 0/\n=0)\/ ∃g cap,v= .slice (some ⟨g,0,none⟩) n cap/\n<=cap/\cap<=maxLen:=by
 rcases h.2 with hn|⟨g,cap,cur,rfl,hbb,hg,h1,h2,_⟩
 ·exact .inl hn
 ·exact .inr ⟨g,cap,rfl,h1,h2⟩
def Env.kb (ρ:Env) (id:Nat):HObj->Option Nat
 | .own _ _ _=>none
 | .mrow _ _ _ _=>eM (ρ.tv id)
 | .glob _ _ _=>none
 |_=>ρ.blk id
def Env.grown (ρ:Env) (id n' z:Nat) (v':Value):Env:=
 { S:= λb i=>ρ.S b i\/(v'.ownBlock=some b/\i < n' * z),blk:=ρ.blk,n:= λi=>if i=id then n' else ρ.n i,tv:= λi=>if i=id then v' else ρ.tv i }
theorem Mem.append {P:Program}{E:Entry}{ρ:Env}{hp:Hp}{w:World}(h:Mem E ρ hp w) {id e z:Nat}{rows:List (List D)}{v:Value}
  (ho:aN hp id=some (.own e z rows.length)) (hrep:Rep w ρ (.osl id z rows) v) {news:List (List D)} {vs:List Value} (hfl:Flat w ρ.S z news vs)
  (t tx ty:TypeId) (i:TypeInfo) (zv:Value) (dx:TypeDesc) (ht:P.underlying t=some (.slice e)) (htx:P.underlying tx=some dx) (hdx:dx= .string\/ ∃e',dx= .slice e')
  (hi:P.info? e=some i) (hz:i.zero=some zv) (hzs:zv.cells.size=i.size) (hsz:i.size=z)
  (x:Value) (hlen: ∀u:World,(Builtin.lenOf x).run P u= .ok news.length u)
  (hfc: ∀u:World,u.heap=w.heap->(Builtin.firstCells i.size news.length x).run P u= .ok vs.toArray u)
  (h63:rows.length+news.length<=maxLen) (hbytes:(rows.length+news.length)* i.bytes<=140737488355328):
  ∃v' w' ρ',(Builtin.append_ #[t,tx] ty #[v,x]).run P w= .ok v' w'/\Mem E ρ' (dU hp id (.own e z (rows.length+news.length))) w'/\(∀fr tm,dD ρ w fr tm->dD ρ' w' fr tm)/\
   Rep w' ρ' (.osl id z (rows++news)) v'/\cD ρ.S w w'/\(∀b i,ρ.S b i->ρ'.S b i)/\ρ'.blk=ρ.blk/\(∀j o,j≠id->ρ'.kb j o=ρ.kb j o)/\ ∀j o b,j≠id->aN hp j=some o->(ρ.at j o=some b\/ρ.blk j=some b/\o.Rd)->w'.heap[b]? =w.heap[b]? :=by
 subst hsz
 cases hrep with
 |osl _ _ _ _ hr hn htt=>
 obtain⟨htop',xs,hown,hSn,h1x⟩:=h.sat id _ ho
 have htop:=htop'.symm
 have hv:=htt htop
 rw [<-hv,<-htop]at hown
 have hx1: ∀u∈xs,u.oneCell'=true:=h1x
 obtain⟨v',w',hrun,hown',hcase⟩:=oD w t tx ty e i zv dx ht htx hdx hi hz hzs v rows.length xs hown x news.length vs hfl.len hlen hfc hfl.one h63 hbytes
 -- the old rows' cells
 have hfl0:Flat w ρ.S i.size rows xs:=by
  obtain⟨A,cap,b,off,e1,hnc,hcm,hA,hview⟩:=hr.of_sl
  refine⟨hown.1,hview.hz,hx1, ?_⟩
  intro a row j y h1 h2
  obtain⟨u,c1,c2,c3,c4⟩:=hview.cell a row j y h1 h2
  have hne:rows≠[]:=by rintro rfl;simp at h1
  have hlt:=vS hview.hz h1 h2
  rcases aGv hown with⟨e2,e3⟩|⟨g,cap',e2,_⟩
  ·exact absurd (List.eq_nil_of_length_eq_zero e3) hne
  ·rw [e2]at e1
   injection e1 with e4 e5 e6
   rw [hA hne]at e4
   injection e4 with e4
   injection e4 with e7 e8
   subst e7;subst e8
   simp only [Nat.zero_add]at c1
   refine⟨u, ?_,c4⟩
   have hlt':a * i.size+j < xs.length:=by rw [hown.1];exact hlt.2.2
   have:=iL hown (g:=g) (by rw [e2];rfl) _ _ (List.getElem?_eq_getElem hlt')
   rw [c1]at this
   rw [List.getElem?_eq_getElem hlt']
   exact this.symm
 have hflat:=hfl0.append hfl
 have hlenapp:(rows++news).length=rows.length+news.length:=List.length_append
 -- what is kept
 have hoth: ∀b,b < w.heap.size->v.ownBlock≠some b->w'.heap[b]? =w.heap[b]? :=by
  intro b hb hne
  rcases hcase with⟨_,_,rfl⟩|⟨g,cap,cs,rfl,rfl,rfl⟩|⟨_,hg,_⟩
  ·rfl
  ·exact setRow_other w g b _ λe=>hne (by simp [Value.ownBlock,e])
  ·exact hg.block b hb
 have hsize:w.heap.size<=w'.heap.size:=by
  rcases hcase with⟨_,_,rfl⟩|⟨g,cap,cs,rfl,rfl,rfl⟩|⟨_,hg,_⟩
  ·exact Nat.le_refl _
  ·simp [World.setRow]
  ·exact hg.size
 have hS0: ∀g,v.ownBlock=some g-> ∀k,ρ.S g k->k < rows.length * i.size:=by
  intro g hg k hk
  rw [htop]
  exact hSn g (by rw [<-hv];exact hg) k hk
 have hk:cD ρ.S w w':=by
  intro b k hbk
  by_cases hb:v.ownBlock=some b
  ·rcases hcase with⟨_,_,rfl⟩|⟨g,cap,cs,e1,e2,e3⟩|⟨_,hg,_⟩
   ·rfl
   ·have hlt:=hS0 b hb k hbk
    have hbg:g=b:=by rw [e1]at hb;simpa [Value.ownBlock]using hb
    subst hbg
    have hk1:k < xs.length:=by rw [hown.1];exact hlt
    have a1:=iL hown hb k _ (List.getElem?_eq_getElem hk1)
    have a2:=iL hown' (g:=g) (by rw [e2];rfl) k xs[k] (by rw [List.getElem?_append_left hk1,List.getElem?_eq_getElem hk1])
    rw [a1,a2]
   ·exact World.cell?_of_block (w:=w) (hg.block b (h.slt b k hbk))
  ·exact World.cell?_of_block (w:=w) (hoth b (h.slt b k hbk) hb)
 have hSS: ∀b k,ρ.S b k->(ρ.grown id (rows.length+news.length) i.size v').S b k:= λb k hs=> .inl hs
 have hmv: ∀j,ρ.moved (ρ.grown id (rows.length+news.length) i.size v') j:=by
  intro j
  refine⟨rfl, ?_⟩
  by_cases e:j=id
  ·subst e
   simp only [Env.grown,if_true]
   rcases hcase with⟨e1,e2,_⟩|⟨g,cap,cs,e1,e2,e3⟩|⟨_,_,hpos⟩
   ·left;rw [e2,htop,e1,<-hv];exact⟨rfl,rfl⟩
   ·by_cases hm:news.length=0
    ·left;rw [hm,Nat.add_zero,e2,hm,Nat.add_zero,<-e1,<-hv];exact⟨htop,rfl⟩
    ·right;omega
   ·right;omega
  ·left;simp [Env.grown,e]
 have hnewblk: ∀b,v'.ownBlock=some b->v.ownBlock=some b\/w.heap.size<=b:=by
  intro b hb
  rcases hcase with⟨e1,_,_⟩|⟨g,cap,cs,e1,e2,e3⟩|⟨e1,_,_⟩
  ·left;rw [<-e1];exact hb
  ·left;rw [e2]at hb;rw [e1];exact hb
  ·right;rw [e1]at hb;injection hb with hb;omega
 have hold: ∀b,v.ownBlock=some b->E.w.heap.size<=b\/E.B b:= λb hb=>h.hb id _ b ho (by simp only [Env.at];rw [<-hv];exact hb)
 have hlt': ∀b,v'.ownBlock=some b->b < w'.heap.size:= λb hb=>(hown'.lt b hb).2
 have hat: ∀j o,j≠id->(ρ.grown id (rows.length+news.length) i.size v').at j o=ρ.at j o:=by
  intro j o hj
  cases o<;>simp [Env.at,Env.grown,hj]
 have hget: ∀j o,aN (dU hp id (.own e i.size (rows.length+news.length))) j=some o->(j=id/\o= .own e i.size (rows.length+news.length))\/(j≠id/\aN hp j=some o):=by
  intro j o hj
  rw [bD _ ho]at hj
  by_cases e1:j=id
  ·simp [e1]at hj;exact .inl ⟨e1,hj.symm⟩
  ·simp [e1]at hj;exact .inr ⟨e1,hj⟩
 have hatid:(ρ.grown id (rows.length+news.length) i.size v').at id (.own e i.size (rows.length+news.length))=v'.ownBlock:=by
  simp [Env.at,Env.grown]
 have hown_ne: ∀j o b,j≠id->aN hp j=some o->ρ.at j o=some b->v.ownBlock≠some b:=by
  intro j o b hj hjo hb hvb
  exact hj (h.inj j o id _ b hjo ho hb (by simp only [Env.at];rw [<-hv];exact hvb))
 refine⟨v',w',ρ.grown id (rows.length+news.length) i.size v',hrun,⟨?_, ?_, ?_,Nat.le_trans h.size hsize, ?_, ?_, ?_, ?_,h.kp.trans h.sold hk, ?_, ?_, ?_,λj hj=>Env.moved_trans (h.mv j hj) (hmv j), ?_,λb hb=>(hoth b (aV (h.md b hb)) (λhvb=>mF hown hvb (h.md b hb))).trans (h.md b hb)⟩, ?_, ?_⟩
 ·rcases hcase with⟨_,_,rfl⟩|⟨g,cap,cs,rfl,rfl,rfl⟩|⟨_,hg,_⟩
  ·exact h.os
  ·exact h.os
  ·exact hg.os.trans h.os
 ·rcases hcase with⟨_,_,rfl⟩|⟨g,cap,cs,rfl,rfl,rfl⟩|⟨_,hg,_⟩
  ·exact h.tape
  ·exact h.tape
  ·exact hg.tape.trans h.tape
 ·rcases hcase with⟨_,_,rfl⟩|⟨g,cap,cs,rfl,rfl,rfl⟩|⟨_,hg,_⟩
  ·exact h.output
  ·exact h.output
  ·exact hg.output.trans h.output
 ·intro b hb hB
  rw [hoth b (Nat.lt_of_lt_of_le hb h.size) ?_]
  ·exact h.old b hb hB
  ·intro hvb
   rcases hold b hvb with hge|hB'
   ·omega
   ·exact hB hB'
 ·exact λb k hs=> .inl (h.sold b k hs)
 ·rintro b k (hs|⟨hs,_⟩) hb hB
  ·exact h.snew b k hs hb hB
  ·rcases hnewblk b hs with hvb|hge
   ·rcases hold b hvb with hge|hB'
    ·omega
    ·exact absurd hB' hB
   ·have:=h.size;omega
 ·rintro b k (hs|⟨hs,_⟩)
  ·exact Nat.lt_of_lt_of_le (h.slt b k hs) hsize
  ·exact hlt' b hs
 ·intro j o hj
  rcases hget j o hj with⟨rfl,rfl⟩|⟨e1,hj⟩
  ·refine⟨by simp [Env.grown],xs++vs, ?_, ?_, ?_⟩
   ·simpa [Env.grown]using hown'
   ·intro g hg k hk
    simp only [Env.grown,if_true]at hg hk |-
    rcases hk with hk|⟨_,hk⟩
    ·rcases hnewblk g hg with hvb|hge
     ·have:=hS0 g hvb k hk
      rw [Nat.add_mul];omega
     ·have:=h.slt g k hk;omega
    ·exact hk
   ·intro u hu
    rcases List.mem_append.1 hu with hu|hu
    ·exact hx1 u hu
    ·exact hfl.one u hu
  ·refine(h.sat j o hj).keep hk hSS (λa _=>hmv a) (by simp [Env.grown,e1]) ?_ ?_
   ·rintro b (hb|⟨hb,hrd⟩)
    ·exact hoth b (h.blk_lt hj hb) (hown_ne j o b e1 hj hb)
    ·exact hoth b (h.ro_lt hj hrd hb) λhvb=>h.ro j _ b hj hrd hb id _ ho (by simp only [Env.at];rw [<-hv];exact hvb)
   ·rintro b hb k (hk'|⟨hk',_⟩)
    ·exact hk'
    ·rcases hnewblk b hk' with hvb|hge
     ·exact absurd hvb (hown_ne j o b e1 hj hb)
     ·have:=h.blk_lt hj hb;omega
 ·intro j o j' o' b hj hj' hb hb'
  rcases hget j o hj with⟨e1,rfl⟩|⟨e1,hj1⟩
  ·rcases hget j' o' hj' with⟨e2,rfl⟩|⟨e2,hj2⟩
   ·rw [e1,e2]
   ·rw [e1,hatid]at hb
    rw [hat j' o' e2]at hb'
    rcases hnewblk b hb with hvb|hge
    ·exact absurd hvb (hown_ne j' o' b e2 hj2 hb')
    ·have:=h.blk_lt hj2 hb';omega
  ·rw [hat j o e1]at hb
   rcases hget j' o' hj' with⟨e2,rfl⟩|⟨e2,hj2⟩
   ·rw [e2,hatid]at hb'
    rcases hnewblk b hb' with hvb|hge
    ·exact absurd hvb (hown_ne j o b e1 hj1 hb)
    ·have:=h.blk_lt hj1 hb;omega
   ·rw [hat j' o' e2]at hb'
    exact h.inj j o j' o' b hj1 hj2 hb hb'
 ·intro j o b hj hb
  rcases hget j o hj with⟨e1,rfl⟩|⟨e1,hj1⟩
  ·rw [e1,hatid]at hb
   rcases hnewblk b hb with hvb|hge
   ·exact hold b hvb
   ·have:=h.size;left;omega
  ·rw [hat j o e1]at hb
   exact h.hb j o b hj1 hb
 ·intro j oR b hj hrd hb j' o' hj' hb'
  have hb0:ρ.blk j=some b:=hb
  rcases hget j _ hj with⟨_,hc⟩|⟨e1,hj1⟩
  ·rw [hc]at hrd;exact hrd.elim
  ·rcases hget j' o' hj' with⟨e2,rfl⟩|⟨e2,hj2⟩
   ·rw [e2,hatid]at hb'
    rcases hnewblk b hb' with hvb|hge
    ·exact h.ro j _ b hj1 hrd hb0 id _ ho (by simp only [Env.at];rw [<-hv];exact hvb)
    ·have:=h.ro_lt hj1 hrd hb0;omega
   ·rw [hat j' o' e2]at hb'
    exact h.ro j _ b hj1 hrd hb0 j' o' hj2 hb'
 ·exact λfr tm hf=>hf.mono hk hSS λa _=>hmv a
 ·refine⟨?_,hk,hSS,rfl,λj o hj=>by cases o<;>simp [Env.kb,Env.grown,hj],λj o b e1 hj hb=> ?_⟩
  rotate_left
  ·rcases hb with hb|⟨hb,hrd⟩
   ·exact hoth b (h.blk_lt hj hb) (hown_ne j o b e1 hj hb)
   ·exact hoth b (h.ro_lt hj hrd hb) λhvb=>h.ro j _ b hj hrd hb id _ ho (by simp only [Env.at];rw [<-hv];exact hvb)
  refine .osl id i.size _ v' ?_ (by simp [Env.grown]) (by simp [Env.grown])
  rcases aGv hown' with⟨e1,e2⟩|⟨g,cap,e1,hc1,hc2⟩
  ·have hnil:rows++news=[]:=List.eq_nil_of_length_eq_zero (by rw [hlenapp];exact e2)
   rw [hnil,e1]
   exact RepD.mk_sl (b:=0) (off:=0) (by simp) (by simp) (λhne=>absurd rfl hne) ⟨by simp,by simp⟩ (by simp)
  ·have hview:View w' (ρ.grown id (rows.length+news.length) i.size v').S i.size (rows++news) g 0:=by
    refine hflat.view (λk u hu=> ?_) (λk hk'=> ?_) (λy u hyu=>hyu.mono hk hSS)
    ·rw [Nat.zero_add];exact iL hown' (g:=g) (by rw [e1];rfl) k u hu
    ·right
     refine⟨by rw [e1];rfl, ?_⟩
     rw [hflat.len,hlenapp]at hk'
     rw [Nat.zero_add];exact hk'
   have hfin:RepD w' (ρ.grown id (rows.length+news.length) i.size v').S (.sl i.size (rows++news)) (.slice (some ⟨g,0,none⟩) (rows.length+news.length) cap):=
    RepD.mk_sl (b:=g) (off:=0) (by rw [hlenapp];exact hc1) hc2 (λ_=>rfl) hview hlenapp.symm
   rw [<-e1]at hfin
   exact hfin
end Go.Proofs.YtbobcfjlbcgchaaGreatDoor
namespace Go.Proofs.YtbobcfjlbcgchaaGreatDoor
open Go.RowKit
def aG (_why:String):Prop:=False
def brB (b:Bool) (y n:Prop):Prop:=match b with|true=>y|false=>n
theorem aB {b:Bool}{y n:Prop}(h1:b=true->y) (h2:b=false->n):brB b y n:=by cases b;exact h2 rfl;exact h1 rfl
theorem aA {p:Prop} [Decidable p] {y n:Prop}(h1:p->y) (h2:¬ p->n):brB (decide p) y n:=aB (λh=>h1 (of_decide_eq_true h)) (λh=>h2 (of_decide_eq_false h))
theorem aC {p:Prop} [Decidable p] {y n:Prop}(h1:¬ p->y) (h2:p->n):brB (!decide p) y n:=aB (λh=>h1 (by simpa using h)) (λh=>h2 (by simpa using h))
theorem aQw {b:Bool}{y n:Prop}(h:brB b y n):b=true->y:=by rintro rfl;exact h
theorem aQx {b:Bool}{y n:Prop}(h:brB b y n):b=false->n:=by rintro rfl;exact h
def gK:Hp->Nat->HObj->(Hp->Prop)->Prop
 | [],_,_,K=>K []
 |(k,o)::r,t,x,K=>if k=t then K ((k,x)::r)else gK r t x λr'=>K ((k,o)::r')
theorem dM: ∀(hp:Hp) (t:Nat) (x:HObj) (K:Hp->Prop),gK hp t x K=K (dU hp t x):=by
 intro hp
 induction hp with
 |nil=>intro t x K;rfl
 |cons p r ih=>
  obtain⟨k,o⟩:=p
  intro t x K
  simp only [gK,dU]
  split
  ·rfl
  ·rw [ih]
inductive TD where
 |bool|int (k:IntKind)|string|slice (e:TypeId)|array (n:Nat) (e:TypeId)|struct (fs:List (TypeId×Nat))|pointer (e:TypeId)|other
def aBz:TypeDesc->TD
 | .bool=> .bool
 | .int k=> .int k
 | .string=> .string
 | .slice e=> .slice e
 | .array n e=> .array n e
 | .struct fs=> .struct (fs.toList.map λf=>(f.type,f.offset))
 | .pointer e=> .pointer e
 |_=> .other
def TD.isAgg:TD->Bool
 | .struct _=>true
 | .array _ _=>true
 |_=>false
def ofV:Value->SV
 | .int k n=> .d (.int k n)
 | .bool b=> .d (.bool b)
 | .string s=>if s.data.toList.length<=9223372036854775807 then .d (.str s.data.toList)else .d (.lit (.string s))
 | .slice none 0 0=> .d .nil
 |v=> .d (.lit v)
def aUc:Value->D
 | .int k n=> .int k n
 | .bool b=> .bool b
 | .string s=>if s.data.toList.length<=9223372036854775807 then .str s.data.toList else .lit (.string s)
 | .slice none 0 0=> .nil
 |v=> .lit v
structure TI where
 td:TD
 size:Nat
 bytes:Nat
 zero:List D
def dK (P:Program) (t:TypeId):Option TI:=
 match P.underlying t,P.info? t with
 |some d,some i=>
  match i.zero with
  |some z=>if z.cells.size==i.size && z.cells.all (·.oneCell')then some ⟨aBz d,i.size,i.bytes,z.cells.toList.map aUc⟩else none
  |none=>none
 |_,_=>none
theorem qJ (w:World) (S:Nat->Nat->Prop) (v:Value):RepD w S (aUc v) v:=by
 unfold aUc
 split
 ·exact .int _ _
 ·exact .bool _
 ·rename_i s
  split
  ·rename_i h
   have:RepD w S (.str s.data.toList) (.string ⟨s.data.toList.toArray⟩):= .str _ (by simpa only [maxLen]using h)
   simpa using this
  ·exact .lit _
 ·exact .nil
 ·exact .lit _
theorem aEz (w:World) (ρ:Env) (v:Value):Rep w ρ (ofV v) v:=by
 have h:=qJ w ρ.S v
 have e:ofV v= .d (aUc v):=by
  unfold ofV aUc
  split<;>first|rfl|(split<;>rfl)
 rw [e]
 exact .d _ _ h
structure TIok (P:Program) (t:TypeId) (T:TI) (d:TypeDesc) (i:TypeInfo) (z:Value):Prop where
 und:P.underlying t=some d
 td:aBz d=T.td
 info:P.info? t=some i
 zero:i.zero=some z
 size:i.size=T.size
 bytes:i.bytes=T.bytes
 cells:z.cells.size=i.size
 one: ∀v∈z.cells,v.oneCell'=true
 zs:T.zero=z.cells.toList.map aUc
theorem aM {P:Program}{t:TypeId}{T:TI}(h:dK P t=some T): ∃d i z,TIok P t T d i z:=by
 unfold dK at h
 split at h
 ·rename_i d i hd hi
  split at h
  ·rename_i z hz
   split at h
   ·rename_i hc
    simp at h hc
    subst h
    exact ⟨d, i, z, hd, rfl, hi, hz, rfl, rfl, hc.1, λv hv => by
     obtain⟨k,hk,rfl⟩:=Array.mem_iff_getElem.1 hv
     exact hc.2 k hk,rfl⟩
   ·cases h
  ·cases h
 ·cases h
theorem TIok.run_size {P:Program}{t:TypeId}{T:TI}{d:TypeDesc}{i:TypeInfo}{z:Value}(h:TIok P t T d i z) (w:World):(sizeOf t).run P w= .ok T.size w:=by
 simp [sizeOf,typeInfo,h.info,h.size]
theorem TIok.run_isAgg {P:Program}{t:TypeId}{T:TI}{d:TypeDesc}{i:TypeInfo}{z:Value}(h:TIok P t T d i z) (w:World):(isAgg t).run P w= .ok T.td.isAgg w:=by
 have:=h.td
 unfold isAgg
 simp only [Sem.run_bind,run_underlying h.und,Result.andThen_ok]
 cases d<;>simp [aBz]at this<;>rw [<-this]<;>rfl
def dX (P:Program) (ti:TypeId->Option TI):Prop:= ∀t T,ti t=some T->dK P t=some T
def evO (fr:Fr):Operand->Option SV
 | .tmp t=>gM fr t
 | .const v=>some (ofV v)
 | .global _=>none
 | .func f=>some (.fn f [] [])
theorem aR {ρ:Env}{w:World}{fr:Fr}{a:Act}(hf:dD ρ w fr a.tmps) {x:Operand}{s:SV}(h:evO fr x=some s):Rep w ρ s (a.eval x):=by
 cases x with
 |tmp t=>
  obtain⟨v,h1,h2⟩:=hf t s h
  simp only [Act.eval,Array.getD_eq_getD_getElem?,h1,Option.getD_some]
  exact h2
 |const v=>
  simp only [evO,Option.some.injEq]at h
  subst h
  exact aEz w ρ v
 |global g=>simp [evO]at h
 |func f=>
  simp only [evO,Option.some.injEq]at h
  subst h
  exact .fn f [] [] #[] #[] rfl rfl (by simp) (by simp)
def ev (fr:Fr) (x:Operand) (K:SV->Prop):Prop:=
 match evO fr x with
 |some s=>K s
 |none=>aG "an operand without a value"
theorem cP {fr:Fr}{x:Operand}{K:SV->Prop}(h:ev fr x K): ∃s,evO fr x=some s/\K s:=by
 unfold ev at h
 split at h
 ·exact⟨_,by assumption,h⟩
 ·exact h.elim
def aAe (P:Program) (o:Oper) (pin:Pin) (fr:Fr) (hp:Hp) (K:SV->Hp->Prop):Prop:=
 ∀(E:Entry) (ρ:Env) (a:Act) (w:World),E.pin=pin->Mem E ρ hp w->dD ρ w fr a.tmps-> ∀(next:Act->World->Prop) (Q:Exit->Act->World->Prop),
  (∀v w' ρ' s hp',K s hp'->Mem E ρ' hp' w'->dD ρ' w' fr a.tmps->Rep w' ρ' s v->next (a.put o.dst v) w')->o.wp P a w next Q
theorem bU {P:Program}{o:Oper}{a:Act}{w w':World}{v:Value}{next:Act->World->Prop}{Q:Exit->Act->World->Prop}
  (h:(execOp a.eval o).run P w= .ok (.value v) w') (hn:next (a.put o.dst v) w'):o.wp P a w next Q:=by
 unfold Oper.wp;rw [h];exact hn
theorem aAf {P:Program}{o:Oper}{a:Act}{w w':World}{next:Act->World->Prop}{Q:Exit->Act->World->Prop}
  (h:(execOp a.eval o).run P w= .ok .skip w') (hn:next (a.put o.dst undef) w'):o.wp P a w next Q:=by
 unfold Oper.wp;rw [h];exact hn
structure Kept (ρ:Env) (hp:Hp) (w w':World):Prop where
 s:cD ρ.S w w'
 o: ∀id x g,aN hp id=some x->ρ.kb id x=some g->w'.heap[g]? =w.heap[g]?
theorem Kept.refl (ρ:Env) (hp:Hp) (w:World):Kept ρ hp w w:=⟨λ_ _ _=>rfl,λ_ _ _ _ _=>rfl⟩
theorem Mem.obj_lt {E:Entry}{ρ:Env}{hp:Hp}{w:World}(h:Mem E ρ hp w) {id:Nat}{x:HObj}{g:Nat}(hx:aN hp id=some x) (hg:ρ.kb id x=some g):g < w.heap.size:=by
 cases x with
 |cells t cs=>exact h.blk_lt hx hg
 |ro t cs=>exact h.ro_lt hx trivial hg
 |rox X=>exact h.ro_lt hx trivial hg
 |own=>cases hg
 |mrow=>exact h.blk_lt hx hg
 |loop=>exact h.blk_lt hx hg
 |ext=>exact h.blk_lt hx hg
 |glob=>cases hg
theorem Mem.kept_grew {E:Entry}{ρ:Env}{hp:Hp}{w w':World}(h:Mem E ρ hp w) (hg:Grew w w'):Kept ρ hp w w':=
 ⟨hg.keeps h.slt,λ_ _ g hx hb=>hg.block g (h.obj_lt hx hb)⟩
structure KInfo (ρ:Env) (hp:Hp) (w:World) (ρ':Env) (hp':Hp) (w':World):Prop where
 k:Kept ρ hp w w'
 b: ∀w'',Kept ρ' hp' w' w''->Kept ρ hp w w''
theorem KInfo.mk_ {ρ ρ':Env}{hp hp':Hp}{w w':World}(hk:Kept ρ hp w w') (hS: ∀b i,ρ.S b i->ρ'.S b i) (ho: ∀id x g,aN hp id=some x->ρ.kb id x=some g->aN hp' id=some x/\ρ'.kb id x=some g):KInfo ρ hp w ρ' hp' w':=
 ⟨hk,λ_ h=>⟨λb i hs=>(h.s b i (hS b i hs)).trans (hk.s b i hs),λid x g hx hg=>(h.o id x g (ho id x g hx hg).1 (ho id x g hx hg).2).trans (hk.o id x g hx hg)⟩⟩
def eC (P:Program) (o:Oper) (fr:Fr) (hp:Hp) (K:SV->Prop):Prop:=
 ∀(E:Entry) (ρ:Env) (a:Act) (w:World),Mem E ρ hp w->dD ρ w fr a.tmps-> ∃v s,(∀w',Kept ρ hp w w'->(execOp a.eval o).run P w'= .ok (.value v) w')/\Rep w ρ s v/\K s
def xZ (P:Program) (o:Oper) (pin:Pin) (fr:Fr) (hp:Hp) (K:SV->Hp->Prop):Prop:=
 ∀(E:Entry) (ρ:Env) (a:Act) (w:World),E.pin=pin->Mem E ρ hp w->dD ρ w fr a.tmps-> ∀(next:Act->World->Prop) (Q:Exit->Act->World->Prop),
  (∀v w' ρ' s hp',K s hp'->Mem E ρ' hp' w'->dD ρ' w' fr a.tmps->Rep w' ρ' s v->KInfo ρ hp w ρ' hp' w'->next (a.put o.dst v) w')->o.wp P a w next Q
theorem xZ.drop {P:Program}{o:Oper}{pin:Pin}{fr:Fr}{hp:Hp}{K:SV->Hp->Prop}(h:xZ P o pin fr hp K):aAe P o pin fr hp K:=
 λE ρ a w h1 h2 h3 next Q hn=>h E ρ a w h1 h2 h3 next Q λv w' ρ' s hp' a b c d _=>hn v w' ρ' s hp' a b c d
theorem aAe.pure {P:Program}{o:Oper}{pin:Pin}{fr:Fr}{hp:Hp}{K:SV->Hp->Prop}(h:eC P o fr hp λs=>K s hp):aAe P o pin fr hp K:=by
 intro E ρ a w _ hm hf next Q hn
 obtain⟨v,s,h1,h2,h3⟩:=h E ρ a w hm hf
 exact bU (h1 w (Kept.refl ρ hp w)) (hn v w ρ s hp h3 hm hf h2)
theorem Rep.int_inv {w:World}{ρ:Env}{k:IntKind}{n:Int}{v:Value}(h:Rep w ρ (.d (.int k n)) v):v= .int k n:=by
 cases h with|d _ _ h=>cases h;rfl
theorem Rep.bool_inv {w:World}{ρ:Env}{b:Bool}{v:Value}(h:Rep w ρ (.d (.bool b)) v):v= .bool b:=by
 cases h with|d _ _ h=>cases h;rfl
theorem Rep.str_inv {w:World}{ρ:Env}{l:List UInt8}{v:Value}(h:Rep w ρ (.d (.str l)) v):v= .string ⟨l.toArray⟩/\l.length<=9223372036854775807:=by
 cases h with|d _ _ h=>cases h with|str _ h=>exact⟨rfl,by simpa only [maxLen]using h⟩
theorem Rep.nil_inv {w:World}{ρ:Env}{v:Value}(h:Rep w ρ (.d .nil) v):v= .slice none 0 0:=by
 cases h with|d _ _ h=>cases h;rfl
theorem Rep.lit_inv {w:World}{ρ:Env}{u v:Value}(h:Rep w ρ (.d (.lit u)) v):v=u:=by
 cases h with|d _ _ h=>cases h;rfl
theorem Rep.ptr_inv {w:World}{ρ:Env}{id off:Nat}{v:Value}(h:Rep w ρ (.ptr id off) v): ∃g,ρ.blk id=some g/\v= .pointer (some ⟨g,off,none⟩):=by
 cases h with|ptr _ _ g h=>exact⟨g,h,rfl⟩
theorem Rep.ea_inv {w:World}{ρ:Env}{z i off:Nat}{rows:List (List D)}{v:Value}(h:Rep w ρ (.ea z rows i off) v): ∃b o,View w ρ.S z rows b o/\v= .pointer (some ⟨b,o+(i * z+off),none⟩):=by
 cases h with|ea _ _ _ _ b o h=>exact⟨b,o,h,rfl⟩
theorem Rep.agg_inv {w:World}{ρ:Env}{cs:List SV}{v:Value}(h:Rep w ρ (.agg cs) v): ∃vs:Array Value,v= .agg vs/\vs.size=cs.length/\ ∀(j:Nat) (s:SV) (u:Value),cs[j]? =some s->vs[j]? =some u->Rep w ρ s u:=by
 cases h with|agg _ vs hl h=>exact⟨vs,rfl,hl,h⟩
theorem Rep.dagg_inv {w:World}{ρ:Env}{cs:List D}{v:Value}(h:Rep w ρ (.d (.agg cs)) v): ∃vs:Array Value,v= .agg vs/\vs.size=cs.length/\ ∀(j:Nat) (x:D) (u:Value),cs[j]? =some x->vs[j]? =some u->RepD w ρ.S x u:=by
 cases h with|d _ _ h=>cases h with|agg _ vs hl h=>exact⟨vs,rfl,hl,h⟩
theorem Rep.tup_inv {w:World}{ρ:Env}{cs:List SV}{v:Value}(h:Rep w ρ (.tup cs) v): ∃vs:Array Value,v= .tuple vs/\vs.size=cs.length/\ ∀(j:Nat) (s:SV) (u:Value),cs[j]? =some s->vs[j]? =some u->Rep w ρ s u:=by
 cases h with|tup _ vs hl h=>exact⟨vs,rfl,hl,h⟩
theorem Rep.msl_inv {w:World}{ρ:Env}{id z off n:Nat}{v:Value}(h:Rep w ρ (.msl id z off n) v): ∃g cap,ρ.blk id=some g/\v= .slice (some ⟨g,off,none⟩) n cap/\n<=cap/\cap<=maxLen:=by
 cases h with|msl _ _ _ _ g cap h hn hc=>exact⟨g,cap,h,rfl,Nat.le_of_eq hn,hc⟩
theorem Rep.msl_full {w:World}{ρ:Env}{id z off n:Nat}{v:Value}(h:Rep w ρ (.msl id z off n) v): ∃g,ρ.blk id=some g/\v= .slice (some ⟨g,off,none⟩) n n/\n<=maxLen:=by
 cases h with|msl _ _ _ _ g cap h hn hc=>subst hn;exact⟨g,h,rfl,hc⟩
theorem Rep.osl_inv {w:World}{ρ:Env}{id z:Nat}{rows:List (List D)}{v:Value}(h:Rep w ρ (.osl id z rows) v):RepD w ρ.S (.sl z rows) v/\rows.length<=ρ.n id/\(rows.length=ρ.n id->v=ρ.tv id):=by
 cases h with|osl _ _ _ _ h hn ht=>exact⟨h,hn,ht⟩
theorem Rep.fn_inv {w:World}{ρ:Env}{f:FuncId}{first cap:List SV}{v:Value}(h:Rep w ρ (.fn f first cap) v): ∃fv cv:Array Value,v= .func (.func f) fv cv/\fv.size=first.length/\cv.size=cap.length/\
  (∀(j:Nat) (s:SV) (u:Value),first[j]? =some s->fv[j]? =some u->Rep w ρ s u)/\(∀(j:Nat) (s:SV) (u:Value),cap[j]? =some s->cv[j]? =some u->Rep w ρ s u):=by
 cases h with|fn _ _ _ fv cv hf hc h1 h2=>exact⟨fv,cv,rfl,hf,hc,h1,h2⟩
def aU1:List SV->Option (List D)
 | []=>some []
 | .d x::r=>match aU1 r with|some l=>some (x::l)|none=>none
 |_::_=>none
def yI (cs:List SV):SV:=match aU1 cs with|some l=> .d (.agg l)|none=> .agg cs
theorem aI0 {cs:List SV}{l:List D}(h:aU1 cs=some l):cs=l.map .d:=by
 induction cs generalizing l with
 |nil=>simp [aU1]at h;subst h;rfl
 |cons s r ih=>
  cases s<;>simp [aU1]at h
  split at h
  ·rename_i l' hl
   simp at h
   subst h
   simp [ih hl]
  ·cases h
theorem lY {w:World}{ρ:Env}{cs:List SV}{vs:Array Value}(hl:vs.size=cs.length) (h: ∀(j:Nat) (s:SV) (v:Value),cs[j]? =some s->vs[j]? =some v->Rep w ρ s v):Rep w ρ (yI cs) (.agg vs):=by
 unfold yI
 split
 ·rename_i l hl'
  have e:=aI0 hl'
  subst e
  refine .d _ _ (.agg l vs (by simpa using hl) λj x v hx hv=> ?_)
  have:=h j (.d x) v (by simp [hx]) hv
  cases this with|d _ _ h=>exact h
 ·exact .agg cs vs hl h
def rQ:SV->Option (List SV)
 | .d (.agg ds)=>some (ds.map .d)
 | .agg cs=>some cs
 |_=>none
theorem pS {w:World}{ρ:Env}{s:SV}{v:Value}{cs:List SV}(h:rQ s=some cs) (hr:Rep w ρ s v): ∃vs:Array Value,v= .agg vs/\vs.size=cs.length/\ ∀(j:Nat) (s:SV) (u:Value),cs[j]? =some s->vs[j]? =some u->Rep w ρ s u:=by
 unfold rQ at h
 split at h
 ·simp at h;subst h
  obtain⟨vs,e,hl,hh⟩:=hr.dagg_inv
  refine⟨vs,e,by simpa using hl,λj s u hs hu=> ?_⟩
  simp only [List.getElem?_map,Option.map_eq_some_iff]at hs
  obtain⟨x,hx,rfl⟩:=hs
  exact .d _ _ (hh j x u hx hu)
 ·simp at h;subst h
  exact hr.agg_inv
 ·cases h
def aFa:D->Bool
 | .agg _=>false
 | .lit v=>v.oneCell'
 |_=>true
def yK:SV->Bool
 | .d x=>aFa x
 | .agg _=>false
 | .tup _=>false
 |_=>true
theorem uP {w:World}{S:Nat->Nat->Prop}{x:D}{v:Value}(h:RepD w S x v) (hl:aFa x=true):v.oneCell'=true:=by
 cases h<;>simp_all [aFa,Value.oneCell']
theorem uO {w:World}{ρ:Env}{s:SV}{v:Value}(h:Rep w ρ s v) (hl:yK s=true):v.oneCell'=true:=by
 cases h with
 |d x v h=>exact uP h (by simpa [yK]using hl)
 |agg=>simp [yK]at hl
 |tup=>simp [yK]at hl
 |ptr=>rfl
 |ea=>rfl
 |osl id z rows v h=>exact uP h rfl
 |msl=>rfl
 |fn=>rfl
 |mw=>rfl
 |ms=>rfl
 |mp=>rfl
 |zc=>rfl
 |yld=>rfl
 |xv _ _ _ _ h1=>exact h1
theorem Rep.mw_inv {w:World}{ρ:Env}{id z n:Nat}{v:Value}(h:Rep w ρ (.mw id z n) v): ∃A cap,v= .slice A n cap/\n<=cap/\cap<=maxLen/\(n≠0-> ∃g,A=some ⟨g,0,none⟩)/\n<=ρ.n id/\(n=ρ.n id->v=ρ.tv id):=by
 cases h with|mw _ _ _ cap A hn hc hA h1 h2=>exact⟨A,cap,rfl,hn,hc,hA,h1,h2⟩
theorem Rep.ms_inv {w:World}{ρ:Env}{id z lo n ver:Nat}{v:Value}(h:Rep w ρ (.ms id z lo n ver) v): ∃A cap,v= .slice A n cap/\n<=cap/\cap<=maxLen/\(n≠0-> ∃a,A=some a)/\ver<=ρ.n id/\(ver=ρ.n id->aS0 z lo n (ρ.tv id) v):=by
 cases h with|ms _ _ _ _ _ cap A hn hc hA h1 h2=>exact⟨A,cap,rfl,hn,hc,hA,h1,h2⟩
theorem Rep.mp_inv {w:World}{ρ:Env}{id z i off ver:Nat}{v:Value}(h:Rep w ρ (.mp id z i off ver) v): ∃a,v= .pointer (some a)/\ver<=ρ.n id/\(ver=ρ.n id-> ∃g,eM (ρ.tv id)=some g/\a=⟨g,i * z+off,none⟩):=by
 cases h with|mp _ _ _ _ _ a h1 h2=>exact⟨a,rfl,h1,h2⟩
theorem Rep.zc_inv {w:World}{ρ:Env}{v:Value}(h:Rep w ρ .zc v): ∃A,v= .slice A 0 0:=by
 cases h with|zc A=>exact⟨A,rfl⟩
theorem Rep.yld_inv {w:World}{ρ:Env}{id:Nat}{v:Value}(h:Rep w ρ (.yld id) v): ∃l,ρ.blk id=some l/\v= .func (.yield l) #[] #[]:=by
 cases h with|yld _ l h=>exact⟨l,h,rfl⟩
theorem Rep.xv_inv {w:World}{ρ:Env}{id:Nat}{mk:Nat->Value}{v:Value}(h:Rep w ρ (.xv id mk) v): ∃g,ρ.blk id=some g/\v=mk g/\(mk g).oneCell'=true:=by
 cases h with|xv _ _ g h h1=>exact⟨g,h,rfl,h1⟩
end Go.Proofs.YtbobcfjlbcgchaaGreatDoor
