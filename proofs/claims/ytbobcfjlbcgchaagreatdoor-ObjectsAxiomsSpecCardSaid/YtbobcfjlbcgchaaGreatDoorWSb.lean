/-
  How symbolic memory is kept: when the world grows, at a new block, at a store, at an append.
  Conditions: none.
-/
import Derived.WalkKit
import Derived.Maps.AppendAt
import Derived.Deep.Quiet
import Derived.BigQuiet
set_option linter.unusedSectionVars false
set_option linter.unusedSimpArgs false
set_option linter.unusedVariables false
namespace Go.Proofs.YtbobcfjlbcgchaaGreatDoor
section
open Go.RowKit
theorem qB {p:Prop}(h:p:=by repeat' (first|exact trivial|exact rfl|refine And.intro ?_ ?_)):p:=h
theorem qO {p:Prop}(h:p:=by dsimp only;omega):p:=h
theorem qE_ {α:Sort _}{A K:α->Prop}{s:α}(k:K s) (h:A s:=by exact rfl): ∃s,A s/\K s:=⟨s,h,k⟩
inductive D where
 |int (k:IntKind) (n:Int)
 |bool (b:Bool)
 |str (l:List UInt8)
 |nil
 |sl (z:Nat) (rows:List (List D))
 |agg (cs:List D)
 |lit (v:Value)
inductive SV where
 |d (x:D)
 |agg (cs:List SV)
 |tup (vs:List SV)
 |ptr (id off:Nat)
 |ea (z:Nat) (rows:List (List D)) (i off:Nat)
 |osl (id z:Nat) (rows:List (List D))
 |msl (id z off n:Nat)
 |fn (f:FuncId) (first cap:List SV)
 |mw (id z n:Nat)
 |ms (id z lo n ver:Nat)
 |mp (id z i off ver:Nat)
 |zc
 |yld (id:Nat)
 |xv (id:Nat) (mk:Nat->Value)
structure Env where
 S:Nat->Nat->Prop
 blk:Nat->Option Nat
 n:Nat->Nat
 tv:Nat->Value
inductive RepD (w:World) (S:Nat->Nat->Prop):D->Value->Prop
 |int (k:IntKind) (n:Int):RepD w S (.int k n) (.int k n)
 |bool (b:Bool):RepD w S (.bool b) (.bool b)
 |str (l:List UInt8) (h:l.length<=maxLen):RepD w S (.str l) (.string ⟨l.toArray⟩)
 |nil:RepD w S .nil (.slice none 0 0)
 |sl (z:Nat) (rows:List (List D)) (A:Option Addr) (cap b off:Nat) (f:Nat->Value)
   (hz: ∀row∈rows,row.length=z) (hn:rows.length<=cap) (hc:cap<=maxLen)
   (hA:rows≠[]->A=some ⟨b,off,none⟩)
   (hcell : ∀ (i : Nat) (row : List D) (j : Nat) (x : D), rows[i]? = some row -> row[j]? = some x ->
    w.cell? ⟨b,off+(i * z+j),none⟩=some (f (i * z+j))/\S b (off+(i * z+j))/\(f (i * z+j)).oneCell'=true)
   (hrep: ∀(i:Nat) (row:List D) (j:Nat) (x:D),rows[i]? =some row->row[j]? =some x->RepD w S x (f (i * z+j))):
   RepD w S (.sl z rows) (.slice A rows.length cap)
 |agg (cs:List D) (vs:Array Value) (hl:vs.size=cs.length)
   (h: ∀(j:Nat) (x:D) (v:Value),cs[j]? =some x->vs[j]? =some v->RepD w S x v):RepD w S (.agg cs) (.agg vs)
 |lit (v:Value):RepD w S (.lit v) v
def aYz (z lo n:Nat) (u v:Value):Prop:=
 ∃A len cap,u= .slice A len cap/\lo+n<=len/\len<=cap/\(len≠0-> ∃g,A=some ⟨g,0,none⟩)/\ ∃A',v= .slice A' n (cap - lo)/\(cap - lo≠0->A'=A.map (·.add (lo * z)))
def gB:Value->Option Nat
 | .slice (some a) _ cap=>if cap=0 then none else some a.block
 |_=>none
structure View (w:World) (S:Nat->Nat->Prop) (z:Nat) (rows:List (List D)) (b off:Nat):Prop where
 hz: ∀row∈rows,row.length=z
 cell: ∀(i:Nat) (row:List D) (j:Nat) (x:D),rows[i]? =some row->row[j]? =some x->
  ∃v,w.cell? ⟨b,off+(i * z+j),none⟩=some v/\S b (off+(i * z+j))/\v.oneCell'=true/\RepD w S x v
inductive Rep (w:World) (ρ:Env):SV->Value->Prop
 |d (x:D) (v:Value) (h:RepD w ρ.S x v):Rep w ρ (.d x) v
 |agg (cs:List SV) (vs:Array Value) (hl:vs.size=cs.length)
   (h: ∀(j:Nat) (s:SV) (v:Value),cs[j]? =some s->vs[j]? =some v->Rep w ρ s v):Rep w ρ (.agg cs) (.agg vs)
 |tup (cs:List SV) (vs:Array Value) (hl:vs.size=cs.length)
   (h: ∀(j:Nat) (s:SV) (v:Value),cs[j]? =some s->vs[j]? =some v->Rep w ρ s v):Rep w ρ (.tup cs) (.tuple vs)
 |ptr (id off g:Nat) (h:ρ.blk id=some g):Rep w ρ (.ptr id off) (.pointer (some ⟨g,off,none⟩))
 |ea (z:Nat) (rows:List (List D)) (i off b o:Nat) (h:View w ρ.S z rows b o):Rep w ρ (.ea z rows i off) (.pointer (some ⟨b,o+(i * z+off),none⟩))
 |osl (id z:Nat) (rows:List (List D)) (v:Value) (h:RepD w ρ.S (.sl z rows) v) (hn:rows.length<=ρ.n id) (ht:rows.length=ρ.n id->v=ρ.tv id):
   Rep w ρ (.osl id z rows) v
 |msl (id z off n g cap:Nat) (h:ρ.blk id=some g) (hn:n=cap) (hc:cap<=maxLen):Rep w ρ (.msl id z off n) (.slice (some ⟨g,off,none⟩) n cap)
 |fn (f:FuncId) (first cap:List SV) (fv cv:Array Value) (hf:fv.size=first.length) (hc:cv.size=cap.length)
   (h1: ∀(j:Nat) (s:SV) (v:Value),first[j]? =some s->fv[j]? =some v->Rep w ρ s v)
   (h2: ∀(j:Nat) (s:SV) (v:Value),cap[j]? =some s->cv[j]? =some v->Rep w ρ s v):Rep w ρ (.fn f first cap) (.func (.func f) fv cv)
 |mw (id z n cap:Nat) (A:Option Addr) (hn:n<=cap) (hc:cap<=maxLen) (hA:n≠0-> ∃g,A=some ⟨g,0,none⟩) (h1:n<=ρ.n id) (h2:n=ρ.n id-> .slice A n cap=ρ.tv id):Rep w ρ (.mw id z n) (.slice A n cap)
 |ms (id z lo n ver cap:Nat) (A:Option Addr) (hn:n<=cap) (hc:cap<=maxLen) (hA:n≠0-> ∃a,A=some a) (h1:ver<=ρ.n id) (h2:ver=ρ.n id->aYz z lo n (ρ.tv id) (.slice A n cap)):Rep w ρ (.ms id z lo n ver) (.slice A n cap)
 |mp (id z i off ver:Nat) (a:Addr) (h1:ver<=ρ.n id) (h2:ver=ρ.n id-> ∃g,gB (ρ.tv id)=some g/\a=⟨g,i * z+off,none⟩):Rep w ρ (.mp id z i off ver) (.pointer (some a))
 |zc (A:Option Addr):Rep w ρ .zc (.slice A 0 0)
 |yld (id l:Nat) (h:ρ.blk id=some l):Rep w ρ (.yld id) (.func (.yield l) #[] #[])
 |xv (id:Nat) (mk:Nat->Value) (g:Nat) (h:ρ.blk id=some g) (h1:(mk g).oneCell'=true):Rep w ρ (.xv id mk) (mk g)
theorem RepD.of_sl {w:World}{S:Nat->Nat->Prop}{z:Nat}{rows:List (List D)}{v:Value}(h:RepD w S (.sl z rows) v):
  ∃(A:Option Addr) (cap b off:Nat),v= .slice A rows.length cap/\rows.length<=cap/\cap<=maxLen/\(rows≠[]->A=some ⟨b,off,none⟩)/\View w S z rows b off:=by
 cases h with
 |sl z rows A cap b off f hz hn hc hA hcell hrep=>
  exact⟨A,cap,b,off,rfl,hn,hc,hA,hz,λi a j x c d=>⟨_,(hcell i a j x c d).1,(hcell i a j x c d).2.1,(hcell i a j x c d).2.2,hrep i a j x c d⟩⟩
open Classical in
theorem RepD.mk_sl {w:World}{S:Nat->Nat->Prop}{z:Nat}{rows:List (List D)}{A:Option Addr}{cap b off n:Nat}(hn:rows.length<=cap) (hc:cap<=maxLen)
  (hA:rows≠[]->A=some ⟨b,off,none⟩) (hv:View w S z rows b off) (he:n=rows.length):RepD w S (.sl z rows) (.slice A n cap):=by
 subst he
 have key: ∀(i:Nat) (a:List D) (j:Nat) (x:D),rows[i]? =some a->a[j]? =some x->
   w.cell? ⟨b,off+(i * z+j),none⟩=some ((w.cell? ⟨b,off+(i * z+j),none⟩).getD undef):=by
  intro i a j x d e
  obtain⟨v,c,_⟩:=hv.cell i a j x d e
  rw [c];rfl
 refine RepD.sl z rows A cap b off (λk=>(w.cell? ⟨b,off+k,none⟩).getD undef) hv.hz hn hc hA ?_ ?_
 ·intro i a j x d e
  obtain⟨v,c,f,g,_⟩:=hv.cell i a j x d e
  exact⟨key i a j x d e,f,by simp only [c,Option.getD_some];exact g⟩
 ·intro i a j x d e
  obtain⟨v,c,f,g,h⟩:=hv.cell i a j x d e
  simp only [c,Option.getD_some];exact h
def cF (S:Nat->Nat->Prop) (w w':World):Prop:= ∀b i,S b i->w'.cell? ⟨b,i,none⟩=w.cell? ⟨b,i,none⟩
theorem RepD.mono {w w':World}{S S':Nat->Nat->Prop}{x:D}{v:Value}(h:RepD w S x v) (hk:cF S w w') (hs: ∀b i,S b i->S' b i):RepD w' S' x v:=by
 induction h with
 |int k n=>exact .int k n
 |bool b=>exact .bool b
 |str l h=>exact .str l h
 |nil=>exact .nil
 |sl z rows A cap b off f hz hn hc hA hcell hrep ih=>
  refine .sl z rows A cap b off f hz hn hc hA ?_ ih
  intro i a j x d m
  obtain⟨e,c,g⟩:=hcell i a j x d m
  exact⟨(hk _ _ c).trans e,hs _ _ c,g⟩
 |agg cs vs hl h ih=>exact .agg cs vs hl ih
 |lit v=>exact .lit v
theorem View.mono {w w':World}{S S':Nat->Nat->Prop}{z:Nat}{rows:List (List D)}{b off:Nat}(h:View w S z rows b off) (hk:cF S w w') (hs: ∀b i,S b i->S' b i):View w' S' z rows b off:=
 ⟨h.hz, λi a j x d k => by
  obtain⟨v,f,c,g,e⟩:=h.cell i a j x d k
  exact⟨v,(hk _ _ c).trans f,hs _ _ c,g,e.mono hk hs⟩⟩
mutual
def SV.ids:SV->List Nat
 | .d _=>[]
 | .agg cs=>SV.idsL cs
 | .tup cs=>SV.idsL cs
 | .ptr id _=>[id]
 | .ea _ _ _ _=>[]
 | .osl id _ _=>[id]
 | .msl id _ _ _=>[id]
 | .fn _ first cap=>SV.idsL first++SV.idsL cap
 | .mw id _ _=>[id]
 | .ms id _ _ _ _=>[id]
 | .mp id _ _ _ _=>[id]
 | .zc=>[]
 | .yld id=>[id]
 | .xv id _=>[id]
def SV.idsL:List SV->List Nat
 | []=>[]
 |s::r=>SV.ids s++SV.idsL r
end
theorem SV.mem_idsL {cs:List SV}{j:Nat}{s:SV}{id:Nat}(h:cs[j]? =some s) (hm:id∈s.ids):id∈SV.idsL cs:=by
 induction cs generalizing j with
 |nil=>simp at h
 |cons c r ih=>
  cases j with
  |zero=>simp at h;subst h;simp [SV.idsL,hm]
  |succ j=>simp at h;simp [SV.idsL,ih h]
def Env.moved (ρ ρ':Env) (id:Nat):Prop:=ρ'.blk id=ρ.blk id/\((ρ'.n id=ρ.n id/\ρ'.tv id=ρ.tv id)\/ρ.n id < ρ'.n id)
theorem Env.moved_trans {ρ ρ' ρ'':Env}{id:Nat}(h:ρ.moved ρ' id) (k:ρ'.moved ρ'' id):ρ.moved ρ'' id:=by
 refine⟨k.1.trans h.1, ?_⟩
 rcases h.2 with⟨a,b⟩|a<;>rcases k.2 with⟨c,d⟩|c
 ·exact .inl ⟨c.trans a,d.trans b⟩
 ·right;omega
 ·right;omega
 ·right;omega
theorem Env.moved_refl (ρ:Env) (id:Nat):ρ.moved ρ id:=⟨rfl, .inl ⟨rfl,rfl⟩⟩
theorem Rep.mono {w w':World}{ρ ρ':Env}{s:SV}{v:Value}(h:Rep w ρ s v) (hk:cF ρ.S w w') (hs: ∀b i,ρ.S b i->ρ'.S b i)
  (hm: ∀id∈s.ids,ρ.moved ρ' id):Rep w' ρ' s v:=by
 induction h with
 |d x v h=>exact .d x v (h.mono hk hs)
 |agg cs vs hl h ih=>exact .agg cs vs hl λj s v k m=>ih j s v k m λid c=>hm id (by simp only [SV.ids];exact SV.mem_idsL k c)
 |tup cs vs hl h ih=>exact .tup cs vs hl λj s v k m=>ih j s v k m λid c=>hm id (by simp only [SV.ids];exact SV.mem_idsL k c)
 |ptr id off g h=>exact .ptr id off g ((hm id (by simp [SV.ids])).1.trans h)
 |ea z rows i off b o h=>exact .ea z rows i off b o (h.mono hk hs)
 |osl id z rows v h hn ht=>
  obtain⟨_,p⟩:=hm id (by simp [SV.ids])
  rcases p with⟨e1,e2⟩|q
  ·exact .osl id z rows v (h.mono hk hs) (by rw [e1];exact hn) (by rw [e1,e2];exact ht)
  ·exact .osl id z rows v (h.mono hk hs) (by omega) (λe=>by omega)
 |msl id z off n g cap h hn hc=>exact .msl id z off n g cap ((hm id (by simp [SV.ids])).1.trans h) hn hc
 |fn f first cap fv cv hf hc k m ih1 ih2=>
  exact .fn f first cap fv cv hf hc (λj s v a b=>ih1 j s v a b λid c=>hm id (by simp only [SV.ids,List.mem_append];exact .inl (SV.mem_idsL a c)))
   (λj s v a b=>ih2 j s v a b λid c=>hm id (by simp only [SV.ids,List.mem_append];exact .inr (SV.mem_idsL a c)))
 |mw id z n cap A hn hc hA k m=>
  obtain⟨_,p⟩:=hm id (by simp [SV.ids])
  rcases p with⟨e1,e2⟩|q
  ·exact .mw id z n cap A hn hc hA (by omega) (by rw [e1,e2];exact m)
  ·exact .mw id z n cap A hn hc hA (by omega) (λe=>by omega)
 |ms id z lo n ver cap A hn hc hA k m=>
  obtain⟨_,p⟩:=hm id (by simp [SV.ids])
  rcases p with⟨e1,e2⟩|q
  ·exact .ms id z lo n ver cap A hn hc hA (by omega) (by rw [e1,e2];exact m)
  ·exact .ms id z lo n ver cap A hn hc hA (by omega) (λe=>by omega)
 |mp id z i off ver a k m=>
  obtain⟨_,p⟩:=hm id (by simp [SV.ids])
  rcases p with⟨e1,e2⟩|q
  ·exact .mp id z i off ver a (by omega) (by rw [e1,e2];exact m)
  ·exact .mp id z i off ver a (by omega) (λe=>by omega)
 |zc A=>exact .zc A
 |yld id l h=>exact .yld id l ((hm id (by simp [SV.ids])).1.trans h)
 |xv id mk g h k=>exact .xv id mk g ((hm id (by simp [SV.ids])).1.trans h) k
structure Flat (w:World) (S:Nat->Nat->Prop) (z:Nat) (rows:List (List D)) (vs:List Value):Prop where
 len:vs.length=rows.length * z
 hz: ∀row∈rows,row.length=z
 one: ∀v∈vs,v.oneCell'=true
 at_: ∀(i:Nat) (row:List D) (j:Nat) (x:D),rows[i]? =some row->row[j]? =some x-> ∃v,vs[i * z+j]? =some v/\RepD w S x v
abbrev Fr:=List (Nat×SV)
def jB:Fr->Nat->Option SV
 | [],_=>none
 |(k,s)::r,t=>if k=t then some s else jB r t
def gD (fr:Fr):List Nat:=fr.flatMap λp=>p.2.ids
def dV (ρ:Env) (w:World) (fr:Fr) (tm:Array Value):Prop:= ∀t s,jB fr t=some s-> ∃v,tm[t]? =some v/\Rep w ρ s v
inductive LoopAt where
 |ready
 |busy
 |done (c:Code)
structure LoopI where
 nt:Nat
 ps:Array Tmp
 assign:Code
 body:Code
 fr:Fr
structure ExtO where
 ids:List Nat
 sat:World->Env->Obj->Prop
 keep: ∀(w w':World) (ρ ρ':Env) (o:Obj),cF ρ.S w w'->(∀b i,ρ.S b i->ρ'.S b i)->(∀id∈ids,ρ.moved ρ' id)->sat w ρ o->sat w' ρ' o
 nd: ∀(w:World) (ρ:Env) (x:Option (List Deferred)),¬ sat w ρ (.deferred x)
inductive HObj where
 |cells (t:TypeId) (cs:List SV)
 |ro (t:TypeId) (cs:List SV)
 |own (e z n:Nat)
 |mrow (e z cap:Nat) (rows:List (List D))
 |loop (L:LoopI) (at_:LoopAt)
 |ext (X:ExtO)
 |glob (g z:Nat) (rows:List (List D))
 |rox (X:ExtO)
def HObj.ids:HObj->List Nat
 | .cells _ cs=>SV.idsL cs
 | .ro _ cs=>SV.idsL cs
 | .own _ _ _=>[]
 | .mrow _ _ _ _=>[]
 | .loop L _=>gD L.fr
 | .ext X=>X.ids
 | .glob _ _ _=>[]
 | .rox X=>X.ids
def eP (w:World) (ρ:Env) (g:Nat) (t:TypeId) (cs:List SV):Prop:=
 ∃cur:Array Value,w.heap[g]? =some (.cells cur t (0,0))/\cur.size=cs.length/\(∀v∈cur,v.oneCell'=true)/\ ∀(j:Nat) (s:SV) (v:Value),cs[j]? =some s->cur[j]? =some v->Rep w ρ s v
def gX (w:World) (S:Nat->Nat->Prop) (e z cap:Nat) (rows:List (List D)) (v:Value):Prop:=
 (rows=[]/\cap=0/\ ∃A,v= .slice A 0 0)\/
 (0 < cap /\ ∃ g cur, v = .slice (some ⟨g, 0, none⟩) rows.length cap /\ w.heap[g]? = some (.cells cur e (0, 0)) /\ rows.length <= cap /\ cap <= maxLen /\ cur.size = cap * z /\
  Flat w S z rows (cur.toList.take (rows.length * z))/\ ∀i,¬ S g i)
def LoopAt.state:LoopAt->LoopState×Option Code
 | .ready=>(.ready,none)
 | .busy=>(.busy,none)
 | .done c=>(.done,some c)
def aGj (w:World) (ρ:Env) (id:Nat):HObj->Prop
 | .cells t cs=> ∃g,ρ.blk id=some g/\eP w ρ g t cs/\ ∀i,¬ ρ.S g i
 | .ro t cs=> ∃g,ρ.blk id=some g/\eP w ρ g t cs
 | .own e z n=>ρ.n id=n/\ ∃xs,w.ownsRow 0 e z (ρ.tv id) (ρ.n id) xs/\(∀g,(ρ.tv id).ownBlock=some g-> ∀i,ρ.S g i->i < ρ.n id * z)/\ ∀v∈xs,v.oneCell'=true
 | .mrow e z cap rows=>ρ.n id=rows.length/\gX w ρ.S e z cap rows (ρ.tv id)
 | .loop L s=> ∃g r,ρ.blk id=some g/\w.heap[g]? =some (.loop r)/\r.params=L.ps/\r.assign=L.assign/\r.body=L.body/\r.tmps.size=L.nt/\dV ρ w L.fr r.tmps/\(r.state,r.pending)=s.state
 | .ext X=> ∃g o,ρ.blk id=some g/\w.heap[g]? =some o/\X.sat w ρ o/\ ∀i,¬ ρ.S g i
 | .glob g z rows=>View w ρ.S z rows g 0
 | .rox X=> ∃g o,ρ.blk id=some g/\w.heap[g]? =some o/\X.sat w ρ o
def Env.at (ρ:Env) (id:Nat):HObj->Option Nat
 | .cells _ _=>ρ.blk id
 | .ro _ _=>none
 | .own _ _ _=>(ρ.tv id).ownBlock
 | .mrow _ _ _ _=>gB (ρ.tv id)
 | .loop _ _=>ρ.blk id
 | .ext _=>ρ.blk id
 | .glob _ _ _=>none
 | .rox _=>none
def HObj.Rd:HObj->Prop
 | .ro _ _=>True
 | .rox _=>True
 |_=>False
abbrev Hp:=List (Nat×HObj)
def aP:Hp->Nat->Option HObj
 | [],_=>none
 |(k,o)::r,t=>if k=t then some o else aP r t
def eY:Hp->Nat->HObj->Hp
 | [],_,_=>[]
 |(k,o)::r,t,x=>if k=t then (k,x)::r else (k,o)::eY r t x
def gH (hp:Hp):List Nat:=hp.flatMap λp=>p.1::p.2.ids
theorem aAz {fr:Fr}{t:Nat}{s:SV}{id:Nat}(h:jB fr t=some s) (hm:id∈s.ids):id∈gD fr:=by
 induction fr with
 |nil=>simp [jB]at h
 |cons p r ih=>
  obtain⟨k,s'⟩:=p
  simp only [jB]at h
  simp only [gD,List.flatMap_cons,List.mem_append]
  by_cases e:k=t
  ·simp [e]at h;subst h;exact .inl hm
  ·simp [e]at h;exact .inr (ih h)
theorem bR {hp:Hp}{i:Nat}{o:HObj}{id:Nat}(h:aP hp i=some o) (a:id=i\/id∈o.ids):id∈gH hp:=by
 induction hp with
 |nil=>simp [aP]at h
 |cons p r ih=>
  obtain⟨k,o'⟩:=p
  simp only [aP]at h
  simp only [gH,List.flatMap_cons,List.mem_append,List.mem_cons]
  by_cases e:k=i
  ·simp [e]at h;subst h;subst e
   rcases a with rfl|a
   ·exact .inl (.inl rfl)
   ·exact .inl (.inr a)
  ·simp [e]at h;exact .inr (ih h)
structure Pin where
 ids:List Nat
 kp:Fr->Hp->Prop
 pre:List Deferred
instance:Membership Nat Pin:=⟨λp k=>k∈p.ids⟩
instance:HAppend Pin (List Nat) Pin:=⟨λp l=>⟨p.ids++l,p.kp,[]⟩⟩
def Chn (ch:List PanicEntry):Prop:= ∃t v,ch=[{ v:= .iface t v,recovered:=false }]
def yA (l:List Nat):Pin:=⟨l,λ_ _=>False,[]⟩
def Pin.calm (p:Pin):Pin:=⟨p.ids,λ_ _=>False,[]⟩
@[simp] theorem aX0 {k:Nat} {p:Pin}:k∈p.calm↔k∈p:=Iff.rfl
@[simp] theorem bDm {k:Nat} {l:List Nat}:k∈yA l↔k∈l:=Iff.rfl
@[simp] theorem aWz {k:Nat} {p:Pin} {l:List Nat}:k∈p++l↔k∈p\/k∈l:=List.mem_append
def Pin.under (p:Pin) (fr:Fr) (l:List Nat):Pin:=⟨p.ids++l,λ_ hp=>p.kp fr hp,[]⟩
@[simp] theorem iS {k:Nat} {p:Pin} {fr:Fr} {l:List Nat}:k∈p.under fr l↔k∈p\/k∈l:=List.mem_append
@[simp] theorem bDl {p:Pin} {l:List Nat}:(p++l).pre=[]:=rfl
@[simp] theorem bEd {p:Pin} {l:List Nat}:(p++l).kp=p.kp:=rfl
structure Entry where
 w:World
 S:Nat->Nat->Prop
 B:Nat->Prop
 pin:Pin
 ρ:Env
 rd:Option Nat
 D:List Nat
 k:Nat
def aQ8 (a b:World):Prop:=a.output=b.output/\b.drawn<=a.drawn
theorem aQ8.trans {a b c:World}(h:aQ8 a b) (k:aQ8 b c):aQ8 a c:=⟨h.1.trans k.1,Nat.le_trans k.2 h.2⟩
theorem aQ8.refl (a:World):aQ8 a a:=⟨rfl,Nat.le_refl _⟩
structure Mem (E:Entry) (ρ:Env) (hp:Hp) (w:World):Prop where
 os:w.os=E.w.os
 tape:w.tape=E.w.tape
 output:aQ8 w E.w
 size:E.w.heap.size<=w.heap.size
 old: ∀b,b < E.w.heap.size->¬ E.B b->w.heap[b]? =E.w.heap[b]?
 sold: ∀b i,E.S b i->ρ.S b i
 snew: ∀b i,ρ.S b i->b < E.w.heap.size->¬ E.B b->E.S b i
 slt: ∀b i,ρ.S b i->b < w.heap.size
 kp:cF E.S E.w w
 sat: ∀id o,aP hp id=some o->aGj w ρ id o
 inj: ∀id o id' o' g,aP hp id=some o->aP hp id'=some o'->ρ.at id o=some g->ρ.at id' o'=some g->id=id'
 hb: ∀id o g,aP hp id=some o->ρ.at id o=some g->E.w.heap.size<=g\/E.B g
 mv: ∀id∈E.pin,E.ρ.moved ρ id
 ro: ∀id o g,aP hp id=some o->o.Rd->ρ.blk id=some g->(∀id' o',aP hp id'=some o'->ρ.at id' o'≠some g)
 md: ∀b∈E.D,w.heap[b]? =some (.deferred (some []))
theorem Mem.calm {E:Entry}{ρ:Env}{hp:Hp}{w:World}(h:Mem E ρ hp w):Mem { E with pin:=E.pin.calm } ρ hp w:=
 ⟨h.os,h.tape,h.output,h.size,h.old,h.sold,h.snew,h.slt,h.kp,h.sat,h.inj,h.hb,h.mv,h.ro,h.md⟩
theorem Mem.uncalm {E:Entry}{ρ:Env}{hp:Hp}{w:World}(h:Mem { E with pin:=E.pin.calm } ρ hp w):Mem E ρ hp w:=
 ⟨h.os,h.tape,h.output,h.size,h.old,h.sold,h.snew,h.slt,h.kp,h.sat,h.inj,h.hb,h.mv,h.ro,h.md⟩
structure St where
 fr:Fr
 hp:Hp
def xP (b:Nat):Deferred:={ target:= .collected b,args:= #[] }
structure Sat (E:Entry) (nt:Nat) (σ:St) (a:Act) (w:World):Prop where
 nt:a.tmps.size=nt
 df:a.defers=(E.D.take E.k).map xP++E.pin.pre
 mem: ∃ρ,Mem E ρ σ.hp w/\dV ρ w σ.fr a.tmps
theorem lnS:(∀{α:Type}(l:List α) (i:Nat) (a:α),(l.set i a).length=l.length)/\(∀{α:Type}(n:Nat) (a:α),(List.replicate n a).length=n)/\(∀{α β:Type}(f:α->β) (l:List α),(l.map f).length=l.length)/\
  (∀{α:Type} (l m:List α),(l++m).length=l.length+m.length)/\(∀{α:Type} (i:Nat) (l:List α),(l.drop i).length=l.length - i)/\(∀{α:Type} (i:Nat) (l:List α),(l.take i).length=min i l.length)/\
  (∀{α:Type} (a:α) (l:List α),(a::l).length=l.length+1)/\(∀{α:Type},([]:List α).length=0):=
 ⟨λl i a=>List.length_set ..,λn a=>List.length_replicate ..,λf l=>List.length_map ..,λl m=>List.length_append ..,λi l=>List.length_drop ..,λi l=>List.length_take ..,λa l=>List.length_cons ..,List.length_nil⟩
structure Grew (w w':World):Prop where
 os:w'.os=w.os
 tape:w'.tape=w.tape
 output:aQ8 w' w
 size:w.heap.size<=w'.heap.size
 block: ∀b,b < w.heap.size->w'.heap[b]? =w.heap[b]?
theorem Grew.refl (w:World):Grew w w:=⟨rfl,rfl, .refl _,Nat.le_refl _,λ_ _=>rfl⟩
theorem Grew.trans {a b c:World}(h:Grew a b) (k:Grew b c):Grew a c:=
 ⟨k.os.trans h.os,k.tape.trans h.tape,k.output.trans h.output,Nat.le_trans h.size k.size,λi hi=>(k.block i (Nat.lt_of_lt_of_le hi h.size)).trans (h.block i hi)⟩
theorem Grew.drew (w:World):Grew w w.drew:=⟨rfl,rfl,⟨rfl,Nat.le_succ _⟩,Nat.le_refl _,λ_ _=>rfl⟩
theorem Grew.drewN (w:World) (n:Nat):Grew w (w.drewN n):=⟨rfl,rfl,⟨rfl,Nat.le_add_right _ _⟩,Nat.le_refl _,λ_ _=>rfl⟩
theorem Grew.alloc (w:World) (o:Obj):Grew w (w.alloc o):=⟨rfl,rfl,⟨rfl,Nat.le_refl _⟩,by simp,λb hb=>Below.heap_alloc w o b hb⟩
theorem Grew.below {w w':World}(h:Grew w w'):Below w.heap.size w w':=⟨h.os,h.tape,h.output.1,h.size,h.block⟩
theorem Grew.keeps {w w':World}(h:Grew w w') {S:Nat->Nat->Prop}(hs: ∀b i,S b i->b < w.heap.size):cF S w w':=
 λb i hb=>World.cell?_of_block (w:=w) (h.block b (hs b i hb))
theorem cF.trans {S S':Nat->Nat->Prop}{a b c:World}(h:cF S a b) (hs: ∀x i,S x i->S' x i) (k:cF S' b c):cF S a c:= λx i hx=>(k x i (hs x i hx)).trans (h x i hx)
theorem bD {w:World}{g:Nat}{o:Obj}(h:w.heap[g]? =some o):g < w.heap.size:=(Array.getElem?_eq_some_iff.1 h).1
def Env.withS (ρ:Env) (S:Nat->Nat->Prop):Env:={ ρ with S:=S }
theorem Env.moved_withS (ρ:Env) (S:Nat->Nat->Prop) (id:Nat):ρ.moved (ρ.withS S) id:=⟨rfl, .inl ⟨rfl,rfl⟩⟩
theorem eP.mono {w w':World}{ρ ρ':Env}{g:Nat}{t:TypeId}{cs:List SV}(h:eP w ρ g t cs) (hb:w'.heap[g]? =w.heap[g]?) (hk:cF ρ.S w w') (hs: ∀b i,ρ.S b i->ρ'.S b i)
  (hm: ∀id∈SV.idsL cs,ρ.moved ρ' id):eP w' ρ' g t cs:=by
 obtain⟨cur,d,e,k,f⟩:=h
 exact⟨cur,hb.trans d,e,k,λj s v a b=>(f j s v a b).mono hk hs λid c=>hm id (SV.mem_idsL a c)⟩
theorem aFn {w w':World}{base:Nat}{e:TypeId}{size:Nat}{v:Value}{n:Nat}{xs:List Value}(h:w.ownsRow base e size v n xs) (hb: ∀g,v.ownBlock=some g->w'.heap[g]? =w.heap[g]?):
  w'.ownsRow base e size v n xs:=by
 refine⟨h.1, ?_⟩
 rcases h.2 with c|⟨g,cap,cur,rfl,a,b,rest⟩
 ·exact .inl c
 ·exact .inr ⟨g,cap,cur,rfl,a,(hb g (by simp [Value.ownBlock])).trans b,rest⟩
theorem Flat.mono {w w':World}{S S':Nat->Nat->Prop}{z:Nat}{rows:List (List D)}{vs:List Value}(h:Flat w S z rows vs) (hk:cF S w w') (hs: ∀b i,S b i->S' b i):Flat w' S' z rows vs:=
 ⟨h.len, h.hz, h.one, λi c j x d e => by
  obtain⟨v,a,b⟩:=h.at_ i c j x d e
  exact⟨v,a,b.mono hk hs⟩⟩
theorem gX.heap {w:World}{S:Nat->Nat->Prop}{e z cap:Nat}{rows:List (List D)}{v:Value}(h:gX w S e z cap rows v) {g:Nat}(hg:gB v=some g): ∃cur,w.heap[g]? =some (.cells cur e (0,0)):=by
 rcases h with⟨_,_,A,rfl⟩|⟨hc,g',cur,rfl,a,_⟩
 ·cases A<;>simp [gB]at hg
 ·have:cap≠0:=by omega
  simp only [gB,this,if_false,Option.some.injEq]at hg
  subst hg
  exact⟨cur,a⟩
theorem gX.mono {w w':World}{S S':Nat->Nat->Prop}{e z cap:Nat}{rows:List (List D)}{v:Value}(h:gX w S e z cap rows v) (hb: ∀g,gB v=some g->w'.heap[g]? =w.heap[g]?) (hk:cF S w w')
  (hs: ∀b i,S b i->S' b i) (hS: ∀g,gB v=some g-> ∀i,S' g i->S g i):gX w' S' e z cap rows v:=by
 rcases h with h|⟨k,g,cur,rfl,c,d,m,f,j,l⟩
 ·exact .inl h
 ·have a:gB (.slice (some ⟨g,0,none⟩) rows.length cap)=some g:=by
   have:cap≠0:=by omega
   simp [gB,this]
  exact .inr ⟨k,g,cur,rfl,(hb g a).trans c,d,m,f,j.mono hk hs,λi hi=>l i (hS g a i hi)⟩
theorem dV.mono {w w':World}{ρ ρ':Env}{fr:Fr}{tm:Array Value}(h:dV ρ w fr tm) (hk:cF ρ.S w w') (hs: ∀b i,ρ.S b i->ρ'.S b i)
  (hm: ∀id∈gD fr,ρ.moved ρ' id):dV ρ' w' fr tm:= λt s c=>by
 obtain⟨v,d,e⟩:=h t s c
 exact⟨v,d,e.mono hk hs λid a=>hm id (aAz c a)⟩
theorem aGj.blk_lt {w:World}{ρ:Env}{id:Nat}{o:HObj}{g:Nat}(h:aGj w ρ id o) (hg:ρ.at id o=some g):g < w.heap.size:=by
 cases o with
 |cells t cs=>
  obtain⟨c,a,⟨cur,b,_⟩,_⟩:=h
  simp only [Env.at]at hg
  rw [a]at hg
  injection hg with hg
  subst hg
  exact bD b
 |ro t cs=>simp [Env.at]at hg
 |own e z n=>
  obtain⟨_,xs,a,_⟩:=h
  exact(a.lt g hg).2
 |mrow e z cap rows=>
  obtain⟨_,a⟩:=h
  obtain⟨cur,b⟩:=a.heap hg
  exact bD b
 |loop L s=>
  obtain⟨c,r,a,b,_⟩:=h
  simp only [Env.at]at hg
  rw [a]at hg
  injection hg with hg
  subst hg
  exact bD b
 |ext X=>
  obtain⟨c,r,a,b,_⟩:=h
  simp only [Env.at]at hg
  rw [a]at hg
  injection hg with hg
  subst hg
  exact bD b
 |glob g z rows=>simp [Env.at]at hg
 |rox X=>simp [Env.at]at hg
theorem aGj.keep {w w':World}{ρ ρ':Env}{id:Nat}{o:HObj}(h:aGj w ρ id o) (hk:cF ρ.S w w') (hs: ∀b i,ρ.S b i->ρ'.S b i)
  (hm: ∀i,i=id\/i∈o.ids->ρ.moved ρ' i) (hn:ρ'.n id=ρ.n id/\ρ'.tv id=ρ.tv id)
  (hb: ∀g,(ρ.at id o=some g\/ρ.blk id=some g/\o.Rd)->w'.heap[g]? =w.heap[g]?)
  (hS: ∀g,ρ.at id o=some g-> ∀i,ρ'.S g i->ρ.S g i):aGj w' ρ' id o:=by
 have c:=(hm id (.inl rfl)).1
 cases o with
 |cells t cs=>
  obtain⟨g,a,d,f⟩:=h
  exact⟨g,c.trans a,d.mono (hb g (.inl a)) hk hs λi hi=>hm i (.inr hi),λi hi=>f i (hS g a i hi)⟩
 |ro t cs=>
  obtain⟨g,a,d⟩:=h
  exact⟨g,c.trans a,d.mono (hb g (.inr ⟨a,trivial⟩)) hk hs λi hi=>hm i (.inr hi)⟩
 |own e z n=>
  obtain⟨k,xs,a,d,f⟩:=h
  refine⟨hn.1.trans k,xs, ?_, ?_,f⟩
  ·rw [hn.1,hn.2]
   exact aFn a λg j=>hb g (.inl j)
  ·rw [hn.1,hn.2]
   exact λg j i hi=>d g j i (hS g j i hi)
 |mrow e z cap rows=>
  obtain⟨k,a⟩:=h
  refine⟨hn.1.trans k, ?_⟩
  rw [hn.2]
  exact a.mono (λg j=>hb g (.inl j)) hk hs (λg j=>hS g j)
 |loop L s=>
  obtain⟨g,r,a,d,f,l,u,m,q,p⟩:=h
  exact⟨g,r,c.trans a,(hb g (.inl a)).trans d,f,l,u,m,q.mono hk hs λi hi=>hm i (.inr hi),p⟩
 |ext X=>
  obtain⟨g,r,a,d,f,l⟩:=h
  exact⟨g,r,c.trans a,(hb g (.inl a)).trans d,X.keep w w' ρ ρ' r hk hs (λi hi=>hm i (.inr hi)) f,λi hi=>l i (hS g a i hi)⟩
 |glob g z rows=>exact View.mono h hk hs
 |rox X=>
  obtain⟨g,r,a,d,f⟩:=h
  exact⟨g,r,c.trans a,(hb g (.inr ⟨a,trivial⟩)).trans d,X.keep w w' ρ ρ' r hk hs (λi hi=>hm i (.inr hi)) f⟩
theorem Mem.blk_lt {E:Entry}{ρ:Env}{hp:Hp}{w:World}(h:Mem E ρ hp w) {id:Nat}{o:HObj}{g:Nat}(ho:aP hp id=some o) (hg:ρ.at id o=some g):g < w.heap.size:=
 (h.sat id o ho).blk_lt hg
theorem Mem.ro_lt {E:Entry}{ρ:Env}{hp:Hp}{w:World}(h:Mem E ρ hp w) {id:Nat}{o:HObj}{g:Nat}(ho:aP hp id=some o) (hrd:o.Rd) (hg:ρ.blk id=some g):g < w.heap.size:=by
 have c:=h.sat id _ ho
 cases o with
 |ro t cs=>
  obtain⟨d,a,cur,b,_⟩:=c
  rw [a]at hg
  injection hg with hg
  subst hg
  exact bD b
 |rox X=>
  obtain⟨d,r,a,b,_⟩:=c
  rw [a]at hg
  injection hg with hg
  subst hg
  exact bD b
 |_=>exact hrd.elim
theorem Mem.grow {E:Entry}{ρ:Env}{hp:Hp}{w w':World}(h:Mem E ρ hp w) (hg:Grew w w') (S':Nat->Nat->Prop)
  (h1: ∀b i,ρ.S b i->S' b i) (h2: ∀b i,S' b i->ρ.S b i\/w.heap.size<=b) (h3: ∀b i,S' b i->b < w'.heap.size):
  Mem E (ρ.withS S') hp w'/\ ∀fr j,dV ρ w fr j->dV (ρ.withS S') w' fr j:=by
 have n:cF ρ.S w w':=hg.keeps h.slt
 refine⟨⟨hg.os.trans h.os,hg.tape.trans h.tape,hg.output.trans h.output,Nat.le_trans h.size hg.size, ?_, ?_, ?_,h3,h.kp.trans h.sold n, ?_, ?_, ?_, ?_, ?_,λb hb=>(hg.block b (bD (h.md b hb))).trans (h.md b hb)⟩, ?_⟩
 ·exact λb hb f=>(hg.block b (Nat.lt_of_lt_of_le hb h.size)).trans (h.old b hb f)
 ·exact λb i l=>h1 b i (h.sold b i l)
 ·intro b i l hb f
  rcases h2 b i l with c|k
  ·exact h.snew b i c hb f
  ·have:=h.size;omega
 ·intro id o d
  refine(h.sat id o d).keep n h1 (λi _=>ρ.moved_withS S' i) ⟨rfl,rfl⟩ ?_ ?_
  ·rintro g (a|⟨a,m⟩)
   ·exact hg.block g (h.blk_lt d a)
   ·exact hg.block g (h.ro_lt d m a)
  ·intro g a i hi
   rcases h2 g i hi with c|k
   ·exact c
   ·have:=h.blk_lt d a;omega
 ·exact h.inj
 ·exact h.hb
 ·exact λid e=>Env.moved_trans (h.mv id e) (ρ.moved_withS S' id)
 ·exact h.ro
 ·exact λfr j p=>p.mono n h1 λi _=>ρ.moved_withS S' i
theorem Mem.grow_same {E:Entry}{ρ:Env}{hp:Hp}{w w':World}(h:Mem E ρ hp w) (hg:Grew w w'):
  Mem E ρ hp w'/\ ∀fr tm,dV ρ w fr tm->dV ρ w' fr tm:=by
 have:=h.grow hg ρ.S (λ_ _ x=>x) (λ_ _ x=> .inl x) (λb i x=>Nat.lt_of_lt_of_le (h.slt b i x) hg.size)
 simpa [Env.withS]using this
theorem RepD.grow {w w':World}{S:Nat->Nat->Prop}{x:D}{v:Value}(h:RepD w S x v) (hg:Grew w w') (hs: ∀b i,S b i->b < w.heap.size):RepD w' S x v:=
 h.mono (hg.keeps hs) λ_ _ x=>x
theorem Rep.grow {w w':World}{ρ:Env}{s:SV}{v:Value}(h:Rep w ρ s v) (hg:Grew w w') (hs: ∀b i,ρ.S b i->b < w.heap.size):Rep w' ρ s v:=
 h.mono (hg.keeps hs) (λ_ _ x=>x) λid _=>ρ.moved_refl id
def Env.upd (ρ:Env) (id g:Nat):Env:={ ρ with blk:= λi=>if i=id then some g else ρ.blk i }
theorem Env.moved_upd (ρ:Env) {id g i:Nat}(h:i≠id):ρ.moved (ρ.upd id g) i:=⟨by simp [Env.upd,h], .inl ⟨rfl,rfl⟩⟩
theorem cQ {hp:Hp}{k:Nat}{o:HObj}{t:Nat}(h:k≠t):aP ((k,o)::hp) t=aP hp t:=by simp [aP,h]
theorem eP.alloc {w:World}{ρ ρ':Env}{vs:Array Value}{t:TypeId}{cs:List SV}(hl:vs.size=cs.length) (h1: ∀v∈vs,v.oneCell'=true)
  (hr: ∀(j:Nat) (s:SV) (v:Value),cs[j]? =some s->vs[j]? =some v->Rep w ρ s v) (hslt: ∀b i,ρ.S b i->b < w.heap.size) (hS: ∀b i,ρ.S b i->ρ'.S b i)
  (hm: ∀i∈SV.idsL cs,ρ.moved ρ' i):eP (w.alloc (.cells vs t)) ρ' w.heap.size t cs:=
 ⟨vs,heap_alloc_new w _,hl,h1,λj s v a b=>(hr j s v a b).mono ((Grew.alloc w _).keeps hslt) hS λi hi=>hm i (SV.mem_idsL a hi)⟩
theorem Mem.alloc {E:Entry}{ρ:Env}{hp:Hp}{w:World}(h:Mem E ρ hp w) (id:Nat) (vs:Array Value) (t:TypeId) (cs:List SV)
  (hid:id∉gH hp) (hpin:id∉E.pin) (hl:vs.size=cs.length) (h1: ∀v∈vs,v.oneCell'=true)
  (I: ∀(j:Nat) (s:SV) (v:Value),cs[j]? =some s->vs[j]? =some v->Rep w ρ s v) (hids:id∉SV.idsL cs):
  Mem E (ρ.upd id w.heap.size) ((id, .cells t cs)::hp) (w.alloc (.cells vs t))/\
  (∀fr D,id∉gD fr->dV ρ w fr D->dV (ρ.upd id w.heap.size) (w.alloc (.cells vs t)) fr D)/\
  (∀s v,id∉s.ids->Rep w ρ s v->Rep (w.alloc (.cells vs t)) (ρ.upd id w.heap.size) s v):=by
 have A:=Grew.alloc w (.cells vs t)
 have C:cF ρ.S w _:=A.keeps h.slt
 have p: ∀i,i≠id->ρ.moved (ρ.upd id w.heap.size) i:= λi hi=>ρ.moved_upd hi
 have q: ∀i o,i≠id->(ρ.upd id w.heap.size).at i o=ρ.at i o:=by
  intro i o hi
  cases o<;>simp [Env.at,Env.upd,hi]
 have hne: ∀i o,aP hp i=some o->i≠id:= λi o m e=>hid (e ▸ bR m (.inl rfl))
 have a: ∀i o,aP ((id,HObj.cells t cs)::hp) i=some o->(i=id/\o= .cells t cs)\/(i≠id/\aP hp i=some o):=by
  intro i o m
  by_cases e:i=id
  ·subst e;simp [aP]at m;exact .inl ⟨rfl,m.symm⟩
  ·rw [cQ (λh=>e h.symm)]at m;exact .inr ⟨e,m⟩
 refine⟨⟨h.os,h.tape,h.output,by have:=h.size;simp;omega, ?_,h.sold,h.snew, ?_,h.kp.trans h.sold C, ?_, ?_, ?_, ?_, ?_,λb hb=>(A.block b (bD (h.md b hb))).trans (h.md b hb)⟩, ?_, ?_⟩
 ·exact λb hb J=>(A.block b (Nat.lt_of_lt_of_le hb h.size)).trans (h.old b hb J)
 ·intro b i H;have:=h.slt b i H;simp;omega
 ·intro i o m
  rcases a i o m with⟨rfl,rfl⟩|⟨e,f⟩
  ·refine⟨w.heap.size,by simp [Env.upd], ?_,λj B=> ?_⟩
   ·exact eP.alloc (ρ:=ρ) hl h1 I h.slt (λ_ _ x=>x) λj B=>p j λe=>hids (e ▸ B)
   ·have:=h.slt _ j B;omega
  ·refine(h.sat i o f).keep C (λ_ _ x=>x) ?_ ⟨rfl,rfl⟩ ?_ (λ_ _ _ x=>x)
   ·rintro j B
    exact p j λy=>hid (y ▸ bR f B)
   ·rintro g (z|⟨z,n⟩)
    ·exact A.block g (h.blk_lt f z)
    ·exact A.block g (h.ro_lt f n z)
 ·intro i o r o' g m f c d
  rcases a i o m with⟨rfl,rfl⟩|⟨e,l⟩
  ·rcases a r o' f with⟨rfl,rfl⟩|⟨y,k⟩
   ·rfl
   ·rw [q r o' y]at d
    have F:=h.blk_lt k d
    simp [Env.at,Env.upd]at c
    omega
  ·rw [q i o e]at c
   rcases a r o' f with⟨rfl,rfl⟩|⟨y,k⟩
   ·have F:=h.blk_lt l c
    simp [Env.at,Env.upd]at d
    omega
   ·rw [q r o' y]at d
    exact h.inj i o r o' g l k c d
 ·intro i o g m c
  rcases a i o m with⟨rfl,rfl⟩|⟨e,l⟩
  ·simp [Env.at,Env.upd]at c
   have:=h.size;omega
  ·rw [q i o e]at c
   exact h.hb i o g l c
 ·exact λi hi=>Env.moved_trans (h.mv i hi) (p i λe=>hpin (e ▸ hi))
 ·intro i oR g m n c r o' f d
  rcases a i _ m with⟨_,K⟩|⟨e,l⟩
  ·rw [K]at n;exact n.elim
  ·have u:ρ.blk i=some g:=by simpa [Env.upd,e]using c
   rcases a r o' f with⟨rfl,rfl⟩|⟨y,k⟩
   ·have:=h.ro_lt l n u
    simp [Env.at,Env.upd]at d
    omega
   ·rw [q r o' y]at d
    exact h.ro i _ g l n u r o' k d
 ·exact λfr D L G=>G.mono C (λ_ _ x=>x) λi hi=>p i λe=>L (e ▸ hi)
 ·exact λs v H I=>I.mono C (λ_ _ x=>x) λi hi=>p i λe=>H (e ▸ hi)
def jV (cs:List SV) (off:Nat) (ns:List SV):List SV:=cs.take off++ns++cs.drop (off+ns.length)
theorem splice_getElem? {α:Type}(cs ns:List α) (off j:Nat) (h:off+ns.length<=cs.length):
  (cs.take off++ns++cs.drop (off+ns.length))[j]? =if j < off then cs[j]? else if j < off+ns.length then ns[j - off]? else cs[j]? :=by
 have a:(cs.take off).length=off:=by rw [List.length_take];omega
 rw [List.append_assoc]
 by_cases b:j < off
 ·rw [if_pos b,List.getElem?_append_left (by omega),List.getElem?_take,if_pos b]
 ·rw [if_neg b,List.getElem?_append_right (by omega),a]
  by_cases c:j < off+ns.length
  ·rw [if_pos c,List.getElem?_append_left (by omega)]
  ·rw [if_neg c,List.getElem?_append_right (by omega),List.getElem?_drop]
   congr 1
   omega
theorem bN {hp:Hp}{id:Nat}{o:HObj}(x:HObj) (h:aP hp id=some o) (i:Nat):aP (eY hp id x) i=if i=id then some x else aP hp i:=by
 induction hp with
 |nil=>simp [aP]at h
 |cons p r ih=>
  obtain⟨k,o'⟩:=p
  simp only [aP]at h
  by_cases e:k=id
  ·subst e
   simp only [eY,if_true,aP]
   by_cases a:i=k
   ·simp [a]
   ·simp [a,Ne.symm a]
  ·simp only [e,if_false]at h
   simp only [eY,e,if_false,aP]
   by_cases a:k=i
   ·subst a;simp [e]
   ·simp [a,ih h]
theorem Mem.store {E:Entry}{ρ:Env}{hp:Hp}{w:World}(h:Mem E ρ hp w) {id off g:Nat}{t:TypeId}{cs:List SV}(ho:aP hp id=some (.cells t cs)) (hg:ρ.blk id=some g)
  (ns:List SV) (nv:List Value) (hn:nv.length=ns.length) (hoff:off+ns.length<=cs.length) (h1: ∀v∈nv,v.oneCell'=true)
  (Q: ∀(j:Nat) (s:SV) (v:Value),ns[j]? =some s->nv[j]? =some v->Rep w ρ s v):
  ∃cur:Array Value,w.heap[g]? =some (.cells cur t (0,0))/\off+nv.length<=cur.size/\
   Mem E ρ (eY hp id (.cells t (jV cs off ns))) (w.setRow g (cur.toList.take off++nv++cur.toList.drop (off+nv.length)).toArray)/\
   (∀fr J,dV ρ w fr J->dV ρ (w.setRow g (cur.toList.take off++nv++cur.toList.drop (off+nv.length)).toArray) fr J):=by
 obtain⟨g',p,⟨cur,r,hc2,H,C⟩,F⟩:=h.sat id _ ho
 rw [hg]at p
 injection p with p
 subst p
 refine⟨cur,r,by omega, ?_⟩
 generalize hw':w.setRow g (cur.toList.take off++nv++cur.toList.drop (off+nv.length)).toArray=w'
 have c: ∀b,b≠g->w'.heap[b]? =w.heap[b]? := λb hb=>by rw [<-hw'];exact setRow_other w g b _ hb
 have G:w'.heap.size=w.heap.size:=by rw [<-hw'];simp [World.setRow]
 have I:cF ρ.S w w':= λb i n=>World.cell?_of_block (w:=w) (c b λe=>F i (e ▸ n))
 have q: ∀i,ρ.moved ρ i:=ρ.moved_refl
 have m: ∀i o,aP (eY hp id (.cells t (jV cs off ns))) i=some o-> ∃o',aP hp i=some o'/\ρ.at i o=ρ.at i o':=by
  intro i o hi
  rw [bN _ ho]at hi
  by_cases e:i=id
  ·subst e;simp at hi;subst hi;exact⟨_,ho,rfl⟩
  ·simp [e]at hi;exact⟨o,hi,rfl⟩
 refine⟨⟨?_, ?_, ?_,by rw [G];exact h.size, ?_,h.sold,h.snew,by rw [G];exact h.slt,h.kp.trans h.sold I, ?_, ?_, ?_,h.mv, ?_,λb hb=>(c b (λe=>by subst e;have:=h.md b hb;rw [r]at this;cases this)).trans (h.md b hb)⟩, ?_⟩
 ·rw [<-hw'];exact h.os
 ·rw [<-hw'];exact h.tape
 ·rw [<-hw'];exact h.output
 ·intro b hb T
  rw [c b ?_]
  ·exact h.old b hb T
  ·rintro rfl
   rcases h.hb id _ b ho hg with hge|N
   ·omega
   ·exact T N
 ·intro i o hi
  rw [bN _ ho]at hi
  by_cases e:i=id
  ·subst e
   simp at hi
   subst hi
   refine⟨g,hg,⟨_,by rw [<-hw'];exact setRow_heap w g cur _ t _ r, ?_, ?_, ?_⟩,F⟩
   ·simp only [List.size_toArray,List.length_append,List.length_take,List.length_drop,jV,Array.length_toList];omega
   ·intro v k
    simp only [List.mem_toArray,List.mem_append]at k
    rcases k with(k|k)|k
    ·exact H v (by simpa using List.mem_of_mem_take k)
    ·exact h1 v k
    ·exact H v (by simpa using List.mem_of_mem_drop k)
   ·intro j s v n k
    have a:(cur.toList.take off++nv++cur.toList.drop (off+nv.length))[j]? =some v:=by simpa using k
    rw [splice_getElem? _ _ _ _ (by have:=Array.length_toList (xs:=cur);omega)]at a
    unfold jV at n
    rw [splice_getElem? _ _ _ _ hoff]at n
    rw [hn]at a
    have z: ∀{s v},Rep w ρ s v->Rep w' ρ s v:= λQ=>Q.mono I (λ_ _ x=>x) λi _=>q i
    split at n
    ·rename_i u;rw [if_pos u]at a;exact z (C j s v n (by simpa using a))
    ·rename_i u
     rw [if_neg u]at a
     split at n
     ·rename_i f;rw [if_pos f]at a;exact z (Q _ s v n a)
     ·rename_i f;rw [if_neg f]at a;exact z (C j s v n (by simpa using a))
  ·simp [e]at hi
   refine(h.sat i o hi).keep I (λ_ _ x=>x) (λj _=>q j) ⟨rfl,rfl⟩ ?_ (λ_ _ _ x=>x)
   rintro b (B|⟨B,l⟩)
   ·exact c b λL=>e (h.inj i o id _ b hi ho B (by rw [L];exact hg))
   ·exact c b λL=>h.ro i _ b hi l B id _ ho (by rw [L];exact hg)
 ·intro i o D o' b hi A d y
  obtain⟨K,P,e1⟩:=m i o hi
  obtain⟨M,R,e2⟩:=m D o' A
  exact h.inj i K D M b P R (e1 ▸ d) (e2 ▸ y)
 ·intro i o b hi d
  obtain⟨K,P,e1⟩:=m i o hi
  exact h.hb i K b P (e1 ▸ d)
 ·intro i U b hi l d D o' A y
  have O:aP hp i=some U:=by
   rw [bN _ ho]at hi
   by_cases e:i=id
   ·subst e;simp at hi;subst hi;exact l.elim
   ·simpa [e]using hi
  obtain⟨M,R,e2⟩:=m D o' A
  exact h.ro i _ b O l d D M R (e2 ▸ y)
 ·exact λfr J V=>V.mono I (λ_ _ x=>x) λi _=>q i
end
end Go.Proofs.YtbobcfjlbcgchaaGreatDoor
