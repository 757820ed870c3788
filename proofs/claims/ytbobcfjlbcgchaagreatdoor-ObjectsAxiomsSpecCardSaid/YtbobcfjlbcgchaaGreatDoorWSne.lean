/-
  Maps as symbolic objects: made, read, written, emptied of a key, walked over.
  Conditions: none.
-/
import Derived.Test.YtbobcfjlbcgchaaGreatDoorWSnc
set_option linter.unnecessarySimpa false
set_option linter.unusedSectionVars false
set_option linter.unusedSimpArgs false
set_option linter.unusedVariables false
namespace Go.Proofs.YtbobcfjlbcgchaaGreatDoor
section
open Go.RowKit
section
variable {P:Program} {κ:Type} [DecidableEq κ]
structure KeyT (P:Program) (kt:TypeId) (kD:κ->D) (kV:κ->Value):Prop where
 rep: ∀{w:World} {S:Nat->Nat->Prop} {k:κ} {v:Value},RepD w S (kD k) v->v=kV k
 chk: ∀(b:Bool) (k:κ) (w:World),(Instr.checkKey b 10000 kt (kV k)).run P w= .ok () w
 find: ∀(k:κ) (ks:List κ) (es:List MapEntry) (w:World),es.map (·.key)=ks.map kV->(Instr.findKey kt (kV k) es).run P w= .ok ((ks.findIdx? (λx=>decide (k=x))).bind λi=>(es[i]?).map λe=>(i,e.val)) w
 bits: ∀(k:κ),Instr.sameBits 10000 (kV k) (kV k)=true
theorem findIdx?_cons' {α:Type}(p:α->Bool) (x:α) (l:List α):(x::l).findIdx? p=if p x then some 0 else (l.findIdx? p).map (· +1):=by
 simp [List.findIdx?_cons]
theorem xR {kt:TypeDesc}{kV:κ->Value}(h: ∀k k',Instr.sameNow kt (kV k) (kV k')=some (decide (k=k'))) (k:κ): ∀(ks:List κ) (es:List MapEntry) (i:Nat),es.map (·.key)=ks.map kV->
  Instr.findNow kt (kV k) es i=some ((ks.findIdx? (λx=>decide (k=x))).bind λj=>(es[j]?).map λe=>(i+j,e.val))
 | [],[],_,_=>rfl
 | [],_::_,_,e=>by simp at e
 |_::_,[],_,e=>by simp at e
 |x::ks,e::es,i,he=>by
  simp only [List.map_cons,List.cons.injEq]at he
  rw [Instr.findNow,he.1,h k x,findIdx?_cons']
  by_cases hx:k=x
  ·simp [hx]
  ·simp only [hx,decide_false,Bool.false_eq_true,if_false]
   rw [xR h k ks es (i+1) he.2]
   cases ks.findIdx? (λx=>decide (k=x))with
   |none=>rfl
   |some j=>simp [Nat.add_assoc,Nat.add_comm 1 j]
theorem KeyT.now {kt:TypeId}{dk:TypeDesc}{kD:κ->D}{kV:κ->Value}(hu:P.underlying kt=some dk) (hrep: ∀{w:World}{S:Nat->Nat->Prop}{k:κ}{v:Value},RepD w S (kD k) v->v=kV k)
  (hs: ∀k k',Instr.sameNow dk (kV k) (kV k')=some (decide (k=k'))) (hc: ∀(b:Bool) (k:κ) (w:World),(Instr.checkKey b 10000 kt (kV k)).run P w= .ok () w) (hb: ∀k,Instr.sameBits 10000 (kV k) (kV k)=true):KeyT P kt kD kV:=
 ⟨hrep, hc, λk a c w d => by
  rw [Instr.findKey]
  simp only [Sem.run_bind,run_underlying hu,Result.andThen_ok]
  rw [xR hs k a c 0 d]
  simp,hb⟩
def bDd (l:List UInt8):Value:= .string ⟨l.toArray⟩
theorem eN {kt:TypeId}(hu:P.underlying kt=some .string):KeyT P kt (λl=>D.str l) bDd:=
 .now hu (λh => by cases h; rfl) (λk k' => by
  simp only [Instr.sameNow,bDd,beq_toListBytes,lX,xC]) (λb k w=>by
  rw [Instr.checkKey]
  simp only [Sem.run_bind,run_underlying hu,Result.andThen_ok,bDd]
  rfl) (λk=>by simp [Instr.sameBits,bDd,beq_toListBytes,lX])
def qD {β:Type}:List (κ×β)->κ->Option β
 | [],_=>none
 |(k',s)::r,k=>if k=k' then some s else qD r k
def aAl {β:Type}:List (κ×β)->κ->β->List (κ×β)
 | [],k,s=>[(k,s)]
 |(k',s')::r,k,s=>if k=k' then (k',s)::r else (k',s')::aAl r k s
def bDn {β:Type}:List (κ×β)->κ->List (κ×β)
 | [],_=>[]
 |(k',s')::r,k=>if k=k' then r else (k',s')::bDn r k
def aFt {β:Type}(l:List (κ×β)) (k:κ):Option Nat:=(l.map (λp=>p.1)).findIdx? (λx=>decide (k=x))
def uY (es:List MapEntry) (i:Option Nat):Option (Nat×Value):=i.bind λi=>(es[i]?).map λ(e:MapEntry)=>(i,e.val)
theorem aMn {β:Type}(k:κ): ∀(l:List (κ×β)),qD l k=(aFt l k).bind λi=>(l[i]?).map (·.2)
 | []=>rfl
 |(k',s)::r=>by
  rw [qD,aFt,List.map_cons,findIdx?_cons']
  by_cases h:k=k'
  ·simp [h]
  ·simp only [h,if_false,decide_false,Bool.false_eq_true]
   rw [aMn k r,aFt]
   cases (r.map (λp=>p.1)).findIdx? (λx=>decide (k=x))<;>simp
theorem aMk {β:Type}(k:κ) (s:β): ∀(l:List (κ×β)),aAl l k s=match aFt l k with
  |some i=>l.modify i (λp=>(p.1,s))
  |none=>l++[(k,s)]
 | []=>rfl
 |(k',s')::r=>by
  rw [aAl,aFt,List.map_cons,findIdx?_cons']
  by_cases h:k=k'
  ·simp [h,List.modify_zero_cons]
  ·simp only [h,if_false,decide_false,Bool.false_eq_true]
   rw [aMk k s r,aFt]
   cases (r.map (λp=>p.1)).findIdx? (λx=>decide (k=x))with
   |none=>rfl
   |some j=>simp [List.modify_succ_cons]
theorem aMp {β:Type}(k:κ): ∀(l:List (κ×β)),bDn l k=match aFt l k with
  |some i=>l.eraseIdx i
  |none=>l
 | []=>rfl
 |(k',s')::r=>by
  rw [bDn,aFt,List.map_cons,findIdx?_cons']
  by_cases h:k=k'
  ·simp [h]
  ·simp only [h,if_false,decide_false,Bool.false_eq_true]
   rw [aMp k r,aFt]
   cases (r.map (λp=>p.1)).findIdx? (λx=>decide (k=x))with
   |none=>rfl
   |some j=>simp
def aUw (ents:List (κ×SV)):List Nat:=ents.flatMap λp=>p.2.ids
structure MapAt (w:World) (ρ:Env) (kD:κ->D) (ents:List (κ×SV)) (bs:List Nat) (clock:Nat) (es:List MapEntry):Prop where
 len:es.length=ents.length
 ent: ∀(i:Nat) (e:MapEntry) (p:κ×SV),es[i]? =some e->ents[i]? =some p->RepD w ρ.S (kD p.1) e.key/\Rep w ρ p.2 e.val
 born:es.map (·.born)=bs
 lt: ∀b∈bs,b < clock
 nd:bs.Nodup
def aC8 (kD:κ->D) (ents:List (κ×SV)) (bs:List Nat) (clock:Nat):ExtO where
 ids:=aUw ents
 sat:= λw ρ o=> ∃es:Array MapEntry,o= .map es clock/\MapAt w ρ kD ents bs clock es.toList
 keep:=by
  rintro w w' ρ ρ' o hk hs hm ⟨es,rfl,h⟩
  refine⟨es,rfl,h.len,λi e p he hp=> ?_,h.born,h.lt,h.nd⟩
  obtain⟨h1,h2⟩:=h.ent i e p he hp
  exact⟨h1.mono hk hs,h2.mono hk hs λid hid=>hm id (List.mem_flatMap.2 ⟨p,List.mem_of_getElem? hp,hid⟩)⟩
 nd:=by
  rintro w ρ x ⟨es,h,_⟩
  cases h
theorem jP {w:World}{r:Nat}{es:Array MapEntry}{clock:Nat}(hb:w.heap[r]? =some (.map es clock)):(getObj r).run P w= .ok (.map es clock) w:=by
 simp [getObj,Sem.run,hb]
theorem aOh {w:World}{r:Nat}{es:Array MapEntry}{clock:Nat}(o:Obj) (hb:w.heap[r]? =some (.map es clock)):(setObj r o).run P w= .ok () { w with heap:=w.heap.setIfInBounds r o }:=by
 simp [setObj,Sem.run,hb]
def rR:Nat->Value:= λg=> .map (some g)
theorem MapAt.keys {w:World}{ρ:Env}{kt:TypeId}{kD:κ->D}{kV:κ->Value}{ents:List (κ×SV)}{bs:List Nat}{clock:Nat}{es:List MapEntry}(h:MapAt w ρ kD ents bs clock es) (hK:KeyT P kt kD kV):es.map (·.key)=(ents.map (·.1)).map kV:=by
 apply List.ext_getElem?
 intro i
 simp only [List.getElem?_map]
 rcases Nat.lt_or_ge i es.length with hi|hi
 ·have a:i < ents.length:=h.len ▸ hi
  rw [List.getElem?_eq_getElem hi,List.getElem?_eq_getElem a]
  simp only [Option.map_some,Option.some.injEq]
  exact hK.rep (h.ent i _ _ (List.getElem?_eq_getElem hi) (List.getElem?_eq_getElem a)).1
 ·rw [List.getElem?_eq_none hi,List.getElem?_eq_none (by rw [<-h.len];exact hi)];rfl
theorem MapAt.found {w:World}{ρ:Env}{kt:TypeId}{kD:κ->D}{kV:κ->Value}{ents:List (κ×SV)}{bs:List Nat}{clock:Nat}{es:List MapEntry}(h:MapAt w ρ kD ents bs clock es) (hK:KeyT P kt kD kV) (k:κ) (w':World):
  (Instr.findKey kt (kV k) es).run P w'= .ok (uY es (aFt ents k)) w':=hK.find k _ es w' (h.keys hK)
theorem aTk {l:List κ}{p:κ->Bool}{i:Nat}(h:l.findIdx? p=some i):i < l.length:=by
 rw [List.findIdx?_eq_some_iff_getElem]at h
 exact h.1
def bA7 (P:Program) (t:TypeId):Option (TypeId×TypeId):=match P.underlying t with|some (.map k e)=>some (k,e)|_=>none
theorem aAq {t k e:TypeId}(h:bA7 P t=some (k,e)):P.underlying t=some (.map k e):=by
 unfold bA7 at h
 split at h
 ·injection h with h;injection h with h1 h2;subst h1;subst h2;assumption
 ·cases h
theorem aMq {o:Oper}{t k e:TypeId}(ho:o.op= .makeMap t none) (_ht:bA7 P t=some (k,e)) (kD:κ->D) {pin:Pin}{fr:Fr}{hp:Hp}{K:SV->Hp->Prop}(id:Nat) (hfr:fE id pin fr hp)
  (hk:K (.xv id rR) ((id, .ext (aC8 kD [] [] 0))::hp)):aT P o pin fr hp K:=by
 intro E ρ a w c j y next Q u
 obtain⟨m,r,z⟩:=hfr
 have d:(execOp a.eval o).run P w= .ok (.value (.map (some w.heap.size))) (w.alloc (.map #[] 0)):=by
  simp [execOp,ho,Instr.makeMap]
 have q:Grew w (w.alloc (.map #[] 0)):=Grew.alloc w _
 obtain⟨s,p,l⟩:=j.newObj (id:=id) (b:=some w.heap.size) (n:=0) (v:=undef) (o:= .ext (aC8 kD [] [] 0)) z (by rw [c];exact m) q (λh=>h)
  ⟨w.heap.size, _, by simp [Env.upd3], by simp only [World.alloc]; simp, ⟨#[], rfl, ⟨rfl, by simp, rfl, by simp, .nil⟩⟩, by
   intro i hi
   have:=j.slt _ _ (show ρ.S w.heap.size i from hi)
   omega⟩
  (λg f => by
   simp only [Env.at,Env.upd3,if_true,Option.some.injEq]at f
   subst f;exact j.free_new (Nat.le_refl _))
 exact bW d (u _ _ _ _ _ hk s (y.mono p (λ_ _ x=>x) λi hi=>l i λe=>r (e ▸ hi)) (.xv id rR _ (by simp [Env.upd3]) rfl))
def aQj (P:Program) (e:TypeId):Option Value:=(P.info? e).bind (·.zero)
theorem aOg {e:TypeId}{z:Value}(h:aQj P e=some z) (w:World):(zeroValue e).run P w= .ok z w:=by
 unfold aQj at h
 cases hi:P.info? e with
 |none=>rw [hi]at h;cases h
 |some i=>
  rw [hi]at h
  have h:i.zero=some z:=h
  simp [zeroValue,typeInfo,hi,h]
def wU (ok:Bool) (r:Option SV) (z:SV):SV:=match ok with
 |true=> .tup [match r with|some s=>s|none=>z, .d (.bool (match r with|some _=>true|none=>false))]
 |false=>match r with|some s=>s|none=>z
theorem eC {o:Oper}{t kt e:TypeId}{x y:Operand}{ok:Bool}(ho:o.op= .lookup t x y ok) (ht:bA7 P t=some (kt,e)) {kD:κ->D}{kV:κ->Value}(hK:KeyT P kt kD kV) {z:Value}(hz:aQj P e=some z)
  {fr:Fr} {hp:Hp} {K:SV->Prop} {id:Nat} {ents:List (κ×SV)} {bs:List Nat} {clock:Nat} (hx:evO fr x=some (.xv id rR)) (hg:aP hp id=some (.ext (aC8 kD ents bs clock)))
  {k:κ} (hy:evO fr y=some (.d (kD k))) (hk:K (wU ok (qD ents k) (ofV z))):cG P o fr hp K:=by
 intro E ρ a w M I
 obtain⟨g,G,e1,_⟩:=(aV I hx).xv_inv
 have e2:a.eval y=kV k:=by
  cases aV I hy with
  |d _ _ h=>exact hK.rep h
 obtain⟨A,ob,L,J,⟨u,rfl,B⟩,c4⟩:=M.sat id _ hg
 have:A=g:=by
  have m:ρ.blk id=some A:=L
  rw [G]at m;injection m with m;exact m.symm
 subst this
 have l:=B.found hK k
 rw [aMn]at hk
 have n: ∀w',Kept ρ hp w w'->w'.heap[A]? =some (.map u clock):= λw' f=>(f.o id _ A hg G).trans J
 cases hi:aFt ents k with
 |none=>
  refine⟨if ok then .tuple #[z, .bool false]else z,wU ok none (ofV z),λw' f=> ?_, ?_,by rw [hi]at hk;exact hk⟩
  ·simp only [execOp,ho,Instr.lookup,Sem.run_bind,run_underlying (aAq ht),Result.andThen_ok,e1,e2,rR,jP (n w' f),hK.chk,Sem.run_pure,l,hi,uY,Option.bind_none,aOg hz]
  ·cases ok
   ·exact aK3 w ρ z
   ·refine .tup _ _ rfl ?_
    intro j s v b c
    match j,b,c with
    | 0,b,c=>simp at b c;subst b;subst c;exact aK3 w ρ z
    | 1,b,c=>simp at b c;subst b;subst c;exact .d _ _ (.bool _)
    |j+2,b,_=>simp at b
 |some i=>
  have q:i < ents.length:=by have:=aTk hi;simpa [aFt]using this
  have p:i < u.toList.length:=by rw [B.len];exact q
  have H:=List.getElem?_eq_getElem p
  have r:=List.getElem?_eq_getElem q
  obtain⟨r1,F⟩:=B.ent i _ _ H r
  have C:K (wU ok (some ents[i].2) (ofV z)):=by rw [hi]at hk;simpa [r]using hk
  refine⟨if ok then .tuple #[u.toList[i].val, .bool true]else u.toList[i].val,_,λw' f=> ?_, ?_,C⟩
  ·simp only [execOp,ho,Instr.lookup,Sem.run_bind,run_underlying (aAq ht),Result.andThen_ok,e1,e2,rR,jP (n w' f),hK.chk,Sem.run_pure,l,hi,uY,Option.bind_some,H,Option.map_some]
  ·cases ok
   ·exact F
   ·refine .tup _ _ rfl ?_
    intro j s v b c
    match j,b,c with
    | 0,b,c=>simp at b c;subst b;subst c;exact F
    | 1,b,c=>simp at b c;subst b;subst c;exact .d _ _ (.bool _)
    |j+2,b,_=>simp at b
theorem aX8 {w:World}{S:Nat->Nat->Prop}{g:Nat}{o:Obj}(h: ∀i,¬ S g i):cF S w { w with heap:=w.heap.setIfInBounds g o }:=by
 intro b i hb
 have:b≠g:= λe=>h i (e ▸ hb)
 have:({ w with heap:=w.heap.setIfInBounds g o }:World).heap[b]? =w.heap[b]? :=Array.getElem?_setIfInBounds_ne (Ne.symm this)
 simp only [World.cell?,this]
theorem aD2 {w:World}{g:Nat}{o o':Obj}(h:w.heap[g]? =some o):({ w with heap:=w.heap.setIfInBounds g o' }:World).heap[g]? =some o':=by
 have:=bD h
 simp [Array.getElem?_setIfInBounds,this]
theorem aLz {w:World}{g b:Nat}{o':Obj}(h:b≠g):({ w with heap:=w.heap.setIfInBounds g o' }:World).heap[b]? =w.heap[b]? :=Array.getElem?_setIfInBounds_ne (Ne.symm h)
theorem MapAt.set {w w':World}{ρ:Env}{kt:TypeId}{kD:κ->D}{kV:κ->Value}{ents:List (κ×SV)}{bs:List Nat}{clock:Nat}{es:Array MapEntry}(h:MapAt w ρ kD ents bs clock es.toList) (hK:KeyT P kt kD kV) {k:κ}{s:SV}{v:Value}(hr1:RepD w ρ.S (kD k) (kV k)) (hr2:Rep w ρ s v) (hk:cF ρ.S w w'):
  ∃(es':Array MapEntry) (bs':List Nat) (clock':Nat),MapAt w' ρ kD (aAl ents k s) bs' clock' es'.toList/\
   ∀ (r : Nat) (y : World), (match uY es.toList (aFt ents k) with
   |some (i,_)=>do
    let key <-Instr.keyThatStays (((es[i]?).map λ(e:MapEntry)=>e.key).getD (kV k)) (kV k)
    setObj r (.map (es.modify i λe=>{ e with key,val:=v }) clock)
   |none=>setObj r (.map (es.push { key:=kV k,val:=v,born:=clock }) (clock+1))).run P y=(setObj r (.map es' clock')).run P y:=by
 have z:=h.keys hK
 have mono: ∀(i:Nat) (e:MapEntry) (p:κ×SV),es.toList[i]? =some e->ents[i]? =some p->RepD w' ρ.S (kD p.1) e.key/\Rep w' ρ p.2 e.val:= λi e p n u=>
  ⟨(h.ent i e p n u).1.mono hk λ_ _ x=>x,(h.ent i e p n u).2.mono hk (λ_ _ x=>x) λid _=>ρ.moved_refl id⟩
 have t:RepD w' ρ.S (kD k) (kV k):=hr1.mono hk λ_ _ x=>x
 have l:Rep w' ρ s v:=hr2.mono hk (λ_ _ x=>x) λid _=>ρ.moved_refl id
 rw [aMk]
 cases hi:aFt ents k with
 |none=>
  refine⟨es.push { key:=kV k,val:=v,born:=clock },bs++[clock],clock+1,⟨?_, ?_, ?_, ?_, ?_⟩,λr y=>rfl⟩
  ·simp [h.len]
  ·intro i e p d hp
   simp only [Array.toList_push]at d
   rcases Nat.lt_or_ge i ents.length with hl|hl
   ·rw [List.getElem?_append_left (by rw [h.len];exact hl)]at d
    rw [List.getElem?_append_left hl]at hp
    exact mono i e p d hp
   ·have:i=ents.length:=by
     have:=(List.getElem?_eq_some_iff.1 hp).1
     simp at this;omega
    subst this
    rw [List.getElem?_append_right (Nat.le_refl _)]at hp
    rw [<-h.len,List.getElem?_append_right (Nat.le_refl _)]at d
    simp at hp d
    subst hp;subst d
    exact⟨t,l⟩
  ·simp [h.born]
  ·intro b hb
   rcases List.mem_append.1 hb with hb|hb
   ·have:=h.lt b hb;omega
   ·simp at hb;omega
  ·rw [List.nodup_append]
   exact⟨h.nd,by simp,λa B b hb=>by simp at hb;have:=h.lt a B;omega⟩
 |some i=>
  have f:i < ents.length:=by have:=aTk hi;simpa [aFt]using this
  have c:i < es.toList.length:=by rw [h.len];exact f
  have g:i < es.size:=by simpa using c
  have o:ents[i].1=k:=by
   rw [aFt,List.findIdx?_eq_some_iff_getElem]at hi
   obtain⟨_,u,_⟩:=hi
   have:=of_decide_eq_true u
   rw [List.getElem_map]at this
   exact this.symm
  have m:es[i].key=kV k:=by
   have n:(es.toList.map (·.key))[i]? =((ents.map (·.1)).map kV)[i]? :=by rw [z]
   simp only [List.getElem?_map,List.getElem?_eq_getElem c,List.getElem?_eq_getElem f,Option.map_some,Option.some.injEq]at n
   rw [<-o,<-n];simp
  refine⟨es.modify i λe=>{ e with key:=kV k,val:=v },bs,clock,⟨?_, ?_, ?_,h.lt,h.nd⟩,λr y=> ?_⟩
  ·simp [h.len]
  ·intro j e p d hp
   simp only [Array.toList_modify,List.getElem?_modify]at d
   rw [List.getElem?_modify]at hp
   by_cases q:i=j
   ·subst q
    rw [List.getElem?_eq_getElem c]at d
    rw [List.getElem?_eq_getElem f]at hp
    simp only [Option.map_eq_map,Option.map_some,Option.some.injEq,if_true]at d hp
    subst d;subst hp
    dsimp only
    rw [o]
    exact⟨t,l⟩
   ·simp only [q,if_false,Option.map_eq_map,Option.map_id_fun',id]at d hp
    exact mono j e p d hp
  ·rw [<-h.born]
   apply List.ext_getElem?
   intro j
   simp only [Array.toList_modify,List.getElem?_map,List.getElem?_modify]
   by_cases q:i=j
   ·subst q;simp only [if_true,Option.map_map];cases es.toList[i]?<;>rfl
   ·simp [q]
  ·have:es[i]? =some es[i]:=Array.getElem?_eq_getElem g
   have A:uY es.toList (some i)=some (i,es.toList[i].val):=by rw [uY,Option.bind_some,List.getElem?_eq_getElem c,Option.map_some]
   rw [A]
   simp only [Option.bind_some,List.getElem?_eq_getElem c,Option.map_some,this,Option.getD_some,m,Instr.keyThatStays,hK.bits,if_true,Sem.run_bind,Sem.run_pure,Result.andThen_ok]
theorem rH {o:Oper}{t kt e:TypeId}{x y u:Operand}(G:o.op= .mapUpdate t x y u\/o.op= .insert t x y u) (ht:bA7 P t=some (kt,e)) {kD:κ->D}{kV:κ->Value}(hK:KeyT P kt kD kV)
  {pin:Pin} {fr:Fr} {hp:Hp} {K:SV->Hp->Prop} {id:Nat} {ents:List (κ×SV)} {bs:List Nat} {clock:Nat} (hx:evO fr x=some (.xv id rR)) (hg:aP hp id=some (.ext (aC8 kD ents bs clock)))
  {k:κ} (hy:evO fr y=some (.d (kD k))) {s:SV} (hu:evO fr u=some s) (hk: ∀l c,K (.d (.lit undef)) (eY hp id (.ext (aC8 kD (aAl ents k s) l c)))):aT P o pin fr hp K:=by
 intro E ρ a w hpin N H next Q Y
 obtain⟨g,O,e1,_⟩:=(aV H hx).xv_inv
 have e2:RepD w ρ.S (kD k) (a.eval y):=by
  cases aV H hy with
  |d _ _ h=>exact h
 have C:=hK.rep e2
 have R:=aV H hu
 obtain⟨m,ob,T,J,⟨es,rfl,M⟩,Z⟩:=N.sat id _ hg
 have:m=g:=by
  have q:ρ.blk id=some m:=T
  rw [O]at q;injection q with q;exact q.symm
 subst this
 have f: ∀o',cF ρ.S w { w with heap:=w.heap.setIfInBounds m o' }:= λo'=>aX8 Z
 obtain⟨j,l,c,n,z⟩:=M.set hK (k:=k) (s:=s) (v:=a.eval u) (by rw [<-C];exact e2) R (f (.map #[] 0))
 have I:MapAt { w with heap:=w.heap.setIfInBounds m (.map j c) } ρ kD (aAl ents k s) l c j.toList:=by
  refine⟨n.len,λi e p W hp=> ?_,n.born,n.lt,n.nd⟩
  obtain⟨F,L⟩:=n.ent i e p W hp
  have A:cF ρ.S { w with heap:=w.heap.setIfInBounds m (.map #[] 0) } { w with heap:=w.heap.setIfInBounds m (.map j c) }:= λb i hb=>(f _ b i hb).trans (f _ b i hb).symm
  exact⟨F.mono A λ_ _ x=>x,L.mono A (λ_ _ x=>x) λid _=>ρ.moved_refl id⟩
 have B:(execOp a.eval o).run P w= .ok .skip { w with heap:=w.heap.setIfInBounds m (.map j c) }:=by
  have F:=z m w
  have L:(setObj m (.map j c)).run P w= .ok () { w with heap:=w.heap.setIfInBounds m (.map j c) }:=aOh _ J
  rw [L]at F
  rcases G with G|G<;>
  ·simp only [execOp,G,Instr.mapUpdate,Sem.run_bind,run_underlying (aAq ht),Result.andThen_ok,e1,C,rR,jP J,hK.chk,M.found hK,Sem.run_pure]
   exact congrArg (λr:Result Unit=>r.andThen λ_ w'=>Result.ok Next.skip w') F
 obtain⟨V,U⟩:=N.setExt (X':=aC8 kD (aAl ents k s) l c) (w':={ w with heap:=w.heap.setIfInBounds m (.map j c) }) hg O rfl rfl (.refl _) (by simp) (λb _ hb=>aLz hb) (aD2 J) ⟨j,rfl,I⟩
 exact aEc B (Y _ _ ρ _ _ (hk l c) V (H.mono U (λ_ _ x=>x) λi _=>ρ.moved_refl i) (.d _ _ (.lit _)))
theorem MapAt.del {w w':World}{ρ:Env}{kt:TypeId}{kD:κ->D}{kV:κ->Value}{ents:List (κ×SV)}{bs:List Nat}{clock:Nat}{es:Array MapEntry}(h:MapAt w ρ kD ents bs clock es.toList) (_hK:KeyT P kt kD kV) {k:κ}(hk:cF ρ.S w w'):
  ∃(es':Array MapEntry) (bs':List Nat),MapAt w' ρ kD (bDn ents k) bs' clock es'.toList/\
   ∀ (r : Nat) (g : World), (match uY es.toList (aFt ents k) with
   |some (i,_)=>setObj r (.map (es.eraseIdxIfInBounds i) clock)
   |none=>setObj r (.map es clock)).run P g=(setObj r (.map es' clock)).run P g:=by
 have mono: ∀(i:Nat) (e:MapEntry) (p:κ×SV),es.toList[i]? =some e->ents[i]? =some p->RepD w' ρ.S (kD p.1) e.key/\Rep w' ρ p.2 e.val:= λi e p q o=>
  ⟨(h.ent i e p q o).1.mono hk λ_ _ x=>x,(h.ent i e p q o).2.mono hk (λ_ _ x=>x) λid _=>ρ.moved_refl id⟩
 rw [aMp]
 cases hi:aFt ents k with
 |none=>exact⟨es,bs,⟨h.len,mono,h.born,h.lt,h.nd⟩,λr g=>rfl⟩
 |some i=>
  have d:i < ents.length:=by have:=aTk hi;simpa [aFt]using this
  have a:i < es.toList.length:=by rw [h.len];exact d
  have f:i < es.size:=by simpa using a
  have c:(es.eraseIdxIfInBounds i).toList=es.toList.eraseIdx i:=by
   simp [Array.eraseIdxIfInBounds,f]
  refine⟨es.eraseIdxIfInBounds i,bs.eraseIdx i,⟨?_, ?_, ?_, ?_, ?_⟩,λr g=> ?_⟩
  ·rw [c];simp [List.length_eraseIdx,h.len,d]
  ·intro j e p l hp
   rw [c,List.getElem?_eraseIdx]at l
   rw [List.getElem?_eraseIdx]at hp
   split at l
   ·rename_i m;rw [if_pos m]at hp;exact mono j e p l hp
   ·rename_i m;rw [if_neg m]at hp;exact mono _ e p l hp
  ·rw [c,<-h.born]
   apply List.ext_getElem?
   intro j
   simp only [List.getElem?_map,List.getElem?_eraseIdx]
   split<;>rfl
  ·exact λb hb=>h.lt b (List.mem_of_mem_eraseIdx hb)
  ·exact h.nd.sublist (List.eraseIdx_sublist ..)
  ·have n:uY es.toList (some i)=some (i,es.toList[i].val):=by rw [uY,Option.bind_some,List.getElem?_eq_getElem a,Option.map_some]
   rw [n]
def aKn:Nat->Value:= λg=> .pointer (some ⟨g,0,none⟩)
def aFx (mid:Nat) (bs:List Nat) (clock:Nat) (vis:List Nat):ExtO where
 ids:=[mid]
 sat:= λ_ ρ o=>(∀i∈vis,i < bs.length)/\ ∃g,ρ.blk mid=some g/\o= .mapIter (some g) clock (vis.map λi=>bs.getD i 0).toArray clock
 keep:=by
  rintro w w' ρ ρ' o hk hs hm ⟨h0,g,h1,h2⟩
  exact⟨h0,g,((hm mid (by simp)).1).trans h1,h2⟩
 nd:=by
  rintro w ρ x ⟨_,g,_,h⟩
  cases h
theorem aH8 {o:Oper}{t kt e:TypeId}{x:Operand}(ho:o.op= .range t x) (ht:bA7 P t=some (kt,e)) {kD:κ->D}{pin:Pin}{fr:Fr}{hp:Hp}{K:SV->Hp->Prop}{id:Nat}{ents:List (κ×SV)}{bs:List Nat}{clock:Nat}
  (hx:evO fr x=some (.xv id rR)) (hg:aP hp id=some (.ext (aC8 kD ents bs clock))) (it:Nat) (hfr:fE it pin fr hp) (hk:K (.xv it aKn) ((it, .ext (aFx id bs clock []))::hp)):aT P o pin fr hp K:=by
 intro E ρ a w d l s next Q G
 obtain⟨A,C,q⟩:=hfr
 obtain⟨g,r,e1,_⟩:=(aV s hx).xv_inv
 obtain⟨j,ob,z,y,⟨es,rfl,hM⟩,c4⟩:=l.sat id _ hg
 have:j=g:=by
  have c:ρ.blk id=some j:=z
  rw [r]at c;injection c with c;exact c.symm
 subst this
 have p:id≠it:= λe=>q (by subst e;exact bR hg (.inl rfl))
 have f:(execOp a.eval o).run P w= .ok (.value (.pointer (some ⟨w.heap.size,0,none⟩))) (w.alloc (.mapIter (some j) clock #[] clock)):=by
  simp [execOp,ho,Instr.range,run_underlying (aAq ht),e1,rR,jP y]
 have m:Grew w (w.alloc (.mapIter (some j) clock #[] clock)):=Grew.alloc w _
 obtain⟨F,B,u⟩:=l.newObj (id:=it) (b:=some w.heap.size) (n:=0) (v:=undef) (o:= .ext (aFx id bs clock [])) q (by rw [d];exact A) m (λh=>h)
  ⟨w.heap.size, _, by simp [Env.upd3], by simp only [World.alloc]; simp, ⟨by simp, j, by simp [Env.upd3, p, r], rfl⟩, by
   intro i hi
   have:=l.slt _ _ (show ρ.S w.heap.size i from hi)
   omega⟩
  (λg k => by
   simp only [Env.at,Env.upd3,if_true,Option.some.injEq]at k
   subst k;exact l.free_new (Nat.le_refl _))
 exact bW f (G _ _ _ _ _ hk F (s.mono B (λ_ _ x=>x) λi hi=>u i λe=>C (e ▸ hi)) (.xv it aKn _ (by simp [Env.upd3]) rfl))
theorem aWu {ev:Operand->Value}{o:Oper}{x:Operand}(ho:o.op= .next x false) {r m clock:Nat}{seen:Array Nat}{es:Array MapEntry}{w:World}(ex:ev x= .pointer (some ⟨r,0,none⟩)) (hr:w.heap[r]? =some (.mapIter (some m) clock seen clock))
  (hm:w.heap[m]? =some (.map es clock)) (hlt: ∀e∈es,e.born < clock):
  ((∀e∈es,seen.contains e.born=true)/\(execOp ev o).run P w= .ok (.value (.tuple #[.bool false])) w)\/
  (∃(e:MapEntry) (a:World),e∈es/\seen.contains e.born=false/\(a=w\/a=w.drew)/\(execOp ev o).run P w= .ok (.value (.tuple #[.bool true,e.key,e.val])) { a with heap:=a.heap.setIfInBounds r (.mapIter (some m) clock (seen.push e.born) clock) }):=by
 have A:(getObj r).run P w= .ok (.mapIter (some m) clock seen clock) w:=by simp [getObj,Sem.run,hr]
 have F:(getObj m).run P w= .ok (.map es clock) w:=jP hm
 have f:(!seen.isEmpty && !es.isEmpty && es.all (λe=>decide (e.born>=clock)))=false:=by
  rw [Bool.eq_false_iff]
  intro h
  simp only [Bool.and_eq_true,Bool.not_eq_true']at h
  obtain⟨⟨_,q⟩,G⟩:=h
  have hsz:0 < es.size:=by
   rcases Nat.eq_zero_or_pos es.size with h|h
   ·rw [Array.isEmpty]at q;simp [h]at q
   ·exact h
  have E:=(Array.all_eq_true'.1 G) es[0] (by simp)
  have h5:=hlt es[0] (by simp)
  simp at E
  omega
 obtain⟨left,hleft⟩: ∃l:Array MapEntry,l=es.filter λe=> !seen.contains e.born:=⟨_,rfl⟩
 have d: ∀e∈left,e∈es/\seen.contains e.born=false:=by
  intro e c
  rw [hleft,Array.mem_filter]at c
  exact⟨c.1,by simpa using c.2⟩
 have k:left.filter (λe=>decide (e.born < clock))=left:=by
  rw [Array.filter_eq_self]
  intro e c
  simpa using hlt e (d e c).1
 have g:left.filter (λe=>decide (e.born>=clock))= #[]:=by
  rw [Array.filter_eq_empty_iff]
  intro e c
  have:=hlt e (d e c).1
  simp;omega
 have b : (execOp ev o).run P w = ((choose (.mapNext ((if left.isEmpty then #[none] else #[]) ++ left.map some).size) >>= λi => (match ((if left.isEmpty then #[none] else #[]) ++ left.map some)[i]? with
   |some (some e)=>do
    setObj r (.mapIter (some m) clock (seen.push e.born) clock)
    pure (.tuple #[.bool true,e.key,e.val])
   |some none=>pure (.tuple #[.bool false])
   |none=>stuck "Next: no such candidate"))>>= λv=>pure (Next.value v)).run P w:=by
  simp only [execOp,ho,ex,Instr.next,Sem.run_bind,A,Result.andThen_ok,F,f,Bool.false_eq_true,if_false,<-hleft,k,g,Array.append_empty]
  rfl
 rcases Nat.eq_zero_or_pos left.size with p|p
 ·have hl:left= #[]:=Array.size_eq_zero_iff.1 p
  refine .inl ⟨λe c=> ?_, ?_⟩
  ·rw [hl]at hleft
   have:=(Array.filter_eq_empty_iff.1 hleft.symm) e c
   simpa using this
  ·rw [b,hl]
   simp [Question.forced]
 ·have s:left.isEmpty=false:=by rw [Array.isEmpty];exact decide_eq_false (by omega)
  rw [s]at b
  simp only [Bool.false_eq_true,if_false,Array.empty_append,Array.size_map]at b
  have key: ∀(j:Nat) (a:World),j < left.size->(a=w\/a=w.drew)->(choose (.mapNext left.size)).run P w= .ok j a->
    ∃(e:MapEntry) (a:World),e∈es/\seen.contains e.born=false/\(a=w\/a=w.drew)/\(execOp ev o).run P w= .ok (.value (.tuple #[.bool true,e.key,e.val])) { a with heap:=a.heap.setIfInBounds r (.mapIter (some m) clock (seen.push e.born) clock) }:=by
   intro j a u n z
   obtain⟨D,q⟩:=d left[j] (Array.getElem_mem u)
   refine⟨left[j],a,D,q,n, ?_⟩
   rw [b]
   have t:a.heap[r]? =some (.mapIter (some m) clock seen clock):=by
    rcases n with rfl|rfl
    ·exact hr
    ·exact hr
   have B:(setObj r (.mapIter (some m) clock (seen.push left[j].born) clock)).run P a= .ok () { a with heap:=a.heap.setIfInBounds r (.mapIter (some m) clock (seen.push left[j].born) clock) }:=by
    simp [setObj,Sem.run,t]
   have C:(left.map some)[j]? =some (some left[j]):=by simp [u]
   simp only [Sem.run_bind,z,Result.andThen_ok,C,B,Sem.run_pure]
  refine .inr ?_
  by_cases y:left.size<=1
  ·exact key 0 w p (.inl rfl) (by simp [Question.forced,y])
  ·exact key (w.tape w.drawn (.mapNext left.size) % left.size) w.drew (Nat.mod_lt _ p) (.inr rfl) (by simp [Question.forced,y,Question.cut])
theorem aMj {o:Oper}{x:Operand}(ho:o.op= .next x false) {kD:κ->D}{pin:Pin}{fr:Fr}{hp:Hp}{K:SV->Hp->Prop}{it id:Nat}{ents:List (κ×SV)}{bs vis:List Nat}{clock:Nat}
  (hx:evO fr x=some (.xv it aKn)) (hi:aP hp it=some (.ext (aFx id bs clock vis))) (hg:aP hp id=some (.ext (aC8 kD ents bs clock)))
  (hover:(∀i,i < ents.length->i∈vis)->K (.tup [.d (.bool false)]) hp)
  (hstep: ∀(i:Nat) (p:κ×SV),ents[i]? =some p->i∉vis->K (.tup [.d (.bool true), .d (kD p.1),p.2]) (eY hp it (.ext (aFx id bs clock (vis++[i]))))):aT P o pin fr hp K:=by
 intro E ρ a w hpin L V next Q Z
 obtain⟨gi,Y,e1,_⟩:=(aV V hx).xv_inv
 obtain⟨q,ob,c1,W,⟨l,g,d1,rfl⟩,c4⟩:=L.sat it _ hi
 have:q=gi:=by
  have c:ρ.blk it=some q:=c1
  rw [Y]at c;injection c with c;exact c.symm
 subst this
 obtain⟨H,ob,k1,k2,⟨n,rfl,r⟩,k4⟩:=L.sat id _ hg
 have:H=g:=by
  have c:ρ.blk id=some H:=k1
  rw [d1]at c;injection c with c;exact c.symm
 subst this
 have hbl:bs.length=ents.length:=by rw [<-r.born,List.length_map,r.len]
 have m: ∀(i:Nat) (hi:i < n.size),bs.getD i 0=n[i].born:=by
  intro i f
  have F:i < n.toList.length:=by simpa using f
  rw [<-r.born,List.getD,List.getElem?_map,List.getElem?_eq_getElem F];simp
 have hesz:n.size=ents.length:=by rw [<-Array.length_toList,r.len]
 have R: ∀e∈n,e.born < clock:= λe he=>r.lt _ (by rw [<-r.born];exact List.mem_map_of_mem (by simpa using he))
 have I: ∀(i:Nat) (hi:i < n.size),(vis.map λi=>bs.getD i 0).toArray.contains n[i].born=true↔i∈vis:=by
  intro i f
  rw [Array.contains_iff_mem]
  simp only [List.mem_toArray,List.mem_map]
  constructor
  ·rintro⟨j,t,A⟩
   have N:=l j t
   rw [<-m i f]at A
   rw [List.getD,List.getD,List.getElem?_eq_getElem N,List.getElem?_eq_getElem (by omega)]at A
   have:j=i:=(List.getElem_inj r.nd).1 (by simpa using A)
   exact this ▸ t
  ·exact λh=>⟨i,h,m i f⟩
 rcases aWu (P:=P) (ev:=a.eval) ho (by rw [e1];rfl) W k2 R with⟨F,M⟩|⟨e,B,F,M,S,h4⟩
 ·refine bW M (Z _ _ ρ _ _ (hover λi f=> ?_) L V (.tup _ _ rfl ?_))
  ·have u:i < n.size:=by omega
   exact(I i u).1 (F _ (Array.getElem_mem u))
  ·intro j s v k l
   match j,k,l with
   | 0,k,l=>simp at k l;subst k;subst l;exact .d _ _ (.bool _)
   |j+1,k,_=>simp at k
 ·obtain⟨i,f,rfl⟩:=Array.mem_iff_getElem.1 F
  have y:i < ents.length:=by omega
  have J:i < n.toList.length:=by simpa using f
  have O:i∉vis:= λh=>by rw [(I i f).2 h]at M;cases M
  have C:B.heap=w.heap:=by rcases S with rfl|rfl<;>rfl
  have z:aQ8 B w:=by
   rcases S with rfl|rfl
   ·exact .refl _
   ·exact⟨rfl,Nat.le_succ _⟩
  have G:B.os=w.os/\B.tape=w.tape:=by rcases S with rfl|rfl<;>exact⟨rfl,rfl⟩
  have T:B.heap[q]? =some (.mapIter (some H) clock (vis.map λi=>bs.getD i 0).toArray clock):=by rw [C];exact W
  obtain⟨r1,r2⟩:=r.ent i _ _ (List.getElem?_eq_getElem J) (List.getElem?_eq_getElem y)
  obtain⟨s1,U⟩:=L.setExt (X':=aFx id bs clock (vis++[i])) (w':={ B with heap:=B.heap.setIfInBounds q (.mapIter (some H) clock ((vis.map λi=>bs.getD i 0).toArray.push n[i].born) clock) }) hi Y
   G.1 G.2 ⟨z.1, z.2⟩ (by simp [C]) (λb _ hb => by rw [aLz hb, C]) (aD2 T) ⟨λj t => by
    rcases List.mem_append.1 t with t|t
    ·exact l j t
    ·simp at t;omega,H,d1,by rw [<-m i f];simp⟩
  refine bW h4 (Z _ _ ρ _ _ (hstep i _ (List.getElem?_eq_getElem y) O) s1 (V.mono U (λ_ _ x=>x) λi _=>ρ.moved_refl i) (.tup _ _ rfl ?_))
  intro j s v k l
  match j,k,l with
  | 0,k,l=>simp at k l;subst k;subst l;exact .d _ _ (.bool _)
  | 1,k,l=>
   simp at k l;subst k;subst l
   exact .d _ _ (by simpa using r1.mono U λ_ _ x=>x)
  | 2,k,l=>
   simp at k l;subst k;subst l
   simpa using r2.mono U (λ_ _ x=>x) λid _=>ρ.moved_refl id
  |j+3,k,_=>simp at k
theorem aIf: ∀(es:List MapEntry) (i:Nat) (e:MapEntry),(es.map (·.born)).Nodup->es[i]? =some e->es.find? (λx=>x.born==e.born)=some e
 | [],_,_,_,h=>by simp at h
 |a::es,0,e,_,h=>by simp at h;subst h;simp
 |a::es,i+1,e,hn,h=>by
  rw [List.map_cons,List.nodup_cons]at hn
  have c:es[i]? =some e:=by simpa using h
  have b:(a.born==e.born)=false:=by
   rw [beq_eq_false_iff_ne]
   intro q
   exact hn.1 (q ▸ List.mem_map_of_mem (List.mem_of_getElem? c))
  rw [List.find?_cons_of_neg (by simp [b])]
  exact aIf es i e hn.2 c
theorem aIj {o:Oper}{x:Operand}(ho:o.op= .entry x) {kD:κ->D}{pin:Pin}{fr:Fr}{hp:Hp}{K:SV->Hp->Prop}{it id i:Nat}{ents:List (κ×SV)}{bs vis:List Nat}{clock:Nat}{p:κ×SV}
  (hx:evO fr x=some (.xv it aKn)) (hi:aP hp it=some (.ext (aFx id bs clock (vis++[i])))) (hg:aP hp id=some (.ext (aC8 kD ents bs clock))) (hent:ents[i]? =some p) (hk:K (.tup [.d (kD p.1),p.2]) hp):aT P o pin fr hp K:=by
 intro E ρ a w hpin u A next Q N
 obtain⟨J,I,e1,_⟩:=(aV A hx).xv_inv
 obtain⟨h,C,H,G,⟨f,g,d1,rfl⟩,c4⟩:=u.sat it _ hi
 have:h=J:=by
  have b:ρ.blk it=some h:=H
  rw [I]at b;injection b with b;exact b.symm
 subst this
 obtain⟨y,C,L,M,⟨r,rfl,m⟩,k4⟩:=u.sat id _ hg
 have:y=g:=by
  have b:ρ.blk id=some y:=L
  rw [d1]at b;injection b with b;exact b.symm
 subst this
 have t:i < ents.length:=(List.getElem?_eq_some_iff.1 hent).1
 have q:i < r.toList.length:=by rw [m.len];exact t
 obtain⟨e,he⟩: ∃e,r.toList[i]? =some e:=⟨_,List.getElem?_eq_getElem q⟩
 have hb:bs.getD i 0=e.born:=by rw [<-m.born,List.getD,List.getElem?_map,he];rfl
 have l:r.find? (λx=>x.born==e.born)=some e:=by
  rw [<-Array.find?_toList]
  exact aIf _ i e (by rw [m.born];exact m.nd) he
 have k:(((vis++[i]).map λi=>bs.getD i 0).toArray).back?=some e.born:=by
  rw [List.map_append,List.map_cons,List.map_nil,hb];simp
 have z:(getObj h).run P w= .ok (.mapIter (some y) clock ((vis++[i]).map λi=>bs.getD i 0).toArray clock) w:=by
  simp [getObj,Sem.run,G]
 have n:(execOp a.eval o).run P w= .ok (.value (.tuple #[e.key,e.val])) w:=by
  simp only [execOp,ho,Instr.entry,e1,aKn,Sem.run_bind,z,Result.andThen_ok,k,jP M,bne_self_eq_false,Bool.false_eq_true,if_false,l,Sem.run_pure]
 obtain⟨F,B⟩:=m.ent i e p he hent
 refine bW n (N _ _ ρ _ _ hk u A (.tup _ _ rfl ?_))
 intro j s v c f
 match j,c,f with
 | 0,c,f=>simp at c f;subst c;subst f;exact .d _ _ F
 | 1,c,f=>simp at c f;subst c;subst f;exact B
 |j+2,c,_=>simp at c
end
end
end Go.Proofs.YtbobcfjlbcgchaaGreatDoor
