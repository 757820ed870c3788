/-
  Maps as symbolic objects: made, read, written, emptied of a key, walked over. Rows that the call may write are stable from here on: data. More of maps: a map held against nil; memory by what lies at its numbers; a result that is data from there on. Terms: the order of concepts is total; sorted sets of concepts. Terms: the canonical form of a concept, as a plain function; it is not greater.
  Conditions: none.
-/
import Derived.Test.YtfhoddcminbffaaGreatDoorMA8
import Derived.Test.YtfhoddcminbffaaGreatDoorMPh
import Derived.Test.YtfhoddcminbffaaGreatDoorMAk
set_option linter.unusedSectionVars false
set_option linter.unusedSimpArgs false
set_option linter.unusedVariables false
namespace Go.Proofs.YtfhoddcminbffaaGreatDoor
open Go.RowKit
section
variable {P:Program} {κ:Type} [DecidableEq κ]
structure KeyT (P:Program) (kt:TypeId) (kD:κ->D) (kV:κ->Value):Prop where
 rep: ∀{w:World} {S:Nat->Nat->Prop} {k:κ} {v:Value},RepD w S (kD k) v->v=kV k
 chk: ∀(b:Bool) (k:κ) (w:World),(Instr.checkKey b 10000 kt (kV k)).run P w= .ok () w
 find: ∀(k:κ) (ks:List κ) (es:List MapEntry) (w:World),es.map (·.key)=ks.map kV->(Instr.findKey kt (kV k) es).run P w= .ok ((ks.findIdx? (λx=>decide (k=x))).bind λi=>(es[i]?).map λe=>(i,e.val)) w
 bits: ∀(k:κ),Instr.sameBits 10000 (kV k) (kV k)=true
theorem findIdx?_cons' {α:Type}(p:α->Bool) (x:α) (l:List α):(x::l).findIdx? p=if p x then some 0 else (l.findIdx? p).map (· +1):=by
 simp [List.findIdx?_cons]
theorem sO {kt:TypeDesc}{kV:κ->Value}(h: ∀k k',Instr.sameNow kt (kV k) (kV k')=some (decide (k=k'))) (k:κ): ∀(ks:List κ) (es:List MapEntry) (i:Nat),es.map (·.key)=ks.map kV->
  Instr.findNow kt (kV k) es i=some ((ks.findIdx? (λx=>decide (k=x))).bind λj=>(es[j]?).map λe=>(i+j,e.val))
 | [],[],_,_=>rfl
 | [],_::_,_,e=>by simp at e
 |_::_,[],_,e=>by simp at e
 |x::ks,e::es,i,he=>by
  simp only [List.map_cons,List.cons.injEq]at he
  rw [Instr.findNow,he.1,h k x,findIdx?_cons']
  by_cases hx:k=x
  ·simp [hx]
  ·simp only [hx,decide_false,Bool.false_eq_true,if_false]
   rw [sO h k ks es (i+1) he.2]
   cases ks.findIdx? (λx=>decide (k=x))with
   |none=>rfl
   |some j=>simp [Nat.add_assoc,Nat.add_comm 1 j]
theorem KeyT.now {kt:TypeId}{dk:TypeDesc}{kD:κ->D}{kV:κ->Value}(hu:P.underlying kt=some dk) (hrep: ∀{w:World}{S:Nat->Nat->Prop}{k:κ}{v:Value},RepD w S (kD k) v->v=kV k)
  (hs: ∀k k',Instr.sameNow dk (kV k) (kV k')=some (decide (k=k'))) (hc: ∀(b:Bool) (k:κ) (w:World),(Instr.checkKey b 10000 kt (kV k)).run P w= .ok () w) (hb: ∀k,Instr.sameBits 10000 (kV k) (kV k)=true):KeyT P kt kD kV:=
 ⟨hrep, hc, λk ks es w he => by
  rw [Instr.findKey]
  simp only [Sem.run_bind,run_underlying hu,Result.andThen_ok]
  rw [sO hs k ks es 0 he]
  simp,hb⟩
def aUc (l:List UInt8):Value:= .string ⟨l.toArray⟩
theorem dS {kt:TypeId}(hu:P.underlying kt=some .string):KeyT P kt (λl=>D.str l) aUc:=
 .now hu (λh => by cases h; rfl) (λk k' => by
  simp only [Instr.sameNow,aUc,beq_toListBytes,kB,rM]) (λb k w=>by
  rw [Instr.checkKey]
  simp only [Sem.run_bind,run_underlying hu,Result.andThen_ok,aUc]
  rfl) (λk=>by simp [Instr.sameBits,aUc,beq_toListBytes,kB])
def mL {β:Type}:List (κ×β)->κ->Option β
 | [],_=>none
 |(k',s)::r,k=>if k=k' then some s else mL r k
def vB {β:Type}:List (κ×β)->κ->β->List (κ×β)
 | [],k,s=>[(k,s)]
 |(k',s')::r,k,s=>if k=k' then (k',s)::r else (k',s')::vB r k s
def aUg {β:Type}:List (κ×β)->κ->List (κ×β)
 | [],_=>[]
 |(k',s')::r,k=>if k=k' then r else (k',s')::aUg r k
def aB6 {β:Type}(l:List (κ×β)) (k:κ):Option Nat:=(l.map (λp=>p.1)).findIdx? (λx=>decide (k=x))
def pR (es:List MapEntry) (i:Option Nat):Option (Nat×Value):=i.bind λi=>(es[i]?).map λ(e:MapEntry)=>(i,e.val)
theorem aH5 {β:Type}(k:κ): ∀(l:List (κ×β)),mL l k=(aB6 l k).bind λi=>(l[i]?).map (·.2)
 | []=>rfl
 |(k',s)::r=>by
  rw [mL,aB6,List.map_cons,findIdx?_cons']
  by_cases h:k=k'
  ·simp [h]
  ·simp only [h,if_false,decide_false,Bool.false_eq_true]
   rw [aH5 k r,aB6]
   cases (r.map (λp=>p.1)).findIdx? (λx=>decide (k=x))<;>simp
theorem aH2 {β:Type}(k:κ) (s:β): ∀(l:List (κ×β)),vB l k s=match aB6 l k with
  |some i=>l.modify i (λp=>(p.1,s))
  |none=>l++[(k,s)]
 | []=>rfl
 |(k',s')::r=>by
  rw [vB,aB6,List.map_cons,findIdx?_cons']
  by_cases h:k=k'
  ·simp [h,List.modify_zero_cons]
  ·simp only [h,if_false,decide_false,Bool.false_eq_true]
   rw [aH2 k s r,aB6]
   cases (r.map (λp=>p.1)).findIdx? (λx=>decide (k=x))with
   |none=>rfl
   |some j=>simp [List.modify_succ_cons]
theorem aHa {β:Type}(k:κ): ∀(l:List (κ×β)),aUg l k=match aB6 l k with
  |some i=>l.eraseIdx i
  |none=>l
 | []=>rfl
 |(k',s')::r=>by
  rw [aUg,aB6,List.map_cons,findIdx?_cons']
  by_cases h:k=k'
  ·simp [h]
  ·simp only [h,if_false,decide_false,Bool.false_eq_true]
   rw [aHa k r,aB6]
   cases (r.map (λp=>p.1)).findIdx? (λx=>decide (k=x))with
   |none=>rfl
   |some j=>simp
def aOe (ents:List (κ×SV)):List Nat:=ents.flatMap λp=>p.2.ids
structure MapAt (w:World) (ρ:Env) (kD:κ->D) (ents:List (κ×SV)) (bs:List Nat) (clock:Nat) (es:List MapEntry):Prop where
 len:es.length=ents.length
 ent: ∀(i:Nat) (e:MapEntry) (p:κ×SV),es[i]? =some e->ents[i]? =some p->RepD w ρ.S (kD p.1) e.key/\Rep w ρ p.2 e.val
 born:es.map (·.born)=bs
 lt: ∀b∈bs,b < clock
 nd:bs.Nodup
def xM (kD:κ->D) (ents:List (κ×SV)) (bs:List Nat) (clock:Nat):ExtO where
 ids:=aOe ents
 sat:= λw ρ o=> ∃es:Array MapEntry,o= .map es clock/\MapAt w ρ kD ents bs clock es.toList
 keep:=by
  rintro w w' ρ ρ' o hk hs hm ⟨es,rfl,h⟩
  refine⟨es,rfl,h.len,λi e p he hp=> ?_,h.born,h.lt,h.nd⟩
  obtain⟨h1,h2⟩:=h.ent i e p he hp
  exact⟨h1.mono hk hs,h2.mono hk hs λid hid=>hm id (List.mem_flatMap.2 ⟨p,List.mem_of_getElem? hp,hid⟩)⟩
 nd:=by
  rintro w ρ x ⟨es,h,_⟩
  cases h
theorem iK {w:World}{r:Nat}{es:Array MapEntry}{clock:Nat}(hb:w.heap[r]? =some (.map es clock)):(getObj r).run P w= .ok (.map es clock) w:=by
 simp [getObj,Sem.run,hb]
theorem aJ1 {w:World}{r:Nat}{es:Array MapEntry}{clock:Nat}(o:Obj) (hb:w.heap[r]? =some (.map es clock)):(setObj r o).run P w= .ok () { w with heap:=w.heap.setIfInBounds r o }:=by
 simp [setObj,Sem.run,hb]
def nQ:Nat->Value:= λg=> .map (some g)
theorem MapAt.keys {w:World}{ρ:Env}{kt:TypeId}{kD:κ->D}{kV:κ->Value}{ents:List (κ×SV)}{bs:List Nat}{clock:Nat}{es:List MapEntry}(h:MapAt w ρ kD ents bs clock es) (hK:KeyT P kt kD kV):es.map (·.key)=(ents.map (·.1)).map kV:=by
 apply List.ext_getElem?
 intro i
 simp only [List.getElem?_map]
 rcases Nat.lt_or_ge i es.length with hi|hi
 ·have hi':i < ents.length:=h.len ▸ hi
  rw [List.getElem?_eq_getElem hi,List.getElem?_eq_getElem hi']
  simp only [Option.map_some,Option.some.injEq]
  exact hK.rep (h.ent i _ _ (List.getElem?_eq_getElem hi) (List.getElem?_eq_getElem hi')).1
 ·rw [List.getElem?_eq_none hi,List.getElem?_eq_none (by rw [<-h.len];exact hi)];rfl
theorem MapAt.found {w:World}{ρ:Env}{kt:TypeId}{kD:κ->D}{kV:κ->Value}{ents:List (κ×SV)}{bs:List Nat}{clock:Nat}{es:List MapEntry}(h:MapAt w ρ kD ents bs clock es) (hK:KeyT P kt kD kV) (k:κ) (w':World):
  (Instr.findKey kt (kV k) es).run P w'= .ok (pR es (aB6 ents k)) w':=hK.find k _ es w' (h.keys hK)
theorem aN8 {l:List κ}{p:κ->Bool}{i:Nat}(h:l.findIdx? p=some i):i < l.length:=by
 rw [List.findIdx?_eq_some_iff_getElem]at h
 exact h.1
def aS5 (P:Program) (t:TypeId):Option (TypeId×TypeId):=match P.underlying t with|some (.map k e)=>some (k,e)|_=>none
theorem vG {t k e:TypeId}(h:aS5 P t=some (k,e)):P.underlying t=some (.map k e):=by
 unfold aS5 at h
 split at h
 ·injection h with h;injection h with h1 h2;subst h1;subst h2;assumption
 ·cases h
theorem aHc {o:Oper}{t k e:TypeId}(ho:o.op= .makeMap t none) (_ht:aS5 P t=some (k,e)) (kD:κ->D) {pin:List Nat}{fr:Fr}{hp:Hp}{K:SV->Hp->Prop}(id:Nat) (hfr:fX id pin fr hp)
  (hk:K (.xv id nQ) ((id, .ext (xM kD [] [] 0))::hp)):bI P o pin fr hp K:=by
 intro E ρ a w hpin hm hf next Q hn
 obtain⟨f1,f2,f3⟩:=hfr
 have hrun:(execOp a.eval o).run P w= .ok (.value (.map (some w.heap.size))) (w.alloc (.map #[] 0)):=by
  simp [execOp,ho,Instr.makeMap]
 have hg:Grew w (w.alloc (.map #[] 0)):=Grew.alloc w _
 obtain⟨s1,s2,s3⟩:=hm.newObj (id:=id) (b:=some w.heap.size) (n:=0) (v:=undef) (o:= .ext (xM kD [] [] 0)) f3 (by rw [hpin];exact f1) hg (λh=>h)
  ⟨w.heap.size, _, by simp [Env.upd3], by simp only [World.alloc]; simp, ⟨#[], rfl, ⟨rfl, by simp, rfl, by simp, .nil⟩⟩, by
   intro i hi
   have:=hm.slt _ _ (show ρ.S w.heap.size i from hi)
   omega⟩
  (λg hg' => by
   simp only [Env.at,Env.upd3,if_true,Option.some.injEq]at hg'
   subst hg';exact hm.free_new (Nat.le_refl _))
 exact cD hrun (hn _ _ _ _ _ hk s1 (hf.mono s2 (λ_ _ x=>x) λi hi=>s3 i λe=>f2 (e ▸ hi)) (.xv id nQ _ (by simp [Env.upd3]) rfl))
def aKv (P:Program) (e:TypeId):Option Value:=(P.info? e).bind (·.zero)
theorem aJ0 {e:TypeId}{z:Value}(h:aKv P e=some z) (w:World):(zeroValue e).run P w= .ok z w:=by
 unfold aKv at h
 cases hi:P.info? e with
 |none=>rw [hi]at h;cases h
 |some i=>
  rw [hi]at h
  have h:i.zero=some z:=h
  simp [zeroValue,typeInfo,hi,h]
def rA (ok:Bool) (r:Option SV) (z:SV):SV:=match ok with
 |true=> .tup [match r with|some s=>s|none=>z, .d (.bool (match r with|some _=>true|none=>false))]
 |false=>match r with|some s=>s|none=>z
theorem dK {o:Oper}{t kt e:TypeId}{x y:Operand}{ok:Bool}(ho:o.op= .lookup t x y ok) (ht:aS5 P t=some (kt,e)) {kD:κ->D}{kV:κ->Value}(hK:KeyT P kt kD kV) {z:Value}(hz:aKv P e=some z)
  {fr:Fr} {hp:Hp} {K:SV->Prop} {id:Nat} {ents:List (κ×SV)} {bs:List Nat} {clock:Nat} (hx:evO fr x=some (.xv id nQ)) (hg:aU hp id=some (.ext (xM kD ents bs clock)))
  {k:κ} (hy:evO fr y=some (.d (kD k))) (hk:K (rA ok (mL ents k) (ofV z))):dI P o fr hp K:=by
 intro E ρ a w hm hf
 obtain⟨g,b1,e1,_⟩:=(aV hf hx).xv_inv
 have e2:a.eval y=kV k:=by
  cases aV hf hy with
  |d _ _ h=>exact hK.rep h
 obtain⟨g',ob,c1,c2,⟨es,rfl,hM⟩,c4⟩:=hm.sat id _ hg
 have:g'=g:=by
  have c1':ρ.blk id=some g':=c1
  rw [b1]at c1';injection c1' with c1';exact c1'.symm
 subst this
 have hfind:=hM.found hK k
 rw [aH5]at hk
 have hbm: ∀w',Kept ρ hp w w'->w'.heap[g']? =some (.map es clock):= λw' hw'=>(hw'.o id _ g' hg b1).trans c2
 cases hi:aB6 ents k with
 |none=>
  refine⟨if ok then .tuple #[z, .bool false]else z,rA ok none (ofV z),λw' hw'=> ?_, ?_,by rw [hi]at hk;exact hk⟩
  ·simp only [execOp,ho,Instr.lookup,Sem.run_bind,run_underlying (vG ht),Result.andThen_ok,e1,e2,nQ,iK (hbm w' hw'),hK.chk,Sem.run_pure,hfind,hi,pR,Option.bind_none,aJ0 hz]
  ·cases ok
   ·exact aF0 w ρ z
   ·refine .tup _ _ rfl ?_
    intro j s v hs hv
    match j,hs,hv with
    | 0,hs,hv=>simp at hs hv;subst hs;subst hv;exact aF0 w ρ z
    | 1,hs,hv=>simp at hs hv;subst hs;subst hv;exact .d _ _ (.bool _)
    |j+2,hs,_=>simp at hs
 |some i=>
  have hil:i < ents.length:=by have:=aN8 hi;simpa [aB6]using this
  have hil':i < es.toList.length:=by rw [hM.len];exact hil
  have he:=List.getElem?_eq_getElem hil'
  have hp2:=List.getElem?_eq_getElem hil
  obtain⟨r1,r2⟩:=hM.ent i _ _ he hp2
  have hk':K (rA ok (some ents[i].2) (ofV z)):=by rw [hi]at hk;simpa [hp2]using hk
  refine⟨if ok then .tuple #[es.toList[i].val, .bool true]else es.toList[i].val,_,λw' hw'=> ?_, ?_,hk'⟩
  ·simp only [execOp,ho,Instr.lookup,Sem.run_bind,run_underlying (vG ht),Result.andThen_ok,e1,e2,nQ,iK (hbm w' hw'),hK.chk,Sem.run_pure,hfind,hi,pR,Option.bind_some,he,Option.map_some]
  ·cases ok
   ·exact r2
   ·refine .tup _ _ rfl ?_
    intro j s v hs hv
    match j,hs,hv with
    | 0,hs,hv=>simp at hs hv;subst hs;subst hv;exact r2
    | 1,hs,hv=>simp at hs hv;subst hs;subst hv;exact .d _ _ (.bool _)
    |j+2,hs,_=>simp at hs
theorem aPw {w:World}{S:Nat->Nat->Prop}{g:Nat}{o:Obj}(h: ∀i,¬ S g i):bY S w { w with heap:=w.heap.setIfInBounds g o }:=by
 intro b i hb
 have:b≠g:= λe=>h i (e ▸ hb)
 have:({ w with heap:=w.heap.setIfInBounds g o }:World).heap[b]? =w.heap[b]? :=Array.getElem?_setIfInBounds_ne (Ne.symm this)
 simp only [World.cell?,this]
theorem yB {w:World}{g:Nat}{o o':Obj}(h:w.heap[g]? =some o):({ w with heap:=w.heap.setIfInBounds g o' }:World).heap[g]? =some o':=by
 have:=aW h
 simp [Array.getElem?_setIfInBounds,this]
theorem aGm {w:World}{g b:Nat}{o':Obj}(h:b≠g):({ w with heap:=w.heap.setIfInBounds g o' }:World).heap[b]? =w.heap[b]? :=Array.getElem?_setIfInBounds_ne (Ne.symm h)
theorem MapAt.set {w w':World}{ρ:Env}{kt:TypeId}{kD:κ->D}{kV:κ->Value}{ents:List (κ×SV)}{bs:List Nat}{clock:Nat}{es:Array MapEntry}(h:MapAt w ρ kD ents bs clock es.toList) (hK:KeyT P kt kD kV) {k:κ}{s:SV}{v:Value}(hr1:RepD w ρ.S (kD k) (kV k)) (hr2:Rep w ρ s v) (hk:bY ρ.S w w'):
  ∃(es':Array MapEntry) (bs':List Nat) (clock':Nat),MapAt w' ρ kD (vB ents k s) bs' clock' es'.toList/\
   ∀ (r : Nat) (w2 : World), (match pR es.toList (aB6 ents k) with
   |some (i,_)=>do
    let key <-Instr.keyThatStays (((es[i]?).map λ(e:MapEntry)=>e.key).getD (kV k)) (kV k)
    setObj r (.map (es.modify i λe=>{ e with key,val:=v }) clock)
   |none=>setObj r (.map (es.push { key:=kV k,val:=v,born:=clock }) (clock+1))).run P w2=(setObj r (.map es' clock')).run P w2:=by
 have hkk:=h.keys hK
 have mono: ∀(i:Nat) (e:MapEntry) (p:κ×SV),es.toList[i]? =some e->ents[i]? =some p->RepD w' ρ.S (kD p.1) e.key/\Rep w' ρ p.2 e.val:= λi e p h1 h2=>
  ⟨(h.ent i e p h1 h2).1.mono hk λ_ _ x=>x,(h.ent i e p h1 h2).2.mono hk (λ_ _ x=>x) λid _=>ρ.moved_refl id⟩
 have nr1:RepD w' ρ.S (kD k) (kV k):=hr1.mono hk λ_ _ x=>x
 have nr2:Rep w' ρ s v:=hr2.mono hk (λ_ _ x=>x) λid _=>ρ.moved_refl id
 rw [aH2]
 cases hi:aB6 ents k with
 |none=>
  refine⟨es.push { key:=kV k,val:=v,born:=clock },bs++[clock],clock+1,⟨?_, ?_, ?_, ?_, ?_⟩,λr w2=>rfl⟩
  ·simp [h.len]
  ·intro i e p he hp
   simp only [Array.toList_push]at he
   rcases Nat.lt_or_ge i ents.length with hl|hl
   ·rw [List.getElem?_append_left (by rw [h.len];exact hl)]at he
    rw [List.getElem?_append_left hl]at hp
    exact mono i e p he hp
   ·have:i=ents.length:=by
     have:=(List.getElem?_eq_some_iff.1 hp).1
     simp at this;omega
    subst this
    rw [List.getElem?_append_right (Nat.le_refl _)]at hp
    rw [<-h.len,List.getElem?_append_right (Nat.le_refl _)]at he
    simp at hp he
    subst hp;subst he
    exact⟨nr1,nr2⟩
  ·simp [h.born]
  ·intro b hb
   rcases List.mem_append.1 hb with hb|hb
   ·have:=h.lt b hb;omega
   ·simp at hb;omega
  ·rw [List.nodup_append]
   exact⟨h.nd,by simp,λa ha b hb=>by simp at hb;have:=h.lt a ha;omega⟩
 |some i=>
  have hil:i < ents.length:=by have:=aN8 hi;simpa [aB6]using this
  have hil':i < es.toList.length:=by rw [h.len];exact hil
  have hil2:i < es.size:=by simpa using hil'
  have hke:ents[i].1=k:=by
   rw [aB6,List.findIdx?_eq_some_iff_getElem]at hi
   obtain⟨_,h2,_⟩:=hi
   have:=of_decide_eq_true h2
   rw [List.getElem_map]at this
   exact this.symm
  have hkey:es[i].key=kV k:=by
   have h1:(es.toList.map (·.key))[i]? =((ents.map (·.1)).map kV)[i]? :=by rw [hkk]
   simp only [List.getElem?_map,List.getElem?_eq_getElem hil',List.getElem?_eq_getElem hil,Option.map_some,Option.some.injEq]at h1
   rw [<-hke,<-h1];simp
  refine⟨es.modify i λe=>{ e with key:=kV k,val:=v },bs,clock,⟨?_, ?_, ?_,h.lt,h.nd⟩,λr w2=> ?_⟩
  ·simp [h.len]
  ·intro j e p he hp
   simp only [Array.toList_modify,List.getElem?_modify]at he
   rw [List.getElem?_modify]at hp
   by_cases hj:i=j
   ·subst hj
    rw [List.getElem?_eq_getElem hil']at he
    rw [List.getElem?_eq_getElem hil]at hp
    simp only [Option.map_eq_map,Option.map_some,Option.some.injEq,if_true]at he hp
    subst he;subst hp
    dsimp only
    rw [hke]
    exact⟨nr1,nr2⟩
   ·simp only [hj,if_false,Option.map_eq_map,Option.map_id_fun',id]at he hp
    exact mono j e p he hp
  ·rw [<-h.born]
   apply List.ext_getElem?
   intro j
   simp only [Array.toList_modify,List.getElem?_map,List.getElem?_modify]
   by_cases hj:i=j
   ·subst hj;simp only [if_true,Option.map_map];cases es.toList[i]?<;>rfl
   ·simp [hj]
  ·have:es[i]? =some es[i]:=Array.getElem?_eq_getElem hil2
   have hmf:pR es.toList (some i)=some (i,es.toList[i].val):=by rw [pR,Option.bind_some,List.getElem?_eq_getElem hil',Option.map_some]
   rw [hmf]
   simp only [Option.bind_some,List.getElem?_eq_getElem hil',Option.map_some,this,Option.getD_some,hkey,Instr.keyThatStays,hK.bits,if_true,Sem.run_bind,Sem.run_pure,Result.andThen_ok]
theorem nE {o:Oper}{t kt e:TypeId}{x y u:Operand}(ho:o.op= .mapUpdate t x y u\/o.op= .insert t x y u) (ht:aS5 P t=some (kt,e)) {kD:κ->D}{kV:κ->Value}(hK:KeyT P kt kD kV)
  {pin:List Nat} {fr:Fr} {hp:Hp} {K:SV->Hp->Prop} {id:Nat} {ents:List (κ×SV)} {bs:List Nat} {clock:Nat} (hx:evO fr x=some (.xv id nQ)) (hg:aU hp id=some (.ext (xM kD ents bs clock)))
  {k:κ} (hy:evO fr y=some (.d (kD k))) {s:SV} (hu:evO fr u=some s) (hk: ∀bs' clock',K (.d (.lit undef)) (hY hp id (.ext (xM kD (vB ents k s) bs' clock')))):bI P o pin fr hp K:=by
 intro E ρ a w hpin hm hf next Q hn
 obtain⟨g,b1,e1,_⟩:=(aV hf hx).xv_inv
 have e2:RepD w ρ.S (kD k) (a.eval y):=by
  cases aV hf hy with
  |d _ _ h=>exact h
 have e2':=hK.rep e2
 have e3:=aV hf hu
 obtain⟨g',ob,c1,c2,⟨es,rfl,hM⟩,c4⟩:=hm.sat id _ hg
 have:g'=g:=by
  have c1':ρ.blk id=some g':=c1
  rw [b1]at c1';injection c1' with c1';exact c1'.symm
 subst this
 have hkeeps: ∀o',bY ρ.S w { w with heap:=w.heap.setIfInBounds g' o' }:= λo'=>aPw c4
 obtain⟨es',bs',clock',hM',hrun'⟩:=hM.set hK (k:=k) (s:=s) (v:=a.eval u) (by rw [<-e2'];exact e2) e3 (hkeeps (.map #[] 0))
 have hM2:MapAt { w with heap:=w.heap.setIfInBounds g' (.map es' clock') } ρ kD (vB ents k s) bs' clock' es'.toList:=by
  refine⟨hM'.len,λi e p he hp=> ?_,hM'.born,hM'.lt,hM'.nd⟩
  obtain⟨h1,h2⟩:=hM'.ent i e p he hp
  have hkk:bY ρ.S { w with heap:=w.heap.setIfInBounds g' (.map #[] 0) } { w with heap:=w.heap.setIfInBounds g' (.map es' clock') }:= λb i hb=>(hkeeps _ b i hb).trans (hkeeps _ b i hb).symm
  exact⟨h1.mono hkk λ_ _ x=>x,h2.mono hkk (λ_ _ x=>x) λid _=>ρ.moved_refl id⟩
 have hrun:(execOp a.eval o).run P w= .ok .skip { w with heap:=w.heap.setIfInBounds g' (.map es' clock') }:=by
  have h1:=hrun' g' w
  have h2:(setObj g' (.map es' clock')).run P w= .ok () { w with heap:=w.heap.setIfInBounds g' (.map es' clock') }:=aJ1 _ c2
  rw [h2]at h1
  rcases ho with ho|ho<;>
  ·simp only [execOp,ho,Instr.mapUpdate,Sem.run_bind,run_underlying (vG ht),Result.andThen_ok,e1,e2',nQ,iK c2,hK.chk,hM.found hK,Sem.run_pure]
   exact congrArg (λr:Result Unit=>r.andThen λ_ w'=>Result.ok Next.skip w') h1
 obtain⟨s1,s2⟩:=hm.setExt (X':=xM kD (vB ents k s) bs' clock') (w':={ w with heap:=w.heap.setIfInBounds g' (.map es' clock') }) hg b1 rfl rfl (.refl _) (by simp) (λb _ hb=>aGm hb) (yB c2) ⟨es',rfl,hM2⟩
 exact aA2 hrun (hn _ _ ρ _ _ (hk bs' clock') s1 (hf.mono s2 (λ_ _ x=>x) λi _=>ρ.moved_refl i) (.d _ _ (.lit _)))
theorem MapAt.del {w w':World}{ρ:Env}{kt:TypeId}{kD:κ->D}{kV:κ->Value}{ents:List (κ×SV)}{bs:List Nat}{clock:Nat}{es:Array MapEntry}(h:MapAt w ρ kD ents bs clock es.toList) (_hK:KeyT P kt kD kV) {k:κ}(hk:bY ρ.S w w'):
  ∃(es':Array MapEntry) (bs':List Nat),MapAt w' ρ kD (aUg ents k) bs' clock es'.toList/\
   ∀ (r : Nat) (w2 : World), (match pR es.toList (aB6 ents k) with
   |some (i,_)=>setObj r (.map (es.eraseIdxIfInBounds i) clock)
   |none=>setObj r (.map es clock)).run P w2=(setObj r (.map es' clock)).run P w2:=by
 have mono: ∀(i:Nat) (e:MapEntry) (p:κ×SV),es.toList[i]? =some e->ents[i]? =some p->RepD w' ρ.S (kD p.1) e.key/\Rep w' ρ p.2 e.val:= λi e p h1 h2=>
  ⟨(h.ent i e p h1 h2).1.mono hk λ_ _ x=>x,(h.ent i e p h1 h2).2.mono hk (λ_ _ x=>x) λid _=>ρ.moved_refl id⟩
 rw [aHa]
 cases hi:aB6 ents k with
 |none=>exact⟨es,bs,⟨h.len,mono,h.born,h.lt,h.nd⟩,λr w2=>rfl⟩
 |some i=>
  have hil:i < ents.length:=by have:=aN8 hi;simpa [aB6]using this
  have hil':i < es.toList.length:=by rw [h.len];exact hil
  have hil2:i < es.size:=by simpa using hil'
  have hel:(es.eraseIdxIfInBounds i).toList=es.toList.eraseIdx i:=by
   simp [Array.eraseIdxIfInBounds,hil2]
  refine⟨es.eraseIdxIfInBounds i,bs.eraseIdx i,⟨?_, ?_, ?_, ?_, ?_⟩,λr w2=> ?_⟩
  ·rw [hel];simp [List.length_eraseIdx,h.len,hil]
  ·intro j e p he hp
   rw [hel,List.getElem?_eraseIdx]at he
   rw [List.getElem?_eraseIdx]at hp
   split at he
   ·rename_i hj;rw [if_pos hj]at hp;exact mono j e p he hp
   ·rename_i hj;rw [if_neg hj]at hp;exact mono _ e p he hp
  ·rw [hel,<-h.born]
   apply List.ext_getElem?
   intro j
   simp only [List.getElem?_map,List.getElem?_eraseIdx]
   split<;>rfl
  ·exact λb hb=>h.lt b (List.mem_of_mem_eraseIdx hb)
  ·exact h.nd.sublist (List.eraseIdx_sublist ..)
  ·have hmf:pR es.toList (some i)=some (i,es.toList[i].val):=by rw [pR,Option.bind_some,List.getElem?_eq_getElem hil',Option.map_some]
   rw [hmf]
def aFm:Nat->Value:= λg=> .pointer (some ⟨g,0,none⟩)
def aBa (mid:Nat) (bs:List Nat) (clock:Nat) (vis:List Nat):ExtO where
 ids:=[mid]
 sat:= λ_ ρ o=>(∀i∈vis,i < bs.length)/\ ∃g,ρ.blk mid=some g/\o= .mapIter (some g) clock (vis.map λi=>bs.getD i 0).toArray clock
 keep:=by
  rintro w w' ρ ρ' o hk hs hm ⟨h0,g,h1,h2⟩
  exact⟨h0,g,((hm mid (by simp)).1).trans h1,h2⟩
 nd:=by
  rintro w ρ x ⟨_,g,_,h⟩
  cases h
theorem aCb {o:Oper}{t kt e:TypeId}{x:Operand}(ho:o.op= .range t x) (ht:aS5 P t=some (kt,e)) {kD:κ->D}{pin:List Nat}{fr:Fr}{hp:Hp}{K:SV->Hp->Prop}{id:Nat}{ents:List (κ×SV)}{bs:List Nat}{clock:Nat}
  (hx:evO fr x=some (.xv id nQ)) (hg:aU hp id=some (.ext (xM kD ents bs clock))) (it:Nat) (hfr:fX it pin fr hp) (hk:K (.xv it aFm) ((it, .ext (aBa id bs clock []))::hp)):bI P o pin fr hp K:=by
 intro E ρ a w hpin hm hf next Q hn
 obtain⟨f1,f2,f3⟩:=hfr
 obtain⟨g,b1,e1,_⟩:=(aV hf hx).xv_inv
 obtain⟨g',ob,c1,c2,⟨es,rfl,hM⟩,c4⟩:=hm.sat id _ hg
 have:g'=g:=by
  have c1':ρ.blk id=some g':=c1
  rw [b1]at c1';injection c1' with c1';exact c1'.symm
 subst this
 have hne:id≠it:= λe=>f3 (by subst e;exact bQ hg (.inl rfl))
 have hrun:(execOp a.eval o).run P w= .ok (.value (.pointer (some ⟨w.heap.size,0,none⟩))) (w.alloc (.mapIter (some g') clock #[] clock)):=by
  simp [execOp,ho,Instr.range,run_underlying (vG ht),e1,nQ,iK c2]
 have hgr:Grew w (w.alloc (.mapIter (some g') clock #[] clock)):=Grew.alloc w _
 obtain⟨s1,s2,s3⟩:=hm.newObj (id:=it) (b:=some w.heap.size) (n:=0) (v:=undef) (o:= .ext (aBa id bs clock [])) f3 (by rw [hpin];exact f1) hgr (λh=>h)
  ⟨w.heap.size, _, by simp [Env.upd3], by simp only [World.alloc]; simp, ⟨by simp, g', by simp [Env.upd3, hne, b1], rfl⟩, by
   intro i hi
   have:=hm.slt _ _ (show ρ.S w.heap.size i from hi)
   omega⟩
  (λg hg' => by
   simp only [Env.at,Env.upd3,if_true,Option.some.injEq]at hg'
   subst hg';exact hm.free_new (Nat.le_refl _))
 exact cD hrun (hn _ _ _ _ _ hk s1 (hf.mono s2 (λ_ _ x=>x) λi hi=>s3 i λe=>f2 (e ▸ hi)) (.xv it aFm _ (by simp [Env.upd3]) rfl))
theorem aPn {ev:Operand->Value}{o:Oper}{x:Operand}(ho:o.op= .next x false) {r m clock:Nat}{seen:Array Nat}{es:Array MapEntry}{w:World}(ex:ev x= .pointer (some ⟨r,0,none⟩)) (hr:w.heap[r]? =some (.mapIter (some m) clock seen clock))
  (hm:w.heap[m]? =some (.map es clock)) (hlt: ∀e∈es,e.born < clock):
  ((∀e∈es,seen.contains e.born=true)/\(execOp ev o).run P w= .ok (.value (.tuple #[.bool false])) w)\/
  (∃(e:MapEntry) (w0:World),e∈es/\seen.contains e.born=false/\(w0=w\/w0=w.drew)/\(execOp ev o).run P w= .ok (.value (.tuple #[.bool true,e.key,e.val])) { w0 with heap:=w0.heap.setIfInBounds r (.mapIter (some m) clock (seen.push e.born) clock) }):=by
 have g1:(getObj r).run P w= .ok (.mapIter (some m) clock seen clock) w:=by simp [getObj,Sem.run,hr]
 have g2:(getObj m).run P w= .ok (.map es clock) w:=iK hm
 have hall:(!seen.isEmpty && !es.isEmpty && es.all (λe=>decide (e.born>=clock)))=false:=by
  rw [Bool.eq_false_iff]
  intro h
  simp only [Bool.and_eq_true,Bool.not_eq_true']at h
  obtain⟨⟨_,h2⟩,h3⟩:=h
  have hsz:0 < es.size:=by
   rcases Nat.eq_zero_or_pos es.size with h|h
   ·rw [Array.isEmpty]at h2;simp [h]at h2
   ·exact h
  have h4:=(Array.all_eq_true'.1 h3) es[0] (by simp)
  have h5:=hlt es[0] (by simp)
  simp at h4
  omega
 obtain⟨left,hleft⟩: ∃l:Array MapEntry,l=es.filter λe=> !seen.contains e.born:=⟨_,rfl⟩
 have hlm: ∀e∈left,e∈es/\seen.contains e.born=false:=by
  intro e he
  rw [hleft,Array.mem_filter]at he
  exact⟨he.1,by simpa using he.2⟩
 have hold:left.filter (λe=>decide (e.born < clock))=left:=by
  rw [Array.filter_eq_self]
  intro e he
  simpa using hlt e (hlm e he).1
 have hnew:left.filter (λe=>decide (e.born>=clock))= #[]:=by
  rw [Array.filter_eq_empty_iff]
  intro e he
  have:=hlt e (hlm e he).1
  simp;omega
 have hrun : (execOp ev o).run P w = ((choose (.mapNext ((if left.isEmpty then #[none] else #[]) ++ left.map some).size) >>= λi => (match ((if left.isEmpty then #[none] else #[]) ++ left.map some)[i]? with
   |some (some e)=>do
    setObj r (.mapIter (some m) clock (seen.push e.born) clock)
    pure (.tuple #[.bool true,e.key,e.val])
   |some none=>pure (.tuple #[.bool false])
   |none=>stuck "Next: no such candidate"))>>= λv=>pure (Next.value v)).run P w:=by
  simp only [execOp,ho,ex,Instr.next,Sem.run_bind,g1,Result.andThen_ok,g2,hall,Bool.false_eq_true,if_false,<-hleft,hold,hnew,Array.append_empty]
  rfl
 rcases Nat.eq_zero_or_pos left.size with h0|h0
 ·have hl:left= #[]:=Array.size_eq_zero_iff.1 h0
  refine .inl ⟨λe he=> ?_, ?_⟩
  ·rw [hl]at hleft
   have:=(Array.filter_eq_empty_iff.1 hleft.symm) e he
   simpa using this
  ·rw [hrun,hl]
   simp [Question.forced]
 ·have hne:left.isEmpty=false:=by rw [Array.isEmpty];exact decide_eq_false (by omega)
  rw [hne]at hrun
  simp only [Bool.false_eq_true,if_false,Array.empty_append,Array.size_map]at hrun
  have key: ∀(j:Nat) (w0:World),j < left.size->(w0=w\/w0=w.drew)->(choose (.mapNext left.size)).run P w= .ok j w0->
    ∃(e:MapEntry) (w0:World),e∈es/\seen.contains e.born=false/\(w0=w\/w0=w.drew)/\(execOp ev o).run P w= .ok (.value (.tuple #[.bool true,e.key,e.val])) { w0 with heap:=w0.heap.setIfInBounds r (.mapIter (some m) clock (seen.push e.born) clock) }:=by
   intro j w0 hj hw0 hc
   obtain⟨h1,h2⟩:=hlm left[j] (Array.getElem_mem hj)
   refine⟨left[j],w0,h1,h2,hw0, ?_⟩
   rw [hrun]
   have hr0:w0.heap[r]? =some (.mapIter (some m) clock seen clock):=by
    rcases hw0 with rfl|rfl
    ·exact hr
    ·exact hr
   have hs:(setObj r (.mapIter (some m) clock (seen.push left[j].born) clock)).run P w0= .ok () { w0 with heap:=w0.heap.setIfInBounds r (.mapIter (some m) clock (seen.push left[j].born) clock) }:=by
    simp [setObj,Sem.run,hr0]
   have hg:(left.map some)[j]? =some (some left[j]):=by simp [hj]
   simp only [Sem.run_bind,hc,Result.andThen_ok,hg,hs,Sem.run_pure]
  refine .inr ?_
  by_cases hf:left.size<=1
  ·exact key 0 w h0 (.inl rfl) (by simp [Question.forced,hf])
  ·exact key (w.tape w.drawn (.mapNext left.size) % left.size) w.drew (Nat.mod_lt _ h0) (.inr rfl) (by simp [Question.forced,hf,Question.cut])
theorem aH1 {o:Oper}{x:Operand}(ho:o.op= .next x false) {kD:κ->D}{pin:List Nat}{fr:Fr}{hp:Hp}{K:SV->Hp->Prop}{it id:Nat}{ents:List (κ×SV)}{bs vis:List Nat}{clock:Nat}
  (hx:evO fr x=some (.xv it aFm)) (hi:aU hp it=some (.ext (aBa id bs clock vis))) (hg:aU hp id=some (.ext (xM kD ents bs clock)))
  (hover:(∀i,i < ents.length->i∈vis)->K (.tup [.d (.bool false)]) hp)
  (hstep: ∀(i:Nat) (p:κ×SV),ents[i]? =some p->i∉vis->K (.tup [.d (.bool true), .d (kD p.1),p.2]) (hY hp it (.ext (aBa id bs clock (vis++[i]))))):bI P o pin fr hp K:=by
 intro E ρ a w hpin hm hf next Q hn
 obtain⟨gi,b1,e1,_⟩:=(aV hf hx).xv_inv
 obtain⟨gi',ob,c1,c2,⟨hv,g,d1,rfl⟩,c4⟩:=hm.sat it _ hi
 have:gi'=gi:=by
  have c1':ρ.blk it=some gi':=c1
  rw [b1]at c1';injection c1' with c1';exact c1'.symm
 subst this
 obtain⟨g',ob,k1,k2,⟨es,rfl,hM⟩,k4⟩:=hm.sat id _ hg
 have:g'=g:=by
  have c1':ρ.blk id=some g':=k1
  rw [d1]at c1';injection c1' with c1';exact c1'.symm
 subst this
 have hbl:bs.length=ents.length:=by rw [<-hM.born,List.length_map,hM.len]
 have hborn: ∀(i:Nat) (hi:i < es.size),bs.getD i 0=es[i].born:=by
  intro i hil
  have h1:i < es.toList.length:=by simpa using hil
  rw [<-hM.born,List.getD,List.getElem?_map,List.getElem?_eq_getElem h1];simp
 have hesz:es.size=ents.length:=by rw [<-Array.length_toList,hM.len]
 have hlt: ∀e∈es,e.born < clock:= λe he=>hM.lt _ (by rw [<-hM.born];exact List.mem_map_of_mem (by simpa using he))
 have hin: ∀(i:Nat) (hi:i < es.size),(vis.map λi=>bs.getD i 0).toArray.contains es[i].born=true↔i∈vis:=by
  intro i hil
  rw [Array.contains_iff_mem]
  simp only [List.mem_toArray,List.mem_map]
  constructor
  ·rintro⟨j,hj,hej⟩
   have hjl:=hv j hj
   rw [<-hborn i hil]at hej
   rw [List.getD,List.getD,List.getElem?_eq_getElem hjl,List.getElem?_eq_getElem (by omega)]at hej
   have:j=i:=(List.getElem_inj hM.nd).1 (by simpa using hej)
   exact this ▸ hj
  ·exact λh=>⟨i,h,hborn i hil⟩
 rcases aPn (P:=P) (ev:=a.eval) ho (by rw [e1];rfl) c2 k2 hlt with⟨h1,h2⟩|⟨e,w0,h1,h2,h3,h4⟩
 ·refine cD h2 (hn _ _ ρ _ _ (hover λi hil=> ?_) hm hf (.tup _ _ rfl ?_))
  ·have hil':i < es.size:=by omega
   exact(hin i hil').1 (h1 _ (Array.getElem_mem hil'))
  ·intro j s v hs hv
   match j,hs,hv with
   | 0,hs,hv=>simp at hs hv;subst hs;subst hv;exact .d _ _ (.bool _)
   |j+1,hs,_=>simp at hs
 ·obtain⟨i,hil,rfl⟩:=Array.mem_iff_getElem.1 h1
  have hil2:i < ents.length:=by omega
  have hil3:i < es.toList.length:=by simpa using hil
  have hni:i∉vis:= λh=>by rw [(hin i hil).2 h]at h2;cases h2
  have hw0:w0.heap=w.heap:=by rcases h3 with rfl|rfl<;>rfl
  have hout:aKt w0 w:=by
   rcases h3 with rfl|rfl
   ·exact .refl _
   ·exact⟨rfl,Nat.le_succ _⟩
  have hos:w0.os=w.os/\w0.tape=w.tape:=by rcases h3 with rfl|rfl<;>exact⟨rfl,rfl⟩
  have c2':w0.heap[gi']? =some (.mapIter (some g') clock (vis.map λi=>bs.getD i 0).toArray clock):=by rw [hw0];exact c2
  obtain⟨r1,r2⟩:=hM.ent i _ _ (List.getElem?_eq_getElem hil3) (List.getElem?_eq_getElem hil2)
  obtain⟨s1,s2⟩:=hm.setExt (X':=aBa id bs clock (vis++[i])) (w':={ w0 with heap:=w0.heap.setIfInBounds gi' (.mapIter (some g') clock ((vis.map λi=>bs.getD i 0).toArray.push es[i].born) clock) }) hi b1
   hos.1 hos.2 ⟨hout.1, hout.2⟩ (by simp [hw0]) (λb _ hb => by rw [aGm hb, hw0]) (yB c2') ⟨λj hj => by
    rcases List.mem_append.1 hj with hj|hj
    ·exact hv j hj
    ·simp at hj;omega,g',d1,by rw [<-hborn i hil];simp⟩
  refine cD h4 (hn _ _ ρ _ _ (hstep i _ (List.getElem?_eq_getElem hil2) hni) s1 (hf.mono s2 (λ_ _ x=>x) λi _=>ρ.moved_refl i) (.tup _ _ rfl ?_))
  intro j s v hs hv
  match j,hs,hv with
  | 0,hs,hv=>simp at hs hv;subst hs;subst hv;exact .d _ _ (.bool _)
  | 1,hs,hv=>
   simp at hs hv;subst hs;subst hv
   exact .d _ _ (by simpa using r1.mono s2 λ_ _ x=>x)
  | 2,hs,hv=>
   simp at hs hv;subst hs;subst hv
   simpa using r2.mono s2 (λ_ _ x=>x) λid _=>ρ.moved_refl id
  |j+3,hs,_=>simp at hs
theorem aDf: ∀(es:List MapEntry) (i:Nat) (e:MapEntry),(es.map (·.born)).Nodup->es[i]? =some e->es.find? (λx=>x.born==e.born)=some e
 | [],_,_,_,h=>by simp at h
 |a::es,0,e,_,h=>by simp at h;subst h;simp
 |a::es,i+1,e,hn,h=>by
  rw [List.map_cons,List.nodup_cons]at hn
  have he:es[i]? =some e:=by simpa using h
  have hne:(a.born==e.born)=false:=by
   rw [beq_eq_false_iff_ne]
   intro q
   exact hn.1 (q ▸ List.mem_map_of_mem (List.mem_of_getElem? he))
  rw [List.find?_cons_of_neg (by simp [hne])]
  exact aDf es i e hn.2 he
theorem aDh {o:Oper}{x:Operand}(ho:o.op= .entry x) {kD:κ->D}{pin:List Nat}{fr:Fr}{hp:Hp}{K:SV->Hp->Prop}{it id i:Nat}{ents:List (κ×SV)}{bs vis:List Nat}{clock:Nat}{p:κ×SV}
  (hx:evO fr x=some (.xv it aFm)) (hi:aU hp it=some (.ext (aBa id bs clock (vis++[i])))) (hg:aU hp id=some (.ext (xM kD ents bs clock))) (hent:ents[i]? =some p) (hk:K (.tup [.d (kD p.1),p.2]) hp):bI P o pin fr hp K:=by
 intro E ρ a w hpin hm hf next Q hn
 obtain⟨gi,b1,e1,_⟩:=(aV hf hx).xv_inv
 obtain⟨gi',ob,c1,c2,⟨hv,g,d1,rfl⟩,c4⟩:=hm.sat it _ hi
 have:gi'=gi:=by
  have c1':ρ.blk it=some gi':=c1
  rw [b1]at c1';injection c1' with c1';exact c1'.symm
 subst this
 obtain⟨g',ob,k1,k2,⟨es,rfl,hM⟩,k4⟩:=hm.sat id _ hg
 have:g'=g:=by
  have c1':ρ.blk id=some g':=k1
  rw [d1]at c1';injection c1' with c1';exact c1'.symm
 subst this
 have hil:i < ents.length:=(List.getElem?_eq_some_iff.1 hent).1
 have hil3:i < es.toList.length:=by rw [hM.len];exact hil
 obtain⟨e,he⟩: ∃e,es.toList[i]? =some e:=⟨_,List.getElem?_eq_getElem hil3⟩
 have hb:bs.getD i 0=e.born:=by rw [<-hM.born,List.getD,List.getElem?_map,he];rfl
 have hfind:es.find? (λx=>x.born==e.born)=some e:=by
  rw [<-Array.find?_toList]
  exact aDf _ i e (by rw [hM.born];exact hM.nd) he
 have hseen:(((vis++[i]).map λi=>bs.getD i 0).toArray).back?=some e.born:=by
  rw [List.map_append,List.map_cons,List.map_nil,hb];simp
 have hgi:(getObj gi').run P w= .ok (.mapIter (some g') clock ((vis++[i]).map λi=>bs.getD i 0).toArray clock) w:=by
  simp [getObj,Sem.run,c2]
 have hrun:(execOp a.eval o).run P w= .ok (.value (.tuple #[e.key,e.val])) w:=by
  simp only [execOp,ho,Instr.entry,e1,aFm,Sem.run_bind,hgi,Result.andThen_ok,hseen,iK k2,bne_self_eq_false,Bool.false_eq_true,if_false,hfind,Sem.run_pure]
 obtain⟨r1,r2⟩:=hM.ent i e p he hent
 refine cD hrun (hn _ _ ρ _ _ hk hm hf (.tup _ _ rfl ?_))
 intro j s v hs hv
 match j,hs,hv with
 | 0,hs,hv=>simp at hs hv;subst hs;subst hv;exact .d _ _ r1
 | 1,hs,hv=>simp at hs hv;subst hs;subst hv;exact r2
 |j+2,hs,_=>simp at hs
end
end Go.Proofs.YtfhoddcminbffaaGreatDoor
namespace Go.Proofs.YtfhoddcminbffaaGreatDoor
open Go.Proofs
theorem Mem.froze {E:Entry}{ρ:Env}{hp hp':Hp}{w:World}(h:Mem E ρ hp w) {id e z cap:Nat}{rows:List (List D)}(ho:aU hp id=some (.mrow e z cap rows)) (hsub:kE hp' hp) (hno:aU hp' id=none):
  ∃S':Nat->Nat->Prop,(∀b i,ρ.S b i->S' b i)/\Mem E (ρ.withS S') hp' w/\RepD w S' (.sl z rows) (ρ.tv id):=by
 have hat: ∀b,fM (ρ.tv id)=some b->ρ.at id (.mrow e z cap rows)=some b:= λb hb=>hb
 have hs0: ∀i o,aU hp' i=some o->aU hp i=some o:=iO _ _ hsub
 have hne: ∀i o,aU hp' i=some o->i≠id:= λi o hi e=>by rw [e,hno]at hi;cases hi
 refine⟨λb i=>ρ.S b i\/(fM (ρ.tv id)=some b/\i < rows.length * z),λb i hs=> .inl hs, ?_, ?_⟩
 ·refine⟨h.os,h.tape,h.output,h.size,h.old,λb i hs=> .inl (h.sold b i hs), ?_, ?_,h.kp, ?_,λi o i' o' g hi hi'=>h.inj i o i' o' g (hs0 i o hi) (hs0 i' o' hi'),λi o g hi=>h.hb i o g (hs0 i o hi),λi hi=>Env.moved_trans (h.mv i hi) (ρ.moved_withS _ i), ?_,h.md⟩
  ·rintro b i (hs|⟨hb,_⟩) hlt hB
   ·exact h.snew b i hs hlt hB
   ·rcases h.hb id _ b ho (hat b hb)with h1|h1
    ·omega
    ·exact absurd h1 hB
  ·rintro b i (hs|⟨hb,_⟩)
   ·exact h.slt b i hs
   ·exact h.blk_lt ho (hat b hb)
  ·intro i o hi
   refine(h.sat i o (hs0 i o hi)).keep (λ_ _ _=>rfl) (λb i hs=> .inl hs) (λi _=>ρ.moved_withS _ i) ⟨rfl,rfl⟩ (λg _=>rfl) ?_
   rintro g hg j (hs|⟨hb,_⟩)
   ·exact hs
   ·exact absurd (h.inj i o id _ g (hs0 i o hi) ho hg (hat g hb)) (hne i o hi)
  ·intro i oR g hi hrd hg i' o' hi'
   exact h.ro i oR g (hs0 _ _ hi) hrd hg i' o' (hs0 _ _ hi')
 ·obtain⟨_,h2⟩:=h.sat id _ ho
  rcases h2 with⟨rfl,_,A,e1⟩|⟨hc,g,cur,e1,q1,q2,q3,q4,q6,q7⟩
  ·rw [e1]
   exact RepD.mk_sl (b:=0) (off:=0) (by simp) (by simp) (λhne=>absurd rfl hne) ⟨by simp,by simp⟩ (by simp)
  ·have hb:fM (ρ.tv id)=some g:=by
    rw [e1];have:cap≠0:=by omega
    simp [fM,this]
   have key:RepD w (λb i=>ρ.S b i\/(fM (ρ.tv id)=some b/\i < rows.length * z)) (.sl z rows) (.slice (some ⟨g,0,none⟩) rows.length cap):=by
    refine RepD.mk_sl (b:=g) (off:=0) q2 q3 (λ_=>rfl) ?_ rfl
    refine q6.view (λk v hv=> ?_) (λk hk=> ?_) (λx v hx=>hx.mono (λ_ _ _=>rfl) λb i hs=> .inl hs)
    ·rw [Nat.zero_add,cell_of_row w g k cur e (0,0) q1]
     rw [List.getElem?_take]at hv
     split at hv
     ·simpa using hv
     ·cases hv
    ·rw [Nat.zero_add]
     right
     refine⟨hb, ?_⟩
     rw [q6.len]at hk;exact hk
   rw [e1]at key |-
   exact key
theorem aJ.froz {P:Program}{pin:List Nat}{fr:Fr}{hp hp':Hp}{f:FuncId}{asv:List SV}{K:SV->Hp->Prop}(j id:Nat) {e z cap n:Nat}{rows:List (List D)}(ho:aU hp id=some (.mrow e z cap rows)) (hn:n=rows.length) (hj:asv[j]? =some (.mw id z n))
  (hsub:kE hp' hp) (hno:aU hp' id=none) (h:aJ P pin fr hp' f (asv.set j (.d (.sl z rows))) K):aJ P pin fr hp f asv K:=by
 intro E ρ w tm hpin h3 h4 vs hargs
 obtain⟨S',s1,s2,s3⟩:=h3.froze ho hsub hno
 obtain⟨q1,_⟩:=h3.sat id _ ho
 refine h E _ w tm hpin s2 (h4.mono (λ_ _ _=>rfl) s1 λi _=>ρ.moved_withS S' i) vs ⟨by simpa using hargs.1, ?_⟩
 intro k s v hs hv
 by_cases e:j=k
 ·subst e
  have hjl:=(List.getElem?_eq_some_iff.1 hj).1
  rw [List.getElem?_set_self hjl]at hs
  injection hs with hs
  subst hs
  obtain⟨A,c,_,_,_,_,_,e2⟩:=(hargs.2 j _ v hj hv).mw_inv
  have:=e2 (hn.trans q1.symm)
  subst this
  exact .d _ _ s3
 ·rw [List.getElem?_set_ne e]at hs
  exact(hargs.2 k s v hs hv).mono (λ_ _ _=>rfl) s1 λi _=>ρ.moved_withS S' i
theorem aM.froz {C:Cfg}{c:Code}{fr:Fr}{hp hp':Hp}{K:Ex->Fr->Hp->Prop}(t id:Nat) {e z cap n:Nat}{rows:List (List D)}(ht:lU fr t=some (.mw id z n)) (ho:aU hp id=some (.mrow e z cap rows)) (hn:n=rows.length)
  (hsub:kE hp' hp) (hno:aU hp' id=none) (h:aM C c ((t, .d (.sl z rows))::fr) hp' K):aM C c fr hp K:=by
 intro E a w hpin hrd hsat
 obtain⟨h1,h2,ρ,h3,h4⟩:=hsat
 obtain⟨S',s1,s2,s3⟩:=h3.froze ho hsub hno
 obtain⟨q1,_⟩:=h3.sat id _ ho
 refine h E a w hpin hrd ⟨h1,h2,_,s2, ?_⟩
 intro k s hs
 simp only [lU]at hs
 by_cases e:t=k
 ·rw [if_pos e]at hs
  injection hs with hs
  subst hs;subst e
  obtain⟨v,hv,hr⟩:=h4 t _ ht
  obtain⟨A,c,_,_,_,_,_,e2⟩:=hr.mw_inv
  have:=e2 (hn.trans q1.symm)
  subst this
  exact⟨_,hv, .d _ _ s3⟩
 ·rw [if_neg e]at hs
  obtain⟨v,hv,hr⟩:=h4 k _ hs
  exact⟨v,hv,hr.mono (λ_ _ _=>rfl) s1 λi _=>ρ.moved_withS S' i⟩
end Go.Proofs.YtfhoddcminbffaaGreatDoor
namespace Go.Proofs.YtfhoddcminbffaaGreatDoor
open Go.Proofs Go.RowKit
section
variable {P:Program}
theorem zX {o:Oper}{t t' kt e:TypeId}{x y:Operand}(ho:o.op= .binOp .eql t x y t') (ht:aS5 P t=some (kt,e)) {fr:Fr}{hp:Hp}{K:SV->Prop}{s:SV}(b:Bool) (hx:evO fr x=some s)
  (hs:(∃id,s= .xv id nQ/\b=false)\/(s= .d (.lit (.map none))/\b=true)) (hy:evO fr y=some (.d (.lit (.map none)))) (hk:K (.d (.bool b))):dI P o fr hp K:=by
 intro E ρ a w hm hf
 have e2:=(aV hf hy).lit_inv
 have e1:(∃g,a.eval x= .map (some g)/\b=false)\/(a.eval x= .map none/\b=true):=by
  rcases hs with⟨id,rfl,hb⟩|⟨rfl,hb⟩
  ·obtain⟨g,_,e1,_⟩:=(aV hf hx).xv_inv
   exact .inl ⟨g,e1,hb⟩
  ·exact .inr ⟨(aV hf hx).lit_inv,hb⟩
 have hq: ∀(m:Option Nat) (w':World),(binOp .eql t (.map m) (.map none)).run P w'= .ok (.bool m.isNone) w':=by
  intro m w'
  have hb:binOp .eql t (.map m) (.map none)=(Op.equal t (.map m) (.map none)>>= λc=>pure (.bool c)):=rfl
  have he:(Op.equal t (.map m) (.map none)).run P w'= .ok m.isNone w':=by
   show (Op.equalIn (9999+1) t (.map m) (.map none)).run P w'=_
   rw [Op.equalIn]
   simp only [Sem.run_bind,run_underlying (vG ht),Result.andThen_ok]
   cases m<;>rfl
  rw [hb,Sem.run_bind,he]
  rfl
 have hgd: ∀(m:Option Nat) (w':World),(eqGuard .eql t x y (.map m) (.map none)).run P w'= .ok () w':= λm w'=>rfl
 refine⟨.bool b,_,λw' _=> ?_, .d _ _ (.bool _),hk⟩
 rcases e1 with⟨g,e1,rfl⟩|⟨e1,rfl⟩
 ·simp only [execOp,ho,e1,e2,Sem.run_bind,hgd,Result.andThen_ok,hq,Sem.run_pure,Option.isNone_some]
 ·simp only [execOp,ho,e1,e2,Sem.run_bind,hgd,Result.andThen_ok,hq,Sem.run_pure,Option.isNone_none]
theorem aM.ownC {C:Cfg}{c:Code}{fr:Fr}{hp:Hp}{K:Ex->Fr->Hp->Prop}(i id t e z k:Nat) {cs:List SV}(hnil:aU hp i=some (.cells t cs)) (hk:cs[k]? =some (.d .nil)) (hfr:fX id C.pin fr hp)
  (h:aM C c fr ((id, .own e z 0)::hY hp i (.cells t (cs.set k (.osl id z [])))) K):aM C c fr hp K:=by
 intro E a w hpin hrd hsat
 obtain⟨h1,h2,ρ,h3,h4⟩:=hsat
 obtain⟨f1,f2,f3⟩:=hfr
 obtain⟨m1,m2,m3⟩:=h3.newNil (id:=id) e z f3 (by rw [hpin];exact f1)
 have hne:i≠id:= λe=>f3 (by subst e;exact bQ hnil (.inl rfl))
 have hi':aU ((id,HObj.own e z 0)::hp) i=some (.cells t cs):=by
  simp only [aU];rw [if_neg (Ne.symm hne)];exact hnil
 have hkl:k < cs.length:=(List.getElem?_eq_some_iff.1 hk).1
 have m4 := m1.recell hi' (cs' := cs.set k (.osl id z [])) (by simp) (λj s' v hs' hv => by
  by_cases e:j=k
  ·subst e
   rw [List.getElem?_set_self hkl]at hs'
   injection hs' with hs'
   subst hs'
   have:=(hv _ hk).nil_inv
   subst this
   exact m3
  ·rw [List.getElem?_set_ne (Ne.symm e)]at hs'
   exact hv _ hs')
 have e2:hY ((id,HObj.own e z 0)::hp) i (.cells t (cs.set k (.osl id z [])))=(id, .own e z 0)::hY hp i (.cells t (cs.set k (.osl id z []))):=by
  simp only [hY];rw [if_neg (Ne.symm hne)]
 rw [e2]at m4
 exact h E a w hpin hrd ⟨h1,h2,_,m4,m2 fr a.tmps f2 h4⟩
theorem aJ.frozR {pin:List Nat}{fr:Fr}{hp:Hp}{f:FuncId}{asv:List SV}{K:SV->Hp->Prop}
  (h:aJ P pin fr hp f asv λs hp'=> ∃(id e z cap n:Nat) (rows:List (List D)) (hp'':Hp),s= .mw id z n/\aU hp' id=some (.mrow e z cap rows)/\n=rows.length/\kE hp'' hp'/\aU hp'' id=none/\K (.d (.sl z rows)) hp''):aJ P pin fr hp f asv K:=by
 intro E ρ w tm hpin h3 h4 vs hargs
 refine(h E ρ w tm hpin h3 h4 vs hargs).mono ?_
 rintro e w' ⟨v,ρ',s,hp',rfl,⟨id,e,z,cap,n,rows,hp'',rfl,ho,hn,hsub,hno,hk⟩,k2,k3,k4⟩
 obtain⟨S',s1,s2,s3⟩:=k2.froze ho hsub hno
 obtain⟨q1,_⟩:=k2.sat id _ ho
 obtain⟨A,c,_,_,_,_,_,e2⟩:=k4.mw_inv
 have:=e2 (hn.trans q1.symm)
 subst this
 exact⟨_,_,_,_,rfl,hk,s2,k3.mono (λ_ _ _=>rfl) s1 (λi _=>ρ'.moved_withS S' i), .d _ _ s3⟩
end
abbrev Byt:=List UInt8
def aC2 (l:Byt):D:= .str l
theorem aO {hp:Hp}{k d:Nat}{o:HObj}{r:Option HObj}(h:aU hp d=r) (hne:k≠d):aU ((k,o)::hp) d=r:=by
 rw [aU,if_neg hne,h]
theorem fE {hp:Hp}{k:Nat}{o:HObj}:aU ((k,o)::hp) k=some o:=by
 rw [aU,if_pos rfl]
theorem uG {hp:Hp}{k d:Nat}{o x:HObj}(hne:k≠d):hY ((k,o)::hp) d x=(k,o)::hY hp d x:=by
 rw [hY,if_neg hne]
theorem aEq {hp:Hp}{k:Nat}{o x:HObj}:hY ((k,o)::hp) k x=(k,x)::hp:=by
 rw [hY,if_pos rfl]
theorem pC: ∀{hp' hp:Hp},(∀p∈hp',aU hp p.1=some p.2)->kE hp' hp
 | [],_,_=>trivial
 |(k,x)::r,hp,h=>⟨h (k,x) (by simp),pC λp hp=>h p (List.mem_cons_of_mem _ hp)⟩
theorem pB: ∀{hp' hp:Hp},kE hp' hp-> ∀p∈hp',aU hp p.1=some p.2
 | [],_,_,p,hp=>by cases hp
 |(k,x)::r,hp,h,p,hm=>by
  rcases List.mem_cons.1 hm with rfl|hm
  ·exact h.1
  ·exact pB h.2 p hm
end Go.Proofs.YtfhoddcminbffaaGreatDoor
namespace Go.Proofs.YtfhoddcminbffaaGreatDoor
open Go.Proofs
def xB {α:Type}(c:α->α->Int) (a b d:α):Prop:=
 (c a b < 0->c b d < 0->c a d < 0)/\(c a b=0->c a d=c b d)/\(c b d=0->c a b=c a d)
structure LCk {α:Type} (c:α->α->Int):Prop where
 rng: ∀a b,c a b= -1\/c a b=0\/c a b=1
 anti: ∀a b,c b a= - c a b
 t3: ∀a b d,xB c a b d
def lex (x y:Int):Int:=if x≠0 then x else y
theorem LCk.lex {α:Type}{c1 c2:α->α->Int}(h1:LCk c1) (h2:LCk c2):LCk (λa b=>lex (c1 a b) (c2 a b)):=by
 refine⟨λa b=> ?_,λa b=> ?_,λa b d=> ?_⟩
 ·have:=h1.rng a b
  have:=h2.rng a b
  unfold Proofs.YtfhoddcminbffaaGreatDoor.lex
  split<;>omega
 ·have:=h1.anti a b
  have:=h2.anti a b
  unfold Proofs.YtfhoddcminbffaaGreatDoor.lex
  split<;>split<;>omega
 ·have a1:=h1.t3 a b d
  have a2:=h1.t3 b d a
  have a3:=h1.t3 d a b
  have b1:=h2.t3 a b d
  have r1:=h1.rng a b
  have r2:=h1.rng b d
  have r3:=h1.rng a d
  have n1:=h1.anti a b
  have n2:=h1.anti b d
  have n3:=h1.anti a d
  unfold xB at *
  unfold Proofs.YtfhoddcminbffaaGreatDoor.lex
  dsimp only
  refine⟨?_, ?_, ?_⟩<;>(split<;>split<;>split<;>omega)
theorem LCk.of {α β:Type}{c:β->β->Int}(h:LCk c) (k:α->β):LCk (λa b=>c (k a) (k b)):=
 ⟨λa b=>h.rng _ _,λa b=>h.anti _ _,λa b d=>h.t3 _ _ _⟩
theorem LCk.int:LCk lQ:=by
 refine⟨λa b=> ?_,λa b=> ?_,λa b d=> ?_⟩
 ·unfold lQ;split<;>(try split)<;>simp
 ·unfold lQ;split<;>split<;>(try split)<;>omega
 ·unfold xB lQ
  refine⟨?_, ?_, ?_⟩<;>(split<;>(try split)<;>split<;>(try split)<;>(try split)<;>(try split)<;>omega)
theorem qI {a b:Int}:lQ a b=0↔a=b:=by
 unfold lQ;split<;>(try split)<;>omega
theorem LCk.str:LCk gB:=by
 refine⟨nT,aDx,λa b d=>⟨zV a b d,λh=> ?_,λh=> ?_⟩⟩
 ·rw [(dZ a b).1 h]
 ·rw [(dZ b d).1 h]
theorem jL (x:Int) (l:List Int):orF (x::l)=lex x (orF l):=rfl
theorem LCk.zero {α:Type}:LCk (λ_ _:α=>(0:Int)):=⟨λ_ _=>by simp,λ_ _=>by simp,λ_ _ _=>by simp [xB]⟩
theorem fW:LCk pX:=by
 have h:=(LCk.int.of (λc:Cn=>(aN c:Int))).lex ((LCk.int.of Cn.kind).lex ((LCk.str.of Cn.name).lex ((LCk.int.of Cn.lo).lex ((LCk.int.of Cn.hi).lex LCk.zero))))
 exact h
theorem eQ {x y:Int}:lex x y=0↔x=0/\y=0:=by unfold lex;split<;>omega
theorem aK5 {a b:Cn}(h:pX a b=0):a.kind=b.kind/\a.name=b.name/\a.lo=b.lo/\a.hi=b.hi:=by
 unfold pX at h
 simp only [jL,eQ,qI,dZ]at h
 exact⟨h.2.1,h.2.2.1,h.2.2.2.1,h.2.2.2.2.1⟩
theorem lK (a b:Cn):gJ a b=lex (pX a b) (gU a.parts b.parts):=by rw [aG4];rfl
mutual
theorem qJ: ∀(a b:Cn),gJ a b= -1\/gJ a b=0\/gJ a b=1
 | .mk k n lo hi ps,b=>by
  have h1:=fW.rng (.mk k n lo hi ps) b
  have h2:=aI4 ps b.parts
  rw [lK,show (Cn.mk k n lo hi ps).parts=ps from rfl]
  unfold lex;split<;>omega
theorem aI4: ∀(l m:List Cn),gU l m= -1\/gU l m=0\/gU l m=1
 | [],[]=>by simp [gU]
 | [],_::_=>by simp [gU]
 |_::_,[]=>by simp [gU]
 |a::l,b::m=>by
  have h1:=qJ a b
  have h2:=aI4 l m
  rw [gU];split<;>omega
end
mutual
theorem dM: ∀(a b:Cn),gJ b a= - gJ a b
 | .mk k n lo hi ps,b=>by
  have h1:=fW.anti (.mk k n lo hi ps) b
  have h2:=aDw ps b.parts
  rw [lK,lK,h1]
  show lex _ (gU b.parts ps)= - lex _ (gU ps b.parts)
  rw [h2]
  unfold lex;split<;>split<;>omega
theorem aDw: ∀(l m:List Cn),gU m l= - gU l m
 | [],[]=>by simp [gU]
 | [],_::_=>by simp [gU]
 |_::_,[]=>by simp [gU]
 |a::l,b::m=>by
  have h1:=dM a b
  have h2:=aDw l m
  rw [gU,gU,h1,h2];split<;>split<;>omega
end
mutual
theorem mX: ∀(a b d:Cn),xB gJ a b d
 | .mk k n lo hi ps,b,d=>by
  have a1:=fW.t3 (.mk k n lo hi ps) b d
  have a2:=fW.t3 b d (.mk k n lo hi ps)
  have a3:=fW.t3 d (.mk k n lo hi ps) b
  have n1:=fW.anti (.mk k n lo hi ps) b
  have n2:=fW.anti b d
  have n3:=fW.anti (.mk k n lo hi ps) d
  have r1:=fW.rng (.mk k n lo hi ps) b
  have r2:=fW.rng b d
  have r3:=fW.rng (.mk k n lo hi ps) d
  have b1:=aNx ps b.parts d.parts
  unfold xB at *
  rw [lK,lK,lK]
  rw [show (Cn.mk k n lo hi ps).parts=ps from rfl]
  generalize pX (.mk k n lo hi ps) b=x1 at *
  generalize pX (.mk k n lo hi ps) d=x2 at *
  generalize pX b d=x3 at *
  generalize pX b (.mk k n lo hi ps)=x4 at *
  generalize pX d (.mk k n lo hi ps)=x5 at *
  generalize pX d b=x6 at *
  generalize gU ps b.parts=y1 at *
  generalize gU ps d.parts=y2 at *
  generalize gU b.parts d.parts=y3 at *
  unfold lex
  refine⟨?_, ?_, ?_⟩<;>(split<;>split<;>split<;>omega)
theorem aNx: ∀(l m n:List Cn),xB gU l m n
 | [],m,n=>by
  cases m<;>cases n<;>simp [xB,gU]
 |a::l,[],n=>by
  cases n<;>simp [xB,gU]
 |a::l,b::m,[]=>by
  simp only [xB,gU]
  refine⟨by omega,λh=> ?_,λh=>by omega⟩
  first|rfl|trivial|(simp_all)
 |a::l,b::m,d::n=>by
  have a1:=mX a b d
  have b1:=aNx l m n
  have r1:=qJ a b
  have r2:=qJ b d
  have r3:=qJ a d
  have n2:=dM b d
  unfold xB at *
  rw [gU,gU,gU]
  generalize gJ a b=x1 at *
  generalize gJ a d=x2 at *
  generalize gJ b d=x3 at *
  generalize gU l m=y1 at *
  generalize gU l n=y2 at *
  generalize gU m n=y3 at *
  refine⟨?_, ?_, ?_⟩<;>(split<;>split<;>split<;>omega)
end
theorem aNy:LCk gJ:=⟨qJ,dM,mX⟩
mutual
theorem aI6: ∀(a b:Cn),gJ a b=0->a=b
 | .mk k n lo hi ps, .mk k' n' lo' hi' ps',h=>by
  rw [lK,eQ]at h
  obtain⟨h1,h2⟩:=h
  obtain⟨e1,e2,e3,e4⟩:=aK5 h1
  have e5:=aI5 ps ps' h2
  simp only [Cn.kind,Cn.name,Cn.lo,Cn.hi]at e1 e2 e3 e4
  rw [e1,e2,e3,e4,e5]
theorem aI5: ∀(l m:List Cn),gU l m=0->l=m
 | [],[],_=>rfl
 | [],_::_,h=>by simp [gU]at h
 |_::_,[],h=>by simp [gU]at h
 |a::l,b::m,h=>by
  rw [gU]at h
  have h:lex (gJ a b) (gU l m)=0:=h
  rw [eQ]at h
  rw [aI6 a b h.1,aI5 l m h.2]
end
theorem mY (a:Cn):gJ a a=0:=by have:=dM a a;omega
theorem mW {a b:Cn}:gJ a b=0↔a=b:=⟨aI6 a b,λh=>h ▸ mY a⟩
def tR (c:Cn):List Cn->List Cn
 | []=>[c]
 |d::r=>if gJ c d < 0 then c::d::r else if gJ c d=0 then d::r else d::tR c r
def lR:List Cn->List Cn
 | []=>[]
 |c::r=>tR c (lR r)
abbrev aG8 (l:List Cn):Prop:=l.Pairwise (λa b=>gJ a b < 0)
theorem tO {c x:Cn}: ∀{l:List Cn},x∈tR c l↔x=c\/x∈l
 | []=>by simp [tR]
 |d::r=>by
  rw [tR]
  split
  ·simp
  ·split
   ·rename_i h
    have:=mW.1 h
    subst this
    simp
   ·simp only [List.mem_cons,tO (l:=r)]
    constructor
    ·rintro(h|h|h)<;>simp [h]
    ·rintro(h|h|h)<;>simp [h]
theorem dH {x:Cn}: ∀{l:List Cn},x∈lR l↔x∈l
 | []=>by simp [lR]
 |c::r=>by rw [lR,tO,dH,List.mem_cons]
theorem aAf {c:Cn}: ∀{l:List Cn},aG8 l->aG8 (tR c l)
 | [],_=>by simp [tR,aG8]
 |d::r,h=>by
  rw [tR]
  have h1:=List.pairwise_cons.1 h
  split
  ·rename_i hlt
   refine List.pairwise_cons.2 ⟨λx hx=> ?_,h⟩
   rcases List.mem_cons.1 hx with rfl|hx
   ·exact hlt
   ·exact(mX c d x).1 hlt (h1.1 x hx)
  ·split
   ·exact h
   ·rename_i h2 h3
    refine List.pairwise_cons.2 ⟨λx hx=> ?_,aAf h1.2⟩
    rcases tO.1 hx with rfl|hx
    ·have:=dM x d;omega
    ·exact h1.1 x hx
theorem pD: ∀(l:List Cn),aG8 (lR l)
 | []=> .nil
 |c::r=>aAf (pD r)
theorem aLj {l:List Cn}(h:aG8 l):l.Nodup:=h.imp λ{a b} h e=>by rw [e,mY]at h;omega
theorem qW: ∀{l m:List Cn},aG8 l->aG8 m->(∀x,x∈l↔x∈m)->l=m
 | [],[],_,_,_=>rfl
 | [],b::m,_,_,h=>by have:=(h b).2 (by simp);simp at this
 |a::l,[],_,_,h=>by have:=(h a).1 (by simp);simp at this
 |a::l,b::m,h1,h2,h=>by
  have p1:=List.pairwise_cons.1 h1
  have p2:=List.pairwise_cons.1 h2
  have hab:a=b:=by
   rcases List.mem_cons.1 ((h a).1 (by simp))with e|e
   ·exact e
   ·rcases List.mem_cons.1 ((h b).2 (by simp))with e'|e'
    ·exact e'.symm
    ·have q1:=p1.1 b e'
     have q2:=p2.1 a e
     have:=dM a b
     omega
  subst hab
  rw [qW p1.2 p2.2 λx=> ?_]
  have hx:=h x
  simp only [List.mem_cons]at hx
  have d1: ∀x∈l,x≠a:= λx hx e=>by have:=p1.1 x hx;rw [e,mY]at this;omega
  have d2: ∀x∈m,x≠a:= λx hx e=>by have:=p2.1 x hx;rw [e,mY]at this;omega
  constructor
  ·intro hl
   rcases hx.1 (.inr hl)with e|e
   ·exact absurd e (d1 x hl)
   ·exact e
  ·intro hm
   rcases hx.2 (.inr hm)with e|e
   ·exact absurd e (d2 x hm)
   ·exact e
theorem aEr {l m:List Cn}(h1:aG8 m) (h: ∀x,x∈m↔x∈l):m=lR l:=qW h1 (pD l) λx=>by rw [dH,h]
theorem aIx {l m:List Cn}(h: ∀x,x∈l↔x∈m):lR l=lR m:=qW (pD l) (pD m) λx=>by rw [dH,dH,h]
theorem aLu {l:List Cn}(h:aG8 l):lR l=l:=(aEr h λ_=>Iff.rfl).symm
def aEc {α:Type}(eq:α->α->Bool):α->List α->List α
 |_,[]=>[]
 |p,b::r=>if eq b p then aEc eq b r else b::aEc eq b r
def aDo {α:Type}(eq:α->α->Bool):List α->List α
 | []=>[]
 |a::r=>a::aEc eq a r
def zM (a b:Cn):Bool:=decide (gJ a b=0)
theorem aDm: ∀(p:Cn) (l:List Cn),(p::l).Pairwise (λa b=>¬ gJ b a < 0)->aG8 (p::aEc zM p l)/\ ∀x,x∈p::aEc zM p l↔x∈p::l
 |p,[],_=>⟨by simp [aEc,aG8],λx=>by simp [aEc]⟩
 |p,b::r,h=>by
  have h1:=List.pairwise_cons.1 h
  obtain⟨i1,i2⟩:=aDm b r h1.2
  rw [aEc]
  by_cases he:gJ b p=0
  ·have hb:b=p:=mW.1 he
   subst hb
   rw [if_pos (by simp [zM,he])]
   exact⟨i1,λx=>by rw [i2];simp⟩
  ·rw [if_neg (by simp [zM,he])]
   have hlt:gJ p b < 0:=by
    have:=h1.1 b (by simp)
    have:=dM p b
    omega
   refine⟨List.pairwise_cons.2 ⟨λx hx=> ?_,i1⟩,λx=> ?_⟩
   ·rcases List.mem_cons.1 hx with rfl|hx
    ·exact hlt
    ·exact(mX p b x).1 hlt ((List.pairwise_cons.1 i1).1 x hx)
   ·rw [List.mem_cons,i2,List.mem_cons (a:=x) (b:=p)]
theorem aG2 {l l':List Cn}(hp:l'.Perm l) (hs:l'.Pairwise (λa b=>¬ gJ b a < 0)):aDo zM l'=lR l:=by
 cases l' with
 |nil=>
  have:=hp.symm.eq_nil
  subst this
  rfl
 |cons a r=>
  obtain⟨h1,h2⟩:=aDm a r hs
  exact aEr h1 λx=>(h2 x).trans hp.mem_iff
end Go.Proofs.YtfhoddcminbffaaGreatDoor
namespace Go.Proofs.YtfhoddcminbffaaGreatDoor
open Go.Proofs
def c0:Cn:= .mk 0 [] 0 0 []
def aKn:Cn:= .mk 1 [] 0 0 []
def bP (c:Cn):List Cn:=if c.kind=1 then []else if c.kind=5 then c.parts else [c]
def eE (s:List Cn):Cn×Int:=match s.find? (λt=>decide (t.kind=2))with
 |some t=>(t,0)
 |none=>if s.length=0 then (aKn,0)else if s.length=1 then (s.headD c0,0)else if 8 < s.length then (c0,2)else (.mk 5 [] 0 0 s,0)
def aVb (l:List Cn):Cn×Int:=eE (lR l)
def iZ (l:List (Cn×Int)):Cn×Int:=match l.find? (λr=>decide (r.2≠0))with
 |some r=>(c0,r.2)
 |none=>aVb (l.flatMap λr=>bP r.1)
def pE (n:List UInt8) (l:List (Cn×Int)):Cn×Int:=match l with
 | []=>(c0,0)
 |r::_=>if r.2≠0\/r.1.kind=2 then r else (.mk 6 n 0 0 [r.1],0)
mutual
def aI:Cn->Cn×Int
 | .mk k n lo hi ps=>if k=6 then pE n (xC ps)else if k=5 then iZ (xC ps)else (.mk k n lo hi ps,0)
def xC:List Cn->List (Cn×Int)
 | []=>[]
 |c::r=>aI c::xC r
end
theorem oY: ∀l,xC l=l.map aI
 | []=>rfl
 |c::r=>by rw [xC,oY r];rfl
theorem eF (c:Cn):aI c=if c.kind=6 then pE c.name (c.parts.map aI)else if c.kind=5 then iZ (c.parts.map aI)else (c,0):=by
 cases c;rw [aI,oY];rfl
def gM (l:List Cn):Nat:=(aZ l).length
theorem jI:gM []=0:=rfl
theorem bL (c:Cn) (l:List Cn):gM (c::l)=aN c+gM l:=by simp [gM,aZ,aN]
theorem kZ (l m:List Cn):gM (l++m)=gM l+gM m:=by simp [gM,dR]
theorem cR (c:Cn):aN c=gM c.parts+1:=pH c
theorem nJ {c:Cn}{l:List Cn}(h:c∈l):aN c<=gM l:=yS h
theorem aAd (c:Cn): ∀l,gM (tR c l)<=aN c+gM l
 | []=>by rw [tR,bL,jI];omega
 |d::r=>by
  have:=aAd c r
  rw [tR]
  split
  ·rw [bL,bL];omega
  ·split
   ·rw [bL];omega
   ·rw [bL,bL];omega
theorem aGg: ∀l,gM (lR l)<=gM l
 | []=>by simp [lR]
 |c::r=>by
  have:=aGg r
  have:=aAd c (lR r)
  rw [lR,bL];omega
theorem aAm:aN c0=1:=rfl
theorem aP0:aN aKn=1:=rfl
theorem aIp (c:Cn):gM (bP c)<=aN c:=by
 unfold bP
 split
 ·rw [jI];omega
 ·split
  ·have:=cR c;omega
  ·rw [bL,jI];omega
theorem aKf (s:List Cn):aN (eE s).1<=gM s+1:=by
 unfold eE
 split
 ·rename_i t h
  have:=nJ (List.mem_of_find?_eq_some h)
  show aN t<=_
  omega
 ·split
  ·show aN aKn<=_;rw [aP0];omega
  ·split
   ·rename_i h0 h1
    match s,h1 with
    | [x],_=>show aN x<=_;rw [bL];omega
   ·split
    ·show aN c0<=_;rw [aAm];omega
    ·show aN (.mk 5 [] 0 0 s)<=_
     rw [cR];exact Nat.le_refl _
theorem uD: ∀(l:List (Cn×Int)),gM (l.flatMap λr=>bP r.1)<=gM (l.map (·.1))
 | []=>by simp
 |r::l=>by
  have:=uD l
  have:=aIp r.1
  rw [List.flatMap_cons,List.map_cons,kZ,bL];omega
theorem aJp (l:List (Cn×Int)):aN (iZ l).1<=gM (l.map (·.1))+1:=by
 unfold iZ
 split
 ·show aN c0<=_;rw [aAm];omega
 ·have h1:=aKf (lR (l.flatMap λr=>bP r.1))
  have h2:=aGg (l.flatMap λr=>bP r.1)
  have h3:=uD l
  show aN (eE (lR (l.flatMap λr=>bP r.1))).1<=_
  omega
theorem aIv (n:List UInt8) (l:List (Cn×Int)):aN (pE n l).1<=gM (l.map (·.1))+1:=by
 unfold pE
 split
 ·show aN c0<=_;rw [aAm];omega
 ·rename_i r l
  rw [List.map_cons,bL]
  split
  ·omega
  ·show aN (.mk 6 n 0 0 [r.1])<=_
   rw [cR]
   show gM [r.1]+1<=_
   rw [bL,jI];omega
mutual
theorem gC: ∀c,aN (aI c).1<=aN c
 | .mk k n lo hi ps=>by
  have:=qV ps
  have h1:aN (.mk k n lo hi ps)=gM ps+1:=cR _
  rw [aI]
  split
  ·have:=aIv n (xC ps);omega
  ·split
   ·have:=aJp (xC ps);omega
   ·exact Nat.le_refl _
theorem qV: ∀l,gM ((xC l).map (·.1))<=gM l
 | []=>by simp [xC]
 |c::r=>by
  have:=gC c
  have:=qV r
  rw [xC,List.map_cons,bL,bL];omega
end
end Go.Proofs.YtfhoddcminbffaaGreatDoor
