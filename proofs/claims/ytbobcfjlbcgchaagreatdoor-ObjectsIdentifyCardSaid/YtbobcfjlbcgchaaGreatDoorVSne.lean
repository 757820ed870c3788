/-
  Maps as symbolic objects: made, read, written, emptied of a key, walked over.
  Conditions: none.
-/
import Derived.Test.YtbobcfjlbcgchaaGreatDoorVA1
set_option linter.unnecessarySimpa false
set_option linter.unusedSectionVars false
set_option linter.unusedSimpArgs false
set_option linter.unusedVariables false
namespace Go.Proofs.YtbobcfjlbcgchaaGreatDoor
open Go.RowKit
section
variable {P:Program} {κ:Type} [DecidableEq κ]
structure KeyT (P:Program) (kt:TypeId) (kD:κ->D) (kV:κ->Value):Prop where
 rep: ∀{w:World} {S:Nat->Nat->Prop} {k:κ} {v:Value},RepD w S (kD k) v->v=kV k
 chk: ∀(b:Bool) (k:κ) (w:World),(Instr.checkKey b 10000 kt (kV k)).run P w= .ok () w
 find: ∀(k:κ) (ks:List κ) (es:List MapEntry) (w:World),es.map (·.key)=ks.map kV->(Instr.findKey kt (kV k) es).run P w= .ok ((ks.findIdx? (λx=>decide (k=x))).bind λi=>(es[i]?).map λe=>(i,e.val)) w
 bits: ∀(k:κ),Instr.sameBits 10000 (kV k) (kV k)=true
theorem findIdx?_cons' {α:Type}(p:α->Bool) (x:α) (l:List α):(x::l).findIdx? p=if p x then some 0 else (l.findIdx? p).map (· +1):=by
 simp [List.findIdx?_cons]
theorem tO {kt:TypeDesc}{kV:κ->Value}(h: ∀k k',Instr.sameNow kt (kV k) (kV k')=some (decide (k=k'))) (k:κ): ∀(ks:List κ) (es:List MapEntry) (i:Nat),es.map (·.key)=ks.map kV->
  Instr.findNow kt (kV k) es i=some ((ks.findIdx? (λx=>decide (k=x))).bind λj=>(es[j]?).map λe=>(i+j,e.val))
 | [],[],_,_=>rfl
 | [],_::_,_,e=>by simp at e
 |_::_,[],_,e=>by simp at e
 |x::ks,e::es,i,he=>by
  simp only [List.map_cons,List.cons.injEq]at he
  rw [Instr.findNow,he.1,h k x,findIdx?_cons']
  by_cases hx:k=x
  ·simp [hx]
  ·simp only [hx,decide_false,Bool.false_eq_true,if_false]
   rw [tO h k ks es (i+1) he.2]
   cases ks.findIdx? (λx=>decide (k=x))with
   |none=>rfl
   |some j=>simp [Nat.add_assoc,Nat.add_comm 1 j]
theorem KeyT.now {kt:TypeId}{dk:TypeDesc}{kD:κ->D}{kV:κ->Value}(hu:P.underlying kt=some dk) (hrep: ∀{w:World}{S:Nat->Nat->Prop}{k:κ}{v:Value},RepD w S (kD k) v->v=kV k)
  (hs: ∀k k',Instr.sameNow dk (kV k) (kV k')=some (decide (k=k'))) (hc: ∀(b:Bool) (k:κ) (w:World),(Instr.checkKey b 10000 kt (kV k)).run P w= .ok () w) (hb: ∀k,Instr.sameBits 10000 (kV k) (kV k)=true):KeyT P kt kD kV:=
 ⟨hrep, hc, λk ks es w he => by
  rw [Instr.findKey]
  simp only [Sem.run_bind,run_underlying hu,Result.andThen_ok]
  rw [tO hs k ks es 0 he]
  simp,hb⟩
def aWa (l:List UInt8):Value:= .string ⟨l.toArray⟩
theorem dO {kt:TypeId}(hu:P.underlying kt=some .string):KeyT P kt (λl=>D.str l) aWa:=
 .now hu (λh => by cases h; rfl) (λk k' => by
  simp only [Instr.sameNow,aWa,beq_toListBytes,jN,sU]) (λb k w=>by
  rw [Instr.checkKey]
  simp only [Sem.run_bind,run_underlying hu,Result.andThen_ok,aWa]
  rfl) (λk=>by simp [Instr.sameBits,aWa,beq_toListBytes,jN])
def mK {β:Type}:List (κ×β)->κ->Option β
 | [],_=>none
 |(k',s)::r,k=>if k=k' then some s else mK r k
def wK {β:Type}:List (κ×β)->κ->β->List (κ×β)
 | [],k,s=>[(k,s)]
 |(k',s')::r,k,s=>if k=k' then (k',s)::r else (k',s')::wK r k s
def aWg {β:Type}:List (κ×β)->κ->List (κ×β)
 | [],_=>[]
 |(k',s')::r,k=>if k=k' then r else (k',s')::aWg r k
def aBd {β:Type}(l:List (κ×β)) (k:κ):Option Nat:=(l.map (λp=>p.1)).findIdx? (λx=>decide (k=x))
def rD (es:List MapEntry) (i:Option Nat):Option (Nat×Value):=i.bind λi=>(es[i]?).map λ(e:MapEntry)=>(i,e.val)
theorem aH4 {β:Type}(k:κ): ∀(l:List (κ×β)),mK l k=(aBd l k).bind λi=>(l[i]?).map (·.2)
 | []=>rfl
 |(k',s)::r=>by
  rw [mK,aBd,List.map_cons,findIdx?_cons']
  by_cases h:k=k'
  ·simp [h]
  ·simp only [h,if_false,decide_false,Bool.false_eq_true]
   rw [aH4 k r,aBd]
   cases (r.map (λp=>p.1)).findIdx? (λx=>decide (k=x))<;>simp
theorem aH2 {β:Type}(k:κ) (s:β): ∀(l:List (κ×β)),wK l k s=match aBd l k with
  |some i=>l.modify i (λp=>(p.1,s))
  |none=>l++[(k,s)]
 | []=>rfl
 |(k',s')::r=>by
  rw [wK,aBd,List.map_cons,findIdx?_cons']
  by_cases h:k=k'
  ·simp [h,List.modify_zero_cons]
  ·simp only [h,if_false,decide_false,Bool.false_eq_true]
   rw [aH2 k s r,aBd]
   cases (r.map (λp=>p.1)).findIdx? (λx=>decide (k=x))with
   |none=>rfl
   |some j=>simp [List.modify_succ_cons]
theorem aH8 {β:Type}(k:κ): ∀(l:List (κ×β)),aWg l k=match aBd l k with
  |some i=>l.eraseIdx i
  |none=>l
 | []=>rfl
 |(k',s')::r=>by
  rw [aWg,aBd,List.map_cons,findIdx?_cons']
  by_cases h:k=k'
  ·simp [h]
  ·simp only [h,if_false,decide_false,Bool.false_eq_true]
   rw [aH8 k r,aBd]
   cases (r.map (λp=>p.1)).findIdx? (λx=>decide (k=x))with
   |none=>rfl
   |some j=>simp
def aOl (ents:List (κ×SV)):List Nat:=ents.flatMap λp=>p.2.ids
structure MapAt (w:World) (ρ:Env) (kD:κ->D) (ents:List (κ×SV)) (bs:List Nat) (clock:Nat) (es:List MapEntry):Prop where
 len:es.length=ents.length
 ent: ∀(i:Nat) (e:MapEntry) (p:κ×SV),es[i]? =some e->ents[i]? =some p->RepD w ρ.S (kD p.1) e.key/\Rep w ρ p.2 e.val
 born:es.map (·.born)=bs
 lt: ∀b∈bs,b < clock
 nd:bs.Nodup
def yJ (kD:κ->D) (ents:List (κ×SV)) (bs:List Nat) (clock:Nat):ExtO where
 ids:=aOl ents
 sat:= λw ρ o=> ∃es:Array MapEntry,o= .map es clock/\MapAt w ρ kD ents bs clock es.toList
 keep:=by
  rintro w w' ρ ρ' o hk hs hm ⟨es,rfl,h⟩
  refine⟨es,rfl,h.len,λi e p he hp=> ?_,h.born,h.lt,h.nd⟩
  obtain⟨h1,h2⟩:=h.ent i e p he hp
  exact⟨h1.mono hk hs,h2.mono hk hs λid hid=>hm id (List.mem_flatMap.2 ⟨p,List.mem_of_getElem? hp,hid⟩)⟩
 nd:=by
  rintro w ρ x ⟨es,h,_⟩
  cases h
theorem gY {w:World}{r:Nat}{es:Array MapEntry}{clock:Nat}(hb:w.heap[r]? =some (.map es clock)):(getObj r).run P w= .ok (.map es clock) w:=by
 simp [getObj,Sem.run,hb]
theorem aIs {w:World}{r:Nat}{es:Array MapEntry}{clock:Nat}(o:Obj) (hb:w.heap[r]? =some (.map es clock)):(setObj r o).run P w= .ok () { w with heap:=w.heap.setIfInBounds r o }:=by
 simp [setObj,Sem.run,hb]
def nK:Nat->Value:= λg=> .map (some g)
theorem MapAt.keys {w:World}{ρ:Env}{kt:TypeId}{kD:κ->D}{kV:κ->Value}{ents:List (κ×SV)}{bs:List Nat}{clock:Nat}{es:List MapEntry}(h:MapAt w ρ kD ents bs clock es) (hK:KeyT P kt kD kV):es.map (·.key)=(ents.map (·.1)).map kV:=by
 apply List.ext_getElem?
 intro i
 simp only [List.getElem?_map]
 rcases Nat.lt_or_ge i es.length with hi|hi
 ·have hi':i < ents.length:=h.len ▸ hi
  rw [List.getElem?_eq_getElem hi,List.getElem?_eq_getElem hi']
  simp only [Option.map_some,Option.some.injEq]
  exact hK.rep (h.ent i _ _ (List.getElem?_eq_getElem hi) (List.getElem?_eq_getElem hi')).1
 ·rw [List.getElem?_eq_none hi,List.getElem?_eq_none (by rw [<-h.len];exact hi)];rfl
theorem MapAt.found {w:World}{ρ:Env}{kt:TypeId}{kD:κ->D}{kV:κ->Value}{ents:List (κ×SV)}{bs:List Nat}{clock:Nat}{es:List MapEntry}(h:MapAt w ρ kD ents bs clock es) (hK:KeyT P kt kD kV) (k:κ) (w':World):
  (Instr.findKey kt (kV k) es).run P w'= .ok (rD es (aBd ents k)) w':=hK.find k _ es w' (h.keys hK)
theorem aNe {l:List κ}{p:κ->Bool}{i:Nat}(h:l.findIdx? p=some i):i < l.length:=by
 rw [List.findIdx?_eq_some_iff_getElem]at h
 exact h.1
def aTc (P:Program) (t:TypeId):Option (TypeId×TypeId):=match P.underlying t with|some (.map k e)=>some (k,e)|_=>none
theorem wO {t k e:TypeId}(h:aTc P t=some (k,e)):P.underlying t=some (.map k e):=by
 unfold aTc at h
 split at h
 ·injection h with h;injection h with h1 h2;subst h1;subst h2;assumption
 ·cases h
theorem aHa {o:Oper}{t k e:TypeId}(ho:o.op= .makeMap t none) (_ht:aTc P t=some (k,e)) (kD:κ->D) {pin:Pin}{fr:Fr}{hp:Hp}{K:SV->Hp->Prop}(id:Nat) (hfr:eN id pin fr hp)
  (hk:K (.xv id nK) ((id, .ext (yJ kD [] [] 0))::hp)):aQ P o pin fr hp K:=by
 intro E ρ a w hpin hm hf next Q hn
 obtain⟨f1,f2,f3⟩:=hfr
 have hrun:(execOp a.eval o).run P w= .ok (.value (.map (some w.heap.size))) (w.alloc (.map #[] 0)):=by
  simp [execOp,ho,Instr.makeMap]
 have hg:Grew w (w.alloc (.map #[] 0)):=Grew.alloc w _
 obtain⟨s1,s2,s3⟩:=hm.newObj (id:=id) (b:=some w.heap.size) (n:=0) (v:=undef) (o:= .ext (yJ kD [] [] 0)) f3 (by rw [hpin];exact f1) hg (λh=>h)
  ⟨w.heap.size, _, by simp [Env.upd3], by simp only [World.alloc]; simp, ⟨#[], rfl, ⟨rfl, by simp, rfl, by simp, .nil⟩⟩, by
   intro i hi
   have:=hm.slt _ _ (show ρ.S w.heap.size i from hi)
   omega⟩
  (λg hg' => by
   simp only [Env.at,Env.upd3,if_true,Option.some.injEq]at hg'
   subst hg';exact hm.free_new (Nat.le_refl _))
 exact bU hrun (hn _ _ _ _ _ hk s1 (hf.mono s2 (λ_ _ x=>x) λi hi=>s3 i λe=>f2 (e ▸ hi)) (.xv id nK _ (by simp [Env.upd3]) rfl))
def aKt (P:Program) (e:TypeId):Option Value:=(P.info? e).bind (·.zero)
theorem aIr {e:TypeId}{z:Value}(h:aKt P e=some z) (w:World):(zeroValue e).run P w= .ok z w:=by
 unfold aKt at h
 cases hi:P.info? e with
 |none=>rw [hi]at h;cases h
 |some i=>
  rw [hi]at h
  have h:i.zero=some z:=h
  simp [zeroValue,typeInfo,hi,h]
def sL (ok:Bool) (r:Option SV) (z:SV):SV:=match ok with
 |true=> .tup [match r with|some s=>s|none=>z, .d (.bool (match r with|some _=>true|none=>false))]
 |false=>match r with|some s=>s|none=>z
theorem dI {o:Oper}{t kt e:TypeId}{x y:Operand}{ok:Bool}(ho:o.op= .lookup t x y ok) (ht:aTc P t=some (kt,e)) {kD:κ->D}{kV:κ->Value}(hK:KeyT P kt kD kV) {z:Value}(hz:aKt P e=some z)
  {fr:Fr} {hp:Hp} {K:SV->Prop} {id:Nat} {ents:List (κ×SV)} {bs:List Nat} {clock:Nat} (hx:evO fr x=some (.xv id nK)) (hg:aN hp id=some (.ext (yJ kD ents bs clock)))
  {k:κ} (hy:evO fr y=some (.d (kD k))) (hk:K (sL ok (mK ents k) (ofV z))):bS P o fr hp K:=by
 intro E ρ a w hm hf
 obtain⟨g,b1,e1,_⟩:=(aR hf hx).xv_inv
 have e2:a.eval y=kV k:=by
  cases aR hf hy with
  |d _ _ h=>exact hK.rep h
 obtain⟨g',ob,c1,c2,⟨es,rfl,hM⟩,c4⟩:=hm.sat id _ hg
 have:g'=g:=by
  have c1':ρ.blk id=some g':=c1
  rw [b1]at c1';injection c1' with c1';exact c1'.symm
 subst this
 have hfind:=hM.found hK k
 rw [aH4]at hk
 have hbm: ∀w',Kept ρ hp w w'->w'.heap[g']? =some (.map es clock):= λw' hw'=>(hw'.o id _ g' hg b1).trans c2
 cases hi:aBd ents k with
 |none=>
  refine⟨if ok then .tuple #[z, .bool false]else z,sL ok none (ofV z),λw' hw'=> ?_, ?_,by rw [hi]at hk;exact hk⟩
  ·simp only [execOp,ho,Instr.lookup,Sem.run_bind,run_underlying (wO ht),Result.andThen_ok,e1,e2,nK,gY (hbm w' hw'),hK.chk,Sem.run_pure,hfind,hi,rD,Option.bind_none,aIr hz]
  ·cases ok
   ·exact aEz w ρ z
   ·refine .tup _ _ rfl ?_
    intro j s v hs hv
    match j,hs,hv with
    | 0,hs,hv=>simp at hs hv;subst hs;subst hv;exact aEz w ρ z
    | 1,hs,hv=>simp at hs hv;subst hs;subst hv;exact .d _ _ (.bool _)
    |j+2,hs,_=>simp at hs
 |some i=>
  have hil:i < ents.length:=by have:=aNe hi;simpa [aBd]using this
  have hil':i < es.toList.length:=by rw [hM.len];exact hil
  have he:=List.getElem?_eq_getElem hil'
  have hp2:=List.getElem?_eq_getElem hil
  obtain⟨r1,r2⟩:=hM.ent i _ _ he hp2
  have hk':K (sL ok (some ents[i].2) (ofV z)):=by rw [hi]at hk;simpa [hp2]using hk
  refine⟨if ok then .tuple #[es.toList[i].val, .bool true]else es.toList[i].val,_,λw' hw'=> ?_, ?_,hk'⟩
  ·simp only [execOp,ho,Instr.lookup,Sem.run_bind,run_underlying (wO ht),Result.andThen_ok,e1,e2,nK,gY (hbm w' hw'),hK.chk,Sem.run_pure,hfind,hi,rD,Option.bind_some,he,Option.map_some]
  ·cases ok
   ·exact r2
   ·refine .tup _ _ rfl ?_
    intro j s v hs hv
    match j,hs,hv with
    | 0,hs,hv=>simp at hs hv;subst hs;subst hv;exact r2
    | 1,hs,hv=>simp at hs hv;subst hs;subst hv;exact .d _ _ (.bool _)
    |j+2,hs,_=>simp at hs
theorem aQk {w:World}{S:Nat->Nat->Prop}{g:Nat}{o:Obj}(h: ∀i,¬ S g i):cD S w { w with heap:=w.heap.setIfInBounds g o }:=by
 intro b i hb
 have:b≠g:= λe=>h i (e ▸ hb)
 have:({ w with heap:=w.heap.setIfInBounds g o }:World).heap[b]? =w.heap[b]? :=Array.getElem?_setIfInBounds_ne (Ne.symm this)
 simp only [World.cell?,this]
theorem zI {w:World}{g:Nat}{o o':Obj}(h:w.heap[g]? =some o):({ w with heap:=w.heap.setIfInBounds g o' }:World).heap[g]? =some o':=by
 have:=aV h
 simp [Array.getElem?_setIfInBounds,this]
theorem aGg {w:World}{g b:Nat}{o':Obj}(h:b≠g):({ w with heap:=w.heap.setIfInBounds g o' }:World).heap[b]? =w.heap[b]? :=Array.getElem?_setIfInBounds_ne (Ne.symm h)
theorem MapAt.set {w w':World}{ρ:Env}{kt:TypeId}{kD:κ->D}{kV:κ->Value}{ents:List (κ×SV)}{bs:List Nat}{clock:Nat}{es:Array MapEntry}(h:MapAt w ρ kD ents bs clock es.toList) (hK:KeyT P kt kD kV) {k:κ}{s:SV}{v:Value}(hr1:RepD w ρ.S (kD k) (kV k)) (hr2:Rep w ρ s v) (hk:cD ρ.S w w'):
  ∃(es':Array MapEntry) (bs':List Nat) (clock':Nat),MapAt w' ρ kD (wK ents k s) bs' clock' es'.toList/\
   ∀ (r : Nat) (w2 : World), (match rD es.toList (aBd ents k) with
   |some (i,_)=>do
    let key <-Instr.keyThatStays (((es[i]?).map λ(e:MapEntry)=>e.key).getD (kV k)) (kV k)
    setObj r (.map (es.modify i λe=>{ e with key,val:=v }) clock)
   |none=>setObj r (.map (es.push { key:=kV k,val:=v,born:=clock }) (clock+1))).run P w2=(setObj r (.map es' clock')).run P w2:=by
 have hkk:=h.keys hK
 have mono: ∀(i:Nat) (e:MapEntry) (p:κ×SV),es.toList[i]? =some e->ents[i]? =some p->RepD w' ρ.S (kD p.1) e.key/\Rep w' ρ p.2 e.val:= λi e p h1 h2=>
  ⟨(h.ent i e p h1 h2).1.mono hk λ_ _ x=>x,(h.ent i e p h1 h2).2.mono hk (λ_ _ x=>x) λid _=>ρ.moved_refl id⟩
 have nr1:RepD w' ρ.S (kD k) (kV k):=hr1.mono hk λ_ _ x=>x
 have nr2:Rep w' ρ s v:=hr2.mono hk (λ_ _ x=>x) λid _=>ρ.moved_refl id
 rw [aH2]
 cases hi:aBd ents k with
 |none=>
  refine⟨es.push { key:=kV k,val:=v,born:=clock },bs++[clock],clock+1,⟨?_, ?_, ?_, ?_, ?_⟩,λr w2=>rfl⟩
  ·simp [h.len]
  ·intro i e p he hp
   simp only [Array.toList_push]at he
   rcases Nat.lt_or_ge i ents.length with hl|hl
   ·rw [List.getElem?_append_left (by rw [h.len];exact hl)]at he
    rw [List.getElem?_append_left hl]at hp
    exact mono i e p he hp
   ·have:i=ents.length:=by
     have:=(List.getElem?_eq_some_iff.1 hp).1
     simp at this;omega
    subst this
    rw [List.getElem?_append_right (Nat.le_refl _)]at hp
    rw [<-h.len,List.getElem?_append_right (Nat.le_refl _)]at he
    simp at hp he
    subst hp;subst he
    exact⟨nr1,nr2⟩
  ·simp [h.born]
  ·intro b hb
   rcases List.mem_append.1 hb with hb|hb
   ·have:=h.lt b hb;omega
   ·simp at hb;omega
  ·rw [List.nodup_append]
   exact⟨h.nd,by simp,λa ha b hb=>by simp at hb;have:=h.lt a ha;omega⟩
 |some i=>
  have hil:i < ents.length:=by have:=aNe hi;simpa [aBd]using this
  have hil':i < es.toList.length:=by rw [h.len];exact hil
  have hil2:i < es.size:=by simpa using hil'
  have hke:ents[i].1=k:=by
   rw [aBd,List.findIdx?_eq_some_iff_getElem]at hi
   obtain⟨_,h2,_⟩:=hi
   have:=of_decide_eq_true h2
   rw [List.getElem_map]at this
   exact this.symm
  have hkey:es[i].key=kV k:=by
   have h1:(es.toList.map (·.key))[i]? =((ents.map (·.1)).map kV)[i]? :=by rw [hkk]
   simp only [List.getElem?_map,List.getElem?_eq_getElem hil',List.getElem?_eq_getElem hil,Option.map_some,Option.some.injEq]at h1
   rw [<-hke,<-h1];simp
  refine⟨es.modify i λe=>{ e with key:=kV k,val:=v },bs,clock,⟨?_, ?_, ?_,h.lt,h.nd⟩,λr w2=> ?_⟩
  ·simp [h.len]
  ·intro j e p he hp
   simp only [Array.toList_modify,List.getElem?_modify]at he
   rw [List.getElem?_modify]at hp
   by_cases hj:i=j
   ·subst hj
    rw [List.getElem?_eq_getElem hil']at he
    rw [List.getElem?_eq_getElem hil]at hp
    simp only [Option.map_eq_map,Option.map_some,Option.some.injEq,if_true]at he hp
    subst he;subst hp
    dsimp only
    rw [hke]
    exact⟨nr1,nr2⟩
   ·simp only [hj,if_false,Option.map_eq_map,Option.map_id_fun',id]at he hp
    exact mono j e p he hp
  ·rw [<-h.born]
   apply List.ext_getElem?
   intro j
   simp only [Array.toList_modify,List.getElem?_map,List.getElem?_modify]
   by_cases hj:i=j
   ·subst hj;simp only [if_true,Option.map_map];cases es.toList[i]?<;>rfl
   ·simp [hj]
  ·have:es[i]? =some es[i]:=Array.getElem?_eq_getElem hil2
   have hmf:rD es.toList (some i)=some (i,es.toList[i].val):=by rw [rD,Option.bind_some,List.getElem?_eq_getElem hil',Option.map_some]
   rw [hmf]
   simp only [Option.bind_some,List.getElem?_eq_getElem hil',Option.map_some,this,Option.getD_some,hkey,Instr.keyThatStays,hK.bits,if_true,Sem.run_bind,Sem.run_pure,Result.andThen_ok]
theorem nD {o:Oper}{t kt e:TypeId}{x y u:Operand}(ho:o.op= .mapUpdate t x y u\/o.op= .insert t x y u) (ht:aTc P t=some (kt,e)) {kD:κ->D}{kV:κ->Value}(hK:KeyT P kt kD kV)
  {pin:Pin} {fr:Fr} {hp:Hp} {K:SV->Hp->Prop} {id:Nat} {ents:List (κ×SV)} {bs:List Nat} {clock:Nat} (hx:evO fr x=some (.xv id nK)) (hg:aN hp id=some (.ext (yJ kD ents bs clock)))
  {k:κ} (hy:evO fr y=some (.d (kD k))) {s:SV} (hu:evO fr u=some s) (hk: ∀bs' clock',K (.d (.lit undef)) (dU hp id (.ext (yJ kD (wK ents k s) bs' clock')))):aQ P o pin fr hp K:=by
 intro E ρ a w hpin hm hf next Q hn
 obtain⟨g,b1,e1,_⟩:=(aR hf hx).xv_inv
 have e2:RepD w ρ.S (kD k) (a.eval y):=by
  cases aR hf hy with
  |d _ _ h=>exact h
 have e2':=hK.rep e2
 have e3:=aR hf hu
 obtain⟨g',ob,c1,c2,⟨es,rfl,hM⟩,c4⟩:=hm.sat id _ hg
 have:g'=g:=by
  have c1':ρ.blk id=some g':=c1
  rw [b1]at c1';injection c1' with c1';exact c1'.symm
 subst this
 have hkeeps: ∀o',cD ρ.S w { w with heap:=w.heap.setIfInBounds g' o' }:= λo'=>aQk c4
 obtain⟨es',bs',clock',hM',hrun'⟩:=hM.set hK (k:=k) (s:=s) (v:=a.eval u) (by rw [<-e2'];exact e2) e3 (hkeeps (.map #[] 0))
 have hM2:MapAt { w with heap:=w.heap.setIfInBounds g' (.map es' clock') } ρ kD (wK ents k s) bs' clock' es'.toList:=by
  refine⟨hM'.len,λi e p he hp=> ?_,hM'.born,hM'.lt,hM'.nd⟩
  obtain⟨h1,h2⟩:=hM'.ent i e p he hp
  have hkk:cD ρ.S { w with heap:=w.heap.setIfInBounds g' (.map #[] 0) } { w with heap:=w.heap.setIfInBounds g' (.map es' clock') }:= λb i hb=>(hkeeps _ b i hb).trans (hkeeps _ b i hb).symm
  exact⟨h1.mono hkk λ_ _ x=>x,h2.mono hkk (λ_ _ x=>x) λid _=>ρ.moved_refl id⟩
 have hrun:(execOp a.eval o).run P w= .ok .skip { w with heap:=w.heap.setIfInBounds g' (.map es' clock') }:=by
  have h1:=hrun' g' w
  have h2:(setObj g' (.map es' clock')).run P w= .ok () { w with heap:=w.heap.setIfInBounds g' (.map es' clock') }:=aIs _ c2
  rw [h2]at h1
  rcases ho with ho|ho<;>
  ·simp only [execOp,ho,Instr.mapUpdate,Sem.run_bind,run_underlying (wO ht),Result.andThen_ok,e1,e2',nK,gY c2,hK.chk,hM.found hK,Sem.run_pure]
   exact congrArg (λr:Result Unit=>r.andThen λ_ w'=>Result.ok Next.skip w') h1
 obtain⟨s1,s2⟩:=hm.setExt (X':=yJ kD (wK ents k s) bs' clock') (w':={ w with heap:=w.heap.setIfInBounds g' (.map es' clock') }) hg b1 rfl rfl (.refl _) (by simp) (λb _ hb=>aGg hb) (zI c2) ⟨es',rfl,hM2⟩
 exact aAf hrun (hn _ _ ρ _ _ (hk bs' clock') s1 (hf.mono s2 (λ_ _ x=>x) λi _=>ρ.moved_refl i) (.d _ _ (.lit _)))
theorem MapAt.del {w w':World}{ρ:Env}{kt:TypeId}{kD:κ->D}{kV:κ->Value}{ents:List (κ×SV)}{bs:List Nat}{clock:Nat}{es:Array MapEntry}(h:MapAt w ρ kD ents bs clock es.toList) (_hK:KeyT P kt kD kV) {k:κ}(hk:cD ρ.S w w'):
  ∃(es':Array MapEntry) (bs':List Nat),MapAt w' ρ kD (aWg ents k) bs' clock es'.toList/\
   ∀ (r : Nat) (w2 : World), (match rD es.toList (aBd ents k) with
   |some (i,_)=>setObj r (.map (es.eraseIdxIfInBounds i) clock)
   |none=>setObj r (.map es clock)).run P w2=(setObj r (.map es' clock)).run P w2:=by
 have mono: ∀(i:Nat) (e:MapEntry) (p:κ×SV),es.toList[i]? =some e->ents[i]? =some p->RepD w' ρ.S (kD p.1) e.key/\Rep w' ρ p.2 e.val:= λi e p h1 h2=>
  ⟨(h.ent i e p h1 h2).1.mono hk λ_ _ x=>x,(h.ent i e p h1 h2).2.mono hk (λ_ _ x=>x) λid _=>ρ.moved_refl id⟩
 rw [aH8]
 cases hi:aBd ents k with
 |none=>exact⟨es,bs,⟨h.len,mono,h.born,h.lt,h.nd⟩,λr w2=>rfl⟩
 |some i=>
  have hil:i < ents.length:=by have:=aNe hi;simpa [aBd]using this
  have hil':i < es.toList.length:=by rw [h.len];exact hil
  have hil2:i < es.size:=by simpa using hil'
  have hel:(es.eraseIdxIfInBounds i).toList=es.toList.eraseIdx i:=by
   simp [Array.eraseIdxIfInBounds,hil2]
  refine⟨es.eraseIdxIfInBounds i,bs.eraseIdx i,⟨?_, ?_, ?_, ?_, ?_⟩,λr w2=> ?_⟩
  ·rw [hel];simp [List.length_eraseIdx,h.len,hil]
  ·intro j e p he hp
   rw [hel,List.getElem?_eraseIdx]at he
   rw [List.getElem?_eraseIdx]at hp
   split at he
   ·rename_i hj;rw [if_pos hj]at hp;exact mono j e p he hp
   ·rename_i hj;rw [if_neg hj]at hp;exact mono _ e p he hp
  ·rw [hel,<-h.born]
   apply List.ext_getElem?
   intro j
   simp only [List.getElem?_map,List.getElem?_eraseIdx]
   split<;>rfl
  ·exact λb hb=>h.lt b (List.mem_of_mem_eraseIdx hb)
  ·exact h.nd.sublist (List.eraseIdx_sublist ..)
  ·have hmf:rD es.toList (some i)=some (i,es.toList[i].val):=by rw [rD,Option.bind_some,List.getElem?_eq_getElem hil',Option.map_some]
   rw [hmf]
def aFc:Nat->Value:= λg=> .pointer (some ⟨g,0,none⟩)
def aBh (mid:Nat) (bs:List Nat) (clock:Nat) (vis:List Nat):ExtO where
 ids:=[mid]
 sat:= λ_ ρ o=>(∀i∈vis,i < bs.length)/\ ∃g,ρ.blk mid=some g/\o= .mapIter (some g) clock (vis.map λi=>bs.getD i 0).toArray clock
 keep:=by
  rintro w w' ρ ρ' o hk hs hm ⟨h0,g,h1,h2⟩
  exact⟨h0,g,((hm mid (by simp)).1).trans h1,h2⟩
 nd:=by
  rintro w ρ x ⟨_,g,_,h⟩
  cases h
theorem aCj {o:Oper}{t kt e:TypeId}{x:Operand}(ho:o.op= .range t x) (ht:aTc P t=some (kt,e)) {kD:κ->D}{pin:Pin}{fr:Fr}{hp:Hp}{K:SV->Hp->Prop}{id:Nat}{ents:List (κ×SV)}{bs:List Nat}{clock:Nat}
  (hx:evO fr x=some (.xv id nK)) (hg:aN hp id=some (.ext (yJ kD ents bs clock))) (it:Nat) (hfr:eN it pin fr hp) (hk:K (.xv it aFc) ((it, .ext (aBh id bs clock []))::hp)):aQ P o pin fr hp K:=by
 intro E ρ a w hpin hm hf next Q hn
 obtain⟨f1,f2,f3⟩:=hfr
 obtain⟨g,b1,e1,_⟩:=(aR hf hx).xv_inv
 obtain⟨g',ob,c1,c2,⟨es,rfl,hM⟩,c4⟩:=hm.sat id _ hg
 have:g'=g:=by
  have c1':ρ.blk id=some g':=c1
  rw [b1]at c1';injection c1' with c1';exact c1'.symm
 subst this
 have hne:id≠it:= λe=>f3 (by subst e;exact bJ hg (.inl rfl))
 have hrun:(execOp a.eval o).run P w= .ok (.value (.pointer (some ⟨w.heap.size,0,none⟩))) (w.alloc (.mapIter (some g') clock #[] clock)):=by
  simp [execOp,ho,Instr.range,run_underlying (wO ht),e1,nK,gY c2]
 have hgr:Grew w (w.alloc (.mapIter (some g') clock #[] clock)):=Grew.alloc w _
 obtain⟨s1,s2,s3⟩:=hm.newObj (id:=it) (b:=some w.heap.size) (n:=0) (v:=undef) (o:= .ext (aBh id bs clock [])) f3 (by rw [hpin];exact f1) hgr (λh=>h)
  ⟨w.heap.size, _, by simp [Env.upd3], by simp only [World.alloc]; simp, ⟨by simp, g', by simp [Env.upd3, hne, b1], rfl⟩, by
   intro i hi
   have:=hm.slt _ _ (show ρ.S w.heap.size i from hi)
   omega⟩
  (λg hg' => by
   simp only [Env.at,Env.upd3,if_true,Option.some.injEq]at hg'
   subst hg';exact hm.free_new (Nat.le_refl _))
 exact bU hrun (hn _ _ _ _ _ hk s1 (hf.mono s2 (λ_ _ x=>x) λi hi=>s3 i λe=>f2 (e ▸ hi)) (.xv it aFc _ (by simp [Env.upd3]) rfl))
theorem aQ7 {ev:Operand->Value}{o:Oper}{x:Operand}(ho:o.op= .next x false) {r m clock:Nat}{seen:Array Nat}{es:Array MapEntry}{w:World}(ex:ev x= .pointer (some ⟨r,0,none⟩)) (hr:w.heap[r]? =some (.mapIter (some m) clock seen clock))
  (hm:w.heap[m]? =some (.map es clock)) (hlt: ∀e∈es,e.born < clock):
  ((∀e∈es,seen.contains e.born=true)/\(execOp ev o).run P w= .ok (.value (.tuple #[.bool false])) w)\/
  (∃(e:MapEntry) (w0:World),e∈es/\seen.contains e.born=false/\(w0=w\/w0=w.drew)/\(execOp ev o).run P w= .ok (.value (.tuple #[.bool true,e.key,e.val])) { w0 with heap:=w0.heap.setIfInBounds r (.mapIter (some m) clock (seen.push e.born) clock) }):=by
 have g1:(getObj r).run P w= .ok (.mapIter (some m) clock seen clock) w:=by simp [getObj,Sem.run,hr]
 have g2:(getObj m).run P w= .ok (.map es clock) w:=gY hm
 have hall:(!seen.isEmpty && !es.isEmpty && es.all (λe=>decide (e.born>=clock)))=false:=by
  rw [Bool.eq_false_iff]
  intro h
  simp only [Bool.and_eq_true,Bool.not_eq_true']at h
  obtain⟨⟨_,h2⟩,h3⟩:=h
  have hsz:0 < es.size:=by
   rcases Nat.eq_zero_or_pos es.size with h|h
   ·rw [Array.isEmpty]at h2;simp [h]at h2
   ·exact h
  have h4:=(Array.all_eq_true'.1 h3) es[0] (by simp)
  have h5:=hlt es[0] (by simp)
  simp at h4
  omega
 obtain⟨left,hleft⟩: ∃l:Array MapEntry,l=es.filter λe=> !seen.contains e.born:=⟨_,rfl⟩
 have hlm: ∀e∈left,e∈es/\seen.contains e.born=false:=by
  intro e he
  rw [hleft,Array.mem_filter]at he
  exact⟨he.1,by simpa using he.2⟩
 have hold:left.filter (λe=>decide (e.born < clock))=left:=by
  rw [Array.filter_eq_self]
  intro e he
  simpa using hlt e (hlm e he).1
 have hnew:left.filter (λe=>decide (e.born>=clock))= #[]:=by
  rw [Array.filter_eq_empty_iff]
  intro e he
  have:=hlt e (hlm e he).1
  simp;omega
 have hrun : (execOp ev o).run P w = ((choose (.mapNext ((if left.isEmpty then #[none] else #[]) ++ left.map some).size) >>= λi => (match ((if left.isEmpty then #[none] else #[]) ++ left.map some)[i]? with
   |some (some e)=>do
    setObj r (.mapIter (some m) clock (seen.push e.born) clock)
    pure (.tuple #[.bool true,e.key,e.val])
   |some none=>pure (.tuple #[.bool false])
   |none=>stuck "Next: no such candidate"))>>= λv=>pure (Next.value v)).run P w:=by
  simp only [execOp,ho,ex,Instr.next,Sem.run_bind,g1,Result.andThen_ok,g2,hall,Bool.false_eq_true,if_false,<-hleft,hold,hnew,Array.append_empty]
  rfl
 rcases Nat.eq_zero_or_pos left.size with h0|h0
 ·have hl:left= #[]:=Array.size_eq_zero_iff.1 h0
  refine .inl ⟨λe he=> ?_, ?_⟩
  ·rw [hl]at hleft
   have:=(Array.filter_eq_empty_iff.1 hleft.symm) e he
   simpa using this
  ·rw [hrun,hl]
   simp [Question.forced]
 ·have hne:left.isEmpty=false:=by rw [Array.isEmpty];exact decide_eq_false (by omega)
  rw [hne]at hrun
  simp only [Bool.false_eq_true,if_false,Array.empty_append,Array.size_map]at hrun
  have key: ∀(j:Nat) (w0:World),j < left.size->(w0=w\/w0=w.drew)->(choose (.mapNext left.size)).run P w= .ok j w0->
    ∃(e:MapEntry) (w0:World),e∈es/\seen.contains e.born=false/\(w0=w\/w0=w.drew)/\(execOp ev o).run P w= .ok (.value (.tuple #[.bool true,e.key,e.val])) { w0 with heap:=w0.heap.setIfInBounds r (.mapIter (some m) clock (seen.push e.born) clock) }:=by
   intro j w0 hj hw0 hc
   obtain⟨h1,h2⟩:=hlm left[j] (Array.getElem_mem hj)
   refine⟨left[j],w0,h1,h2,hw0, ?_⟩
   rw [hrun]
   have hr0:w0.heap[r]? =some (.mapIter (some m) clock seen clock):=by
    rcases hw0 with rfl|rfl
    ·exact hr
    ·exact hr
   have hs:(setObj r (.mapIter (some m) clock (seen.push left[j].born) clock)).run P w0= .ok () { w0 with heap:=w0.heap.setIfInBounds r (.mapIter (some m) clock (seen.push left[j].born) clock) }:=by
    simp [setObj,Sem.run,hr0]
   have hg:(left.map some)[j]? =some (some left[j]):=by simp [hj]
   simp only [Sem.run_bind,hc,Result.andThen_ok,hg,hs,Sem.run_pure]
  refine .inr ?_
  by_cases hf:left.size<=1
  ·exact key 0 w h0 (.inl rfl) (by simp [Question.forced,hf])
  ·exact key (w.tape w.drawn (.mapNext left.size) % left.size) w.drew (Nat.mod_lt _ h0) (.inr rfl) (by simp [Question.forced,hf,Question.cut])
theorem aH0 {o:Oper}{x:Operand}(ho:o.op= .next x false) {kD:κ->D}{pin:Pin}{fr:Fr}{hp:Hp}{K:SV->Hp->Prop}{it id:Nat}{ents:List (κ×SV)}{bs vis:List Nat}{clock:Nat}
  (hx:evO fr x=some (.xv it aFc)) (hi:aN hp it=some (.ext (aBh id bs clock vis))) (hg:aN hp id=some (.ext (yJ kD ents bs clock)))
  (hover:(∀i,i < ents.length->i∈vis)->K (.tup [.d (.bool false)]) hp)
  (hstep: ∀(i:Nat) (p:κ×SV),ents[i]? =some p->i∉vis->K (.tup [.d (.bool true), .d (kD p.1),p.2]) (dU hp it (.ext (aBh id bs clock (vis++[i]))))):aQ P o pin fr hp K:=by
 intro E ρ a w hpin hm hf next Q hn
 obtain⟨gi,b1,e1,_⟩:=(aR hf hx).xv_inv
 obtain⟨gi',ob,c1,c2,⟨hv,g,d1,rfl⟩,c4⟩:=hm.sat it _ hi
 have:gi'=gi:=by
  have c1':ρ.blk it=some gi':=c1
  rw [b1]at c1';injection c1' with c1';exact c1'.symm
 subst this
 obtain⟨g',ob,k1,k2,⟨es,rfl,hM⟩,k4⟩:=hm.sat id _ hg
 have:g'=g:=by
  have c1':ρ.blk id=some g':=k1
  rw [d1]at c1';injection c1' with c1';exact c1'.symm
 subst this
 have hbl:bs.length=ents.length:=by rw [<-hM.born,List.length_map,hM.len]
 have hborn: ∀(i:Nat) (hi:i < es.size),bs.getD i 0=es[i].born:=by
  intro i hil
  have h1:i < es.toList.length:=by simpa using hil
  rw [<-hM.born,List.getD,List.getElem?_map,List.getElem?_eq_getElem h1];simp
 have hesz:es.size=ents.length:=by rw [<-Array.length_toList,hM.len]
 have hlt: ∀e∈es,e.born < clock:= λe he=>hM.lt _ (by rw [<-hM.born];exact List.mem_map_of_mem (by simpa using he))
 have hin: ∀(i:Nat) (hi:i < es.size),(vis.map λi=>bs.getD i 0).toArray.contains es[i].born=true↔i∈vis:=by
  intro i hil
  rw [Array.contains_iff_mem]
  simp only [List.mem_toArray,List.mem_map]
  constructor
  ·rintro⟨j,hj,hej⟩
   have hjl:=hv j hj
   rw [<-hborn i hil]at hej
   rw [List.getD,List.getD,List.getElem?_eq_getElem hjl,List.getElem?_eq_getElem (by omega)]at hej
   have:j=i:=(List.getElem_inj hM.nd).1 (by simpa using hej)
   exact this ▸ hj
  ·exact λh=>⟨i,h,hborn i hil⟩
 rcases aQ7 (P:=P) (ev:=a.eval) ho (by rw [e1];rfl) c2 k2 hlt with⟨h1,h2⟩|⟨e,w0,h1,h2,h3,h4⟩
 ·refine bU h2 (hn _ _ ρ _ _ (hover λi hil=> ?_) hm hf (.tup _ _ rfl ?_))
  ·have hil':i < es.size:=by omega
   exact(hin i hil').1 (h1 _ (Array.getElem_mem hil'))
  ·intro j s v hs hv
   match j,hs,hv with
   | 0,hs,hv=>simp at hs hv;subst hs;subst hv;exact .d _ _ (.bool _)
   |j+1,hs,_=>simp at hs
 ·obtain⟨i,hil,rfl⟩:=Array.mem_iff_getElem.1 h1
  have hil2:i < ents.length:=by omega
  have hil3:i < es.toList.length:=by simpa using hil
  have hni:i∉vis:= λh=>by rw [(hin i hil).2 h]at h2;cases h2
  have hw0:w0.heap=w.heap:=by rcases h3 with rfl|rfl<;>rfl
  have hout:aKg w0 w:=by
   rcases h3 with rfl|rfl
   ·exact .refl _
   ·exact⟨rfl,Nat.le_succ _⟩
  have hos:w0.os=w.os/\w0.tape=w.tape:=by rcases h3 with rfl|rfl<;>exact⟨rfl,rfl⟩
  have c2':w0.heap[gi']? =some (.mapIter (some g') clock (vis.map λi=>bs.getD i 0).toArray clock):=by rw [hw0];exact c2
  obtain⟨r1,r2⟩:=hM.ent i _ _ (List.getElem?_eq_getElem hil3) (List.getElem?_eq_getElem hil2)
  obtain⟨s1,s2⟩:=hm.setExt (X':=aBh id bs clock (vis++[i])) (w':={ w0 with heap:=w0.heap.setIfInBounds gi' (.mapIter (some g') clock ((vis.map λi=>bs.getD i 0).toArray.push es[i].born) clock) }) hi b1
   hos.1 hos.2 ⟨hout.1, hout.2⟩ (by simp [hw0]) (λb _ hb => by rw [aGg hb, hw0]) (zI c2') ⟨λj hj => by
    rcases List.mem_append.1 hj with hj|hj
    ·exact hv j hj
    ·simp at hj;omega,g',d1,by rw [<-hborn i hil];simp⟩
  refine bU h4 (hn _ _ ρ _ _ (hstep i _ (List.getElem?_eq_getElem hil2) hni) s1 (hf.mono s2 (λ_ _ x=>x) λi _=>ρ.moved_refl i) (.tup _ _ rfl ?_))
  intro j s v hs hv
  match j,hs,hv with
  | 0,hs,hv=>simp at hs hv;subst hs;subst hv;exact .d _ _ (.bool _)
  | 1,hs,hv=>
   simp at hs hv;subst hs;subst hv
   exact .d _ _ (by simpa using r1.mono s2 λ_ _ x=>x)
  | 2,hs,hv=>
   simp at hs hv;subst hs;subst hv
   simpa using r2.mono s2 (λ_ _ x=>x) λid _=>ρ.moved_refl id
  |j+3,hs,_=>simp at hs
theorem aDg: ∀(es:List MapEntry) (i:Nat) (e:MapEntry),(es.map (·.born)).Nodup->es[i]? =some e->es.find? (λx=>x.born==e.born)=some e
 | [],_,_,_,h=>by simp at h
 |a::es,0,e,_,h=>by simp at h;subst h;simp
 |a::es,i+1,e,hn,h=>by
  rw [List.map_cons,List.nodup_cons]at hn
  have he:es[i]? =some e:=by simpa using h
  have hne:(a.born==e.born)=false:=by
   rw [beq_eq_false_iff_ne]
   intro q
   exact hn.1 (q ▸ List.mem_map_of_mem (List.mem_of_getElem? he))
  rw [List.find?_cons_of_neg (by simp [hne])]
  exact aDg es i e hn.2 he
theorem aDj {o:Oper}{x:Operand}(ho:o.op= .entry x) {kD:κ->D}{pin:Pin}{fr:Fr}{hp:Hp}{K:SV->Hp->Prop}{it id i:Nat}{ents:List (κ×SV)}{bs vis:List Nat}{clock:Nat}{p:κ×SV}
  (hx:evO fr x=some (.xv it aFc)) (hi:aN hp it=some (.ext (aBh id bs clock (vis++[i])))) (hg:aN hp id=some (.ext (yJ kD ents bs clock))) (hent:ents[i]? =some p) (hk:K (.tup [.d (kD p.1),p.2]) hp):aQ P o pin fr hp K:=by
 intro E ρ a w hpin hm hf next Q hn
 obtain⟨gi,b1,e1,_⟩:=(aR hf hx).xv_inv
 obtain⟨gi',ob,c1,c2,⟨hv,g,d1,rfl⟩,c4⟩:=hm.sat it _ hi
 have:gi'=gi:=by
  have c1':ρ.blk it=some gi':=c1
  rw [b1]at c1';injection c1' with c1';exact c1'.symm
 subst this
 obtain⟨g',ob,k1,k2,⟨es,rfl,hM⟩,k4⟩:=hm.sat id _ hg
 have:g'=g:=by
  have c1':ρ.blk id=some g':=k1
  rw [d1]at c1';injection c1' with c1';exact c1'.symm
 subst this
 have hil:i < ents.length:=(List.getElem?_eq_some_iff.1 hent).1
 have hil3:i < es.toList.length:=by rw [hM.len];exact hil
 obtain⟨e,he⟩: ∃e,es.toList[i]? =some e:=⟨_,List.getElem?_eq_getElem hil3⟩
 have hb:bs.getD i 0=e.born:=by rw [<-hM.born,List.getD,List.getElem?_map,he];rfl
 have hfind:es.find? (λx=>x.born==e.born)=some e:=by
  rw [<-Array.find?_toList]
  exact aDg _ i e (by rw [hM.born];exact hM.nd) he
 have hseen:(((vis++[i]).map λi=>bs.getD i 0).toArray).back?=some e.born:=by
  rw [List.map_append,List.map_cons,List.map_nil,hb];simp
 have hgi:(getObj gi').run P w= .ok (.mapIter (some g') clock ((vis++[i]).map λi=>bs.getD i 0).toArray clock) w:=by
  simp [getObj,Sem.run,c2]
 have hrun:(execOp a.eval o).run P w= .ok (.value (.tuple #[e.key,e.val])) w:=by
  simp only [execOp,ho,Instr.entry,e1,aFc,Sem.run_bind,hgi,Result.andThen_ok,hseen,gY k2,bne_self_eq_false,Bool.false_eq_true,if_false,hfind,Sem.run_pure]
 obtain⟨r1,r2⟩:=hM.ent i e p he hent
 refine bU hrun (hn _ _ ρ _ _ hk hm hf (.tup _ _ rfl ?_))
 intro j s v hs hv
 match j,hs,hv with
 | 0,hs,hv=>simp at hs hv;subst hs;subst hv;exact .d _ _ r1
 | 1,hs,hv=>simp at hs hv;subst hs;subst hv;exact r2
 |j+2,hs,_=>simp at hs
end
end Go.Proofs.YtbobcfjlbcgchaaGreatDoor
