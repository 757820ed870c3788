/-
  Maps as symbolic objects: made, read, written, emptied of a key, walked over.
  Conditions: none.
-/
import Derived.Test.YtdjfkmkdkclahaaGreatDoorWA7
set_option linter.unnecessarySimpa false
set_option linter.unusedSectionVars false
set_option linter.unusedSimpArgs false
set_option linter.unusedVariables false
namespace Go.Proofs.YtdjfkmkdkclahaaGreatDoor
open Go.RowKit
section
variable {P:Program} {κ:Type} [DecidableEq κ]
structure KeyT (P:Program) (kt:TypeId) (kD:κ->D) (kV:κ->Value):Prop where
 rep: ∀{w:World} {S:Nat->Nat->Prop} {k:κ} {v:Value},RepD w S (kD k) v->v=kV k
 chk: ∀(b:Bool) (k:κ) (w:World),(Instr.checkKey b 10000 kt (kV k)).run P w= .ok () w
 find: ∀(k:κ) (ks:List κ) (es:List MapEntry) (w:World),es.map (·.key)=ks.map kV->(Instr.findKey kt (kV k) es).run P w= .ok ((ks.findIdx? (λx=>decide (k=x))).bind λi=>(es[i]?).map λe=>(i,e.val)) w
 bits: ∀(k:κ),Instr.sameBits 10000 (kV k) (kV k)=true
theorem findIdx?_cons' {α:Type}(p:α->Bool) (x:α) (l:List α):(x::l).findIdx? p=if p x then some 0 else (l.findIdx? p).map (· +1):=by
 simp [List.findIdx?_cons]
theorem nC {kt:TypeDesc}{kV:κ->Value}(h: ∀k k',Instr.sameNow kt (kV k) (kV k')=some (decide (k=k'))) (k:κ): ∀(ks:List κ) (es:List MapEntry) (i:Nat),es.map (·.key)=ks.map kV->
  Instr.findNow kt (kV k) es i=some ((ks.findIdx? (λx=>decide (k=x))).bind λj=>(es[j]?).map λe=>(i+j,e.val))
 | [],[],_,_=>rfl
 | [],_::_,_,e=>by simp at e
 |_::_,[],_,e=>by simp at e
 |x::ks,e::es,i,he=>by
  simp only [List.map_cons,List.cons.injEq]at he
  rw [Instr.findNow,he.1,h k x,findIdx?_cons']
  by_cases hx:k=x
  ·simp [hx]
  ·simp only [hx,decide_false,Bool.false_eq_true,if_false]
   rw [nC h k ks es (i+1) he.2]
   cases ks.findIdx? (λx=>decide (k=x))with
   |none=>rfl
   |some j=>simp [Nat.add_assoc,Nat.add_comm 1 j]
theorem KeyT.now {kt:TypeId}{dk:TypeDesc}{kD:κ->D}{kV:κ->Value}(hu:P.underlying kt=some dk) (hrep: ∀{w:World}{S:Nat->Nat->Prop}{k:κ}{v:Value},RepD w S (kD k) v->v=kV k)
  (hs: ∀k k',Instr.sameNow dk (kV k) (kV k')=some (decide (k=k'))) (hc: ∀(b:Bool) (k:κ) (w:World),(Instr.checkKey b 10000 kt (kV k)).run P w= .ok () w) (hb: ∀k,Instr.sameBits 10000 (kV k) (kV k)=true):KeyT P kt kD kV:=
 ⟨hrep, hc, λk ks es w he => by
  rw [Instr.findKey]
  simp only [Sem.run_bind,run_underlying hu,Result.andThen_ok]
  rw [nC hs k ks es 0 he]
  simp,hb⟩
def aO5 (l:List UInt8):Value:= .string ⟨l.toArray⟩
theorem hU {kt:TypeId}(hu:P.underlying kt=some .string):KeyT P kt (λl=>D.str l) aO5:=
 .now hu (λh => by cases h; rfl) (λk k' => by
  simp only [Instr.sameNow,aO5,beq_toListBytes,gI,mM]) (λb k w=>by
  rw [Instr.checkKey]
  simp only [Sem.run_bind,run_underlying hu,Result.andThen_ok,aO5]
  rfl) (λk=>by simp [Instr.sameBits,aO5,beq_toListBytes,gI])
def sK {β:Type}:List (κ×β)->κ->Option β
 | [],_=>none
 |(k',s)::r,k=>if k=k' then some s else sK r k
def yA {β:Type}:List (κ×β)->κ->β->List (κ×β)
 | [],k,s=>[(k,s)]
 |(k',s')::r,k,s=>if k=k' then (k',s)::r else (k',s')::yA r k s
def aOe {β:Type}:List (κ×β)->κ->List (κ×β)
 | [],_=>[]
 |(k',s')::r,k=>if k=k' then r else (k',s')::aOe r k
def vO {β:Type}(l:List (κ×β)) (k:κ):Option Nat:=(l.map (λp=>p.1)).findIdx? (λx=>decide (k=x))
def lE (es:List MapEntry) (i:Option Nat):Option (Nat×Value):=i.bind λi=>(es[i]?).map λ(e:MapEntry)=>(i,e.val)
theorem aBo {β:Type}(k:κ): ∀(l:List (κ×β)),sK l k=(vO l k).bind λi=>(l[i]?).map (·.2)
 | []=>rfl
 |(k',s)::r=>by
  rw [sK,vO,List.map_cons,findIdx?_cons']
  by_cases h:k=k'
  ·simp [h]
  ·simp only [h,if_false,decide_false,Bool.false_eq_true]
   rw [aBo k r,vO]
   cases (r.map (λp=>p.1)).findIdx? (λx=>decide (k=x))<;>simp
theorem aBn {β:Type}(k:κ) (s:β): ∀(l:List (κ×β)),yA l k s=match vO l k with
  |some i=>l.modify i (λp=>(p.1,s))
  |none=>l++[(k,s)]
 | []=>rfl
 |(k',s')::r=>by
  rw [yA,vO,List.map_cons,findIdx?_cons']
  by_cases h:k=k'
  ·simp [h,List.modify_zero_cons]
  ·simp only [h,if_false,decide_false,Bool.false_eq_true]
   rw [aBn k s r,vO]
   cases (r.map (λp=>p.1)).findIdx? (λx=>decide (k=x))with
   |none=>rfl
   |some j=>simp [List.modify_succ_cons]
theorem aBp {β:Type}(k:κ): ∀(l:List (κ×β)),aOe l k=match vO l k with
  |some i=>l.eraseIdx i
  |none=>l
 | []=>rfl
 |(k',s')::r=>by
  rw [aOe,vO,List.map_cons,findIdx?_cons']
  by_cases h:k=k'
  ·simp [h]
  ·simp only [h,if_false,decide_false,Bool.false_eq_true]
   rw [aBp k r,vO]
   cases (r.map (λp=>p.1)).findIdx? (λx=>decide (k=x))with
   |none=>rfl
   |some j=>simp
def aOf (ents:List (κ×SV)):List Nat:=ents.flatMap λp=>p.2.ids
structure MapAt (w:World) (ρ:Env) (kD:κ->D) (ents:List (κ×SV)) (bs:List Nat) (clock:Nat) (es:List MapEntry):Prop where
 len:es.length=ents.length
 ent: ∀(i:Nat) (e:MapEntry) (p:κ×SV),es[i]? =some e->ents[i]? =some p->RepD w ρ.S (kD p.1) e.key/\Rep w ρ p.2 e.val
 born:es.map (·.born)=bs
 lt: ∀b∈bs,b < clock
 nd:bs.Nodup
def yB (kD:κ->D) (ents:List (κ×SV)) (bs:List Nat) (clock:Nat):ExtO where
 ids:=aOf ents
 sat:= λw ρ o=> ∃es:Array MapEntry,o= .map es clock/\MapAt w ρ kD ents bs clock es.toList
 keep:=by
  rintro w w' ρ ρ' o hk hs hm ⟨es,rfl,h⟩
  refine⟨es,rfl,h.len,λi e p he hp=> ?_,h.born,h.lt,h.nd⟩
  obtain⟨h1,h2⟩:=h.ent i e p he hp
  exact⟨h1.mono hk hs,h2.mono hk hs λid hid=>hm id (List.mem_flatMap.2 ⟨p,List.mem_of_getElem? hp,hid⟩)⟩
 nd:=by
  rintro w ρ x ⟨es,h,_⟩
  cases h
theorem mC {w:World}{r:Nat}{es:Array MapEntry}{clock:Nat}(hb:w.heap[r]? =some (.map es clock)):(getObj r).run P w= .ok (.map es clock) w:=by
 simp [getObj,Sem.run,hb]
theorem aCx {w:World}{r:Nat}{es:Array MapEntry}{clock:Nat}(o:Obj) (hb:w.heap[r]? =some (.map es clock)):(setObj r o).run P w= .ok () { w with heap:=w.heap.setIfInBounds r o }:=by
 simp [setObj,Sem.run,hb]
def aBq:Nat->Value:= λg=> .map (some g)
theorem MapAt.keys {w:World}{ρ:Env}{kt:TypeId}{kD:κ->D}{kV:κ->Value}{ents:List (κ×SV)}{bs:List Nat}{clock:Nat}{es:List MapEntry}(h:MapAt w ρ kD ents bs clock es) (hK:KeyT P kt kD kV):es.map (·.key)=(ents.map (·.1)).map kV:=by
 apply List.ext_getElem?
 intro i
 simp only [List.getElem?_map]
 rcases Nat.lt_or_ge i es.length with hi|hi
 ·have hi':i < ents.length:=h.len ▸ hi
  rw [List.getElem?_eq_getElem hi,List.getElem?_eq_getElem hi']
  simp only [Option.map_some,Option.some.injEq]
  exact hK.rep (h.ent i _ _ (List.getElem?_eq_getElem hi) (List.getElem?_eq_getElem hi')).1
 ·rw [List.getElem?_eq_none hi,List.getElem?_eq_none (by rw [<-h.len];exact hi)];rfl
theorem MapAt.found {w:World}{ρ:Env}{kt:TypeId}{kD:κ->D}{kV:κ->Value}{ents:List (κ×SV)}{bs:List Nat}{clock:Nat}{es:List MapEntry}(h:MapAt w ρ kD ents bs clock es) (hK:KeyT P kt kD kV) (k:κ) (w':World):
  (Instr.findKey kt (kV k) es).run P w'= .ok (lE es (vO ents k)) w':=hK.find k _ es w' (h.keys hK)
theorem aFz {l:List κ}{p:κ->Bool}{i:Nat}(h:l.findIdx? p=some i):i < l.length:=by
 rw [List.findIdx?_eq_some_iff_getElem]at h
 exact h.1
def aNg (P:Program) (t:TypeId):Option (TypeId×TypeId):=match P.underlying t with|some (.map k e)=>some (k,e)|_=>none
theorem aAc {t k e:TypeId}(h:aNg P t=some (k,e)):P.underlying t=some (.map k e):=by
 unfold aNg at h
 split at h
 ·injection h with h;injection h with h1 h2;subst h1;subst h2;assumption
 ·cases h
theorem vP {o:Oper}{t k e:TypeId}(ho:o.op= .makeMap t none) (_ht:aNg P t=some (k,e)) (kD:κ->D) {pin:Pin}{fr:Fr}{hp:Hp}{K:SV->Hp->Prop}(id:Nat) (hfr:fA id pin fr hp)
  (hk:K (.xv id aBq) ((id, .ext (yB kD [] [] 0))::hp)):aP P o pin fr hp K:=by
 intro E ρ a w hpin hm hf next Q hn
 obtain⟨f1,f2,f3⟩:=hfr
 have hrun:(execOp a.eval o).run P w= .ok (.value (.map (some w.heap.size))) (w.alloc (.map #[] 0)):=by
  simp [execOp,ho,Instr.makeMap]
 have hg:Grew w (w.alloc (.map #[] 0)):=Grew.alloc w _
 obtain⟨s1,s2,s3⟩:=hm.newObj (id:=id) (b:=some w.heap.size) (n:=0) (v:=undef) (o:= .ext (yB kD [] [] 0)) f3 (by rw [hpin];exact f1) hg (λh=>h)
  ⟨w.heap.size, _, by simp [Env.upd3], by simp only [World.alloc]; simp, ⟨#[], rfl, ⟨rfl, by simp, rfl, by simp, .nil⟩⟩, by
   intro i hi
   have:=hm.slt _ _ (show ρ.S w.heap.size i from hi)
   omega⟩
  (λg hg' => by
   simp only [Env.at,Env.upd3,if_true,Option.some.injEq]at hg'
   subst hg';exact hm.free_new (Nat.le_refl _))
 exact bN hrun (hn _ _ _ _ _ hk s1 (hf.mono s2 (λ_ _ x=>x) λi hi=>s3 i λe=>f2 (e ▸ hi)) (.xv id aBq _ (by simp [Env.upd3]) rfl))
def aDx (P:Program) (e:TypeId):Option Value:=(P.info? e).bind (·.zero)
theorem aCw {e:TypeId}{z:Value}(h:aDx P e=some z) (w:World):(zeroValue e).run P w= .ok z w:=by
 unfold aDx at h
 cases hi:P.info? e with
 |none=>rw [hi]at h;cases h
 |some i=>
  rw [hi]at h
  have h:i.zero=some z:=h
  simp [zeroValue,typeInfo,hi,h]
def aAd (ok:Bool) (r:Option SV) (z:SV):SV:=match ok with
 |true=> .tup [match r with|some s=>s|none=>z, .d (.bool (match r with|some _=>true|none=>false))]
 |false=>match r with|some s=>s|none=>z
theorem jO {o:Oper}{t kt e:TypeId}{x y:Operand}{ok:Bool}(ho:o.op= .lookup t x y ok) (ht:aNg P t=some (kt,e)) {kD:κ->D}{kV:κ->Value}(hK:KeyT P kt kD kV) {z:Value}(hz:aDx P e=some z)
  {fr:Fr} {hp:Hp} {K:SV->Prop} {id:Nat} {ents:List (κ×SV)} {bs:List Nat} {clock:Nat} (hx:evO fr x=some (.xv id aBq)) (hg:aM hp id=some (.ext (yB kD ents bs clock)))
  {k:κ} (hy:evO fr y=some (.d (kD k))) (hk:K (aAd ok (sK ents k) (ofV z))):bO P o fr hp K:=by
 intro E ρ a w hm hf
 obtain⟨g,b1,e1,_⟩:=(aR hf hx).xv_inv
 have e2:a.eval y=kV k:=by
  cases aR hf hy with
  |d _ _ h=>exact hK.rep h
 obtain⟨g',ob,c1,c2,⟨es,rfl,hM⟩,c4⟩:=hm.sat id _ hg
 have:g'=g:=by
  have c1':ρ.blk id=some g':=c1
  rw [b1]at c1';injection c1' with c1';exact c1'.symm
 subst this
 have hfind:=hM.found hK k
 rw [aBo]at hk
 have hbm: ∀w',Kept ρ hp w w'->w'.heap[g']? =some (.map es clock):= λw' hw'=>(hw'.o id _ g' hg b1).trans c2
 cases hi:vO ents k with
 |none=>
  refine⟨if ok then .tuple #[z, .bool false]else z,aAd ok none (ofV z),λw' hw'=> ?_, ?_,by rw [hi]at hk;exact hk⟩
  ·simp only [execOp,ho,Instr.lookup,Sem.run_bind,run_underlying (aAc ht),Result.andThen_ok,e1,e2,aBq,mC (hbm w' hw'),hK.chk,Sem.run_pure,hfind,hi,lE,Option.bind_none,aCw hz]
  ·cases ok
   ·exact aA7 w ρ z
   ·refine .tup _ _ rfl ?_
    intro j s v hs hv
    match j,hs,hv with
    | 0,hs,hv=>simp at hs hv;subst hs;subst hv;exact aA7 w ρ z
    | 1,hs,hv=>simp at hs hv;subst hs;subst hv;exact .d _ _ (.bool _)
    |j+2,hs,_=>simp at hs
 |some i=>
  have hil:i < ents.length:=by have:=aFz hi;simpa [vO]using this
  have hil':i < es.toList.length:=by rw [hM.len];exact hil
  have he:=List.getElem?_eq_getElem hil'
  have hp2:=List.getElem?_eq_getElem hil
  obtain⟨r1,r2⟩:=hM.ent i _ _ he hp2
  have hk':K (aAd ok (some ents[i].2) (ofV z)):=by rw [hi]at hk;simpa [hp2]using hk
  refine⟨if ok then .tuple #[es.toList[i].val, .bool true]else es.toList[i].val,_,λw' hw'=> ?_, ?_,hk'⟩
  ·simp only [execOp,ho,Instr.lookup,Sem.run_bind,run_underlying (aAc ht),Result.andThen_ok,e1,e2,aBq,mC (hbm w' hw'),hK.chk,Sem.run_pure,hfind,hi,lE,Option.bind_some,he,Option.map_some]
  ·cases ok
   ·exact r2
   ·refine .tup _ _ rfl ?_
    intro j s v hs hv
    match j,hs,hv with
    | 0,hs,hv=>simp at hs hv;subst hs;subst hv;exact r2
    | 1,hs,hv=>simp at hs hv;subst hs;subst hv;exact .d _ _ (.bool _)
    |j+2,hs,_=>simp at hs
theorem aIu {w:World}{S:Nat->Nat->Prop}{g:Nat}{o:Obj}(h: ∀i,¬ S g i):bL S w { w with heap:=w.heap.setIfInBounds g o }:=by
 intro b i hb
 have:b≠g:= λe=>h i (e ▸ hb)
 have:({ w with heap:=w.heap.setIfInBounds g o }:World).heap[b]? =w.heap[b]? :=Array.getElem?_setIfInBounds_ne (Ne.symm this)
 simp only [World.cell?,this]
theorem aCv {w:World}{g:Nat}{o o':Obj}(h:w.heap[g]? =some o):({ w with heap:=w.heap.setIfInBounds g o' }:World).heap[g]? =some o':=by
 have:=aW h
 simp [Array.getElem?_setIfInBounds,this]
theorem aI0 {w:World}{g b:Nat}{o':Obj}(h:b≠g):({ w with heap:=w.heap.setIfInBounds g o' }:World).heap[b]? =w.heap[b]? :=Array.getElem?_setIfInBounds_ne (Ne.symm h)
theorem MapAt.set {w w':World}{ρ:Env}{kt:TypeId}{kD:κ->D}{kV:κ->Value}{ents:List (κ×SV)}{bs:List Nat}{clock:Nat}{es:Array MapEntry}(h:MapAt w ρ kD ents bs clock es.toList) (hK:KeyT P kt kD kV) {k:κ}{s:SV}{v:Value}(hr1:RepD w ρ.S (kD k) (kV k)) (hr2:Rep w ρ s v) (hk:bL ρ.S w w'):
  ∃(es':Array MapEntry) (bs':List Nat) (clock':Nat),MapAt w' ρ kD (yA ents k s) bs' clock' es'.toList/\
   ∀ (r : Nat) (w2 : World), (match lE es.toList (vO ents k) with
   |some (i,_)=>do
    let key <-Instr.keyThatStays (((es[i]?).map λ(e:MapEntry)=>e.key).getD (kV k)) (kV k)
    setObj r (.map (es.modify i λe=>{ e with key,val:=v }) clock)
   |none=>setObj r (.map (es.push { key:=kV k,val:=v,born:=clock }) (clock+1))).run P w2=(setObj r (.map es' clock')).run P w2:=by
 have hkk:=h.keys hK
 have mono: ∀(i:Nat) (e:MapEntry) (p:κ×SV),es.toList[i]? =some e->ents[i]? =some p->RepD w' ρ.S (kD p.1) e.key/\Rep w' ρ p.2 e.val:= λi e p h1 h2=>
  ⟨(h.ent i e p h1 h2).1.mono hk λ_ _ x=>x,(h.ent i e p h1 h2).2.mono hk (λ_ _ x=>x) λid _=>ρ.moved_refl id⟩
 have nr1:RepD w' ρ.S (kD k) (kV k):=hr1.mono hk λ_ _ x=>x
 have nr2:Rep w' ρ s v:=hr2.mono hk (λ_ _ x=>x) λid _=>ρ.moved_refl id
 rw [aBn]
 cases hi:vO ents k with
 |none=>
  refine⟨es.push { key:=kV k,val:=v,born:=clock },bs++[clock],clock+1,⟨?_, ?_, ?_, ?_, ?_⟩,λr w2=>rfl⟩
  ·simp [h.len]
  ·intro i e p he hp
   simp only [Array.toList_push]at he
   rcases Nat.lt_or_ge i ents.length with hl|hl
   ·rw [List.getElem?_append_left (by rw [h.len];exact hl)]at he
    rw [List.getElem?_append_left hl]at hp
    exact mono i e p he hp
   ·have:i=ents.length:=by
     have:=(List.getElem?_eq_some_iff.1 hp).1
     simp at this;omega
    subst this
    rw [List.getElem?_append_right (Nat.le_refl _)]at hp
    rw [<-h.len,List.getElem?_append_right (Nat.le_refl _)]at he
    simp at hp he
    subst hp;subst he
    exact⟨nr1,nr2⟩
  ·simp [h.born]
  ·intro b hb
   rcases List.mem_append.1 hb with hb|hb
   ·have:=h.lt b hb;omega
   ·simp at hb;omega
  ·rw [List.nodup_append]
   exact⟨h.nd,by simp,λa ha b hb=>by simp at hb;have:=h.lt a ha;omega⟩
 |some i=>
  have hil:i < ents.length:=by have:=aFz hi;simpa [vO]using this
  have hil':i < es.toList.length:=by rw [h.len];exact hil
  have hil2:i < es.size:=by simpa using hil'
  have hke:ents[i].1=k:=by
   rw [vO,List.findIdx?_eq_some_iff_getElem]at hi
   obtain⟨_,h2,_⟩:=hi
   have:=of_decide_eq_true h2
   rw [List.getElem_map]at this
   exact this.symm
  have hkey:es[i].key=kV k:=by
   have h1:(es.toList.map (·.key))[i]? =((ents.map (·.1)).map kV)[i]? :=by rw [hkk]
   simp only [List.getElem?_map,List.getElem?_eq_getElem hil',List.getElem?_eq_getElem hil,Option.map_some,Option.some.injEq]at h1
   rw [<-hke,<-h1];simp
  refine⟨es.modify i λe=>{ e with key:=kV k,val:=v },bs,clock,⟨?_, ?_, ?_,h.lt,h.nd⟩,λr w2=> ?_⟩
  ·simp [h.len]
  ·intro j e p he hp
   simp only [Array.toList_modify,List.getElem?_modify]at he
   rw [List.getElem?_modify]at hp
   by_cases hj:i=j
   ·subst hj
    rw [List.getElem?_eq_getElem hil']at he
    rw [List.getElem?_eq_getElem hil]at hp
    simp only [Option.map_eq_map,Option.map_some,Option.some.injEq,if_true]at he hp
    subst he;subst hp
    dsimp only
    rw [hke]
    exact⟨nr1,nr2⟩
   ·simp only [hj,if_false,Option.map_eq_map,Option.map_id_fun',id]at he hp
    exact mono j e p he hp
  ·rw [<-h.born]
   apply List.ext_getElem?
   intro j
   simp only [Array.toList_modify,List.getElem?_map,List.getElem?_modify]
   by_cases hj:i=j
   ·subst hj;simp only [if_true,Option.map_map];cases es.toList[i]?<;>rfl
   ·simp [hj]
  ·have:es[i]? =some es[i]:=Array.getElem?_eq_getElem hil2
   have hmf:lE es.toList (some i)=some (i,es.toList[i].val):=by rw [lE,Option.bind_some,List.getElem?_eq_getElem hil',Option.map_some]
   rw [hmf]
   simp only [Option.bind_some,List.getElem?_eq_getElem hil',Option.map_some,this,Option.getD_some,hkey,Instr.keyThatStays,hK.bits,if_true,Sem.run_bind,Sem.run_pure,Result.andThen_ok]
theorem lZ {o:Oper}{t kt e:TypeId}{x y u:Operand}(ho:o.op= .mapUpdate t x y u\/o.op= .insert t x y u) (ht:aNg P t=some (kt,e)) {kD:κ->D}{kV:κ->Value}(hK:KeyT P kt kD kV)
  {pin:Pin} {fr:Fr} {hp:Hp} {K:SV->Hp->Prop} {id:Nat} {ents:List (κ×SV)} {bs:List Nat} {clock:Nat} (hx:evO fr x=some (.xv id aBq)) (hg:aM hp id=some (.ext (yB kD ents bs clock)))
  {k:κ} (hy:evO fr y=some (.d (kD k))) {s:SV} (hu:evO fr u=some s) (hk: ∀bs' clock',K (.d (.lit undef)) (dQ hp id (.ext (yB kD (yA ents k s) bs' clock')))):aP P o pin fr hp K:=by
 intro E ρ a w hpin hm hf next Q hn
 obtain⟨g,b1,e1,_⟩:=(aR hf hx).xv_inv
 have e2:RepD w ρ.S (kD k) (a.eval y):=by
  cases aR hf hy with
  |d _ _ h=>exact h
 have e2':=hK.rep e2
 have e3:=aR hf hu
 obtain⟨g',ob,c1,c2,⟨es,rfl,hM⟩,c4⟩:=hm.sat id _ hg
 have:g'=g:=by
  have c1':ρ.blk id=some g':=c1
  rw [b1]at c1';injection c1' with c1';exact c1'.symm
 subst this
 have hkeeps: ∀o',bL ρ.S w { w with heap:=w.heap.setIfInBounds g' o' }:= λo'=>aIu c4
 obtain⟨es',bs',clock',hM',hrun'⟩:=hM.set hK (k:=k) (s:=s) (v:=a.eval u) (by rw [<-e2'];exact e2) e3 (hkeeps (.map #[] 0))
 have hM2:MapAt { w with heap:=w.heap.setIfInBounds g' (.map es' clock') } ρ kD (yA ents k s) bs' clock' es'.toList:=by
  refine⟨hM'.len,λi e p he hp=> ?_,hM'.born,hM'.lt,hM'.nd⟩
  obtain⟨h1,h2⟩:=hM'.ent i e p he hp
  have hkk:bL ρ.S { w with heap:=w.heap.setIfInBounds g' (.map #[] 0) } { w with heap:=w.heap.setIfInBounds g' (.map es' clock') }:= λb i hb=>(hkeeps _ b i hb).trans (hkeeps _ b i hb).symm
  exact⟨h1.mono hkk λ_ _ x=>x,h2.mono hkk (λ_ _ x=>x) λid _=>ρ.moved_refl id⟩
 have hrun:(execOp a.eval o).run P w= .ok .skip { w with heap:=w.heap.setIfInBounds g' (.map es' clock') }:=by
  have h1:=hrun' g' w
  have h2:(setObj g' (.map es' clock')).run P w= .ok () { w with heap:=w.heap.setIfInBounds g' (.map es' clock') }:=aCx _ c2
  rw [h2]at h1
  rcases ho with ho|ho<;>
  ·simp only [execOp,ho,Instr.mapUpdate,Sem.run_bind,run_underlying (aAc ht),Result.andThen_ok,e1,e2',aBq,mC c2,hK.chk,hM.found hK,Sem.run_pure]
   exact congrArg (λr:Result Unit=>r.andThen λ_ w'=>Result.ok Next.skip w') h1
 obtain⟨s1,s2⟩:=hm.setExt (X':=yB kD (yA ents k s) bs' clock') (w':={ w with heap:=w.heap.setIfInBounds g' (.map es' clock') }) hg b1 rfl rfl (.refl _) (by simp) (λb _ hb=>aI0 hb) (aCv c2) ⟨es',rfl,hM2⟩
 exact nU hrun (hn _ _ ρ _ _ (hk bs' clock') s1 (hf.mono s2 (λ_ _ x=>x) λi _=>ρ.moved_refl i) (.d _ _ (.lit _)))
theorem MapAt.del {w w':World}{ρ:Env}{kt:TypeId}{kD:κ->D}{kV:κ->Value}{ents:List (κ×SV)}{bs:List Nat}{clock:Nat}{es:Array MapEntry}(h:MapAt w ρ kD ents bs clock es.toList) (_hK:KeyT P kt kD kV) {k:κ}(hk:bL ρ.S w w'):
  ∃(es':Array MapEntry) (bs':List Nat),MapAt w' ρ kD (aOe ents k) bs' clock es'.toList/\
   ∀ (r : Nat) (w2 : World), (match lE es.toList (vO ents k) with
   |some (i,_)=>setObj r (.map (es.eraseIdxIfInBounds i) clock)
   |none=>setObj r (.map es clock)).run P w2=(setObj r (.map es' clock)).run P w2:=by
 have mono: ∀(i:Nat) (e:MapEntry) (p:κ×SV),es.toList[i]? =some e->ents[i]? =some p->RepD w' ρ.S (kD p.1) e.key/\Rep w' ρ p.2 e.val:= λi e p h1 h2=>
  ⟨(h.ent i e p h1 h2).1.mono hk λ_ _ x=>x,(h.ent i e p h1 h2).2.mono hk (λ_ _ x=>x) λid _=>ρ.moved_refl id⟩
 rw [aBp]
 cases hi:vO ents k with
 |none=>exact⟨es,bs,⟨h.len,mono,h.born,h.lt,h.nd⟩,λr w2=>rfl⟩
 |some i=>
  have hil:i < ents.length:=by have:=aFz hi;simpa [vO]using this
  have hil':i < es.toList.length:=by rw [h.len];exact hil
  have hil2:i < es.size:=by simpa using hil'
  have hel:(es.eraseIdxIfInBounds i).toList=es.toList.eraseIdx i:=by
   simp [Array.eraseIdxIfInBounds,hil2]
  refine⟨es.eraseIdxIfInBounds i,bs.eraseIdx i,⟨?_, ?_, ?_, ?_, ?_⟩,λr w2=> ?_⟩
  ·rw [hel];simp [List.length_eraseIdx,h.len,hil]
  ·intro j e p he hp
   rw [hel,List.getElem?_eraseIdx]at he
   rw [List.getElem?_eraseIdx]at hp
   split at he
   ·rename_i hj;rw [if_pos hj]at hp;exact mono j e p he hp
   ·rename_i hj;rw [if_neg hj]at hp;exact mono _ e p he hp
  ·rw [hel,<-h.born]
   apply List.ext_getElem?
   intro j
   simp only [List.getElem?_map,List.getElem?_eraseIdx]
   split<;>rfl
  ·exact λb hb=>h.lt b (List.mem_of_mem_eraseIdx hb)
  ·exact h.nd.sublist (List.eraseIdx_sublist ..)
  ·have hmf:lE es.toList (some i)=some (i,es.toList[i].val):=by rw [lE,Option.bind_some,List.getElem?_eq_getElem hil',Option.map_some]
   rw [hmf]
end
end Go.Proofs.YtdjfkmkdkclahaaGreatDoor
