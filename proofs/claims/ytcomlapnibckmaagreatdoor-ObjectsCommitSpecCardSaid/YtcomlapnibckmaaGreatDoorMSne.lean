/-
  Maps as symbolic objects: made, read, written, emptied of a key, walked over.
  Conditions: none.
-/
import Derived.Test.YtcomlapnibckmaaGreatDoorMA1
set_option linter.unnecessarySimpa false
set_option linter.unusedSectionVars false
set_option linter.unusedSimpArgs false
set_option linter.unusedVariables false
namespace Go.Proofs.YtcomlapnibckmaaGreatDoor
open Go.RowKit
section
variable {P:Program} {κ:Type} [DecidableEq κ]
structure KeyT (P:Program) (kt:TypeId) (kD:κ->D) (kV:κ->Value):Prop where
 rep: ∀{w:World} {S:Nat->Nat->Prop} {k:κ} {v:Value},RepD w S (kD k) v->v=kV k
 chk: ∀(b:Bool) (k:κ) (w:World),(Instr.checkKey b 10000 kt (kV k)).run P w= .ok () w
 find: ∀(k:κ) (ks:List κ) (es:List MapEntry) (w:World),es.map (·.key)=ks.map kV->(Instr.findKey kt (kV k) es).run P w= .ok ((ks.findIdx? (λx=>decide (k=x))).bind λi=>(es[i]?).map λe=>(i,e.val)) w
 bits: ∀(k:κ),Instr.sameBits 10000 (kV k) (kV k)=true
theorem findIdx?_cons' {α:Type}(p:α->Bool) (x:α) (l:List α):(x::l).findIdx? p=if p x then some 0 else (l.findIdx? p).map (· +1):=by
 simp [List.findIdx?_cons]
theorem lS {kt:TypeDesc}{kV:κ->Value}(h: ∀k k',Instr.sameNow kt (kV k) (kV k')=some (decide (k=k'))) (k:κ): ∀(ks:List κ) (es:List MapEntry) (i:Nat),es.map (·.key)=ks.map kV->
  Instr.findNow kt (kV k) es i=some ((ks.findIdx? (λx=>decide (k=x))).bind λj=>(es[j]?).map λe=>(i+j,e.val))
 | [],[],_,_=>rfl
 | [],_::_,_,e=>by simp at e
 |_::_,[],_,e=>by simp at e
 |x::ks,e::es,i,he=>by
  simp only [List.map_cons,List.cons.injEq]at he
  rw [Instr.findNow,he.1,h k x,findIdx?_cons']
  by_cases hx:k=x
  ·simp [hx]
  ·simp only [hx,decide_false,Bool.false_eq_true,if_false]
   rw [lS h k ks es (i+1) he.2]
   cases ks.findIdx? (λx=>decide (k=x))with
   |none=>rfl
   |some j=>simp [Nat.add_assoc,Nat.add_comm 1 j]
theorem KeyT.now {kt:TypeId}{dk:TypeDesc}{kD:κ->D}{kV:κ->Value}(hu:P.underlying kt=some dk) (hrep: ∀{w:World}{S:Nat->Nat->Prop}{k:κ}{v:Value},RepD w S (kD k) v->v=kV k)
  (hs: ∀k k',Instr.sameNow dk (kV k) (kV k')=some (decide (k=k'))) (hc: ∀(b:Bool) (k:κ) (w:World),(Instr.checkKey b 10000 kt (kV k)).run P w= .ok () w) (hb: ∀k,Instr.sameBits 10000 (kV k) (kV k)=true):KeyT P kt kD kV:=
 ⟨hrep, hc, λk ks es w he => by
  rw [Instr.findKey]
  simp only [Sem.run_bind,run_underlying hu,Result.andThen_ok]
  rw [lS hs k ks es 0 he]
  simp,hb⟩
def aGq {β:Type}:List (κ×β)->κ->β->List (κ×β)
 | [],k,s=>[(k,s)]
 |(k',s')::r,k,s=>if k=k' then (k',s)::r else (k',s')::aGq r k s
def aGs {β:Type}:List (κ×β)->κ->List (κ×β)
 | [],_=>[]
 |(k',s')::r,k=>if k=k' then r else (k',s')::aGs r k
def xG {β:Type}(l:List (κ×β)) (k:κ):Option Nat:=(l.map (λp=>p.1)).findIdx? (λx=>decide (k=x))
def pF (es:List MapEntry) (i:Option Nat):Option (Nat×Value):=i.bind λi=>(es[i]?).map λ(e:MapEntry)=>(i,e.val)
theorem vC {β:Type}(k:κ) (s:β): ∀(l:List (κ×β)),aGq l k s=match xG l k with
  |some i=>l.modify i (λp=>(p.1,s))
  |none=>l++[(k,s)]
 | []=>rfl
 |(k',s')::r=>by
  rw [aGq,xG,List.map_cons,findIdx?_cons']
  by_cases h:k=k'
  ·simp [h,List.modify_zero_cons]
  ·simp only [h,if_false,decide_false,Bool.false_eq_true]
   rw [vC k s r,xG]
   cases (r.map (λp=>p.1)).findIdx? (λx=>decide (k=x))with
   |none=>rfl
   |some j=>simp [List.modify_succ_cons]
theorem vD {β:Type}(k:κ): ∀(l:List (κ×β)),aGs l k=match xG l k with
  |some i=>l.eraseIdx i
  |none=>l
 | []=>rfl
 |(k',s')::r=>by
  rw [aGs,xG,List.map_cons,findIdx?_cons']
  by_cases h:k=k'
  ·simp [h]
  ·simp only [h,if_false,decide_false,Bool.false_eq_true]
   rw [vD k r,xG]
   cases (r.map (λp=>p.1)).findIdx? (λx=>decide (k=x))with
   |none=>rfl
   |some j=>simp
structure MapAt (w:World) (ρ:Env) (kD:κ->D) (ents:List (κ×SV)) (bs:List Nat) (clock:Nat) (es:List MapEntry):Prop where
 len:es.length=ents.length
 ent: ∀(i:Nat) (e:MapEntry) (p:κ×SV),es[i]? =some e->ents[i]? =some p->RepD w ρ.S (kD p.1) e.key/\Rep w ρ p.2 e.val
 born:es.map (·.born)=bs
 lt: ∀b∈bs,b < clock
 nd:bs.Nodup
theorem MapAt.keys {w:World}{ρ:Env}{kt:TypeId}{kD:κ->D}{kV:κ->Value}{ents:List (κ×SV)}{bs:List Nat}{clock:Nat}{es:List MapEntry}(h:MapAt w ρ kD ents bs clock es) (hK:KeyT P kt kD kV):es.map (·.key)=(ents.map (·.1)).map kV:=by
 apply List.ext_getElem?
 intro i
 simp only [List.getElem?_map]
 rcases Nat.lt_or_ge i es.length with hi|hi
 ·have hi':i < ents.length:=h.len ▸ hi
  rw [List.getElem?_eq_getElem hi,List.getElem?_eq_getElem hi']
  simp only [Option.map_some,Option.some.injEq]
  exact hK.rep (h.ent i _ _ (List.getElem?_eq_getElem hi) (List.getElem?_eq_getElem hi')).1
 ·rw [List.getElem?_eq_none hi,List.getElem?_eq_none (by rw [<-h.len];exact hi)];rfl
theorem aD3 {l:List κ}{p:κ->Bool}{i:Nat}(h:l.findIdx? p=some i):i < l.length:=by
 rw [List.findIdx?_eq_some_iff_getElem]at h
 exact h.1
theorem MapAt.set {w w':World}{ρ:Env}{kt:TypeId}{kD:κ->D}{kV:κ->Value}{ents:List (κ×SV)}{bs:List Nat}{clock:Nat}{es:Array MapEntry}(h:MapAt w ρ kD ents bs clock es.toList) (hK:KeyT P kt kD kV) {k:κ}{s:SV}{v:Value}(hr1:RepD w ρ.S (kD k) (kV k)) (hr2:Rep w ρ s v) (hk:bQ ρ.S w w'):
  ∃(es':Array MapEntry) (bs':List Nat) (clock':Nat),MapAt w' ρ kD (aGq ents k s) bs' clock' es'.toList/\
   ∀ (r : Nat) (w2 : World), (match pF es.toList (xG ents k) with
   |some (i,_)=>do
    let key <-Instr.keyThatStays (((es[i]?).map λ(e:MapEntry)=>e.key).getD (kV k)) (kV k)
    setObj r (.map (es.modify i λe=>{ e with key,val:=v }) clock)
   |none=>setObj r (.map (es.push { key:=kV k,val:=v,born:=clock }) (clock+1))).run P w2=(setObj r (.map es' clock')).run P w2:=by
 have hkk:=h.keys hK
 have mono: ∀(i:Nat) (e:MapEntry) (p:κ×SV),es.toList[i]? =some e->ents[i]? =some p->RepD w' ρ.S (kD p.1) e.key/\Rep w' ρ p.2 e.val:= λi e p h1 h2=>
  ⟨(h.ent i e p h1 h2).1.mono hk λ_ _ x=>x,(h.ent i e p h1 h2).2.mono hk (λ_ _ x=>x) λid _=>ρ.moved_refl id⟩
 have nr1:RepD w' ρ.S (kD k) (kV k):=hr1.mono hk λ_ _ x=>x
 have nr2:Rep w' ρ s v:=hr2.mono hk (λ_ _ x=>x) λid _=>ρ.moved_refl id
 rw [vC]
 cases hi:xG ents k with
 |none=>
  refine⟨es.push { key:=kV k,val:=v,born:=clock },bs++[clock],clock+1,⟨?_, ?_, ?_, ?_, ?_⟩,λr w2=>rfl⟩
  ·simp [h.len]
  ·intro i e p he hp
   simp only [Array.toList_push]at he
   rcases Nat.lt_or_ge i ents.length with hl|hl
   ·rw [List.getElem?_append_left (by rw [h.len];exact hl)]at he
    rw [List.getElem?_append_left hl]at hp
    exact mono i e p he hp
   ·have:i=ents.length:=by
     have:=(List.getElem?_eq_some_iff.1 hp).1
     simp at this;omega
    subst this
    rw [List.getElem?_append_right (Nat.le_refl _)]at hp
    rw [<-h.len,List.getElem?_append_right (Nat.le_refl _)]at he
    simp at hp he
    subst hp;subst he
    exact⟨nr1,nr2⟩
  ·simp [h.born]
  ·intro b hb
   rcases List.mem_append.1 hb with hb|hb
   ·have:=h.lt b hb;omega
   ·simp at hb;omega
  ·rw [List.nodup_append]
   exact⟨h.nd,by simp,λa ha b hb=>by simp at hb;have:=h.lt a ha;omega⟩
 |some i=>
  have hil:i < ents.length:=by have:=aD3 hi;simpa [xG]using this
  have hil':i < es.toList.length:=by rw [h.len];exact hil
  have hil2:i < es.size:=by simpa using hil'
  have hke:ents[i].1=k:=by
   rw [xG,List.findIdx?_eq_some_iff_getElem]at hi
   obtain⟨_,h2,_⟩:=hi
   have:=of_decide_eq_true h2
   rw [List.getElem_map]at this
   exact this.symm
  have hkey:es[i].key=kV k:=by
   have h1:(es.toList.map (·.key))[i]? =((ents.map (·.1)).map kV)[i]? :=by rw [hkk]
   simp only [List.getElem?_map,List.getElem?_eq_getElem hil',List.getElem?_eq_getElem hil,Option.map_some,Option.some.injEq]at h1
   rw [<-hke,<-h1];simp
  refine⟨es.modify i λe=>{ e with key:=kV k,val:=v },bs,clock,⟨?_, ?_, ?_,h.lt,h.nd⟩,λr w2=> ?_⟩
  ·simp [h.len]
  ·intro j e p he hp
   simp only [Array.toList_modify,List.getElem?_modify]at he
   rw [List.getElem?_modify]at hp
   by_cases hj:i=j
   ·subst hj
    rw [List.getElem?_eq_getElem hil']at he
    rw [List.getElem?_eq_getElem hil]at hp
    simp only [Option.map_eq_map,Option.map_some,Option.some.injEq,if_true]at he hp
    subst he;subst hp
    dsimp only
    rw [hke]
    exact⟨nr1,nr2⟩
   ·simp only [hj,if_false,Option.map_eq_map,Option.map_id_fun',id]at he hp
    exact mono j e p he hp
  ·rw [<-h.born]
   apply List.ext_getElem?
   intro j
   simp only [Array.toList_modify,List.getElem?_map,List.getElem?_modify]
   by_cases hj:i=j
   ·subst hj;simp only [if_true,Option.map_map];cases es.toList[i]?<;>rfl
   ·simp [hj]
  ·have:es[i]? =some es[i]:=Array.getElem?_eq_getElem hil2
   have hmf:pF es.toList (some i)=some (i,es.toList[i].val):=by rw [pF,Option.bind_some,List.getElem?_eq_getElem hil',Option.map_some]
   rw [hmf]
   simp only [Option.bind_some,List.getElem?_eq_getElem hil',Option.map_some,this,Option.getD_some,hkey,Instr.keyThatStays,hK.bits,if_true,Sem.run_bind,Sem.run_pure,Result.andThen_ok]
theorem MapAt.del {w w':World}{ρ:Env}{kt:TypeId}{kD:κ->D}{kV:κ->Value}{ents:List (κ×SV)}{bs:List Nat}{clock:Nat}{es:Array MapEntry}(h:MapAt w ρ kD ents bs clock es.toList) (_hK:KeyT P kt kD kV) {k:κ}(hk:bQ ρ.S w w'):
  ∃(es':Array MapEntry) (bs':List Nat),MapAt w' ρ kD (aGs ents k) bs' clock es'.toList/\
   ∀ (r : Nat) (w2 : World), (match pF es.toList (xG ents k) with
   |some (i,_)=>setObj r (.map (es.eraseIdxIfInBounds i) clock)
   |none=>setObj r (.map es clock)).run P w2=(setObj r (.map es' clock)).run P w2:=by
 have mono: ∀(i:Nat) (e:MapEntry) (p:κ×SV),es.toList[i]? =some e->ents[i]? =some p->RepD w' ρ.S (kD p.1) e.key/\Rep w' ρ p.2 e.val:= λi e p h1 h2=>
  ⟨(h.ent i e p h1 h2).1.mono hk λ_ _ x=>x,(h.ent i e p h1 h2).2.mono hk (λ_ _ x=>x) λid _=>ρ.moved_refl id⟩
 rw [vD]
 cases hi:xG ents k with
 |none=>exact⟨es,bs,⟨h.len,mono,h.born,h.lt,h.nd⟩,λr w2=>rfl⟩
 |some i=>
  have hil:i < ents.length:=by have:=aD3 hi;simpa [xG]using this
  have hil':i < es.toList.length:=by rw [h.len];exact hil
  have hil2:i < es.size:=by simpa using hil'
  have hel:(es.eraseIdxIfInBounds i).toList=es.toList.eraseIdx i:=by
   simp [Array.eraseIdxIfInBounds,hil2]
  refine⟨es.eraseIdxIfInBounds i,bs.eraseIdx i,⟨?_, ?_, ?_, ?_, ?_⟩,λr w2=> ?_⟩
  ·rw [hel];simp [List.length_eraseIdx,h.len,hil]
  ·intro j e p he hp
   rw [hel,List.getElem?_eraseIdx]at he
   rw [List.getElem?_eraseIdx]at hp
   split at he
   ·rename_i hj;rw [if_pos hj]at hp;exact mono j e p he hp
   ·rename_i hj;rw [if_neg hj]at hp;exact mono _ e p he hp
  ·rw [hel,<-h.born]
   apply List.ext_getElem?
   intro j
   simp only [List.getElem?_map,List.getElem?_eraseIdx]
   split<;>rfl
  ·exact λb hb=>h.lt b (List.mem_of_mem_eraseIdx hb)
  ·exact h.nd.sublist (List.eraseIdx_sublist ..)
  ·have hmf:pF es.toList (some i)=some (i,es.toList[i].val):=by rw [pF,Option.bind_some,List.getElem?_eq_getElem hil',Option.map_some]
   rw [hmf]
end
end Go.Proofs.YtcomlapnibckmaaGreatDoor
