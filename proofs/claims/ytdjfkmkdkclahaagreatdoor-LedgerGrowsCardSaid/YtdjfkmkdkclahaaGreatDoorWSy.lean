/-
  Symbolic operations on rows that may be written: stores, make, append.
  Conditions: none.
-/
import Derived.Test.YtdjfkmkdkclahaaGreatDoorWSk
import Derived.Laws.MakeOwn
set_option linter.unusedSectionVars false
set_option linter.unusedSimpArgs false
set_option linter.unusedVariables false
set_option maxHeartbeats 1000000
namespace Go.Proofs.YtdjfkmkdkclahaaGreatDoor
open Go.RowKit
section
variable {P:Program}
theorem eP {a i z j:Nat}(hj:j < z) (h:a < i):a * z+j < i * z:=by
 have:(a+1)* z<=i * z:=Nat.mul_le_mul_right z h
 rw [Nat.add_mul]at this
 omega
theorem Flat.setPart {w:World}{S:Nat->Nat->Prop}{z:Nat}{rows:List (List D)}{vs:List Value}(h:Flat w S z rows vs) {i off:Nat}{row:List D}(hi:rows[i]? =some row) {ns:List D}{nv:List Value}(hl:nv.length=ns.length) (hoff:off+ns.length<=z)
  (h1: ∀u∈nv,u.oneCell'=true) (hr: ∀(j:Nat) (x:D) (u:Value),ns[j]? =some x->nv[j]? =some u->RepD w S x u):
  Flat w S z (rows.set i (row.take off++ns++row.drop (off+ns.length))) (vs.take (i * z+off)++nv++vs.drop (i * z+off+nv.length)):=by
 have hil:i < rows.length:=(List.getElem?_eq_some_iff.1 hi).1
 have hrl:=h.hz row (List.mem_of_getElem? hi)
 have hle:i * z+off+nv.length<=vs.length:=by
  rw [h.len,hl]
  have:(i+1)* z<=rows.length * z:=Nat.mul_le_mul_right z hil
  rw [Nat.add_mul]at this
  omega
 refine⟨?_, ?_, ?_, ?_⟩
 ·simp only [List.length_append,List.length_take,List.length_drop,List.length_set]
  rw [<-h.len]
  omega
 ·intro r hr'
  rcases List.mem_or_eq_of_mem_set hr' with hr'|hr'
  ·exact h.hz r hr'
  ·rw [hr']
   simp only [List.length_append,List.length_take,List.length_drop]
   omega
 ·intro u hu
  simp only [List.mem_append]at hu
  rcases hu with(hu|hu)|hu
  ·exact h.one u (List.mem_of_mem_take hu)
  ·exact h1 u hu
  ·exact h.one u (List.mem_of_mem_drop hu)
 ·intro a r j x hra hx
  rw [splice_getElem? _ _ _ _ hle]
  by_cases e:a=i
  ·subst e
   rw [List.getElem?_set_self (by omega)]at hra
   injection hra with hra
   subst hra
   rw [splice_getElem? _ _ _ _ (by omega)]at hx
   split at hx
   ·rename_i hj
    obtain⟨v,v1,v2⟩:=h.at_ a row j x hi hx
    exact⟨v,by rw [if_pos (by omega)];exact v1,v2⟩
   ·rename_i hj
    split at hx
    ·rename_i hj2
     have hj3:j - off < nv.length:=by omega
     refine⟨nv[j - off], ?_,hr (j - off) x _ hx (List.getElem?_eq_getElem hj3)⟩
     rw [if_neg (by omega),if_pos (by omega),show a * z+j - (a * z+off)=j - off from by omega]
     exact List.getElem?_eq_getElem hj3
    ·rename_i hj2
     obtain⟨v,v1,v2⟩:=h.at_ a row j x hi hx
     exact⟨v,by rw [if_neg (by omega),if_neg (by omega)];exact v1,v2⟩
  ·rw [List.getElem?_set_ne (λe'=>e e'.symm)]at hra
   obtain⟨v,v1,v2⟩:=h.at_ a r j x hra hx
   have hj:j < z:=by rw [<-h.hz r (List.mem_of_getElem? hra)];exact(List.getElem?_eq_some_iff.1 hx).1
   refine⟨v, ?_,v2⟩
   rcases Nat.lt_or_ge a i with hlt|hge
   ·have:=eP hj hlt
    rw [if_pos (by omega)];exact v1
   ·have:(i+1)* z<=a * z:=Nat.mul_le_mul_right z (by omega)
    rw [Nat.add_mul]at this
    rw [if_neg (by omega),if_neg (by omega)];exact v1
theorem dI.set {w:World}{S:Nat->Nat->Prop}{e z cap:Nat}{rows:List (List D)}{v:Value}(h:dI w S e z cap rows v) {i off:Nat}{row:List D}(hi:rows[i]? =some row) {ns:List D}{nv:List Value}(hl:nv.length=ns.length) (hoff:off+ns.length<=z)
  (h1: ∀u∈nv,u.oneCell'=true) (hr: ∀(j:Nat) (x:D) (u:Value),ns[j]? =some x->nv[j]? =some u->RepD w S x u):
  ∃g cur,cZ v=some g/\w.heap[g]? =some (.cells cur e (0,0))/\i * z+off+nv.length<=cur.size/\
   dI (w.setRow g (cur.toList.take (i * z+off)++nv++cur.toList.drop (i * z+off+nv.length)).toArray) S e z cap (rows.set i (row.take off++ns++row.drop (off+ns.length))) v:=by
 rcases h with⟨rfl,_⟩|⟨hc,g,cur,rfl,q1,q2,q3,q4,q6,q7⟩
 ·simp at hi
 ·have hil:i < rows.length:=(List.getElem?_eq_some_iff.1 hi).1
  have hle:i * z+off+nv.length<=rows.length * z:=by
   have:(i+1)* z<=rows.length * z:=Nat.mul_le_mul_right z hil
   rw [Nat.add_mul]at this
   omega
  have hle2:rows.length * z<=cur.size:=by rw [q4];exact Nat.mul_le_mul_right z q2
  refine⟨g,cur,(by have:cap≠0:=(by omega);simp [cZ,this]),q1,by omega, ?_⟩
  generalize hw':w.setRow g (cur.toList.take (i * z+off)++nv++cur.toList.drop (i * z+off+nv.length)).toArray=w'
  have hk:bP S w w':= λb k hs=>by
   rw [<-hw']
   exact World.cell?_of_block (w:=w) (setRow_other w g b _ λe=>q7 k (e ▸ hs))
  refine .inr ⟨hc,g,_,by rw [List.length_set],by rw [<-hw'];exact setRow_heap w g cur _ e _ q1,by rw [List.length_set];exact q2,q3, ?_, ?_,q7⟩
  ·rw [List.size_toArray,List.length_append,List.length_append,List.length_take,List.length_drop,Array.length_toList,<-q4]
   omega
  ·have:=(q6.setPart hi hl hoff h1 hr).mono hk (λ_ _ x=>x)
   rw [List.length_set]
   have el:(cur.toList.take (i * z+off)++nv++cur.toList.drop (i * z+off+nv.length)).toArray.toList.take (rows.length * z)=(cur.toList.take (rows.length * z)).take (i * z+off)++nv++(cur.toList.take (rows.length * z)).drop (i * z+off+nv.length):=by
    apply List.ext_getElem?
    intro k
    have hcl:cur.toList.length=cur.size:=Array.length_toList
    have eL:=splice_getElem? cur.toList nv (i * z+off) k (by rw [hcl];omega)
    have eR:=splice_getElem? (cur.toList.take (rows.length * z)) nv (i * z+off) k (by rw [List.length_take,hcl,Nat.min_eq_left hle2];omega)
    rw [List.getElem?_take,eR]
    simp only [eL,List.getElem?_take]
    by_cases c0:k < rows.length * z
    ·simp only [c0,if_true]
    ·simp only [c0,if_false]
     rw [if_neg (by omega),if_neg (by omega)]
   rw [el]
   exact this
def aOa (x:SV):Option (List D):=match mJ x with|some cs=>aKv cs|none=>none
def zD (ti:TypeId->Option TI) (t:TypeId) (id z i off ver:Nat) (x:SV) (hp:Hp) (K:Hp->Prop):Prop:=
 match ti t with
 |some T=>
  (match aN hp id with
  |some (.mrow e z' cap rows)=>z=z'/\ver=rows.length/\ ∃row,rows[i]? =some row/\
   if T.td.isAgg then
    (match aOa x with
    |some ns=>ns.length=T.size/\off+T.size<=z/\(∀n∈ns,aA2 n=true)/\(if off=0/\T.size=z then gC hp id (.mrow e z cap (rows.set i ns)) K else gC hp id (.mrow e z cap (rows.set i (row.take off++ns++row.drop (off+ns.length)))) K)
    |none=>aF "store: no struct")
   else (match asD x with
    |some y=>T.size=1/\aA2 y=true/\off < z/\(if z=1 then gC hp id (.mrow e z cap (rows.set i [y])) K else gC hp id (.mrow e z cap (rows.set i (row.set off y))) K)
    |none=>aF "store: no datum")
  |_=>aF "store: no such rows")
 |none=>aF "store: a type"
theorem aE8 {ti:TypeId->Option TI}(hti:cI P ti) {o:Oper}{t:TypeId}{x y:Operand}(ho:o.op= .store t x y) {pin:Pin}{fr:Fr}{hp:Hp}{K:SV->Hp->Prop}{id z i off ver:Nat}{r:SV}(hs:evO fr x=some (.mp id z i off ver)) (hr:evO fr y=some r)
  (hv:zD ti t id z i off ver r hp λhp'=>K (.d (.lit undef)) hp'):sB P o pin fr hp K:=by
 intro E ρ a w _ hm hf next Q hn
 have h1:=aS hf hs
 have h2:=aS hf hr
 unfold zD at hv
 split at hv
 ·rename_i T hT
  obtain⟨d,i0,z0,hT⟩:=aK (hti _ _ hT)
  split at hv
  ·rename_i e z' cap rows hoo
   obtain⟨rfl,hver,row,hrow,hv⟩:=hv
   obtain⟨n0,m0⟩:=hm.sat id _ hoo
   obtain⟨ad,e1,_,hg0⟩:=h1.mp_inv
   obtain⟨g,hg,rfl⟩:=hg0 (by omega)
   have hrl:row.length=z:=by obtain⟨_,_,_,_,q,_⟩:=m0.row hrow;exact q
   have fin: ∀(ns:List D) (v:Value),a.eval y=v->v.cells.toList.length=ns.length->v.cells.size=T.size->off+ns.length<=z->(∀u∈v.cells.toList,u.oneCell'=true)->
     (∀(j:Nat) (s:D) (u:Value),ns[j]? =some s->v.cells.toList[j]? =some u->RepD w ρ.S s u)->K (.d (.lit undef)) (dL hp id (.mrow e z cap (rows.set i (row.take off++ns++row.drop (off+ns.length)))))->o.wp P a w next Q:=by
    intro ns v ev1 q1 q2 q3 q4 q5 hk
    obtain⟨g',cur,c1,c2,c3,c4⟩:=m0.set hrow q1 q3 q4 q5
    rw [hg]at c1;injection c1 with c1;subst c1
    have hlen:(rows.set i (row.take off++ns++row.drop (off+ns.length))).length=rows.length:=List.length_set
    obtain⟨s1,s2,s3⟩:=hm.setMrow hoo (w':=w.setRow g (cur.toList.take (i * z+off)++v.cells.toList++cur.toList.drop (i * z+off+v.cells.toList.length)).toArray) (v':=ρ.tv id) rfl rfl ⟨rfl,Nat.le_refl _⟩ (by simp [World.setRow]) (λb _ hb=>setRow_other w g b _ (λe=>hb (e ▸ hg))) c4 (λg hg=> .inl hg) (.inl ⟨hlen,rfl⟩)
    refine uM ?_ (hn undef _ _ _ _ hk s1 (hf.mono s2 (λ_ _ x=>x) λi _=>s3 i) (.d _ _ (.lit _)))
    simp [execOp,ho,Instr.storeAt,e1,ev1,Instr.sureAddr,nM hT w g (i * z+off) v q2 cur e c2 c3 q4]
   split at hv
   ·split at hv
    ·rename_i ns hns
     obtain⟨k1,k2,k3,hk⟩:=hv
     unfold aOa at hns
     split at hns
     ·rename_i cs hcs
      obtain⟨vs,ev1,hl,hh⟩:=kX hcs h2
      obtain⟨l1,l2⟩:=aFm hns
      have hrep: ∀(j:Nat) (s:D) (u:Value),ns[j]? =some s->vs[j]? =some u->RepD w ρ.S s u:=by
       intro j s u hs' hu
       obtain⟨s0,q1,q2⟩:=l2 j s hs'
       exact aFl q2 (hh j s0 u q1 hu)
      refine fin ns (.agg vs) ev1 (by simp [Value.cells];omega) (by simp [Value.cells];omega) (by omega) ?_ ?_ ?_
      ·intro u hu
       obtain⟨j,hj,rfl⟩:=List.getElem_of_mem hu
       simp only [Value.cells]at hj |-
       have hj':j < vs.size:=by simpa using hj
       have hjl:j < ns.length:=by omega
       exact oS (hrep j ns[j] _ (List.getElem?_eq_getElem hjl) (by simp [Array.getElem?_eq_getElem hj'])) (k3 _ (List.getElem_mem hjl))
      ·intro j s u hs' hu
       exact hrep j s u hs' (by simpa [Value.cells]using hu)
      ·split at hk
       ·rename_i hc
        rw [cQ]at hk
        have e2:row.take off++ns++row.drop (off+ns.length)=ns:=by
         rw [hc.1,List.take_zero,List.nil_append,List.drop_eq_nil_of_le (by omega),List.append_nil]
        rw [e2];exact hk
       ·rw [cQ]at hk;exact hk
     ·cases hns
    ·exact hv.elim
   ·split at hv
    ·rename_i y' hy'
     obtain⟨k1,k2,k3,hk⟩:=hv
     have hd:=aFl hy' h2
     have ho1:=oS hd k2
     have hcells:(a.eval y).cells= #[a.eval y]:=by
      generalize a.eval y=u at *
      cases u<;>simp_all [Value.oneCell',Value.cells]
     refine fin [y'] (a.eval y) rfl (by simp [hcells]) (by simp [hcells,k1]) (by simp only [List.length_singleton];omega) ?_ ?_ ?_
     ·intro u hu
      simp [hcells]at hu
      subst hu
      exact ho1
     ·intro j s u hs' hu
      simp only [hcells]at hu
      cases j with
      |zero=>simp at hs' hu;subst hs';subst hu;exact hd
      |succ j=>simp at hs'
     ·have e2:row.take off++[y']++row.drop (off+[y'].length)=row.set off y':=by
       rw [List.set_eq_take_append_cons_drop,if_pos (by omega)]
       simp
      rw [e2]
      split at hk
      ·rename_i hz1
       rw [cQ]at hk
       have e3:row.set off y'=[y']:=by
        match row,hrl with
        | [q],_=>
         have:off=0:=by omega
         subst this;rfl
        | [],hrl=>simp at hrl;omega
        |_::_::_,hrl=>simp at hrl;omega
       rw [e3];exact hk
      ·rw [cQ]at hk;exact hk
    ·exact hv.elim
  ·exact hv.elim
 ·exact hv.elim
def aG9 (ti:TypeId->Option TI) (t:TypeId) (id:Nat) (l c:SV) (pin:Pin) (fr:Fr) (hp:Hp) (K:SV->Hp->Prop):Prop:=
 match ti t with
 |some { td:= .slice e, .. }=>
  (match ti e with
  |some T=>
   (match l, c with
   | .d (.int _ n), .d (.int _ m)=>
    0 < T.size/\0<=n/\n<=m/\m<=9223372036854775807/\(T.bytes:Int)* m<=281474976710656/\eN id pin fr hp/\
     K (.mw id T.size n.toNat) ((id, .mrow e T.size m.toNat (List.replicate n.toNat T.zero))::hp)
   |_,_=>aF "make: no ints")
  |none=>aF "make: an element's type")
 |_=>aF "make: a type"
theorem Env.retop_kb (ρ:Env) {id n i:Nat}{v:Value}{x:HObj}(h:i≠id):(ρ.retop id n v).kb i x=ρ.kb i x:=by
 cases x<;>simp [Env.kb,Env.retop,h]
theorem aEa {ti:TypeId->Option TI}(hti:cI P ti) {o:Oper}{t:TypeId}{x y:Operand}{id:Nat}(ho:o.op= .makeSlice t x y) {pin:Pin}{fr:Fr}{hp:Hp}{K:SV->Hp->Prop}
  (h:ev fr x λl=>ev fr y λc=>aG9 ti t id l c pin fr hp K):sA P o pin fr hp K:=by
 intro E ρ a w hpin hm hf next Q hn
 obtain⟨l,hl,hv0⟩:=bR h
 obtain⟨c,hc,hv⟩:=bR hv0
 clear hv0
 have h1:=aS hf hl
 have h2:=aS hf hc
 unfold aG9 at hv
 split at hv
 ·rename_i e _ _ _ hT
  obtain⟨d,i,z,hT⟩:=aK (hti _ _ hT)
  have hd:=bI hT.td
  subst hd
  split at hv
  ·rename_i T hT2
   obtain⟨d2,i2,z2,hT2⟩:=aK (hti _ _ hT2)
   split at hv
   ·rename_i k1 n k2 m
    obtain⟨hpos,hn0,hnm,hm63,hby,⟨f1,f2,f3⟩,hk⟩:=hv
    have e1:=h1.int_inv
    have e2:=h2.int_inv
    have hrun:=run_make (P:=P) w t e i2 z2 hT.und hT2.info hT2.zero k1 k2 n m hn0 hnm (by rw [hT2.bytes];exact hby) hm63
    have hrun':(execOp a.eval o).run P w= .ok (.value (.slice (some ⟨w.heap.size,0,none⟩) n.toNat m.toNat)) (w.alloc (.cells (madeCells z2.cells (m.toNat * i2.size)) e)):=by
     simp only [execOp,ho,e1,e2,Sem.run_bind,hrun,Result.andThen_ok,Sem.run_pure]
    have hgr:=Grew.alloc w (.cells (madeCells z2.cells (m.toNat * i2.size)) e)
    have hlen:(List.replicate n.toNat T.zero).length=n.toNat:=List.length_replicate
    have hsz:i2.size=T.size:=hT2.size
    have hfl:Flat w ρ.S T.size (List.replicate n.toNat T.zero) ((madeCells z2.cells (m.toNat * i2.size)).toList.take ((List.replicate n.toNat T.zero).length * T.size)):=by
     have h0:=kZ hT2 w ρ.S n.toNat hpos
     have e3:(madeCells z2.cells (m.toNat * i2.size)).toList.take ((List.replicate n.toNat T.zero).length * T.size)=((Array.range (n.toNat * i2.size)).map λk=>z2.cells[k % z2.cells.size]!).toList:=by
      have hle:n.toNat * T.size<=m.toNat * T.size:=Nat.mul_le_mul_right _ (by omega)
      apply List.ext_getElem?
      intro k
      rw [hlen,List.getElem?_take,hsz]
      simp only [madeCells,Array.toList_map,Array.toList_range,List.getElem?_map]
      by_cases hk':k < n.toNat * T.size
      ·rw [if_pos hk',List.getElem?_range (by omega),List.getElem?_range hk']
      ·rw [if_neg hk',List.getElem?_eq_none (by simpa using hk')];rfl
     rw [e3]
     exact h0
    have hmut:dI (w.alloc (.cells (madeCells z2.cells (m.toNat * i2.size)) e)) ρ.S e T.size m.toNat (List.replicate n.toNat T.zero) (.slice (some ⟨w.heap.size,0,none⟩) n.toNat m.toNat):=by
     by_cases hm0:m.toNat=0
     ·have hn0':n.toNat=0:=by omega
      rw [hn0',hm0]
      exact .inl ⟨rfl,rfl,_,rfl⟩
     ·refine .inr ⟨by omega,w.heap.size,_,by rw [hlen],heap_alloc_new w _,by rw [hlen];omega,by simp only [maxLen];omega,by rw [size_madeCells,hsz],hfl.mono (hgr.keeps hm.slt) (λ_ _ x=>x),λj hj=> ?_⟩
      have:=hm.slt _ j hj;omega
    obtain ⟨s1, s2, s3⟩ := hm.newMrow (id := id) f3 (by rw [hpin]; exact f1) hgr hmut (by
     intro g hg
     simp only [cZ]at hg
     split at hg
     ·cases hg
     ·injection hg with hg;omega)
    have hrep:Rep (w.alloc (.cells (madeCells z2.cells (m.toNat * i2.size)) e)) (ρ.retop id (List.replicate n.toNat T.zero).length (.slice (some ⟨w.heap.size,0,none⟩) n.toNat m.toNat)) (.mw id T.size n.toNat) (.slice (some ⟨w.heap.size,0,none⟩) n.toNat m.toNat):=
     .mw id T.size n.toNat m.toNat _ (by omega) (by simp only [maxLen];omega) (λ_=>⟨_,rfl⟩) (by simp [Env.retop]) (by simp [Env.retop])
    refine bO hrun' (hn _ _ _ _ _ hk s1 (hf.mono s2 (λ_ _ x=>x) λj hj=>s3 j λe=>f2 (e ▸ hj)) hrep (KInfo.mk_ (hm.kept_grew hgr) (λ_ _ x=>x) λj x g hx hg=> ?_))
    have hne:j≠id:= λe=>f3 (e ▸ bE hx (.inl rfl))
    exact⟨by rw [cB (Ne.symm hne)];exact hx,by rw [ρ.retop_kb hne];exact hg⟩
   ·exact hv.elim
  ·exact hv.elim
 ·exact hv.elim
def oK (ti:TypeId->Option TI) (tx:TypeId) (z:Nat) (x:SV) (hp:Hp):Option (List (List D)):=
 match x with
 | .mw id z' n => (match ti tx with
  |some { td:= .slice _, .. }=>(match aN hp id with|some (.mrow _ _ _ rows)=>if z=z' then some (rows.take n)else none|_=>none)
  |_=>none)
 | .zc=>(match ti tx with|some { td:= .slice _, .. }=>some []|_=>none)
 |x=>uW ti tx z x
theorem hG (w:World) (t tx ty e:TypeId) (i:TypeInfo) (z:Value) (dx:TypeDesc) (ht:P.underlying t=some (.slice e)) (htx:P.underlying tx=some dx) (hdx:dx= .string\/ ∃e',dx= .slice e')
  (hi:P.info? e=some i) (hz:i.zero=some z) (hzs:z.cells.size=i.size) (A:Option Addr)
  (x:Value) (m:Nat) (news:List Value) (hl:news.length=m * i.size) (hlen: ∀u:World,(Builtin.lenOf x).run P u= .ok m u)
  (hfc: ∀u:World,u.heap=w.heap->(Builtin.firstCells i.size m x).run P u= .ok news.toArray u)
  (h63:m<=maxLen) (hbytes:m * i.bytes<=140737488355328):
  ∃v' w',(Builtin.append_ #[t,tx] ty #[.slice A 0 0,x]).run P w= .ok v' w'/\((m=0/\v'= .slice A 0 0/\w'=w)\/(0 < m/\w'.ownsRow 0 e i.size v' m news/\v'.ownBlock=some w.heap.size/\Grew w w')):=by
 have hsmall:m<=9223372036854775807:=by simp only [maxLen]at h63;omega
 have hlen':news.length=m * i.size:=hl
 have hgrew: ∀o,Grew w (w.drew.alloc o):= λo=>(Grew.drew w).trans (Grew.alloc _ _)
 by_cases hm:m=0
 ·subst hm
  have hn:news=[]:=List.eq_nil_of_length_eq_zero (by simpa using hl)
  subst hn
  refine⟨.slice A 0 0,w, ?_, .inl ⟨rfl,rfl,rfl⟩⟩
  have hf:=hfc w rfl
  rcases hdx with rfl|⟨e',rfl⟩<;>cases A<;>simp [Builtin.append_,run_underlying ht,run_underlying htx,sizeOf,typeInfo,hi,hlen,hf,storeCells]
 ·have hge:=grownCap_ge w m 0 e
  have hcm:grownCap w m 0 e<=maxLen:=grownCap_le_maxLen w m 0 e h63
  have h63':¬ (9223372036854775807 < (m:Int)):=by omega
  have h48':¬ (281474976710656 < Builtin.nextslicecap m 0 * i.bytes):=by
   have:=growslice_fits (need:=m) (old:=0) (bytes:=i.bytes) (by omega) (by simpa using hbytes)
   omega
  have hf:=hfc w.drew rfl
  have hgr:(w.drew.alloc (.cells (news.toArray++Builtin.zeroCells z.cells (grownCap w m 0 e - m)) e)).ownsRow 0 e i.size
    (.slice (some ⟨w.heap.size,0,none⟩) m (grownCap w m 0 e)) m news:=by
   refine⟨hlen', .inr ⟨w.heap.size,_,_,rfl,Nat.zero_le _,heap_alloc_new w.drew _,hge,hcm, ?_, ?_⟩⟩
   ·simp only [Array.size_append,List.size_toArray,size_zeroCells,hzs,hl,<-Nat.add_mul]
    congr 1
    omega
   ·simp only [Array.toList_append]
    rw [<-hlen']
    exact List.take_left
  have hfo:(Builtin.firstCells i.size 0 (.slice A 0 0)).run P w.drew= .ok #[] w.drew:=by cases A<;>simp [Builtin.firstCells,loadCells,loadCellsFrom]
  refine⟨.slice (some ⟨w.heap.size,0,none⟩) m (grownCap w m 0 e),_, ?_, .inr ⟨by omega,hgr,rfl,hgrew _⟩⟩
  rcases hdx with rfl|⟨e',rfl⟩<;>simp [Builtin.append_,run_underlying ht,run_underlying htx,sizeOf,typeInfo,zeroValue,hi,hz,hlen,hm,h63',h48',Question.forced,hf,hfo,newRow,grownCap]
theorem vK {w':World}{S:Nat->Nat->Prop}{e z:Nat}{v':Value}{rows:List (List D)}{vs:List Value}(hown:w'.ownsRow 0 e z v' rows.length vs) (hfl:Flat w' S z rows vs) (hne: ∃g,v'.ownBlock=some g) (hpos:0 < rows.length)
  (hS: ∀g,v'.ownBlock=some g-> ∀k,¬ S g k): ∃cap,dI w' S e z cap rows v'/\rows.length<=cap/\cZ v'=v'.ownBlock:=by
 rcases hown.2 with⟨rfl,h0⟩|⟨g,cap,cur,rfl,_,hg,hnc,hcm,hcs,htake⟩
 ·omega
 ·refine⟨cap, .inr ⟨by omega,g,cur,rfl,hg,hnc,hcm,hcs, ?_,hS g rfl⟩,hnc, ?_⟩
  ·rw [htake];exact hfl
  ·have:cap≠0:=by omega
   simp [cZ,Value.ownBlock,this]
theorem dI.owns {w:World}{S:Nat->Nat->Prop}{e z cap:Nat}{rows:List (List D)}{v:Value}(h:dI w S e z cap rows v) (hc:0 < cap):
  ∃xs,w.ownsRow 0 e z v rows.length xs/\Flat w S z rows xs/\cZ v=v.ownBlock/\ ∃g,v= .slice (some ⟨g,0,none⟩) rows.length cap:=by
 rcases h with⟨_,h0,_⟩|⟨_,g,cur,rfl,q1,q2,q3,q4,q6,q7⟩
 ·omega
 ·refine⟨cur.toList.take (rows.length * z),⟨q6.len, .inr ⟨g,cap,cur,rfl,Nat.zero_le _,q1,q2,q3,q4,rfl⟩⟩,q6, ?_,g,rfl⟩
  have:cap≠0:=by omega
  simp [cZ,Value.ownBlock,this]
theorem pH {ti:TypeId->Option TI}(hti:cI P ti) {tx:TypeId}{z:Nat}{x:SV}{hp:Hp}{rows:List (List D)}(h:oK ti tx z x hp=some rows) {E:Entry}{w:World}{ρ:Env}{v:Value}(hm:Mem E ρ hp w) (hr:Rep w ρ x v)
  (hver: ∀id z' n,x= .mw id z' n-> ∀e z'' c rs,aN hp id=some (.mrow e z'' c rs)->n=rs.length/\z'=z''):
  ∃dx vs,P.underlying tx=some dx/\(dx= .string\/ ∃e',dx= .slice e')/\Flat w ρ.S z rows vs/\(∀u:World,(Builtin.lenOf v).run P u= .ok rows.length u)/\
   ∀u:World,u.heap=w.heap->(Builtin.firstCells z rows.length v).run P u= .ok vs.toArray u:=by
 unfold oK at h
 split at h
 ·rename_i id z' n
  split at h
  ·rename_i e _ _ _ hT
   obtain⟨d,i,zz,hT⟩:=aK (hti _ _ hT)
   have hd:=bI hT.td
   subst hd
   split at h
   ·rename_i e' z'' cap rs hoo
    split at h
    ·rename_i hz
     subst hz
     injection h with h
     obtain⟨hn,hz2⟩:=hver id z n rfl e' z'' cap rs hoo
     subst hn hz2
     rw [List.take_length]at h
     subst h
     obtain⟨q1,q2⟩:=hm.sat id _ hoo
     obtain⟨A,c,e1,_,_,_,_,e2⟩:=hr.mw_inv
     have e3:=e2 q1.symm
     rcases q2 with⟨hr0,_,A',e4⟩|⟨hc,g,cur,e4,p1,p2,p3,p4,p6,p7⟩
     ·subst hr0
      rw [e4]at e3
      subst e3
      refine⟨_,[],hT.und, .inr ⟨_,rfl⟩,Flat.nil _ _ _,λu=>by simp [Builtin.lenOf],λu _=> ?_⟩
      cases A'<;>simp [Builtin.firstCells,loadCells,loadCellsFrom]
     ·rw [e4]at e3
      subst e3
      refine⟨_,cur.toList.take (rs.length * z),hT.und, .inr ⟨_,rfl⟩,p6,λu=>by simp [Builtin.lenOf],λu hu=> ?_⟩
      refine run_firstCells_some u z rs.length ⟨g,0,none⟩ _ _ _ p6.len λj v hv=> ?_
      rw [cG,cell_of_row u g j cur e' (0,0) (by rw [hu];exact p1)]
      rw [List.getElem?_take]at hv
      split at hv
      ·simpa using hv
      ·cases hv
    ·cases h
   ·cases h
  ·cases h
 ·split at h
  ·rename_i e _ _ _ hT
   obtain⟨d,i,zz,hT⟩:=aK (hti _ _ hT)
   have hd:=bI hT.td
   subst hd
   injection h with h
   subst h
   obtain⟨A,e1⟩:=hr.zc_inv
   subst e1
   refine⟨_,[],hT.und, .inr ⟨_,rfl⟩,Flat.nil _ _ _,λu=>by simp [Builtin.lenOf],λu _=> ?_⟩
   cases A<;>simp [Builtin.firstCells,loadCells,loadCellsFrom]
  ·cases h
 ·exact tN hti h hr
def aHu (hp:Hp):SV->Prop
 | .mw id z n=>(match aN hp id with|some (.mrow _ z' _ rs)=>n=rs.length/\z=z'|_=>aF "no such rows")
 |_=>True
theorem aBw {hp:Hp}{x:SV}(h:aHu hp x): ∀id z' n,x= .mw id z' n-> ∀e z'' c rs,aN hp id=some (.mrow e z'' c rs)->n=rs.length/\z'=z'':=by
 rintro id z' n rfl e z'' c rs hg
 simp only [aHu,hg]at h
 exact h
def uQ (ti:TypeId->Option TI) (t tx:TypeId) (id z n:Nat) (x:SV) (hp:Hp) (K:SV->Hp->Prop):Prop:=
 match ti t with
 |some { td:= .slice e, .. }=>
  (match ti e with
  |some T=>
   (match oK ti tx T.size x hp with
   |some new=>
    aHu hp x/\
    (match aN hp id with
    |some (.mrow e' z' _ rows)=>e'=e/\T.size=z/\z=z'/\n=rows.length/\rows.length+new.length<=9223372036854775807/\(rows.length+new.length)* T.bytes<=140737488355328/\
     ∀cap':Nat,rows.length+new.length<=cap'->gC hp id (.mrow e z cap' (rows++new)) λhp'=>K (.mw id z (rows.length+new.length)) hp'
    |_=>aF "append: no such rows")
   |none=>aF "append: what is appended")
  |none=>aF "append: an element's type")
 |_=>aF "append: a type"
def oI (ti:TypeId->Option TI) (t tx:TypeId) (id:Nat) (x:SV) (pin:Pin) (fr:Fr) (hp:Hp) (K:SV->Hp->Prop):Prop:=
 match ti t with
 |some { td:= .slice e, .. }=>
  (match ti e with
  |some T=>
   (match oK ti tx T.size x hp with
   |some new=>
    aHu hp x/\eN id pin fr hp/\new.length<=9223372036854775807/\new.length * T.bytes<=140737488355328/\ ∀cap':Nat,new.length<=cap'->K (.mw id T.size new.length) ((id, .mrow e T.size cap' new)::hp)
   |none=>aF "append: what is appended")
  |none=>aF "append: an element's type")
 |_=>aF "append: a type"
theorem lE {o:Oper}{t tx:TypeId}{x y:Operand}(ho:o.op= .call { callee:= .builtin .append,args:= #[x,y],argTypes:= #[t,tx] }) {a:Act}{w w':World}{v:Value}
  (e:(Builtin.append_ #[t,tx] o.type #[a.eval x,a.eval y]).run P w= .ok v w'):(execOp a.eval o).run P w= .ok (.value v) w':=by
 rw [aO ho]
 simp only [builtin,List.map_toArray,List.map_cons,List.map_nil,Sem.run_bind,e,Result.andThen_ok,Sem.run_pure]
theorem aCl {ti:TypeId->Option TI}(hti:cI P ti) {o:Oper}{t tx:TypeId}{x y:Operand}(ho:o.op= .call { callee:= .builtin .append,args:= #[x,y],argTypes:= #[t,tx] }) {pin:Pin}{fr:Fr}{hp:Hp}{K:SV->Hp->Prop}{id z n:Nat}{r:SV}
  (hs:evO fr x=some (.mw id z n)) (hr:evO fr y=some r) (hv:uQ ti t tx id z n r hp K):sB P o pin fr hp K:=by
 intro E ρ a w hpin hm hf next Q hn
 have h1:=aS hf hs
 have h2:=aS hf hr
 unfold uQ at hv
 split at hv
 ·rename_i e _ _ _ hT
  obtain⟨d,i,z0,hT⟩:=aK (hti _ _ hT)
  have hd:=bI hT.td
  subst hd
  split at hv
  ·rename_i T hT2
   obtain⟨d2,i2,z2,hT2⟩:=aK (hti _ _ hT2)
   split at hv
   ·rename_i new hnew
    obtain⟨hat,hv⟩:=hv
    split at hv
    ·rename_i e' z' cap rows hoo
     obtain⟨rfl,rfl,rfl,hver,h63,hby,hk⟩:=hv
     obtain⟨dx,vs,q1,q2,q3,q4,q5⟩:=pH hti hnew hm h2 (aBw hat)
     obtain⟨n0,m0⟩:=hm.sat id _ hoo
     obtain⟨A,c,e1,_,_,_,_,e2⟩:=h1.mw_inv
     have e3:=e2 (by omega)
     have fin: ∀(v':Value) (w':World) (cap':Nat),(Builtin.append_ #[t,tx] o.type #[a.eval x,a.eval y]).run P w= .ok v' w'->w'.os=w.os->w'.tape=w.tape->aFv w' w->w.heap.size<=w'.heap.size->
       (∀b,b < w.heap.size->cZ (ρ.tv id)≠some b->w'.heap[b]? =w.heap[b]?)->dI w' ρ.S e' T.size cap' (rows++new) v'->(∀g,cZ v'=some g->cZ (ρ.tv id)=some g\/w.heap.size<=g)->
       (((rows++new).length=rows.length/\v'=ρ.tv id)\/rows.length < (rows++new).length)->o.wp P a w next Q:=by
      intro v' w' cap' r1 r2 r3 r4 r5 r6 r7 r8 r9
      obtain⟨s1,s2,s3⟩:=hm.setMrow hoo r2 r3 r4 r5 r6 r7 r8 r9
      obtain⟨A',p1,p2,p3,p4⟩:=r7.shape
      have hk':=hk cap' (by rw [<-List.length_append];exact p2)
      rw [cQ]at hk'
      have hrep:Rep w' (ρ.retop id (rows++new).length v') (.mw id T.size (rows.length+new.length)) v':=by
       rw [p1,<-List.length_append]
       exact .mw id T.size _ cap' A' p2 p3 (λh0=>p4 (by omega)) (by simp [Env.retop]) (by simp [Env.retop])
      exact bO (lE ho r1) (hn _ _ _ _ _ hk' s1 (hf.mono s2 (λ_ _ x=>x) λj _=>s3 j) hrep)
     by_cases hc:cap=0
     ·subst hc
      obtain⟨rfl,_,A0,e4⟩:rows=[]/\0=0/\ ∃A,ρ.tv id= .slice A 0 0:=by
       rcases m0 with h|⟨h,_⟩
       ·exact h
       ·omega
      have hev:a.eval x= .slice A0 0 0:=e3.trans e4
      obtain⟨v',w',r1,r2⟩:=hG (P:=P) w t tx o.type e' i2 z2 dx hT.und q1 q2 hT2.info hT2.zero hT2.cells A0 (a.eval y) new.length vs (by rw [hT2.size];exact q3.len) q4 (by rw [hT2.size];exact q5) (by simp only [maxLen];simpa using h63) (by rw [hT2.bytes];simpa using hby)
      rw [<-hev]at r1
      rcases r2 with⟨hm0,rfl,rfl⟩|⟨hm0,hown,hob,hgr⟩
      ·have hnil:new=[]:=List.eq_nil_of_length_eq_zero hm0
       subst hnil
       exact fin _ _ 0 r1 rfl rfl (.refl _) (Nat.le_refl _) (λ_ _ _=>rfl) (.inl ⟨rfl,rfl,A0,rfl⟩) (λg hg=> .inl (by rw [e4];exact hg)) (.inl ⟨rfl,e4.symm⟩)
      ·rw [hT2.size]at hown
       obtain ⟨cap', c1, c2, c3⟩ := vK (S := ρ.S) hown (q3.mono (hgr.keeps hm.slt) (λ_ _ x => x)) ⟨_, hob⟩ hm0 (λg hg k hk' => by
        rw [hob]at hg;injection hg with hg;have:=hm.slt g k hk';omega)
       exact fin v' w' cap' r1 hgr.os hgr.tape hgr.output hgr.size (λb hb _=>hgr.block b hb) (by simpa using c1) (λg hg=> .inr (by rw [c3,hob]at hg;injection hg with hg;omega)) (.inr (by simpa using hm0))
     ·obtain⟨xs,o1,o2,o3,g,o4⟩:=m0.owns (by omega)
      have hev:a.eval x=ρ.tv id:=e3
      obtain⟨v',w',r1,hown,hcase⟩:=jM (P:=P) w t tx o.type e' i2 z2 dx hT.und q1 q2 hT2.info hT2.zero hT2.cells (ρ.tv id) rows.length xs (by rw [hT2.size];exact o1) (a.eval y) new.length vs (by rw [hT2.size];exact q3.len) q4 (by rw [hT2.size];exact q5) q3.one
       (by simp only [maxLen];omega) (by rw [hT2.bytes];exact hby)
      rw [<-hev]at r1
      rw [hT2.size]at hown
      have hmb:cZ (ρ.tv id)=some g:=by rw [o3,o4];rfl
      have hnoS: ∀k,¬ ρ.S g k:=by
       rcases m0 with⟨_,h0,_⟩|⟨_,g',cur,e5,_,_,_,_,_,h7⟩
       ·exact absurd h0 hc
       ·rw [o4]at e5
        injection e5 with e5
        injection e5 with e5
        injection e5 with e5
        subst e5;exact h7
      rw [<-List.length_append]at hown
      rcases hcase with⟨p1,p2,rfl⟩|⟨g',cap',cs,p1,p2,rfl⟩|⟨p1,p2,p3⟩
      ·have hnil:new=[]:=List.eq_nil_of_length_eq_zero p2
       subst hnil
       rw [p1]at r1
       exact fin _ _ cap r1 rfl rfl (.refl _) (Nat.le_refl _) (λ_ _ _=>rfl) (by simpa using m0) (λg hg=> .inl hg) (.inl ⟨by simp,rfl⟩)
      ·have hg':g'=g:=by rw [p1]at o4;injection o4 with o4;injection o4 with o4;injection o4 with o4
       subst hg'
       have hoth: ∀b,b < w.heap.size->cZ (ρ.tv id)≠some b->(w.setRow g' cs).heap[b]? =w.heap[b]? := λb _ hb=>setRow_other w g' b _ (λe=>hb (by rw [e];exact hmb))
       have hkp:bP ρ.S w (w.setRow g' cs):= λb k hs=>World.cell?_of_block (w:=w) (hoth b (hm.slt b k hs) λhb=>by rw [hmb]at hb;injection hb with hb;subst hb;exact hnoS k hs)
       by_cases hpos:0 < (rows++new).length
       ·obtain ⟨cap'', c1, c2, c3⟩ := vK (S := ρ.S) hown ((o2.append q3).mono hkp (λ_ _ x => x)) ⟨g', by rw [p2]; rfl⟩ hpos (λg hg k hk' => by
         rw [p2]at hg;simp only [Value.ownBlock,Option.some.injEq]at hg;subst hg;exact hnoS k hk')
        refine fin _ _ cap'' r1 rfl rfl (.refl _) (by simp [World.setRow]) hoth c1 (λg hg=> .inl (by rw [c3,p2]at hg;rw [hmb];exact hg)) ?_
        by_cases hm0:new.length=0
        ·left
         have hnil:new=[]:=List.eq_nil_of_length_eq_zero hm0
         subst hnil
         exact⟨by simp,by rw [p2,p1];simp⟩
        ·right;rw [List.length_append];omega
       ·have hr0:rows=[]:=List.eq_nil_of_length_eq_zero (by rw [List.length_append]at hpos;omega)
        have hn0':new=[]:=List.eq_nil_of_length_eq_zero (by rw [List.length_append]at hpos;omega)
        subst hr0 hn0'
        refine fin _ _ cap r1 rfl rfl (.refl _) (by simp [World.setRow]) hoth ?_ (λg hg=> .inl (by rw [p2]at hg;rw [p1];exact hg)) (.inl ⟨rfl,by rw [p2,p1];rfl⟩)
        have hcap:cap'=cap:=by rw [p1]at o4;injection o4 with _ _ o4
        rcases hown.2 with⟨h9,_⟩|⟨g2,cap2,cur2,h9,_,hg2,hnc,hcm,hcs,htake⟩
        ·rw [p2]at h9;cases h9
        ·rw [p2]at h9
         injection h9 with h9 h10 h11
         injection h9 with h9
         injection h9 with h9
         subst h9
         refine .inr ⟨by omega,g',cur2,by rw [p2,hcap];rfl,hg2,by simp,by omega,by rw [hcs];congr 1;omega, ?_,hnoS⟩
         simpa using Flat.nil _ _ _
      ·have hpos:0 < (rows++new).length:=by rw [List.length_append];omega
       obtain ⟨cap'', c1, c2, c3⟩ := vK (S := ρ.S) hown ((o2.append q3).mono (p2.keeps hm.slt) (λ_ _ x => x)) ⟨_, p1⟩ hpos (λg hg k hk' => by
        rw [p1]at hg;injection hg with hg;have:=hm.slt g k hk';omega)
       exact fin v' w' cap'' r1 p2.os p2.tape p2.output p2.size (λb hb _=>p2.block b hb) c1 (λg hg=> .inr (by rw [c3,p1]at hg;injection hg with hg;omega)) (.inr (by rw [List.length_append];omega))
    ·exact hv.elim
   ·exact hv.elim
  ·exact hv.elim
 ·exact hv.elim
theorem tV {ti:TypeId->Option TI}(hti:cI P ti) {o:Oper}{t tx:TypeId}{x y:Operand}{id:Nat}(ho:o.op= .call { callee:= .builtin .append,args:= #[x,y],argTypes:= #[t,tx] }) {pin:Pin}{fr:Fr}{hp:Hp}{K:SV->Hp->Prop}{s r:SV}
  (hs:evO fr x=some s) (hs0:s= .d .nil\/s= .zc) (hr:evO fr y=some r) (hv:oI ti t tx id r pin fr hp K):sA P o pin fr hp K:=by
 intro E ρ a w hpin hm hf next Q hn
 have h1:=aS hf hs
 have h2:=aS hf hr
 unfold oI at hv
 split at hv
 ·rename_i e _ _ _ hT
  obtain⟨d,i,z0,hT⟩:=aK (hti _ _ hT)
  have hd:=bI hT.td
  subst hd
  split at hv
  ·rename_i T hT2
   obtain⟨d2,i2,z2,hT2⟩:=aK (hti _ _ hT2)
   split at hv
   ·rename_i new hnew
    obtain⟨hat,⟨f1,f2,f3⟩,h63,hby,hk⟩:=hv
    obtain⟨dx,vs,q1,q2,q3,q4,q5⟩:=pH hti hnew hm h2 (aBw hat)
    obtain⟨A0,hev⟩: ∃A0,a.eval x= .slice A0 0 0:=by
     rcases hs0 with rfl|rfl
     ·exact⟨none,h1.nil_inv⟩
     ·exact h1.zc_inv
    obtain⟨v',w',r1,r2⟩:=hG (P:=P) w t tx o.type e i2 z2 dx hT.und q1 q2 hT2.info hT2.zero hT2.cells A0 (a.eval y) new.length vs (by rw [hT2.size];exact q3.len) q4 (by rw [hT2.size];exact q5) (by simp only [maxLen];simpa using h63) (by rw [hT2.bytes];simpa using hby)
    rw [<-hev]at r1
    have fin: ∀cap',Grew w w'->dI w' ρ.S e T.size cap' new v'->(∀g,cZ v'=some g->w.heap.size<=g)->o.wp P a w next Q:=by
     intro cap' hgr hmut hnewb
     obtain⟨s1,s2,s3⟩:=hm.newMrow (id:=id) f3 (by rw [hpin];exact f1) hgr hmut hnewb
     obtain⟨A',p1,p2,p3,p4⟩:=hmut.shape
     have hrep:Rep w' (ρ.retop id new.length v') (.mw id T.size new.length) v':=by
      rw [p1]
      exact .mw id T.size _ cap' A' p2 p3 (λh0=>p4 (by omega)) (by simp [Env.retop]) (by simp [Env.retop])
     refine bO (lE ho r1) (hn _ _ _ _ _ (hk cap' p2) s1 (hf.mono s2 (λ_ _ x=>x) λj hj=>s3 j λe=>f2 (e ▸ hj)) hrep (KInfo.mk_ (hm.kept_grew hgr) (λ_ _ x=>x) λj x g hx hg=> ?_))
     have hne:j≠id:= λe=>f3 (e ▸ bE hx (.inl rfl))
     exact⟨by rw [cB (Ne.symm hne)];exact hx,by rw [ρ.retop_kb hne];exact hg⟩
    rcases r2 with⟨hm0,rfl,rfl⟩|⟨hm0,hown,hob,hgr⟩
    ·have hnil:new=[]:=List.eq_nil_of_length_eq_zero hm0
     subst hnil
     exact fin 0 (Grew.refl _) (.inl ⟨rfl,rfl,A0,rfl⟩) (λg hg=>by cases A0<;>simp [cZ]at hg)
    ·rw [hT2.size]at hown
     obtain ⟨cap', c1, c2, c3⟩ := vK (S := ρ.S) hown (q3.mono (hgr.keeps hm.slt) (λ_ _ x => x)) ⟨_, hob⟩ hm0 (λg hg k hk' => by
      rw [hob]at hg;injection hg with hg;have:=hm.slt g k hk';omega)
     exact fin cap' hgr c1 (λg hg=>by rw [c3,hob]at hg;injection hg with hg;omega)
   ·exact hv.elim
  ·exact hv.elim
 ·exact hv.elim
end
end Go.Proofs.YtdjfkmkdkclahaaGreatDoor
