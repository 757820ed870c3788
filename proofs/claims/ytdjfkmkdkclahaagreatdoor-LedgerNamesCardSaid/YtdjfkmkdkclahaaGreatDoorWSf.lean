/-
  Symbolic operations, one by one: reading. Symbolic operations, one by one: computing.
  Conditions: none.
-/
import Derived.Test.YtdjfkmkdkclahaaGreatDoorWSd
import Derived.Laws.StructEq
set_option linter.unusedSectionVars false
set_option linter.unusedSimpArgs false
set_option linter.unusedVariables false
namespace Go.Proofs.YtdjfkmkdkclahaaGreatDoor
section
open Go.RowKit
section
variable {P:Program}
theorem fL {t:TypeId}{T:TI}{d:TypeDesc}{i:TypeInfo}{z:Value}(h:TIok P t T d i z) (ha:T.td.isAgg=true) (w:World) (a:Addr) (vs:List Value) (hl:vs.length=T.size)
  (hc: ∀j v,vs[j]? =some v->w.cell? (a.add j)=some v):(loadVar t a).run P w= .ok (.agg vs.toArray) w:=by
 have hr:=run_loadCells_list (P:=P) w a vs hc
 rw [hl]at hr
 simp [loadVar,h.run_isAgg,ha,h.run_size,hr]
theorem fK {t:TypeId}{T:TI}{d:TypeDesc}{i:TypeInfo}{z:Value}(h:TIok P t T d i z) (ha:T.td.isAgg=false) (w:World) (a:Addr) (v:Value)
  (hc:w.cell? a=some v):(loadVar t a).run P w= .ok v w:=by
 simp [loadVar,h.run_isAgg,ha,load,Sem.run,hc]
def aCn (ti:TypeId->Option TI) (t:TypeId) (s:SV) (hp:Hp) (K:SV->Prop):Prop:=
 match ti t with
 |none=>aD "load: a type"
 |some T=>
  match s with
  | .ptr id off=>
   match aM hp id with
   |some (.cells _ cs)=>if T.td.isAgg then off+T.size<=cs.length/\K (vN ((cs.drop off).take T.size))else ∃x,cs[off]? =some x/\K x
   |some (.ro _ cs)=>if T.td.isAgg then off+T.size<=cs.length/\K (vN ((cs.drop off).take T.size))else ∃x,cs[off]? =some x/\K x
   |_=>aD "load: no such object"
  | .ea z rows i off=> ∃row,rows[i]? =some row/\if T.td.isAgg then off+T.size<=z/\K (.d (.agg ((row.drop off).take T.size)))else ∃x,row[off]? =some x/\K (.d x)
  | .mp id z i off ver=>
   match aM hp id with
   |some (.mrow _ z' _ rows)=>z=z'/\ver=rows.length/\ ∃row,rows[i]? =some row/\if T.td.isAgg then off+T.size<=z/\K (.d (.agg ((row.drop off).take T.size)))else ∃x,row[off]? =some x/\K (.d x)
   |_=>aD "load: no such rows"
  |_=>aD "load: no address"
theorem dY.row {w:World}{S:Nat->Nat->Prop}{e z cap:Nat}{rows:List (List D)}{v:Value}(h:dY w S e z cap rows v) {i:Nat}{row:List D}(hi:rows[i]? =some row):
  ∃g cur,dM v=some g/\w.heap[g]? =some (.cells cur e (0,0))/\row.length=z/\(i+1)* z<=cur.size/\ ∀j x,row[j]? =some x-> ∃u,cur[i * z+j]? =some u/\RepD w S x u/\u.oneCell'=true:=by
 rcases h with⟨rfl,_⟩|⟨hc,g,cur,rfl,h1,h2,h3,h4,h6,h7⟩
 ·simp at hi
 ·have hlt:i < rows.length:=(List.getElem?_eq_some_iff.1 hi).1
  have hle:(i+1)* z<=cap * z:=Nat.mul_le_mul_right z (by omega)
  refine⟨g,cur,(by have:cap≠0:=(by omega);simp [dM,this]),h1,h6.hz row (List.mem_of_getElem? hi),by rw [h4];exact hle,λj x hx=> ?_⟩
  obtain⟨u,u1,u2⟩:=h6.at_ i row j x hi hx
  refine⟨u, ?_,u2,h6.one u (List.mem_of_getElem? u1)⟩
  rw [List.getElem?_take]at u1
  split at u1
  ·simpa using u1
  ·cases u1
theorem uA {w:World}{ρ:Env}{g off t:Nat}{T:TI}{d:TypeDesc}{i:TypeInfo}{z:Value}{t':TypeId}{cs:List SV}(hT:TIok P t T d i z) (hc:cI w ρ g t' cs) {K:SV->Prop}
  (h:if T.td.isAgg then off+T.size<=cs.length/\K (vN ((cs.drop off).take T.size))else ∃x,cs[off]? =some x/\K x):
  ∃v s,(∀w':World,w'.heap[g]? =w.heap[g]? ->(loadVar t ⟨g,off,none⟩).run P w'= .ok v w')/\Rep w ρ s v/\K s:=by
 obtain⟨cur,h1,h2,h3,h4⟩:=hc
 have hcell: ∀w':World,w'.heap[g]? =w.heap[g]? -> ∀j,w'.cell? ⟨g,j,none⟩=cur[j]? := λw' hg j=>cell_of_row w' g j cur t' (0,0) (hg.trans h1)
 split at h
 ·rename_i ha
  obtain⟨hle,hk⟩:=h
  refine⟨.agg ((cur.toList.drop off).take T.size).toArray,_,λw' hg=>fL hT ha w' _ _ (by simp;omega) ?_,iS (by simp;omega) ?_,hk⟩
  ·intro j v hv
   rw [bV,hcell w' hg]
   rw [List.getElem?_take]at hv
   split at hv
   ·rw [List.getElem?_drop]at hv;simpa using hv
   ·cases hv
  ·intro j s v hs hv
   have hv':((cur.toList.drop off).take T.size)[j]? =some v:=by simpa using hv
   rw [List.getElem?_take]at hs hv'
   split at hs
   ·rename_i hj
    rw [if_pos hj]at hv'
    rw [List.getElem?_drop]at hs hv'
    exact h4 _ s v hs (by simpa using hv')
   ·cases hs
 ·rename_i ha
  obtain⟨x,hx,hk⟩:=h
  have hlt:off < cs.length:=(List.getElem?_eq_some_iff.1 hx).1
  have hv:cur[off]? =some (cur[off]'(by omega)):=Array.getElem?_eq_getElem (by omega)
  exact⟨_,x,λw' hg=>fK hT (by simpa using ha) w' _ _ (by rw [hcell w' hg];exact hv),h4 off x _ hx hv,hk⟩
theorem aFh {ti:TypeId->Option TI}(hti:cG P ti) {o:Oper}{t:TypeId}{x:Operand}(ho:o.op= .load t x) {fr:Fr}{hp:Hp}{K:SV->Prop}
  (h:ev fr x λs=>aCn ti t s hp K):cP P o fr hp K:=by
 intro E ρ a w hm hf
 obtain⟨s,hs,hv⟩:=bR h
 have hr:=aR hf hs
 have hrun: ∀(ad:Addr) v w',a.eval x= .pointer (some ad)->(loadVar t ad).run P w'= .ok v w'->(execOp a.eval o).run P w'= .ok (.value v) w':=by
  intro ad v w' e1 e2
  simp [execOp,ho,Instr.loadAt,e1,Instr.sureAddr,e2]
 unfold aCn at hv
 split at hv
 ·exact hv.elim
 ·rename_i T hT
  obtain⟨d,i,z,hT⟩:=aL (hti _ _ hT)
  split at hv
  ·rename_i id off
   obtain⟨g,hg,e⟩:=hr.ptr_inv
   split at hv
   ·rename_i t' cs ho'
    obtain⟨g',hg',hc,_⟩:=hm.sat id _ ho'
    rw [hg]at hg';injection hg' with hg';subst hg'
    obtain⟨v,s,h1,h2,h3⟩:=uA hT hc hv
    exact⟨v,s,λw' hkp=>hrun _ v w' e (h1 w' (hkp.o id _ g ho' hg)),h2,h3⟩
   ·rename_i t' cs ho'
    obtain⟨g',hg',hc⟩:=hm.sat id _ ho'
    rw [hg]at hg';injection hg' with hg';subst hg'
    obtain⟨v,s,h1,h2,h3⟩:=uA hT hc hv
    exact⟨v,s,λw' hkp=>hrun _ v w' e (h1 w' (hkp.o id _ g ho' hg)),h2,h3⟩
   ·exact hv.elim
  ·rename_i z' rows i' off
   obtain⟨b,o',hview,e⟩:=hr.ea_inv
   obtain⟨row,hrow,hv⟩:=hv
   have hrl:=hview.hz row (List.mem_of_getElem? hrow)
   split at hv
   ·rename_i ha
    obtain⟨hle,hk⟩:=hv
    -- the row's cells
    have hgc: ∀w',Kept ρ hp w w'-> ∀k v,ρ.S b k->w.cell? ⟨b,k,none⟩=some v->w'.cell? ⟨b,k,none⟩=some v:= λw' hkp k v hs hc=>(hkp.s b k hs).trans hc
    have hcells: ∀j,j < T.size-> ∃v,w.cell? ⟨b,o'+(i' * z'+(off+j)),none⟩=some v/\ρ.S b (o'+(i' * z'+(off+j)))/\ ∀y,row[off+j]? =some y->RepD w ρ.S y v:=by
     intro j hj
     have hx:row[off+j]? =some (row[off+j]'(by omega)):=List.getElem?_eq_getElem (by omega)
     obtain⟨v,c1,c2,_,c4⟩:=hview.cell i' row (off+j) _ hrow hx
     exact⟨v,c1,c2,λy hy=>by rw [hx]at hy;injection hy with hy;rw [<-hy];exact c4⟩
    let vs:List Value:=(List.range T.size).map λj=>(w.cell? ⟨b,o'+(i' * z'+(off+j)),none⟩).getD undef
    have hvs: ∀j v,vs[j]? =some v->j < T.size/\w.cell? ⟨b,o'+(i' * z'+(off+j)),none⟩=some v:=by
     intro j v hj
     simp only [vs,List.getElem?_map,Option.map_eq_some_iff]at hj
     obtain⟨j',hj',rfl⟩:=hj
     obtain⟨hlt,he⟩:=List.getElem?_eq_some_iff.1 hj'
     simp at hlt he
     subst he
     obtain⟨v,c1,_⟩:=hcells j hlt
     exact⟨hlt,by rw [c1];rfl⟩
    refine⟨.agg vs.toArray, .d (.agg ((row.drop off).take T.size)),λw' hg=>hrun _ _ w' e (fL hT ha w' _ vs (by simp [vs]) ?_), .d _ _ (.agg _ _ (by simp [vs];omega) ?_),hk⟩
    ·intro j v hj
     rw [bV]
     obtain⟨hjl,hjc⟩:=hvs j v hj
     obtain⟨_,_,hjs,_⟩:=hcells j hjl
     have e3:o'+(i' * z'+off)+j=o'+(i' * z'+(off+j)):=by omega
     rw [e3]
     exact hgc w' hg _ v hjs hjc
    ·intro j y v hy hv
     obtain⟨hlt,hc⟩:=hvs j v (by simpa using hv)
     obtain⟨v',c1,_,c2⟩:=hcells j hlt
     rw [hc]at c1;injection c1 with c1;subst c1
     rw [List.getElem?_take,if_pos hlt,List.getElem?_drop]at hy
     exact c2 y hy
   ·rename_i ha
    obtain⟨y,hy,hk⟩:=hv
    obtain⟨v,c1,c2,_,c4⟩:=hview.cell i' row off y hrow hy
    exact⟨v,_,λw' hkp=>hrun _ v w' e (fK hT (by simpa using ha) w' _ _ ((hkp.s _ _ c2).trans c1)), .d _ _ c4,hk⟩
  ·rename_i id z' i' off ver
   split at hv
   ·rename_i e' z'' cap rows ho'
    obtain⟨rfl,hver,row,hrow,hv⟩:=hv
    obtain⟨h1,h2⟩:=hm.sat id _ ho'
    obtain⟨ad,e,_,hgv⟩:=hr.mp_inv
    obtain⟨g,hg,rfl⟩:=hgv (by omega)
    obtain⟨g',cur,m1,m2,m3,m4,m5⟩:=h2.row hrow
    rw [hg]at m1;injection m1 with m1;subst m1
    have hcell: ∀w':World,Kept ρ hp w w'-> ∀j,w'.cell? ⟨g,j,none⟩=cur[j]? := λw' hkp j=>cell_of_row w' g j cur e' (0,0) ((hkp.o id _ g ho' hg).trans m2)
    split at hv
    ·rename_i ha
     obtain⟨hle,hk⟩:=hv
     have hsz:i' * z'+off+T.size<=cur.size:=by rw [Nat.add_mul]at m4;omega
     refine⟨.agg ((cur.toList.drop (i' * z'+off)).take T.size).toArray, .d (.agg ((row.drop off).take T.size)),λw' hkp=>hrun _ _ w' e (fL hT ha w' _ _ (by simp;omega) ?_), .d _ _ (.agg _ _ (by simp;omega) ?_),hk⟩
     ·intro j v hv'
      rw [bV,hcell w' hkp]
      rw [List.getElem?_take]at hv'
      split at hv'
      ·rw [List.getElem?_drop]at hv';simpa using hv'
      ·cases hv'
     ·intro j y v hy hv'
      have hv2:((cur.toList.drop (i' * z'+off)).take T.size)[j]? =some v:=by simpa using hv'
      rw [List.getElem?_take]at hy hv2
      split at hy
      ·rename_i hj
       rw [if_pos hj,List.getElem?_drop]at hv2
       rw [List.getElem?_drop]at hy
       obtain⟨u,u1,u2,_⟩:=m5 (off+j) y hy
       have e2:i' * z'+off+j=i' * z'+(off+j):=by omega
       rw [e2]at hv2
       have hv3:cur[i' * z'+(off+j)]? =some v:=by simpa using hv2
       rw [u1]at hv3;injection hv3 with hv3;subst hv3
       exact u2
      ·cases hy
    ·rename_i ha
     obtain⟨y,hy,hk⟩:=hv
     obtain⟨u,u1,u2,_⟩:=m5 off y hy
     exact⟨u,_,λw' hkp=>hrun _ u w' e (fK hT (by simpa using ha) w' _ _ (by rw [hcell w' hkp];exact u1)), .d _ _ u2,hk⟩
   ·exact hv.elim
  ·exact hv.elim
theorem aFf {o:Oper}{x:Operand}(ho:o.op= .move x\/o.op= .assign x) {fr:Fr}{hp:Hp}{K:SV->Prop}(h:ev fr x K):cP P o fr hp K:=by
 intro E ρ a w hm hf
 obtain⟨s,hs,hv⟩:=bR h
 refine⟨a.eval x,s,λw' _=> ?_,aR hf hs,hv⟩
 rcases ho with ho|ho<;>simp [execOp,ho]
theorem aLd {o:Oper}{c x y:Operand}(ho:o.op= .pick c x y) {fr:Fr}{hp:Hp}{K:SV->Prop}
  (h : ev fr c λt => (match t with
   | .d (.bool b)=>brB b (ev fr x K) (ev fr y K)
   |_=>aD "pick: no bool")):cP P o fr hp K:=by
 intro E ρ a w hm hf
 obtain⟨t,ht,hv⟩:=bR h
 have hr:=aR hf ht
 split at hv
 ·rename_i b
  have e:=hr.bool_inv
  cases b
  ·obtain⟨s,hs,hk⟩:=bR (aJc hv rfl)
   exact⟨a.eval y,s,λw' _=>by simp [execOp,ho,e,asBool],aR hf hs,hk⟩
  ·obtain⟨s,hs,hk⟩:=bR (aJb hv rfl)
   exact⟨a.eval x,s,λw' _=>by simp [execOp,ho,e,asBool],aR hf hs,hk⟩
 ·exact hv.elim
def aO4 (s:SV) (K:SV->Prop):Prop:=
 match s with
 | .ptr id off=>K (.ptr id off)
 | .ea z rows i off=>K (.ea z rows i off)
 | .mp id z i off ver=>K (.mp id z i off ver)
 | .yld id=>K (.yld id)
 | .fn f a b=>K (.fn f a b)
 | .d (.lit (.func (.func f) a b))=>K (.d (.lit (.func (.func f) a b)))
 |_=>aD "nilCheck"
theorem aN8 {o:Oper}{x:Operand}(ho:o.op= .nilCheck x) {fr:Fr}{hp:Hp}{K:SV->Prop}(h:ev fr x λs=>aO4 s K):cP P o fr hp K:=by
 intro E ρ a w hm hf
 obtain⟨s,hs,hv⟩:=bR h
 have hr:=aR hf hs
 refine⟨a.eval x,s,λw' _=> ?_,hr, ?_⟩
 ·unfold aO4 at hv
  split at hv
  ·obtain⟨g,_,e⟩:=hr.ptr_inv;simp [execOp,ho,e]
  ·obtain⟨b,o',_,e⟩:=hr.ea_inv;simp [execOp,ho,e]
  ·obtain⟨ad,e,_⟩:=hr.mp_inv;simp [execOp,ho,e]
  ·obtain⟨l,_,e⟩:=hr.yld_inv;simp [execOp,ho,e]
  ·obtain⟨fv,cv,e,_⟩:=hr.fn_inv;simp [execOp,ho,e]
  ·simp [execOp,ho,hr.lit_inv]
  ·exact hv.elim
 ·unfold aO4 at hv
  split at hv<;>first|exact hv|exact hv.elim
def uP (s:SV) (i:Nat) (K:SV->Prop):Prop:=
 match s with
 | .tup vs=> ∃x,vs[i]? =some x/\K x
 |_=>aD "extract: no tuple"
theorem aD7 {o:Oper}{x:Operand}{i:Nat}(ho:o.op= .extract x i) {fr:Fr}{hp:Hp}{K:SV->Prop}(h:ev fr x λs=>uP s i K):cP P o fr hp K:=by
 intro E ρ a w hm hf
 obtain⟨s,hs,hv⟩:=bR h
 have hr:=aR hf hs
 unfold uP at hv
 split at hv
 ·rename_i cs
  obtain⟨y,hy,hk⟩:=hv
  obtain⟨vs,e,hl,hh⟩:=hr.tup_inv
  have hlt:=(List.getElem?_eq_some_iff.1 hy).1
  have hvv:vs[i]? =some (vs[i]'(by omega)):=Array.getElem?_eq_getElem (by omega)
  exact⟨_,y,λw' _=>by simp [execOp,ho,e,Instr.extract,hvv],hh i y _ hy hvv,hk⟩
 ·exact hv.elim
def aE8 (ti:TypeId->Option TI) (t:TypeId) (s:SV) (f:Nat) (K:SV->Prop):Prop:=
 match ti t with
 |some { td:= .struct fs, .. }=>
  match fs[f]? with
  |some (ft,off)=>
   match ti ft with
   |some T=>
    match s with
    | .d (.agg cs)=>if T.td.isAgg then off+T.size<=cs.length/\K (.d (.agg ((cs.drop off).take T.size)))else ∃x,cs[off]? =some x/\K (.d x)
    | .agg cs=>if T.td.isAgg then off+T.size<=cs.length/\K (vN ((cs.drop off).take T.size))else ∃x,cs[off]? =some x/\K x
    |_=>aD "field: no struct"
   |none=>aD "field: its type"
  |none=>aD "field: no such"
 |_=>aD "field: a struct's type"
theorem jI {d:TypeDesc}{fs:List (TypeId×Nat)}(h:wH d= .struct fs): ∃gs,d= .struct gs/\fs=gs.toList.map λf=>(f.type,f.offset):=by
 cases d<;>simp [wH]at h
 exact⟨_,rfl,h.symm⟩
theorem gZ {t:TypeId}{T:TI}{d:TypeDesc}{i:TypeInfo}{z:Value}(h:TIok P t T d i z) (w:World) (cs:Array Value) (off:Nat):
  (part t cs off).run P w=if T.td.isAgg then .ok (.agg (cs.extract off (off+T.size))) w else match cs[off]? with|some v=> .ok v w|none=> .halt (.stuck "part: no such cell") w:=by
 simp only [part,Sem.run_bind,h.run_isAgg,Result.andThen_ok]
 cases T.td.isAgg
 ·simp
  cases cs[off]?<;>rfl
 ·simp [h.run_size]
theorem aIj {ti:TypeId->Option TI}(hti:cG P ti) {o:Oper}{t:TypeId}{x:Operand}{f:Nat}(ho:o.op= .field t x f) {fr:Fr}{hp:Hp}{K:SV->Prop}
  (h:ev fr x λs=>aE8 ti t s f K):cP P o fr hp K:=by
 intro E ρ a w hm hf
 obtain⟨s,hs,hv⟩:=bR h
 have hr:=aR hf hs
 unfold aE8 at hv
 split at hv
 ·rename_i fs _ _ _ hT
  obtain⟨d,i,z,hT⟩:=aL (hti _ _ hT)
  obtain⟨gs,rfl,hfs⟩:=jI hT.td
  split at hv
  ·rename_i ft off hff
   subst hfs
   simp only [List.getElem?_map,Option.map_eq_some_iff]at hff
   obtain⟨fd,hfd,he⟩:=hff
   injection he with he1 he2
   have hfd':gs[f]? =some fd:=by simpa using hfd
   split at hv
   ·rename_i T hT2
    obtain⟨d2,i2,z2,hT2⟩:=aL (hti _ _ hT2)
    have hrun: ∀(vs:Array Value) (w':World),a.eval x= .agg vs->(execOp a.eval o).run P w'=((part ft vs off).run P w').andThen λv w=> .ok (.value v) w:=by
     intro vs w' e
     simp [execOp,ho,Instr.field,run_underlying hT.und,hfd',e,asAgg,he1,he2]
    split at hv
    ·rename_i cs
     obtain⟨vs,e,hl,hh⟩:=hr.dagg_inv
     split at hv
     ·rename_i ha
      obtain⟨hle,hk⟩:=hv
      refine⟨_,_,λw' _=>by rw [hrun vs w' e,gZ hT2];simp only [ha,if_true];rfl, .d _ _ (.agg _ _ (by simp<;>omega) ?_),hk⟩
      intro j y v hy hvv
      rw [List.getElem?_take]at hy
      split at hy
      ·rename_i hj
       rw [List.getElem?_drop]at hy
       refine hh (off+j) y v hy ?_
       rw [Array.getElem?_extract]at hvv
       split at hvv
       ·exact hvv
       ·cases hvv
      ·cases hy
     ·rename_i ha
      obtain⟨y,hy,hk⟩:=hv
      have hlt:=(List.getElem?_eq_some_iff.1 hy).1
      have hvv:vs[off]? =some (vs[off]'(by omega)):=Array.getElem?_eq_getElem (by omega)
      exact⟨_,_,λw' _=>by rw [hrun vs w' e,gZ hT2];simp [ha,hvv], .d _ _ (hh off y _ hy hvv),hk⟩
    ·rename_i cs
     obtain⟨vs,e,hl,hh⟩:=hr.agg_inv
     split at hv
     ·rename_i ha
      obtain⟨hle,hk⟩:=hv
      refine⟨_,_,λw' _=>by rw [hrun vs w' e,gZ hT2];simp only [ha,if_true];rfl,iS (by simp<;>omega) ?_,hk⟩
      intro j y v hy hvv
      rw [List.getElem?_take]at hy
      split at hy
      ·rename_i hj
       rw [List.getElem?_drop]at hy
       refine hh (off+j) y v hy ?_
       rw [Array.getElem?_extract]at hvv
       split at hvv
       ·exact hvv
       ·cases hvv
      ·cases hy
     ·rename_i ha
      obtain⟨y,hy,hk⟩:=hv
      have hlt:=(List.getElem?_eq_some_iff.1 hy).1
      have hvv:vs[off]? =some (vs[off]'(by omega)):=Array.getElem?_eq_getElem (by omega)
      exact⟨_,_,λw' _=>by rw [hrun vs w' e,gZ hT2];simp [ha,hvv],hh off y _ hy hvv,hk⟩
    ·exact hv.elim
   ·exact hv.elim
  ·exact hv.elim
 ·exact hv.elim
def lY (ti:TypeId->Option TI) (t:TypeId) (s:SV) (f:Nat) (K:SV->Prop):Prop:=
 match ti t with
 |some { td:= .struct fs, .. }=>
  match fs[f]? with
  |some (ft,off)=>
   match ti ft with
   |some T=>
    if T.size=0 then aD "fieldAddr: a field of no size" else
    match s with
    | .ptr id o=>K (.ptr id (o+off))
    | .ea z rows i o=>K (.ea z rows i (o+off))
    | .mp id z i o ver=>K (.mp id z i (o+off) ver)
    |_=>aD "fieldAddr: no address"
   |none=>aD "fieldAddr: its type"
  |none=>aD "fieldAddr: no such"
 |_=>aD "fieldAddr: a struct's type"
theorem xW {ti:TypeId->Option TI}(hti:cG P ti) {o:Oper}{t:TypeId}{x:Operand}{f:Nat}(ho:o.op= .fieldAddr t x f) {fr:Fr}{hp:Hp}{K:SV->Prop}
  (h:ev fr x λs=>lY ti t s f K):cP P o fr hp K:=by
 intro E ρ a w hm hf
 obtain⟨s,hs,hv⟩:=bR h
 have hr:=aR hf hs
 unfold lY at hv
 split at hv
 ·rename_i fs _ _ _ hT
  obtain⟨d,i,z,hT⟩:=aL (hti _ _ hT)
  obtain⟨gs,rfl,hfs⟩:=jI hT.td
  split at hv
  ·rename_i ft off hff
   subst hfs
   simp only [List.getElem?_map,Option.map_eq_some_iff]at hff
   obtain⟨fd,hfd,he⟩:=hff
   injection he with he1 he2
   have hfd':gs[f]? =some fd:=by simpa using hfd
   split at hv
   ·rename_i T hT2
    obtain⟨d2,i2,z2,hT2⟩:=aL (hti _ _ hT2)
    split at hv
    ·exact hv.elim
    ·rename_i hsz
     have hrun: ∀(ad:Addr) (w':World),a.eval x= .pointer (some ad)->(execOp a.eval o).run P w'= .ok (.value (.pointer (some (ad.add off)))) w':=by
      intro ad w' e
      simp [execOp,ho,Instr.fieldAt,run_underlying hT.und,hfd',e,Instr.sureAddr,fieldPlace,he1,he2,hT2.run_size,hsz]
     split at hv
     ·rename_i id o'
      obtain⟨g,hg,e⟩:=hr.ptr_inv
      exact⟨_,_,λw' _=>hrun _ w' e,by rw [bV];exact .ptr id (o'+off) g hg,hv⟩
     ·rename_i z' rows i' o'
      obtain⟨b,o'',hview,e⟩:=hr.ea_inv
      refine⟨_,_,λw' _=>hrun _ w' e, ?_,hv⟩
      rw [bV]
      have:=Rep.ea (w:=w) (ρ:=ρ) z' rows i' (o'+off) b o'' hview
      have e2:o''+(i' * z'+o')+off=o''+(i' * z'+(o'+off)):=by omega
      rw [e2]
      exact this
     ·rename_i id z' i' o' ver
      obtain⟨ad,e,q1,q2⟩:=hr.mp_inv
      refine⟨_,_,λw' _=>hrun _ w' e, .mp id z' i' (o'+off) ver _ q1 (λhver=> ?_),hv⟩
      obtain⟨g,hg,rfl⟩:=q2 hver
      refine⟨g,hg, ?_⟩
      rw [bV]
      congr 1
      omega
     ·exact hv.elim
   ·exact hv.elim
  ·exact hv.elim
 ·exact hv.elim
def mT:SV->Option (Nat×List (List D))
 | .d (.sl z rows)=>some (z,rows)
 | .osl _ z rows=>some (z,rows)
 |_=>none
theorem gL {w:World}{ρ:Env}{s:SV}{v:Value}{z:Nat}{rows:List (List D)}(h:mT s=some (z,rows)) (hr:Rep w ρ s v):RepD w ρ.S (.sl z rows) v:=by
 unfold mT at h
 split at h
 ·simp at h;obtain⟨rfl,rfl⟩:=h
  cases hr with|d _ _ h=>exact h
 ·simp at h;obtain⟨rfl,rfl⟩:=h
  cases hr with|osl _ _ _ _ h=>exact h
 ·cases h
def lX (ti:TypeId->Option TI) (t:TypeId) (s i:SV) (K:SV->Prop):Prop:=
 match i with
 | .d (.int _ n)=>
  match ti t with
  |some { td:= .slice e, .. }=>
   match ti e with
   |some T=>
    match s with
    | .msl id z off len=>T.size=z/\0<=n/\n.toNat < len/\K (.ptr id (off+n.toNat * z))
    | .mw id z len=>T.size=z/\0<=n/\n.toNat < len/\K (.mp id z n.toNat 0 len)
    | .ms id z lo len ver=>T.size=z/\0<=n/\n.toNat < len/\K (.mp id z (lo+n.toNat) 0 ver)
    |s=>
     match mT s with
     |some (z,rows)=>T.size=z/\0<=n/\n.toNat < rows.length/\K (.ea z rows n.toNat 0)
     |none=>aD "indexAddr: no slice"
   |none=>aD "indexAddr: an element's type"
  |some { td:= .array m e, .. }=>
   match ti e with
   |some T=>
    match s with
    | .ptr id off=>0<=n/\n.toNat < m/\K (.ptr id (off+n.toNat * T.size))
    | .ea z rows j off=>0<=n/\n.toNat < m/\K (.ea z rows j (off+n.toNat * T.size))
    | .mp id z j off ver=>0<=n/\n.toNat < m/\K (.mp id z j (off+n.toNat * T.size) ver)
    |_=>aD "indexAddr: no array's address"
   |none=>aD "indexAddr: an element's type"
  |_=>aD "indexAddr: a type"
 |_=>aD "indexAddr: no int"
theorem bK {d:TypeDesc}{e:TypeId}(h:wH d= .slice e):d= .slice e:=by
 cases d<;>simp [wH]at h;rw [h]
theorem jC {d:TypeDesc}{n e:Nat}(h:wH d= .array n e):d= .array n e:=by
 cases d<;>simp [wH]at h;rw [h.1,h.2]
theorem eJ {t e:TypeId}{T:TI}{d:TypeDesc}{i:TypeInfo}{z:Value}(ht:P.underlying t=some (.slice e)) (he:TIok P e T d i z) (w:World) (ad:Addr) (len cap:Nat) (k:IntKind) (n:Int) (h0:0<=n) (h1:n.toNat < len):
  (Instr.indexAt t (.slice (some ad) len cap) (.int k n)).run P w= .ok (.pointer (some (ad.add (n.toNat * T.size)))) w:=by
 have h2:n < (len:Int):=by omega
 simp [Instr.indexAt,asIntOf,run_underlying ht,h0,h2,he.run_size]
theorem gC {t e m:TypeId}{T:TI}{d:TypeDesc}{i:TypeInfo}{z:Value}(ht:P.underlying t=some (.array m e)) (he:TIok P e T d i z) (w:World) (ad:Addr) (k:IntKind) (n:Int) (h0:0<=n) (h1:n.toNat < m):
  (Instr.indexAt t (.pointer (some ad)) (.int k n)).run P w= .ok (.pointer (some (ad.add (n.toNat * T.size)))) w:=by
 have h2:n < (m:Int):=by omega
 simp [Instr.indexAt,asIntOf,run_underlying ht,h0,h2,he.run_size,Instr.sureAddr]
theorem xV {ti:TypeId->Option TI}(hti:cG P ti) {o:Oper}{t:TypeId}{x y:Operand}(ho:o.op= .indexAddr t x y) {fr:Fr}{hp:Hp}{K:SV->Prop}
  (h:ev fr x λs=>ev fr y λi=>lX ti t s i K):cP P o fr hp K:=by
 intro E ρ a w hm hf
 obtain⟨s,hs,hv0⟩:=bR h
 obtain⟨ix,hix,hv⟩:=bR hv0
 clear hv0
 have hr:=aR hf hs
 have hri:=aR hf hix
 unfold lX at hv
 split at hv
 ·rename_i k n
  have ei:=hri.int_inv
  have hrun: ∀u v w',a.eval x=u->(Instr.indexAt t u (.int k n)).run P w'= .ok v w'->(execOp a.eval o).run P w'= .ok (.value v) w':=by
   intro u v w' e1 e2
   simp [execOp,ho,e1,ei,e2]
  split at hv
  ·rename_i e _ _ _ hT
   obtain⟨d,i,z,hT⟩:=aL (hti _ _ hT)
   have hd:=bK hT.td
   subst hd
   split at hv
   ·rename_i T hT2
    obtain⟨d2,i2,z2,hT2⟩:=aL (hti _ _ hT2)
    split at hv
    ·rename_i id z' off len
     obtain⟨hz,h0,h1,hk⟩:=hv
     obtain⟨g,cap,hg,e1,_⟩:=hr.msl_inv
     refine⟨_,_,λw' _=>hrun _ _ w' e1 (eJ hT.und hT2 w' _ _ _ k n h0 h1), ?_,hk⟩
     rw [bV,hz]
     exact .ptr id _ g hg
    ·rename_i id z' len
     obtain⟨hz,h0,h1,hk⟩:=hv
     obtain⟨A,cap,e1,hn,hc,hA,q1,q2⟩:=hr.mw_inv
     obtain⟨g,rfl⟩:=hA (by omega)
     refine⟨_,_,λw' _=>hrun _ _ w' e1 (eJ hT.und hT2 w' _ _ _ k n h0 h1), .mp id z' n.toNat 0 len _ q1 (λhver=>⟨g, ?_, ?_⟩),hk⟩
     ·rw [<-q2 hver,e1]
      have:cap≠0:=by omega
      simp [dM,this]
     ·rw [bV,hz]
      congr 1
      omega
    ·rename_i id z' lo len ver
     obtain⟨hz,h0,h1,hk⟩:=hv
     obtain⟨A,cap,e1,hn,hc,hA,q1,q2⟩:=hr.ms_inv
     obtain⟨ad,rfl⟩:=hA (by omega)
     refine⟨_,_,λw' _=>hrun _ _ w' e1 (eJ hT.und hT2 w' _ _ _ k n h0 h1), .mp id z' (lo+n.toNat) 0 ver _ q1 (λhver=> ?_),hk⟩
     obtain⟨A0,l0,c0,p1,p2,p3,p4,A',p5,p6⟩:=q2 hver
     obtain⟨g,rfl⟩:=p4 (by omega)
     rw [e1]at p5
     injection p5 with p7 p8 p9
     have p10:=p6 (by omega)
     rw [<-p7]at p10
     simp only [Option.map_some,Option.some.injEq,bV]at p10
     refine⟨g, ?_, ?_⟩
     ·rw [p1]
      have:c0≠0:=by omega
      simp [dM,this]
     ·rw [p10,bV,hz]
      congr 1
      rw [Nat.add_mul];omega
    ·split at hv
     ·rename_i z' rows hrows
      obtain⟨hz,h0,h1,hk⟩:=hv
      obtain⟨A,cap,b,off,e1,_,_,hA,hview⟩:=(gL hrows hr).of_sl
      have hne:rows≠[]:=by rintro rfl;simp at h1
      have hA':=hA hne
      subst hA'
      refine⟨_,_,λw' _=>hrun _ _ w' e1 (eJ hT.und hT2 w' _ _ _ k n h0 h1), ?_,hk⟩
      rw [bV,hz]
      exact .ea z' rows n.toNat 0 b off hview
     ·exact hv.elim
   ·exact hv.elim
  ·rename_i m e _ _ _ hT
   obtain⟨d,i,z,hT⟩:=aL (hti _ _ hT)
   have hd:=jC hT.td
   subst hd
   split at hv
   ·rename_i T hT2
    obtain⟨d2,i2,z2,hT2⟩:=aL (hti _ _ hT2)
    split at hv
    ·rename_i id off
     obtain⟨h0,h1,hk⟩:=hv
     obtain⟨g,hg,e1⟩:=hr.ptr_inv
     refine⟨_,_,λw' _=>hrun _ _ w' e1 (gC hT.und hT2 w' _ k n h0 h1), ?_,hk⟩
     rw [bV]
     exact .ptr id _ g hg
    ·rename_i z' rows j off
     obtain⟨h0,h1,hk⟩:=hv
     obtain⟨b,o',hview,e1⟩:=hr.ea_inv
     refine⟨_,_,λw' _=>hrun _ _ w' e1 (gC hT.und hT2 w' _ k n h0 h1), ?_,hk⟩
     rw [bV]
     have e2:o'+(j * z'+off)+n.toNat * T.size=o'+(j * z'+(off+n.toNat * T.size)):=by omega
     rw [e2]
     exact .ea z' rows j _ b o' hview
    ·rename_i id z' j off ver
     obtain⟨h0,h1,hk⟩:=hv
     obtain⟨ad,e1,q1,q2⟩:=hr.mp_inv
     refine⟨_,_,λw' _=>hrun _ _ w' e1 (gC hT.und hT2 w' _ k n h0 h1), .mp id z' j _ ver _ q1 (λhver=> ?_),hk⟩
     obtain⟨g,hg,rfl⟩:=q2 hver
     refine⟨g,hg, ?_⟩
     rw [bV]
     congr 1
     omega
    ·exact hv.elim
   ·exact hv.elim
  ·exact hv.elim
 ·exact hv.elim
def aE7 (ti:TypeId->Option TI) (t:TypeId) (s i:SV) (K:SV->Prop):Prop:=
 match i with
 | .d (.int _ n)=>
  match ti t with
  |some { td:= .string, .. }=>
   match s with
   | .d (.str l)=>0<=n/\ ∃h:n.toNat < l.length,K (.d (.int .u8 (l[n.toNat]'h).toNat))
   |_=>aD "index: no string"
  |some { td:= .array m e, .. }=>
   match ti e with
   |some T=>
    match s with
    | .d (.agg cs)=>if T.td.isAgg then (0<=n/\n.toNat < m/\n.toNat * T.size+T.size<=cs.length/\K (.d (.agg ((cs.drop (n.toNat * T.size)).take T.size))))else (0<=n/\n.toNat < m/\ ∃x,cs[n.toNat * T.size]? =some x/\K (.d x))
    |_=>aD "index: no array"
   |none=>aD "index: an element's type"
  |_=>aD "index: a type"
 |_=>aD "index: no int"
theorem dZ {d:TypeDesc}(h:wH d= .string):d= .string:=by
 cases d<;>simp [wH]at h;rfl
theorem aIi {ti:TypeId->Option TI}(hti:cG P ti) {o:Oper}{t:TypeId}{x y:Operand}(ho:o.op= .index t x y) {fr:Fr}{hp:Hp}{K:SV->Prop}
  (h:ev fr x λs=>ev fr y λi=>aE7 ti t s i K):cP P o fr hp K:=by
 intro E ρ a w hm hf
 obtain⟨s,hs,hv0⟩:=bR h
 obtain⟨ix,hix,hv⟩:=bR hv0
 clear hv0
 have hr:=aR hf hs
 have hri:=aR hf hix
 unfold aE7 at hv
 split at hv
 ·rename_i k n
  have ei:=hri.int_inv
  split at hv
  ·rename_i hT
   obtain⟨d,i,z,hT⟩:=aL (hti _ _ hT)
   have hd:=dZ hT.td
   subst hd
   split at hv
   ·rename_i l
    obtain⟨h0,h1,hk⟩:=hv
    obtain⟨e,_⟩:=hr.str_inv
    refine⟨_,_,λw' _=> ?_, .d _ _ (.int _ _),hk⟩
    have hlt:n.toNat < (⟨l.toArray⟩:ByteArray).size:=by simpa [ByteArray.size]using h1
    have hlt2:n < ((⟨l.toArray⟩:ByteArray).size:Int):=by omega
    have:=run_index_string (P:=P) (w:=w') t ⟨l.toArray⟩ k n hT.und
    rw [dif_pos ⟨h0,hlt2⟩]at this
    simp only [execOp,ho,e,ei,Sem.run_bind,this,Result.andThen_ok]
    rfl
   ·exact hv.elim
  ·rename_i m e _ _ _ hT
   obtain⟨d,i,z,hT⟩:=aL (hti _ _ hT)
   have hd:=jC hT.td
   subst hd
   split at hv
   ·rename_i T hT2
    obtain⟨d2,i2,z2,hT2⟩:=aL (hti _ _ hT2)
    split at hv
    ·rename_i cs
     obtain⟨vs,e1,hl,hh⟩:=hr.dagg_inv
     cases ha:T.td.isAgg
     ·rw [ha,if_neg (by decide)]at hv
      obtain⟨h0,h1,y',hy,hk⟩:=hv
      have hlt:=(List.getElem?_eq_some_iff.1 hy).1
      have hvv:vs[n.toNat * T.size]? =some (vs[n.toNat * T.size]'(by omega)):=Array.getElem?_eq_getElem (by omega)
      have h2:n < (m:Int):=by omega
      refine⟨_,_,λw' _=> ?_, .d _ _ (hh _ y' _ hy hvv),hk⟩
      simp [execOp,ho,e1,ei,Instr.index,asIntOf,run_underlying hT.und,h0,h2,hT2.run_size,gZ hT2,ha,hvv]
     ·rw [ha,if_pos rfl]at hv
      obtain⟨h0,h1,hle,hk⟩:=hv
      have h2:n < (m:Int):=by omega
      refine⟨.agg (vs.extract (n.toNat * T.size) (n.toNat * T.size+T.size)),_,λw' _=> ?_, .d _ _ (.agg _ _ (by simp<;>omega) ?_),hk⟩
      ·simp [execOp,ho,e1,ei,Instr.index,asIntOf,run_underlying hT.und,h0,h2,hT2.run_size,gZ hT2,ha]
      ·intro j y v hy hvv
       rw [List.getElem?_take]at hy
       split at hy
       ·rename_i hj
        rw [List.getElem?_drop]at hy
        refine hh (n.toNat * T.size+j) y v hy ?_
        rw [Array.getElem?_extract]at hvv
        split at hvv
        ·exact hvv
        ·cases hvv
       ·cases hy
    ·exact hv.elim
   ·exact hv.elim
  ·exact hv.elim
 ·exact hv.elim
end
end
section
open Go.RowKit
section
variable {P:Program}
def zI (k:IntKind) (r:Int) (K:SV->Prop):Prop:=
 match k with
 | .i64=>(-9223372036854775808<=r/\r<=9223372036854775807)/\K (.d (.int .i64 r))
 | .i32=>(-2147483648<=r/\r<=2147483647)/\K (.d (.int .i32 r))
 |k=>K (.d (.int k (k.wrap r)))
theorem jS {k:IntKind}{r:Int}{K:SV->Prop}(h:zI k r K):K (.d (.int k (k.wrap r))):=by
 cases k<;>simp only [zI]at h<;>first|exact h|(rw [IntWalk.i64_in r h.1];exact h.2)|(rw [IntWalk.i32_in r h.1];exact h.2)
def aBx (op:BinOp) (k:IntKind) (a:Int) (k':IntKind) (b:Int) (K:SV->Prop):Prop:=
 match op with
 | .shl=>0<=b/\K (.d (.int k (k.wrap (a * 2 ^ (min b.toNat k.bits)))))
 | .shr=>0<=b/\K (.d (.int k (a.fdiv (2 ^ (min b.toNat k.bits)))))
 |op=>
  if k=k' then
   match op with
   | .add=>zI k (a+b) K
   | .sub=>zI k (a - b) K
   | .mul=>zI k (a * b) K
   | .quo=>b≠0/\zI k (a.tdiv b) K
   | .rem=>b≠0/\K (.d (.int k (a.tmod b)))
   | .and=>K (.d (.int k (bits .and k a b)))
   | .or=>K (.d (.int k (bits .or k a b)))
   | .xor=>K (.d (.int k (bits .xor k a b)))
   | .andNot=>K (.d (.int k (bits .andNot k a b)))
   | .eql=>K (.d (.bool (decide (a=b))))
   | .neq=>K (.d (.bool (!decide (a=b))))
   | .lss=>K (.d (.bool (decide (a < b))))
   | .leq=>K (.d (.bool (decide (a<=b))))
   | .gtr=>K (.d (.bool (decide (b < a))))
   | .geq=>K (.d (.bool (decide (b<=a))))
   |_=>aD "binOp: ints"
  else aD "binOp: kinds"
def aB7 (op:BinOp) (a b:List UInt8) (K:SV->Prop):Prop:=
 match op with
 | .add=>a.length+b.length<=9223372036854775807/\K (.d (.str (a++b)))
 | .eql=>K (.d (.bool (decide (a=b))))
 | .neq=>K (.d (.bool (!decide (a=b))))
 | .lss=>K (.d (.bool (Op.bytesLess a b)))
 | .leq=>K (.d (.bool (Op.bytesLess a b || decide (a=b))))
 | .gtr=>K (.d (.bool (!(Op.bytesLess a b || decide (a=b)))))
 | .geq=>K (.d (.bool (!Op.bytesLess a b)))
 |_=>aD "binOp: strings"
def aGb:TD->D->D->Option Bool
 | .int _, .int k a, .int k' b=>if k=k' then some (decide (a=b))else none
 | .bool, .bool a, .bool b=>some (a==b)
 | .string, .str a, .str b=>some (decide (a=b))
 |_,_,_=>none
def aNo (ti:TypeId->Option TI) (xs ys:List D):List (TypeId×Nat)->Option Bool
 | []=>some true
 |(ft,off)::r=>
  match ti ft with
  |some T=>
   if T.td.isAgg then none else
   match xs[off]? with
   |some x=>
    match ys[off]? with
    |some y=>
     match aGb T.td x y with
     |some c=>match aNo ti xs ys r with|some b=>some (c && b)|none=>none
     |none=>none
    |none=>none
   |none=>none
  |none=>none
def aOg (P:Program) (t:TypeId):Bool:=
 !P.stoodInHeld t && !P.eqGuardType P.depth t && (match P.underlying t with|some (.struct fs)=>fs.toList.all (·.name != "_")|_=>false)
def aKc (P:Program) (ti:TypeId->Option TI) (op:BinOp) (t:TypeId) (xs ys:List D) (K:SV->Prop):Prop:=
 match ti t with
 |some { td:= .struct fs, .. }=>
  aOg P t=true/\
  match aNo ti xs ys fs with
  |some b=>(match op with| .eql=>K (.d (.bool b))| .neq=>K (.d (.bool (!b)))|_=>aD "binOp: structs")
  |none=>aD "binOp: fields"
 |_=>aD "binOp: a struct's type"
def aOu (x:SV) (K:Bool->Prop):Prop:=
 match x with
 | .d .nil=>K true
 | .d (.sl _ rows)=> ∀b:Bool,(b=true->rows=[])->K b
 | .osl _ _ rows=> ∀b:Bool,(b=true->rows=[])->K b
 | .mw _ _ n=> ∀b:Bool,(b=true->n=0)->K b
 | .zc=> ∀b:Bool,K b
 |_=>aD "nil: no slice"
theorem aLj {w:World}{ρ:Env}{x:SV}{v:Value}{K:Bool->Prop}(h:aOu x K) (hr:Rep w ρ x v): ∃A n c,v= .slice A n c/\K A.isNone:=by
 unfold aOu at h
 split at h
 ·exact⟨none,0,0,hr.nil_inv,h⟩
 ·rename_i z rows
  cases hr with
  |d _ _ hd=>
   obtain⟨A,cap,b,off,e,_,_,hA,_⟩:=hd.of_sl
   refine⟨A,_,cap,e,h _ λhn=> ?_⟩
   by_cases hne:rows=[]
   ·exact hne
   ·rw [hA hne]at hn;cases hn
 ·rename_i z rows
  obtain⟨A,cap,b,off,e,_,_,hA,_⟩:=hr.osl_inv.1.of_sl
  refine⟨A,_,cap,e,h _ λhn=> ?_⟩
  by_cases hne:rows=[]
  ·exact hne
  ·rw [hA hne]at hn;cases hn
 ·rename_i id z n
  obtain⟨A,cap,e,_,_,hA,_⟩:=hr.mw_inv
  refine⟨A,n,cap,e,h _ λhn=> ?_⟩
  by_cases hne:n=0
  ·exact hne
  ·obtain⟨g,rfl⟩:=hA hne;cases hn
 ·obtain⟨A,e⟩:=hr.zc_inv
  exact⟨A,0,0,e,h _⟩
 ·exact h.elim
theorem aA2 (w:World) {t e:TypeId}(A:Option Addr) (n c:Nat) (ht:P.underlying t=some (.slice e)):(binOp .eql t (.slice A n c) (.slice none 0 0)).run P w= .ok (.bool A.isNone) w:=by
 have h: ∀d:Nat,(Op.equalIn (d+1) t (.slice A n c) (.slice none 0 0)).run P w= .ok A.isNone w:= λd=>by
  cases A<;>simp [Op.equalIn,run_underlying ht]
 simp only [binOp]
 simp [Op.equal,Op.maxDepth,h 9999]
theorem aA1 (w:World) {t e:TypeId}(A:Option Addr) (n c:Nat) (ht:P.underlying t=some (.slice e)):(binOp .neq t (.slice A n c) (.slice none 0 0)).run P w= .ok (.bool (!A.isNone)) w:=by
 have h: ∀d:Nat,(Op.equalIn (d+1) t (.slice A n c) (.slice none 0 0)).run P w= .ok A.isNone w:= λd=>by
  cases A<;>simp [Op.equalIn,run_underlying ht]
 simp only [binOp]
 simp [Op.equal,Op.maxDepth,h 9999]
theorem lN (op:BinOp) (t:TypeId) (x y:Operand) (A B:Option Addr) (n c n' c':Nat) (w:World):(eqGuard op t x y (.slice A n c) (.slice B n' c')).run P w= .ok () w:=by
 cases op<;>simp [eqGuard]
def aOm (P:Program) (ti:TypeId->Option TI) (op:BinOp) (t:TypeId) (x y:SV) (K:SV->Prop):Prop:=
 match x,y with
 | .d (.int k a), .d (.int k' b)=>aBx op k a k' b K
 | .d (.str a), .d (.str b)=>aB7 op a b K
 | .d (.bool a), .d (.bool b)=>
  (match ti t with
  |some { td:= .bool, .. }=>(match op with| .eql=>K (.d (.bool (a==b)))| .neq=>K (.d (.bool (!(a==b))))|_=>aD "binOp: bools")
  |_=>aD "binOp: a bool's type")
 | .d (.agg xs), .d (.agg ys)=>aKc P ti op t xs ys K
 |x, .d .nil=>
  (match ti t with
  |some { td:= .slice _, .. }=>aOu x λb=>(match op with| .eql=>K (.d (.bool b))| .neq=>K (.d (.bool (!b)))|_=>aD "binOp: slices")
  |_=>aD "binOp: a slice's type")
 |_,_=>aD "binOp"
theorem bool_inv {d:TypeDesc}(h:wH d= .bool):d= .bool:=by
 cases d<;>simp [wH]at h;rfl
theorem jH {d:TypeDesc}{k:IntKind}(h:wH d= .int k):d= .int k:=by
 cases d<;>simp [wH]at h;rw [h]
theorem rL (op:BinOp) (t:TypeId) (x y:Operand) (k k':IntKind) (a b:Int) (w:World):(eqGuard op t x y (.int k a) (.int k' b)).run P w= .ok () w:=by
 cases op<;>simp [eqGuard]
theorem rK (op:BinOp) (t:TypeId) (x y:Operand) (a b:ByteArray) (w:World):(eqGuard op t x y (.string a) (.string b)).run P w= .ok () w:=by
 cases op<;>simp [eqGuard]
theorem nE (op:BinOp) (t:TypeId) (x y:Operand) (a b:Bool) (w:World):(eqGuard op t x y (.bool a) (.bool b)).run P w= .ok () w:=by
 cases op<;>simp [eqGuard]
theorem tP {op:BinOp}{k k':IntKind}{a b:Int}{K:SV->Prop}(t:TypeId) (h:aBx op k a k' b K): ∃v x,(∀w,(binOp op t (.int k a) (.int k' b)).run P w= .ok v w)/\K (.d x)/\(∀w S,RepD w S x v):=by
 unfold aBx at h
 split at h
 ·obtain⟨h0,hk⟩:=h
  have h0':¬ b < 0:=by omega
  exact⟨_,_,λw=>by simp [binOp,Op.shift,h0'],hk,λw S=> .int _ _⟩
 ·obtain⟨h0,hk⟩:=h
  have h0':¬ b < 0:=by omega
  exact⟨_,_,λw=>by simp [binOp,Op.shift,h0'],hk,λw S=> .int _ _⟩
 ·rename_i h1 h2
  split at h
  ·rename_i e
   subst e
   split at h
   ·exact⟨_,_,λw=>by simp [binOp,Op.intArith],jS h,λw S=> .int _ _⟩
   ·exact⟨_,_,λw=>by simp [binOp,Op.intArith],jS h,λw S=> .int _ _⟩
   ·exact⟨_,_,λw=>by simp [binOp,Op.intArith],jS h,λw S=> .int _ _⟩
   ·exact⟨_,_,λw=>by simp [binOp,Op.intDiv,h.1],jS h.2,λw S=> .int _ _⟩
   ·exact⟨_,_,λw=>by simp [binOp,Op.intDiv,h.1],h.2,λw S=> .int _ _⟩
   ·exact⟨_,_,λw=>by simp [binOp,intBits_and],h,λw S=> .int _ _⟩
   ·exact⟨_,_,λw=>by simp [binOp,intBits_or],h,λw S=> .int _ _⟩
   ·exact⟨_,_,λw=>by simp [binOp,intBits_xor],h,λw S=> .int _ _⟩
   ·exact⟨_,_,λw=>by simp [binOp,intBits_andNot],h,λw S=> .int _ _⟩
   ·exact⟨_,_,λw=>by simp [binOp,Op.intCmp];rfl,h,λw S=> .bool _⟩
   ·exact⟨_,_,λw=>by simp [binOp,Op.intCmp];rfl,h,λw S=> .bool _⟩
   ·exact⟨_,_,λw=>by simp [binOp,Op.intCmp],h,λw S=> .bool _⟩
   ·exact⟨_,_,λw=>by simp [binOp,Op.intCmp],h,λw S=> .bool _⟩
   ·exact⟨_,_,λw=>by simp [binOp,Op.intCmp],h,λw S=> .bool _⟩
   ·exact⟨_,_,λw=>by simp [binOp,Op.intCmp],h,λw S=> .bool _⟩
   ·exact h.elim
  ·exact h.elim
theorem gI (l:List UInt8):(⟨l.toArray⟩:ByteArray).toList=l:=by rw [ByteArray.toList_eq]
theorem mM (a b:List UInt8):(a==b)=decide (a=b):=by
 by_cases h:a=b<;>simp [h]
theorem tO {op:BinOp}{a b:List UInt8}{K:SV->Prop}(t:TypeId) (h:aB7 op a b K): ∃v x,(∀w,(binOp op t (.string ⟨a.toArray⟩) (.string ⟨b.toArray⟩)).run P w= .ok v w)/\K (.d x)/\(∀w S,RepD w S x v):=by
 have ea:=gI a
 have eb:=gI b
 unfold aB7 at h
 split at h
 ·obtain⟨h1,h2⟩:=h
  have e:(⟨a.toArray⟩:ByteArray)++(⟨b.toArray⟩:ByteArray)=⟨(a++b).toArray⟩:=by
   apply ByteArray.ext
   simp
  refine⟨_,_,λw=> ?_,h2,λw S=> .str _ (by simp only [maxLen,List.length_append];omega)⟩
  rw [<-e]
  have hsz: ∀l:List UInt8,(⟨l.toArray⟩:ByteArray).size=l.length:= λl=>rfl
  simp [binOp,Op.stringOp,hsz]
  omega
 ·exact⟨_,_,λw=>by simp [binOp,Op.stringOp,ea,eb,mM],h,λw S=> .bool _⟩
 ·exact⟨_,_,λw=>by simp [binOp,Op.stringOp,ea,eb,mM],h,λw S=> .bool _⟩
 ·exact⟨_,_,λw=>by simp [binOp,Op.stringOp,ea,eb],h,λw S=> .bool _⟩
 ·exact⟨_,_,λw=>by simp [binOp,Op.stringOp,ea,eb,mM],h,λw S=> .bool _⟩
 ·exact⟨_,_,λw=>by simp only [binOp,Op.stringOp,ea,eb,mM];rfl,h,λw S=> .bool _⟩
 ·exact⟨_,_,λw=>by simp [binOp,Op.stringOp,ea,eb],h,λw S=> .bool _⟩
 ·exact h.elim
theorem aCy {td:TD}{x y:D}{c:Bool}(h:aGb td x y=some c) {w:World}{S:Nat->Nat->Prop}{u v:Value}(hx:RepD w S x u) (hy:RepD w S y v) {t:TypeId}{T:TI}{dd:TypeDesc}{i:TypeInfo}{z:Value}(hT:TIok P t T dd i z)
  (htd:T.td=td) (d:Nat) (w':World):(Op.equalIn (d+1) t u v).run P w'= .ok c w':=by
 have hd:=hT.td
 rw [htd]at hd
 unfold aGb at h
 split at h
 ·rename_i k1 k a k' b
  cases hx;cases hy
  split at h
  ·rename_i e
   subst e
   have:=jH hd
   subst this
   rw [run_equalIn_int w' d t _ _ _ _ hT.und]
   injection h with h
   rw [<-h]
   rfl
  ·cases h
 ·cases hx;cases hy
  injection h with h
  have:=bool_inv hd
  subst this
  rw [<-h]
  exact run_equalIn_bool' w' d t _ _ hT.und
 ·cases hx;cases hy
  injection h with h
  have:=dZ hd
  subst this
  rw [run_equalIn_string w' d t _ _ hT.und,gI,gI,mM,h]
 ·cases h
theorem aI2 {ti:TypeId->Option TI}(hti:cG P ti) {w:World}{S:Nat->Nat->Prop}{xs ys:List D}{us vs:Array Value}(hxl:us.size=xs.length) (hyl:vs.size=ys.length)
  (hx: ∀(j:Nat) (x:D) (u:Value),xs[j]? =some x->us[j]? =some u->RepD w S x u) (hy: ∀(j:Nat) (x:D) (u:Value),ys[j]? =some x->vs[j]? =some u->RepD w S x u) (d:Nat) (w':World):
  ∀(fs:List Field) (b:Bool),(∀f∈fs,f.name≠ "_")->aNo ti xs ys (fs.map λf=>(f.type,f.offset))=some b->(Op.eqFields (d+1) us vs fs).run P w'= .ok b w':=by
 intro fs
 induction fs with
 |nil=>intro b _ h;simp [aNo]at h;subst h;simp [Op.eqFields]
 |cons f r ih=>
  intro b hn h
  simp only [List.map_cons,aNo]at h
  split at h
  ·rename_i T hT
   obtain⟨dd,i,z,hT⟩:=aL (hti _ _ hT)
   split at h
   ·cases h
   ·rename_i ha
    split at h
    ·rename_i x hxx
     split at h
     ·rename_i y hyy
      split at h
      ·rename_i c hc
       split at h
       ·rename_i b' hb'
        injection h with h
        have hlx:=(List.getElem?_eq_some_iff.1 hxx).1
        have hly:=(List.getElem?_eq_some_iff.1 hyy).1
        have hu:us[f.offset]? =some (us[f.offset]'(by omega)):=Array.getElem?_eq_getElem (by omega)
        have hv:vs[f.offset]? =some (vs[f.offset]'(by omega)):=Array.getElem?_eq_getElem (by omega)
        have hr:=aCy (P:=P) hc (hx _ x _ hxx hu) (hy _ y _ hyy hv) hT rfl d w'
        have hrest:=ih b' (λg hg=>hn g (by simp [hg])) hb'
        have ha':T.td.isAgg=false:=by simpa using ha
        have hfn:f.name≠ "_" :=hn f (by simp)
        simp only [Op.eqFields,hfn,ne_eq,not_false_eq_true,if_true,Sem.run_bind,gZ hT,ha',Bool.false_eq_true,if_false,hu,hv,Result.andThen_ok,hr]
        cases c
        ·simp at h;subst h;simp
        ·simp at h;subst h;simpa using hrest
       ·cases h
      ·cases h
     ·cases h
    ·cases h
  ·cases h
theorem aNb {ti:TypeId->Option TI}(hti:cG P ti) {o:Oper}{op:BinOp}{t t':TypeId}{x y:Operand}(ho:o.op= .binOp op t x y t') {fr:Fr}{hp:Hp}{K:SV->Prop}
  (h:ev fr x λs=>ev fr y λr=>aOm P ti op t s r K):cP P o fr hp K:=by
 intro E ρ a w hm hf
 obtain⟨s,hs,hv0⟩:=bR h
 obtain⟨r,hr,hv⟩:=bR hv0
 clear hv0
 have h1:=aR hf hs
 have h2:=aR hf hr
 unfold aOm at hv
 split at hv
 ·obtain⟨v,q,a1,a2,a3⟩:=tP (P:=P) t hv
  exact⟨v,_,λw' _=>by simp [execOp,ho,h1.int_inv,h2.int_inv,rL,a1], .d _ _ (a3 w ρ.S),a2⟩
 ·obtain⟨v,q,a1,a2,a3⟩:=tO (P:=P) t hv
  exact⟨v,_,λw' _=>by simp [execOp,ho,h1.str_inv.1,h2.str_inv.1,rK,a1], .d _ _ (a3 w ρ.S),a2⟩
 ·rename_i b c
  split at hv
  ·rename_i hT
   obtain⟨d,i,z,hT⟩:=aL (hti _ _ hT)
   have hd:=bool_inv hT.td
   subst hd
   split at hv
   ·exact⟨_,_,λw' _=>by simp [execOp,ho,h1.bool_inv,h2.bool_inv,nE,run_eql_bool w' t b c hT.und], .d _ _ (.bool _),hv⟩
   ·exact⟨_,_,λw' _=>by simp [execOp,ho,h1.bool_inv,h2.bool_inv,nE,run_neq_bool w' t b c hT.und], .d _ _ (.bool _),hv⟩
   ·exact hv.elim
  ·exact hv.elim
 ·rename_i xs ys
  obtain⟨us,e1,hl1,hh1⟩:=h1.dagg_inv
  obtain⟨vs,e2,hl2,hh2⟩:=h2.dagg_inv
  unfold aKc at hv
  split at hv
  ·rename_i fs _ _ _ hT
   obtain⟨d,i,z,hT⟩:=aL (hti _ _ hT)
   obtain⟨gs,rfl,hfs⟩:=jI hT.td
   obtain⟨hok,hv⟩:=hv
   unfold aOg at hok
   rw [hT.und]at hok
   simp only [Bool.and_eq_true,Bool.not_eq_true',List.all_eq_true,bne_iff_ne]at hok
   obtain⟨⟨k1,k2⟩,k3⟩:=hok
   subst hfs
   split at hv
   ·rename_i b hb
    have hfo:P.fieldsOf t=gs:=by simp [Program.fieldsOf,hT.und]
    have hrun:= λw'=>aI2 (P:=P) hti hl1 hl2 hh1 hh2 9998 w' gs.toList b k3 hb
    have heq:= λw'=>run_equalIn_struct (P:=P) w' 9999 t us vs (by rw [hfo];exact hT.und) k1
    rw [hfo]at heq
    split at hv
    ·refine⟨_,_,λw' _=> ?_, .d _ _ (.bool _),hv⟩
     simp only [execOp,ho,e1,e2,Sem.run_bind,run_eqGuard_agg w' _ t x y us vs k2,Result.andThen_ok,run_eql_struct,heq,hrun]
     rfl
    ·refine⟨_,_,λw' _=> ?_, .d _ _ (.bool _),hv⟩
     simp only [execOp,ho,e1,e2,Sem.run_bind,run_eqGuard_agg w' _ t x y us vs k2,Result.andThen_ok,run_neq_struct,heq,hrun]
     rfl
    ·exact hv.elim
   ·exact hv.elim
  ·exact hv.elim
 ·split at hv
  ·rename_i e _ _ _ hT
   obtain⟨d,i,z,hT⟩:=aL (hti _ _ hT)
   have hd:=bK hT.td
   subst hd
   obtain⟨A,n,c,e1,hk⟩:=aLj hv h1
   have e2:=h2.nil_inv
   split at hk
   ·exact⟨_,_,λw' _=>by simp [execOp,ho,e1,e2,lN,aA2 w' A n c hT.und], .d _ _ (.bool _),hk⟩
   ·exact⟨_,_,λw' _=>by simp [execOp,ho,e1,e2,lN,aA1 w' A n c hT.und], .d _ _ (.bool _),hk⟩
   ·exact hk.elim
  ·exact hv.elim
 ·exact hv.elim
def vUn (op:UnOp) (x:SV) (K:SV->Prop):Prop:=
 match op,x with
 | .not, .d (.bool b)=>K (.d (.bool (!b)))
 | .neg, .d (.int k n)=>zI k (0 - n) K
 | .xor, .d (.int k n)=>K (.d (.int k (bits .xor k (if k.signed then -1 else k.max) n)))
 |_,_=>aD "unOp"
theorem aOs {o:Oper}{op:UnOp}{t:TypeId}{x:Operand}(ho:o.op= .unOp op t x) {fr:Fr}{hp:Hp}{K:SV->Prop}
  (h:ev fr x λs=>vUn op s K):cP P o fr hp K:=by
 intro E ρ a w hm hf
 obtain⟨s,hs,hv⟩:=bR h
 have h1:=aR hf hs
 unfold vUn at hv
 split at hv
 ·exact⟨_,_,λw' _=>by simp [execOp,ho,h1.bool_inv,Op.unary], .d _ _ (.bool _),hv⟩
 ·exact⟨_,_,λw' _=>by simp [execOp,ho,h1.int_inv,Op.unary,Op.intArith], .d _ _ (.int _ _),jS hv⟩
 ·exact⟨_,_,λw' _=>by simp [execOp,ho,h1.int_inv,Op.unary,intBits_xor], .d _ _ (.int _ _),hv⟩
 ·exact hv.elim
def evL (fr:Fr):List Operand->Option (List SV)
 | []=>some []
 |x::r=>match evO fr x with
  |some s=>match evL fr r with|some l=>some (s::l)|none=>none
  |none=>none
theorem nD {ρ:Env}{w:World}{fr:Fr}{a:Act}(hf:bW ρ w fr a.tmps): ∀(xs:List Operand) (l:List SV),evL fr xs=some l->xs.length=l.length/\ ∀(j:Nat) (s:SV) (v:Value),l[j]? =some s->(xs.map a.eval)[j]? =some v->Rep w ρ s v:=by
 intro xs
 induction xs with
 |nil=>intro l h;simp [evL]at h;subst h;simp
 |cons x r ih=>
  intro l h
  simp only [evL]at h
  split at h
  ·rename_i s hs
   split at h
   ·rename_i l' hl'
    simp at h
    subst h
    obtain⟨a1,a2⟩:=ih l' hl'
    refine⟨by simp [a1],λj s' v h1 h2=> ?_⟩
    cases j with
    |zero=>simp at h1 h2;subst h1;subst h2;exact aR hf hs
    |succ j=>simp at h1 h2;exact a2 j s' v h1 (by simpa using h2)
   ·cases h
  ·cases h
theorem aOt {o:Oper}{f:FuncId}{first cap:Array Operand}(ho:o.op= .makeFunc (.func f) first cap) {fr:Fr}{hp:Hp}{K:SV->Prop}
  (h : match evL fr first.toList with
   |some l=>(match evL fr cap.toList with|some m=>K (.fn f l m)|none=>aD "makeFunc")
   |none=>aD "makeFunc"):cP P o fr hp K:=by
 intro E ρ a w hm hf
 split at h
 ·rename_i l hl
  split at h
  ·rename_i m hm'
   obtain⟨a1,a2⟩:=nD hf _ _ hl
   obtain⟨b1,b2⟩:=nD hf _ _ hm'
   refine⟨.func (.func f) (first.map a.eval) (cap.map a.eval),_,λw' _=>by simp [execOp,ho,Instr.makeFunc], .fn f l m _ _ (by simpa using a1) (by simpa using b1) (λj s v h1 h2=>a2 j s v h1 ?_) (λj s v h1 h2=>b2 j s v h1 ?_),h⟩
   ·rw [<-Array.toList_map];simpa using h2
   ·rw [<-Array.toList_map];simpa using h2
  ·exact h.elim
 ·exact h.elim
def aOk (ti:TypeId->Option TI) (t:TypeId) (s:SV) (K:SV->Prop):Prop:=
 match ti t with
 |some { td:= .string, .. }=>(match s with| .d (.str l)=>l.length<=9223372036854775807->K (.d (.int .i64 l.length))|_=>aD "len: no string")
 |some { td:= .slice _, .. }=>
  (match s with
  | .d .nil=>K (.d (.int .i64 0))
  | .msl _ _ _ n=>n<=9223372036854775807->K (.d (.int .i64 n))
  | .mw _ _ n=>n<=9223372036854775807->K (.d (.int .i64 n))
  | .ms _ _ _ n _=>n<=9223372036854775807->K (.d (.int .i64 n))
  | .zc=>K (.d (.int .i64 0))
  |s=>match mT s with
   |some (_,rows)=>rows.length<=9223372036854775807->K (.d (.int .i64 rows.length))
   |none=>aD "len: no slice")
 |some { td:= .array n _, .. }=>K (.d (.int .i64 n))
 |_=>aD "len: a type"
theorem aO {ρ:Operand->Value}{o:Oper}{b:Builtin}{args:Array Operand}{ts:Array TypeId}(ho:o.op= .call { callee:= .builtin b,args:=args,argTypes:=ts }) (w:World):
  (execOp ρ o).run P w=(builtin b ts o.type (args.map λ| .const _=>true|_=>false) (args.map ρ)).run P w:=by
 simp only [execOp,ho,resolve,invoke,Sem.run_bind,Sem.run_pure,Result.andThen_ok]
 rfl
theorem aN9 {ti:TypeId->Option TI}(hti:cG P ti) {o:Oper}{t:TypeId}{x:Operand}(ho:o.op= .call { callee:= .builtin .len,args:= #[x],argTypes:= #[t] }) {fr:Fr}{hp:Hp}{K:SV->Prop}
  (h:ev fr x λs=>aOk ti t s K):cP P o fr hp K:=by
 intro E ρ a w hm hf
 obtain⟨s,hs,hv⟩:=bR h
 have h1:=aR hf hs
 unfold aOk at hv
 split at hv
 ·rename_i hT
  obtain⟨d,i,z,hT⟩:=aL (hti _ _ hT)
  have hd:=dZ hT.td
  subst hd
  split at hv
  ·rename_i l
   obtain⟨e,hl⟩:=h1.str_inv
   refine⟨_,_,λw' _=> ?_, .d _ _ (.int _ _),hv hl⟩
   rw [aO ho]
   simp [builtin,e,Builtin.len_,run_underlying hT.und,goInt]
   rfl
  ·exact hv.elim
 ·rename_i e _ _ _ hT
  obtain⟨d,i,z,hT⟩:=aL (hti _ _ hT)
  have hd:=bK hT.td
  subst hd
  split at hv
  ·refine⟨_,_,λw' _=> ?_, .d _ _ (.int _ _),hv⟩
   rw [aO ho]
   simp [builtin,h1.nil_inv,Builtin.len_,run_underlying hT.und,goInt]
  ·obtain⟨g,cap,hg,e1,hn,hc⟩:=h1.msl_inv
   refine⟨_,_,λw' _=> ?_, .d _ _ (.int _ _),hv (by simp only [maxLen]at hc;omega)⟩
   rw [aO ho]
   simp [builtin,e1,Builtin.len_,run_underlying hT.und,goInt]
  ·obtain⟨A,cap,e1,hn,hc,_⟩:=h1.mw_inv
   refine⟨_,_,λw' _=> ?_, .d _ _ (.int _ _),hv (by simp only [maxLen]at hc;omega)⟩
   rw [aO ho]
   simp [builtin,e1,Builtin.len_,run_underlying hT.und,goInt]
  ·obtain⟨A,cap,e1,hn,hc,_⟩:=h1.ms_inv
   refine⟨_,_,λw' _=> ?_, .d _ _ (.int _ _),hv (by simp only [maxLen]at hc;omega)⟩
   rw [aO ho]
   simp [builtin,e1,Builtin.len_,run_underlying hT.und,goInt]
  ·obtain⟨A,e1⟩:=h1.zc_inv
   refine⟨_,_,λw' _=> ?_, .d _ _ (.int _ _),hv⟩
   rw [aO ho]
   simp [builtin,e1,Builtin.len_,run_underlying hT.und,goInt]
  ·split at hv
   ·rename_i z' rows hrows
    obtain⟨A,cap,b,off,e1,hn,hc,_,_⟩:=(gL hrows h1).of_sl
    refine⟨_,_,λw' _=> ?_, .d _ _ (.int _ _),hv (by simp only [maxLen]at hc;omega)⟩
    rw [aO ho]
    simp [builtin,e1,Builtin.len_,run_underlying hT.und,goInt]
   ·exact hv.elim
 ·rename_i n e _ _ _ hT
  obtain⟨d,i,z,hT⟩:=aL (hti _ _ hT)
  have hd:=jC hT.td
  subst hd
  refine⟨_,_,λw' _=> ?_, .d _ _ (.int _ _),hv⟩
  rw [aO ho]
  simp [builtin,Builtin.len_,run_underlying hT.und,goInt]
 ·exact hv.elim
def aOl (ti:TypeId->Option TI) (t:TypeId) (s:SV) (hp:Hp) (K:SV->Prop):Prop:=
 match ti t with
 |some { td:= .slice _, .. }=>
  (match s with
  | .d .nil=>K (.d (.int .i64 0))
  | .zc=>K (.d (.int .i64 0))
  | .mw id _ n => (match aM hp id with
   |some (.mrow _ _ cap rows)=>n=rows.length/\(rows.length<=cap->cap<=9223372036854775807->K (.d (.int .i64 cap)))
   |_=>aD "cap: no such rows")
  |_=>aD "cap: no slice of its own")
 |_=>aD "cap: a type"
theorem dY.shape {w:World}{S:Nat->Nat->Prop}{e z cap:Nat}{rows:List (List D)}{v:Value}(h:dY w S e z cap rows v): ∃A,v= .slice A rows.length cap/\rows.length<=cap/\cap<=maxLen/\(cap≠0-> ∃g,A=some ⟨g,0,none⟩):=by
 rcases h with⟨rfl,rfl,A,rfl⟩|⟨hc,g,cur,rfl,h1,h2,h3,_⟩
 ·exact⟨A,rfl,by simp,by simp,λh=>absurd rfl h⟩
 ·exact⟨_,rfl,h2,h3,λ_=>⟨g,rfl⟩⟩
theorem aNa {ti:TypeId->Option TI}(hti:cG P ti) {o:Oper}{t:TypeId}{x:Operand}(ho:o.op= .call { callee:= .builtin .cap,args:= #[x],argTypes:= #[t] }) {fr:Fr}{hp:Hp}{K:SV->Prop}
  (h:ev fr x λs=>aOl ti t s hp K):cP P o fr hp K:=by
 intro E ρ a w hm hf
 obtain⟨s,hs,hv⟩:=bR h
 have h1:=aR hf hs
 unfold aOl at hv
 split at hv
 ·rename_i e _ _ _ hT
  obtain⟨d,i,z,hT⟩:=aL (hti _ _ hT)
  have hd:=bK hT.td
  subst hd
  split at hv
  ·refine⟨_,_,λw' _=> ?_, .d _ _ (.int _ _),hv⟩
   rw [aO ho]
   simp [builtin,h1.nil_inv,Builtin.cap_,run_underlying hT.und,goInt]
  ·obtain⟨A,e1⟩:=h1.zc_inv
   refine⟨_,_,λw' _=> ?_, .d _ _ (.int _ _),hv⟩
   rw [aO ho]
   simp [builtin,e1,Builtin.cap_,run_underlying hT.und,goInt]
  ·rename_i id z' n
   split at hv
   ·rename_i e' z'' cap rows ho'
    obtain⟨hn,hv⟩:=hv
    obtain⟨q1,q2⟩:=hm.sat id _ ho'
    obtain⟨A,q3,q4,q5,_⟩:=q2.shape
    obtain⟨A',cap',e1,_,_,_,_,e2⟩:=h1.mw_inv
    have e3:=e2 (by omega)
    rw [e3,q3]at e1
    injection e1 with e4 e5 e6
    refine⟨.int .i64 cap,_,λw' _=> ?_, .d _ _ (.int _ _),hv q4 (by simpa only [maxLen]using q5)⟩
    rw [aO ho]
    rw [q3]at e3
    simp [builtin,e3,Builtin.cap_,run_underlying hT.und,goInt]
   ·exact hv.elim
  ·exact hv.elim
 ·exact hv.elim
end
end
end Go.Proofs.YtdjfkmkdkclahaaGreatDoor
