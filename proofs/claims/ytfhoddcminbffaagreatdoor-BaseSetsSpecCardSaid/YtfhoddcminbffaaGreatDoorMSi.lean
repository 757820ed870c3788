/-
  Symbolic operations, one by one: reading. Symbolic operations, one by one: computing. Symbolic memory: new rows of the call's own; fewer objects. Symbolic operations, one by one: conversions, slices, stores, new variables, structs. Symbolic operations, one by one: slices, stores, new variables, append.
  Conditions: none.
-/
import Derived.Test.YtfhoddcminbffaaGreatDoorMSd
import Derived.Laws.StructEq
set_option linter.unusedSectionVars false
set_option linter.unusedSimpArgs false
set_option linter.unusedVariables false
namespace Go.Proofs.YtfhoddcminbffaaGreatDoor
open Go.RowKit
section
variable {P:Program}
theorem iS {t:TypeId}{T:TI}{d:TypeDesc}{i:TypeInfo}{z:Value}(h:TIok P t T d i z) (ha:T.td.isAgg=true) (w:World) (a:Addr) (vs:List Value) (hl:vs.length=T.size)
  (hc: ∀j v,vs[j]? =some v->w.cell? (a.add j)=some v):(loadVar t a).run P w= .ok (.agg vs.toArray) w:=by
 have hr:=run_loadCells_list (P:=P) w a vs hc
 rw [hl]at hr
 simp [loadVar,h.run_isAgg,ha,h.run_size,hr]
theorem iR {t:TypeId}{T:TI}{d:TypeDesc}{i:TypeInfo}{z:Value}(h:TIok P t T d i z) (ha:T.td.isAgg=false) (w:World) (a:Addr) (v:Value)
  (hc:w.cell? a=some v):(loadVar t a).run P w= .ok v w:=by
 simp [loadVar,h.run_isAgg,ha,load,Sem.run,hc]
def aIj (ti:TypeId->Option TI) (t:TypeId) (s:SV) (hp:Hp) (K:SV->Prop):Prop:=
 match ti t with
 |none=>aH "load: a type"
 |some T=>
  match s with
  | .ptr id off=>
   match aU hp id with
   |some (.cells _ cs)=>if T.td.isAgg then off+T.size<=cs.length/\K (xL ((cs.drop off).take T.size))else ∃x,cs[off]? =some x/\K x
   |some (.ro _ cs)=>if T.td.isAgg then off+T.size<=cs.length/\K (xL ((cs.drop off).take T.size))else ∃x,cs[off]? =some x/\K x
   |_=>aH "load: no such object"
  | .ea z rows i off=> ∃row,rows[i]? =some row/\if T.td.isAgg then off+T.size<=z/\K (.d (.agg ((row.drop off).take T.size)))else ∃x,row[off]? =some x/\K (.d x)
  | .mp id z i off ver=>
   match aU hp id with
   |some (.mrow _ z' _ rows)=>z=z'/\ver=rows.length/\ ∃row,rows[i]? =some row/\if T.td.isAgg then off+T.size<=z/\K (.d (.agg ((row.drop off).take T.size)))else ∃x,row[off]? =some x/\K (.d x)
   |_=>aH "load: no such rows"
  |_=>aH "load: no address"
theorem fZ.row {w:World}{S:Nat->Nat->Prop}{e z cap:Nat}{rows:List (List D)}{v:Value}(h:fZ w S e z cap rows v) {i:Nat}{row:List D}(hi:rows[i]? =some row):
  ∃g cur,fM v=some g/\w.heap[g]? =some (.cells cur e (0,0))/\row.length=z/\(i+1)* z<=cur.size/\ ∀j x,row[j]? =some x-> ∃u,cur[i * z+j]? =some u/\RepD w S x u/\u.oneCell'=true:=by
 rcases h with⟨rfl,_⟩|⟨hc,g,cur,rfl,h1,h2,h3,h4,h6,h7⟩
 ·simp at hi
 ·have hlt:i < rows.length:=(List.getElem?_eq_some_iff.1 hi).1
  have hle:(i+1)* z<=cap * z:=Nat.mul_le_mul_right z (by omega)
  refine⟨g,cur,(by have:cap≠0:=(by omega);simp [fM,this]),h1,h6.hz row (List.mem_of_getElem? hi),by rw [h4];exact hle,λj x hx=> ?_⟩
  obtain⟨u,u1,u2⟩:=h6.at_ i row j x hi hx
  refine⟨u, ?_,u2,h6.one u (List.mem_of_getElem? u1)⟩
  rw [List.getElem?_take]at u1
  split at u1
  ·simpa using u1
  ·cases u1
theorem yZ {w:World}{ρ:Env}{g off t:Nat}{T:TI}{d:TypeDesc}{i:TypeInfo}{z:Value}{t':TypeId}{cs:List SV}(hT:TIok P t T d i z) (hc:gK w ρ g t' cs) {K:SV->Prop}
  (h:if T.td.isAgg then off+T.size<=cs.length/\K (xL ((cs.drop off).take T.size))else ∃x,cs[off]? =some x/\K x):
  ∃v s,(∀w':World,w'.heap[g]? =w.heap[g]? ->(loadVar t ⟨g,off,none⟩).run P w'= .ok v w')/\Rep w ρ s v/\K s:=by
 obtain⟨cur,h1,h2,h3,h4⟩:=hc
 have hcell: ∀w':World,w'.heap[g]? =w.heap[g]? -> ∀j,w'.cell? ⟨g,j,none⟩=cur[j]? := λw' hg j=>cell_of_row w' g j cur t' (0,0) (hg.trans h1)
 split at h
 ·rename_i ha
  obtain⟨hle,hk⟩:=h
  refine⟨.agg ((cur.toList.drop off).take T.size).toArray,_,λw' hg=>iS hT ha w' _ _ (by simp;omega) ?_,mC (by simp;omega) ?_,hk⟩
  ·intro j v hv
   rw [cN,hcell w' hg]
   rw [List.getElem?_take]at hv
   split at hv
   ·rw [List.getElem?_drop]at hv;simpa using hv
   ·cases hv
  ·intro j s v hs hv
   have hv':((cur.toList.drop off).take T.size)[j]? =some v:=by simpa using hv
   rw [List.getElem?_take]at hs hv'
   split at hs
   ·rename_i hj
    rw [if_pos hj]at hv'
    rw [List.getElem?_drop]at hs hv'
    exact h4 _ s v hs (by simpa using hv')
   ·cases hs
 ·rename_i ha
  obtain⟨x,hx,hk⟩:=h
  have hlt:off < cs.length:=(List.getElem?_eq_some_iff.1 hx).1
  have hv:cur[off]? =some (cur[off]'(by omega)):=Array.getElem?_eq_getElem (by omega)
  exact⟨_,x,λw' hg=>iR hT (by simpa using ha) w' _ _ (by rw [hcell w' hg];exact hv),h4 off x _ hx hv,hk⟩
theorem aMk {ti:TypeId->Option TI}(hti:fD P ti) {o:Oper}{t:TypeId}{x:Operand}(ho:o.op= .load t x) {fr:Fr}{hp:Hp}{K:SV->Prop}
  (h:ev fr x λs=>aIj ti t s hp K):eO P o fr hp K:=by
 intro E ρ a w hm hf
 obtain⟨s,hs,hv⟩:=cX h
 have hr:=aV hf hs
 have hrun: ∀(ad:Addr) v w',a.eval x= .pointer (some ad)->(loadVar t ad).run P w'= .ok v w'->(execOp a.eval o).run P w'= .ok (.value v) w':=by
  intro ad v w' e1 e2
  simp [execOp,ho,Instr.loadAt,e1,Instr.sureAddr,e2]
 unfold aIj at hv
 split at hv
 ·exact hv.elim
 ·rename_i T hT
  obtain⟨d,i,z,hT⟩:=aP (hti _ _ hT)
  split at hv
  ·rename_i id off
   obtain⟨g,hg,e⟩:=hr.ptr_inv
   split at hv
   ·rename_i t' cs ho'
    obtain⟨g',hg',hc,_⟩:=hm.sat id _ ho'
    rw [hg]at hg';injection hg' with hg';subst hg'
    obtain⟨v,s,h1,h2,h3⟩:=yZ hT hc hv
    exact⟨v,s,λw' hkp=>hrun _ v w' e (h1 w' (hkp.o id _ g ho' hg)),h2,h3⟩
   ·rename_i t' cs ho'
    obtain⟨g',hg',hc⟩:=hm.sat id _ ho'
    rw [hg]at hg';injection hg' with hg';subst hg'
    obtain⟨v,s,h1,h2,h3⟩:=yZ hT hc hv
    exact⟨v,s,λw' hkp=>hrun _ v w' e (h1 w' (hkp.o id _ g ho' hg)),h2,h3⟩
   ·exact hv.elim
  ·rename_i z' rows i' off
   obtain⟨b,o',hview,e⟩:=hr.ea_inv
   obtain⟨row,hrow,hv⟩:=hv
   have hrl:=hview.hz row (List.mem_of_getElem? hrow)
   split at hv
   ·rename_i ha
    obtain⟨hle,hk⟩:=hv
    -- the row's cells
    have hgc: ∀w',Kept ρ hp w w'-> ∀k v,ρ.S b k->w.cell? ⟨b,k,none⟩=some v->w'.cell? ⟨b,k,none⟩=some v:= λw' hkp k v hs hc=>(hkp.s b k hs).trans hc
    have hcells: ∀j,j < T.size-> ∃v,w.cell? ⟨b,o'+(i' * z'+(off+j)),none⟩=some v/\ρ.S b (o'+(i' * z'+(off+j)))/\ ∀y,row[off+j]? =some y->RepD w ρ.S y v:=by
     intro j hj
     have hx:row[off+j]? =some (row[off+j]'(by omega)):=List.getElem?_eq_getElem (by omega)
     obtain⟨v,c1,c2,_,c4⟩:=hview.cell i' row (off+j) _ hrow hx
     exact⟨v,c1,c2,λy hy=>by rw [hx]at hy;injection hy with hy;rw [<-hy];exact c4⟩
    let vs:List Value:=(List.range T.size).map λj=>(w.cell? ⟨b,o'+(i' * z'+(off+j)),none⟩).getD undef
    have hvs: ∀j v,vs[j]? =some v->j < T.size/\w.cell? ⟨b,o'+(i' * z'+(off+j)),none⟩=some v:=by
     intro j v hj
     simp only [vs,List.getElem?_map,Option.map_eq_some_iff]at hj
     obtain⟨j',hj',rfl⟩:=hj
     obtain⟨hlt,he⟩:=List.getElem?_eq_some_iff.1 hj'
     simp at hlt he
     subst he
     obtain⟨v,c1,_⟩:=hcells j hlt
     exact⟨hlt,by rw [c1];rfl⟩
    refine⟨.agg vs.toArray, .d (.agg ((row.drop off).take T.size)),λw' hg=>hrun _ _ w' e (iS hT ha w' _ vs (by simp [vs]) ?_), .d _ _ (.agg _ _ (by simp [vs];omega) ?_),hk⟩
    ·intro j v hj
     rw [cN]
     obtain⟨hjl,hjc⟩:=hvs j v hj
     obtain⟨_,_,hjs,_⟩:=hcells j hjl
     have e3:o'+(i' * z'+off)+j=o'+(i' * z'+(off+j)):=by omega
     rw [e3]
     exact hgc w' hg _ v hjs hjc
    ·intro j y v hy hv
     obtain⟨hlt,hc⟩:=hvs j v (by simpa using hv)
     obtain⟨v',c1,_,c2⟩:=hcells j hlt
     rw [hc]at c1;injection c1 with c1;subst c1
     rw [List.getElem?_take,if_pos hlt,List.getElem?_drop]at hy
     exact c2 y hy
   ·rename_i ha
    obtain⟨y,hy,hk⟩:=hv
    obtain⟨v,c1,c2,_,c4⟩:=hview.cell i' row off y hrow hy
    exact⟨v,_,λw' hkp=>hrun _ v w' e (iR hT (by simpa using ha) w' _ _ ((hkp.s _ _ c2).trans c1)), .d _ _ c4,hk⟩
  ·rename_i id z' i' off ver
   split at hv
   ·rename_i e' z'' cap rows ho'
    obtain⟨rfl,hver,row,hrow,hv⟩:=hv
    obtain⟨h1,h2⟩:=hm.sat id _ ho'
    obtain⟨ad,e,_,hgv⟩:=hr.mp_inv
    obtain⟨g,hg,rfl⟩:=hgv (by omega)
    obtain⟨g',cur,m1,m2,m3,m4,m5⟩:=h2.row hrow
    rw [hg]at m1;injection m1 with m1;subst m1
    have hcell: ∀w':World,Kept ρ hp w w'-> ∀j,w'.cell? ⟨g,j,none⟩=cur[j]? := λw' hkp j=>cell_of_row w' g j cur e' (0,0) ((hkp.o id _ g ho' hg).trans m2)
    split at hv
    ·rename_i ha
     obtain⟨hle,hk⟩:=hv
     have hsz:i' * z'+off+T.size<=cur.size:=by rw [Nat.add_mul]at m4;omega
     refine⟨.agg ((cur.toList.drop (i' * z'+off)).take T.size).toArray, .d (.agg ((row.drop off).take T.size)),λw' hkp=>hrun _ _ w' e (iS hT ha w' _ _ (by simp;omega) ?_), .d _ _ (.agg _ _ (by simp;omega) ?_),hk⟩
     ·intro j v hv'
      rw [cN,hcell w' hkp]
      rw [List.getElem?_take]at hv'
      split at hv'
      ·rw [List.getElem?_drop]at hv';simpa using hv'
      ·cases hv'
     ·intro j y v hy hv'
      have hv2:((cur.toList.drop (i' * z'+off)).take T.size)[j]? =some v:=by simpa using hv'
      rw [List.getElem?_take]at hy hv2
      split at hy
      ·rename_i hj
       rw [if_pos hj,List.getElem?_drop]at hv2
       rw [List.getElem?_drop]at hy
       obtain⟨u,u1,u2,_⟩:=m5 (off+j) y hy
       have e2:i' * z'+off+j=i' * z'+(off+j):=by omega
       rw [e2]at hv2
       have hv3:cur[i' * z'+(off+j)]? =some v:=by simpa using hv2
       rw [u1]at hv3;injection hv3 with hv3;subst hv3
       exact u2
      ·cases hy
    ·rename_i ha
     obtain⟨y,hy,hk⟩:=hv
     obtain⟨u,u1,u2,_⟩:=m5 off y hy
     exact⟨u,_,λw' hkp=>hrun _ u w' e (iR hT (by simpa using ha) w' _ _ (by rw [hcell w' hkp];exact u1)), .d _ _ u2,hk⟩
   ·exact hv.elim
  ·exact hv.elim
theorem aMi {o:Oper}{x:Operand}(ho:o.op= .move x\/o.op= .assign x) {fr:Fr}{hp:Hp}{K:SV->Prop}(h:ev fr x K):eO P o fr hp K:=by
 intro E ρ a w hm hf
 obtain⟨s,hs,hv⟩:=cX h
 refine⟨a.eval x,s,λw' _=> ?_,aV hf hs,hv⟩
 rcases ho with ho|ho<;>simp [execOp,ho]
theorem aRy {o:Oper}{c x y:Operand}(ho:o.op= .pick c x y) {fr:Fr}{hp:Hp}{K:SV->Prop}
  (h : ev fr c λt => (match t with
   | .d (.bool b)=>brB b (ev fr x K) (ev fr y K)
   |_=>aH "pick: no bool")):eO P o fr hp K:=by
 intro E ρ a w hm hf
 obtain⟨t,ht,hv⟩:=cX h
 have hr:=aV hf ht
 split at hv
 ·rename_i b
  have e:=hr.bool_inv
  cases b
  ·obtain⟨s,hs,hk⟩:=cX (aQd hv rfl)
   exact⟨a.eval y,s,λw' _=>by simp [execOp,ho,e,asBool],aV hf hs,hk⟩
  ·obtain⟨s,hs,hk⟩:=cX (aQc hv rfl)
   exact⟨a.eval x,s,λw' _=>by simp [execOp,ho,e,asBool],aV hf hs,hk⟩
 ·exact hv.elim
def aUb (s:SV) (K:SV->Prop):Prop:=
 match s with
 | .ptr id off=>K (.ptr id off)
 | .ea z rows i off=>K (.ea z rows i off)
 | .mp id z i off ver=>K (.mp id z i off ver)
 | .yld id=>K (.yld id)
 | .fn f a b=>K (.fn f a b)
 | .d (.lit (.func (.func f) a b))=>K (.d (.lit (.func (.func f) a b)))
 |_=>aH "nilCheck"
theorem aTc {o:Oper}{x:Operand}(ho:o.op= .nilCheck x) {fr:Fr}{hp:Hp}{K:SV->Prop}(h:ev fr x λs=>aUb s K):eO P o fr hp K:=by
 intro E ρ a w hm hf
 obtain⟨s,hs,hv⟩:=cX h
 have hr:=aV hf hs
 refine⟨a.eval x,s,λw' _=> ?_,hr, ?_⟩
 ·unfold aUb at hv
  split at hv
  ·obtain⟨g,_,e⟩:=hr.ptr_inv;simp [execOp,ho,e]
  ·obtain⟨b,o',_,e⟩:=hr.ea_inv;simp [execOp,ho,e]
  ·obtain⟨ad,e,_⟩:=hr.mp_inv;simp [execOp,ho,e]
  ·obtain⟨l,_,e⟩:=hr.yld_inv;simp [execOp,ho,e]
  ·obtain⟨fv,cv,e,_⟩:=hr.fn_inv;simp [execOp,ho,e]
  ·simp [execOp,ho,hr.lit_inv]
  ·exact hv.elim
 ·unfold aUb at hv
  split at hv<;>first|exact hv|exact hv.elim
def aA6 (s:SV) (i:Nat) (K:SV->Prop):Prop:=
 match s with
 | .tup vs=> ∃x,vs[i]? =some x/\K x
 |_=>aH "extract: no tuple"
theorem aJi {o:Oper}{x:Operand}{i:Nat}(ho:o.op= .extract x i) {fr:Fr}{hp:Hp}{K:SV->Prop}(h:ev fr x λs=>aA6 s i K):eO P o fr hp K:=by
 intro E ρ a w hm hf
 obtain⟨s,hs,hv⟩:=cX h
 have hr:=aV hf hs
 unfold aA6 at hv
 split at hv
 ·rename_i cs
  obtain⟨y,hy,hk⟩:=hv
  obtain⟨vs,e,hl,hh⟩:=hr.tup_inv
  have hlt:=(List.getElem?_eq_some_iff.1 hy).1
  have hvv:vs[i]? =some (vs[i]'(by omega)):=Array.getElem?_eq_getElem (by omega)
  exact⟨_,y,λw' _=>by simp [execOp,ho,e,Instr.extract,hvv],hh i y _ hy hvv,hk⟩
 ·exact hv.elim
def aKz (ti:TypeId->Option TI) (t:TypeId) (s:SV) (f:Nat) (K:SV->Prop):Prop:=
 match ti t with
 |some { td:= .struct fs, .. }=>
  match fs[f]? with
  |some (ft,off)=>
   match ti ft with
   |some T=>
    match s with
    | .d (.agg cs)=>if T.td.isAgg then off+T.size<=cs.length/\K (.d (.agg ((cs.drop off).take T.size)))else ∃x,cs[off]? =some x/\K (.d x)
    | .agg cs=>if T.td.isAgg then off+T.size<=cs.length/\K (xL ((cs.drop off).take T.size))else ∃x,cs[off]? =some x/\K x
    |_=>aH "field: no struct"
   |none=>aH "field: its type"
  |none=>aH "field: no such"
 |_=>aH "field: a struct's type"
theorem nK {d:TypeDesc}{fs:List (TypeId×Nat)}(h:aEk d= .struct fs): ∃gs,d= .struct gs/\fs=gs.toList.map λf=>(f.type,f.offset):=by
 cases d<;>simp [aEk]at h
 exact⟨_,rfl,h.symm⟩
theorem nN {t:TypeId}{T:TI}{d:TypeDesc}{i:TypeInfo}{z:Value}(h:TIok P t T d i z) (w:World) (cs:Array Value) (off:Nat):
  (part t cs off).run P w=if T.td.isAgg then .ok (.agg (cs.extract off (off+T.size))) w else match cs[off]? with|some v=> .ok v w|none=> .halt (.stuck "part: no such cell") w:=by
 simp only [part,Sem.run_bind,h.run_isAgg,Result.andThen_ok]
 cases T.td.isAgg
 ·simp
  cases cs[off]?<;>rfl
 ·simp [h.run_size]
theorem aPh {ti:TypeId->Option TI}(hti:fD P ti) {o:Oper}{t:TypeId}{x:Operand}{f:Nat}(ho:o.op= .field t x f) {fr:Fr}{hp:Hp}{K:SV->Prop}
  (h:ev fr x λs=>aKz ti t s f K):eO P o fr hp K:=by
 intro E ρ a w hm hf
 obtain⟨s,hs,hv⟩:=cX h
 have hr:=aV hf hs
 unfold aKz at hv
 split at hv
 ·rename_i fs _ _ _ hT
  obtain⟨d,i,z,hT⟩:=aP (hti _ _ hT)
  obtain⟨gs,rfl,hfs⟩:=nK hT.td
  split at hv
  ·rename_i ft off hff
   subst hfs
   simp only [List.getElem?_map,Option.map_eq_some_iff]at hff
   obtain⟨fd,hfd,he⟩:=hff
   injection he with he1 he2
   have hfd':gs[f]? =some fd:=by simpa using hfd
   split at hv
   ·rename_i T hT2
    obtain⟨d2,i2,z2,hT2⟩:=aP (hti _ _ hT2)
    have hrun: ∀(vs:Array Value) (w':World),a.eval x= .agg vs->(execOp a.eval o).run P w'=((part ft vs off).run P w').andThen λv w=> .ok (.value v) w:=by
     intro vs w' e
     simp [execOp,ho,Instr.field,run_underlying hT.und,hfd',e,asAgg,he1,he2]
    split at hv
    ·rename_i cs
     obtain⟨vs,e,hl,hh⟩:=hr.dagg_inv
     split at hv
     ·rename_i ha
      obtain⟨hle,hk⟩:=hv
      refine⟨_,_,λw' _=>by rw [hrun vs w' e,nN hT2];simp only [ha,if_true];rfl, .d _ _ (.agg _ _ (by simp<;>omega) ?_),hk⟩
      intro j y v hy hvv
      rw [List.getElem?_take]at hy
      split at hy
      ·rename_i hj
       rw [List.getElem?_drop]at hy
       refine hh (off+j) y v hy ?_
       rw [Array.getElem?_extract]at hvv
       split at hvv
       ·exact hvv
       ·cases hvv
      ·cases hy
     ·rename_i ha
      obtain⟨y,hy,hk⟩:=hv
      have hlt:=(List.getElem?_eq_some_iff.1 hy).1
      have hvv:vs[off]? =some (vs[off]'(by omega)):=Array.getElem?_eq_getElem (by omega)
      exact⟨_,_,λw' _=>by rw [hrun vs w' e,nN hT2];simp [ha,hvv], .d _ _ (hh off y _ hy hvv),hk⟩
    ·rename_i cs
     obtain⟨vs,e,hl,hh⟩:=hr.agg_inv
     split at hv
     ·rename_i ha
      obtain⟨hle,hk⟩:=hv
      refine⟨_,_,λw' _=>by rw [hrun vs w' e,nN hT2];simp only [ha,if_true];rfl,mC (by simp<;>omega) ?_,hk⟩
      intro j y v hy hvv
      rw [List.getElem?_take]at hy
      split at hy
      ·rename_i hj
       rw [List.getElem?_drop]at hy
       refine hh (off+j) y v hy ?_
       rw [Array.getElem?_extract]at hvv
       split at hvv
       ·exact hvv
       ·cases hvv
      ·cases hy
     ·rename_i ha
      obtain⟨y,hy,hk⟩:=hv
      have hlt:=(List.getElem?_eq_some_iff.1 hy).1
      have hvv:vs[off]? =some (vs[off]'(by omega)):=Array.getElem?_eq_getElem (by omega)
      exact⟨_,_,λw' _=>by rw [hrun vs w' e,nN hT2];simp [ha,hvv],hh off y _ hy hvv,hk⟩
    ·exact hv.elim
   ·exact hv.elim
  ·exact hv.elim
 ·exact hv.elim
def qT (ti:TypeId->Option TI) (t:TypeId) (s:SV) (f:Nat) (K:SV->Prop):Prop:=
 match ti t with
 |some { td:= .struct fs, .. }=>
  match fs[f]? with
  |some (ft,off)=>
   match ti ft with
   |some T=>
    if T.size=0 then aH "fieldAddr: a field of no size" else
    match s with
    | .ptr id o=>K (.ptr id (o+off))
    | .ea z rows i o=>K (.ea z rows i (o+off))
    | .mp id z i o ver=>K (.mp id z i (o+off) ver)
    |_=>aH "fieldAddr: no address"
   |none=>aH "fieldAddr: its type"
  |none=>aH "fieldAddr: no such"
 |_=>aH "fieldAddr: a struct's type"
theorem aCo {ti:TypeId->Option TI}(hti:fD P ti) {o:Oper}{t:TypeId}{x:Operand}{f:Nat}(ho:o.op= .fieldAddr t x f) {fr:Fr}{hp:Hp}{K:SV->Prop}
  (h:ev fr x λs=>qT ti t s f K):eO P o fr hp K:=by
 intro E ρ a w hm hf
 obtain⟨s,hs,hv⟩:=cX h
 have hr:=aV hf hs
 unfold qT at hv
 split at hv
 ·rename_i fs _ _ _ hT
  obtain⟨d,i,z,hT⟩:=aP (hti _ _ hT)
  obtain⟨gs,rfl,hfs⟩:=nK hT.td
  split at hv
  ·rename_i ft off hff
   subst hfs
   simp only [List.getElem?_map,Option.map_eq_some_iff]at hff
   obtain⟨fd,hfd,he⟩:=hff
   injection he with he1 he2
   have hfd':gs[f]? =some fd:=by simpa using hfd
   split at hv
   ·rename_i T hT2
    obtain⟨d2,i2,z2,hT2⟩:=aP (hti _ _ hT2)
    split at hv
    ·exact hv.elim
    ·rename_i hsz
     have hrun: ∀(ad:Addr) (w':World),a.eval x= .pointer (some ad)->(execOp a.eval o).run P w'= .ok (.value (.pointer (some (ad.add off)))) w':=by
      intro ad w' e
      simp [execOp,ho,Instr.fieldAt,run_underlying hT.und,hfd',e,Instr.sureAddr,fieldPlace,he1,he2,hT2.run_size,hsz]
     split at hv
     ·rename_i id o'
      obtain⟨g,hg,e⟩:=hr.ptr_inv
      exact⟨_,_,λw' _=>hrun _ w' e,by rw [cN];exact .ptr id (o'+off) g hg,hv⟩
     ·rename_i z' rows i' o'
      obtain⟨b,o'',hview,e⟩:=hr.ea_inv
      refine⟨_,_,λw' _=>hrun _ w' e, ?_,hv⟩
      rw [cN]
      have:=Rep.ea (w:=w) (ρ:=ρ) z' rows i' (o'+off) b o'' hview
      have e2:o''+(i' * z'+o')+off=o''+(i' * z'+(o'+off)):=by omega
      rw [e2]
      exact this
     ·rename_i id z' i' o' ver
      obtain⟨ad,e,q1,q2⟩:=hr.mp_inv
      refine⟨_,_,λw' _=>hrun _ w' e, .mp id z' i' (o'+off) ver _ q1 (λhver=> ?_),hv⟩
      obtain⟨g,hg,rfl⟩:=q2 hver
      refine⟨g,hg, ?_⟩
      rw [cN]
      congr 1
      omega
     ·exact hv.elim
   ·exact hv.elim
  ·exact hv.elim
 ·exact hv.elim
def sC:SV->Option (Nat×List (List D))
 | .d (.sl z rows)=>some (z,rows)
 | .osl _ z rows=>some (z,rows)
 |_=>none
theorem kG {w:World}{ρ:Env}{s:SV}{v:Value}{z:Nat}{rows:List (List D)}(h:sC s=some (z,rows)) (hr:Rep w ρ s v):RepD w ρ.S (.sl z rows) v:=by
 unfold sC at h
 split at h
 ·simp at h;obtain⟨rfl,rfl⟩:=h
  cases hr with|d _ _ h=>exact h
 ·simp at h;obtain⟨rfl,rfl⟩:=h
  cases hr with|osl _ _ _ _ h=>exact h
 ·cases h
def qS (ti:TypeId->Option TI) (t:TypeId) (s i:SV) (K:SV->Prop):Prop:=
 match i with
 | .d (.int _ n)=>
  match ti t with
  |some { td:= .slice e, .. }=>
   match ti e with
   |some T=>
    match s with
    | .msl id z off len=>T.size=z/\0<=n/\n.toNat < len/\K (.ptr id (off+n.toNat * z))
    | .mw id z len=>T.size=z/\0<=n/\n.toNat < len/\K (.mp id z n.toNat 0 len)
    | .ms id z lo len ver=>T.size=z/\0<=n/\n.toNat < len/\K (.mp id z (lo+n.toNat) 0 ver)
    |s=>
     match sC s with
     |some (z,rows)=>T.size=z/\0<=n/\n.toNat < rows.length/\K (.ea z rows n.toNat 0)
     |none=>aH "indexAddr: no slice"
   |none=>aH "indexAddr: an element's type"
  |some { td:= .array m e, .. }=>
   match ti e with
   |some T=>
    match s with
    | .ptr id off=>0<=n/\n.toNat < m/\K (.ptr id (off+n.toNat * T.size))
    | .ea z rows j off=>0<=n/\n.toNat < m/\K (.ea z rows j (off+n.toNat * T.size))
    | .mp id z j off ver=>0<=n/\n.toNat < m/\K (.mp id z j (off+n.toNat * T.size) ver)
    |_=>aH "indexAddr: no array's address"
   |none=>aH "indexAddr: an element's type"
  |_=>aH "indexAddr: a type"
 |_=>aH "indexAddr: no int"
theorem bZ {d:TypeDesc}{e:TypeId}(h:aEk d= .slice e):d= .slice e:=by
 cases d<;>simp [aEk]at h;rw [h]
theorem kU {d:TypeDesc}{n e:Nat}(h:aEk d= .array n e):d= .array n e:=by
 cases d<;>simp [aEk]at h;rw [h.1,h.2]
theorem gO {t e:TypeId}{T:TI}{d:TypeDesc}{i:TypeInfo}{z:Value}(ht:P.underlying t=some (.slice e)) (he:TIok P e T d i z) (w:World) (ad:Addr) (len cap:Nat) (k:IntKind) (n:Int) (h0:0<=n) (h1:n.toNat < len):
  (Instr.indexAt t (.slice (some ad) len cap) (.int k n)).run P w= .ok (.pointer (some (ad.add (n.toNat * T.size)))) w:=by
 have h2:n < (len:Int):=by omega
 simp [Instr.indexAt,asIntOf,run_underlying ht,h0,h2,he.run_size]
theorem gP {t e m:TypeId}{T:TI}{d:TypeDesc}{i:TypeInfo}{z:Value}(ht:P.underlying t=some (.array m e)) (he:TIok P e T d i z) (w:World) (ad:Addr) (k:IntKind) (n:Int) (h0:0<=n) (h1:n.toNat < m):
  (Instr.indexAt t (.pointer (some ad)) (.int k n)).run P w= .ok (.pointer (some (ad.add (n.toNat * T.size)))) w:=by
 have h2:n < (m:Int):=by omega
 simp [Instr.indexAt,asIntOf,run_underlying ht,h0,h2,he.run_size,Instr.sureAddr]
theorem aCn {ti:TypeId->Option TI}(hti:fD P ti) {o:Oper}{t:TypeId}{x y:Operand}(ho:o.op= .indexAddr t x y) {fr:Fr}{hp:Hp}{K:SV->Prop}
  (h:ev fr x λs=>ev fr y λi=>qS ti t s i K):eO P o fr hp K:=by
 intro E ρ a w hm hf
 obtain⟨s,hs,hv0⟩:=cX h
 obtain⟨ix,hix,hv⟩:=cX hv0
 clear hv0
 have hr:=aV hf hs
 have hri:=aV hf hix
 unfold qS at hv
 split at hv
 ·rename_i k n
  have ei:=hri.int_inv
  have hrun: ∀u v w',a.eval x=u->(Instr.indexAt t u (.int k n)).run P w'= .ok v w'->(execOp a.eval o).run P w'= .ok (.value v) w':=by
   intro u v w' e1 e2
   simp [execOp,ho,e1,ei,e2]
  split at hv
  ·rename_i e _ _ _ hT
   obtain⟨d,i,z,hT⟩:=aP (hti _ _ hT)
   have hd:=bZ hT.td
   subst hd
   split at hv
   ·rename_i T hT2
    obtain⟨d2,i2,z2,hT2⟩:=aP (hti _ _ hT2)
    split at hv
    ·rename_i id z' off len
     obtain⟨hz,h0,h1,hk⟩:=hv
     obtain⟨g,cap,hg,e1,_⟩:=hr.msl_inv
     refine⟨_,_,λw' _=>hrun _ _ w' e1 (gO hT.und hT2 w' _ _ _ k n h0 h1), ?_,hk⟩
     rw [cN,hz]
     exact .ptr id _ g hg
    ·rename_i id z' len
     obtain⟨hz,h0,h1,hk⟩:=hv
     obtain⟨A,cap,e1,hn,hc,hA,q1,q2⟩:=hr.mw_inv
     obtain⟨g,rfl⟩:=hA (by omega)
     refine⟨_,_,λw' _=>hrun _ _ w' e1 (gO hT.und hT2 w' _ _ _ k n h0 h1), .mp id z' n.toNat 0 len _ q1 (λhver=>⟨g, ?_, ?_⟩),hk⟩
     ·rw [<-q2 hver,e1]
      have:cap≠0:=by omega
      simp [fM,this]
     ·rw [cN,hz]
      congr 1
      omega
    ·rename_i id z' lo len ver
     obtain⟨hz,h0,h1,hk⟩:=hv
     obtain⟨A,cap,e1,hn,hc,hA,q1,q2⟩:=hr.ms_inv
     obtain⟨ad,rfl⟩:=hA (by omega)
     refine⟨_,_,λw' _=>hrun _ _ w' e1 (gO hT.und hT2 w' _ _ _ k n h0 h1), .mp id z' (lo+n.toNat) 0 ver _ q1 (λhver=> ?_),hk⟩
     obtain⟨A0,l0,c0,p1,p2,p3,p4,A',p5,p6⟩:=q2 hver
     obtain⟨g,rfl⟩:=p4 (by omega)
     rw [e1]at p5
     injection p5 with p7 p8 p9
     have p10:=p6 (by omega)
     rw [<-p7]at p10
     simp only [Option.map_some,Option.some.injEq,cN]at p10
     refine⟨g, ?_, ?_⟩
     ·rw [p1]
      have:c0≠0:=by omega
      simp [fM,this]
     ·rw [p10,cN,hz]
      congr 1
      rw [Nat.add_mul];omega
    ·split at hv
     ·rename_i z' rows hrows
      obtain⟨hz,h0,h1,hk⟩:=hv
      obtain⟨A,cap,b,off,e1,_,_,hA,hview⟩:=(kG hrows hr).of_sl
      have hne:rows≠[]:=by rintro rfl;simp at h1
      have hA':=hA hne
      subst hA'
      refine⟨_,_,λw' _=>hrun _ _ w' e1 (gO hT.und hT2 w' _ _ _ k n h0 h1), ?_,hk⟩
      rw [cN,hz]
      exact .ea z' rows n.toNat 0 b off hview
     ·exact hv.elim
   ·exact hv.elim
  ·rename_i m e _ _ _ hT
   obtain⟨d,i,z,hT⟩:=aP (hti _ _ hT)
   have hd:=kU hT.td
   subst hd
   split at hv
   ·rename_i T hT2
    obtain⟨d2,i2,z2,hT2⟩:=aP (hti _ _ hT2)
    split at hv
    ·rename_i id off
     obtain⟨h0,h1,hk⟩:=hv
     obtain⟨g,hg,e1⟩:=hr.ptr_inv
     refine⟨_,_,λw' _=>hrun _ _ w' e1 (gP hT.und hT2 w' _ k n h0 h1), ?_,hk⟩
     rw [cN]
     exact .ptr id _ g hg
    ·rename_i z' rows j off
     obtain⟨h0,h1,hk⟩:=hv
     obtain⟨b,o',hview,e1⟩:=hr.ea_inv
     refine⟨_,_,λw' _=>hrun _ _ w' e1 (gP hT.und hT2 w' _ k n h0 h1), ?_,hk⟩
     rw [cN]
     have e2:o'+(j * z'+off)+n.toNat * T.size=o'+(j * z'+(off+n.toNat * T.size)):=by omega
     rw [e2]
     exact .ea z' rows j _ b o' hview
    ·rename_i id z' j off ver
     obtain⟨h0,h1,hk⟩:=hv
     obtain⟨ad,e1,q1,q2⟩:=hr.mp_inv
     refine⟨_,_,λw' _=>hrun _ _ w' e1 (gP hT.und hT2 w' _ k n h0 h1), .mp id z' j _ ver _ q1 (λhver=> ?_),hk⟩
     obtain⟨g,hg,rfl⟩:=q2 hver
     refine⟨g,hg, ?_⟩
     rw [cN]
     congr 1
     omega
    ·exact hv.elim
   ·exact hv.elim
  ·exact hv.elim
 ·exact hv.elim
def aKy (ti:TypeId->Option TI) (t:TypeId) (s i:SV) (K:SV->Prop):Prop:=
 match i with
 | .d (.int _ n)=>
  match ti t with
  |some { td:= .string, .. }=>
   match s with
   | .d (.str l)=>0<=n/\ ∃h:n.toNat < l.length,K (.d (.int .u8 (l[n.toNat]'h).toNat))
   |_=>aH "index: no string"
  |some { td:= .array m e, .. }=>
   match ti e with
   |some T=>
    match s with
    | .d (.agg cs)=>T.td.isAgg=false/\0<=n/\n.toNat < m/\ ∃x,cs[n.toNat * T.size]? =some x/\K (.d x)
    |_=>aH "index: no array"
   |none=>aH "index: an element's type"
  |_=>aH "index: a type"
 |_=>aH "index: no int"
theorem gD {d:TypeDesc}(h:aEk d= .string):d= .string:=by
 cases d<;>simp [aEk]at h;rfl
theorem aPg {ti:TypeId->Option TI}(hti:fD P ti) {o:Oper}{t:TypeId}{x y:Operand}(ho:o.op= .index t x y) {fr:Fr}{hp:Hp}{K:SV->Prop}
  (h:ev fr x λs=>ev fr y λi=>aKy ti t s i K):eO P o fr hp K:=by
 intro E ρ a w hm hf
 obtain⟨s,hs,hv0⟩:=cX h
 obtain⟨ix,hix,hv⟩:=cX hv0
 clear hv0
 have hr:=aV hf hs
 have hri:=aV hf hix
 unfold aKy at hv
 split at hv
 ·rename_i k n
  have ei:=hri.int_inv
  split at hv
  ·rename_i hT
   obtain⟨d,i,z,hT⟩:=aP (hti _ _ hT)
   have hd:=gD hT.td
   subst hd
   split at hv
   ·rename_i l
    obtain⟨h0,h1,hk⟩:=hv
    obtain⟨e,_⟩:=hr.str_inv
    refine⟨_,_,λw' _=> ?_, .d _ _ (.int _ _),hk⟩
    have hlt:n.toNat < (⟨l.toArray⟩:ByteArray).size:=by simpa [ByteArray.size]using h1
    have hlt2:n < ((⟨l.toArray⟩:ByteArray).size:Int):=by omega
    have:=run_index_string (P:=P) (w:=w') t ⟨l.toArray⟩ k n hT.und
    rw [dif_pos ⟨h0,hlt2⟩]at this
    simp only [execOp,ho,e,ei,Sem.run_bind,this,Result.andThen_ok]
    rfl
   ·exact hv.elim
  ·rename_i m e _ _ _ hT
   obtain⟨d,i,z,hT⟩:=aP (hti _ _ hT)
   have hd:=kU hT.td
   subst hd
   split at hv
   ·rename_i T hT2
    obtain⟨d2,i2,z2,hT2⟩:=aP (hti _ _ hT2)
    split at hv
    ·rename_i cs
     obtain⟨ha,h0,h1,y',hy,hk⟩:=hv
     obtain⟨vs,e1,hl,hh⟩:=hr.dagg_inv
     have hlt:=(List.getElem?_eq_some_iff.1 hy).1
     have hvv:vs[n.toNat * T.size]? =some (vs[n.toNat * T.size]'(by omega)):=Array.getElem?_eq_getElem (by omega)
     have h2:n < (m:Int):=by omega
     refine⟨_,_,λw' _=> ?_, .d _ _ (hh _ y' _ hy hvv),hk⟩
     simp [execOp,ho,e1,ei,Instr.index,asIntOf,run_underlying hT.und,h0,h2,hT2.run_size,nN hT2,ha,hvv]
    ·exact hv.elim
   ·exact hv.elim
  ·exact hv.elim
 ·exact hv.elim
end
end Go.Proofs.YtfhoddcminbffaaGreatDoor
namespace Go.Proofs.YtfhoddcminbffaaGreatDoor
open Go.RowKit
section
variable {P:Program}
def aE5 (k:IntKind) (r:Int) (K:SV->Prop):Prop:=
 match k with
 | .i64=>(-9223372036854775808<=r/\r<=9223372036854775807)/\K (.d (.int .i64 r))
 | .i32=>(-2147483648<=r/\r<=2147483647)/\K (.d (.int .i32 r))
 |k=>K (.d (.int k (k.wrap r)))
theorem nV {k:IntKind}{r:Int}{K:SV->Prop}(h:aE5 k r K):K (.d (.int k (k.wrap r))):=by
 cases k<;>simp only [aE5]at h<;>first|exact h|(rw [IntWalk.i64_in r h.1];exact h.2)|(rw [IntWalk.i32_in r h.1];exact h.2)
def aHd (op:BinOp) (k:IntKind) (a:Int) (k':IntKind) (b:Int) (K:SV->Prop):Prop:=
 match op with
 | .shl=>0<=b/\K (.d (.int k (k.wrap (a * 2 ^ (min b.toNat k.bits)))))
 | .shr=>0<=b/\K (.d (.int k (a.fdiv (2 ^ (min b.toNat k.bits)))))
 |op=>
  if k=k' then
   match op with
   | .add=>aE5 k (a+b) K
   | .sub=>aE5 k (a - b) K
   | .mul=>aE5 k (a * b) K
   | .quo=>b≠0/\aE5 k (a.tdiv b) K
   | .rem=>b≠0/\K (.d (.int k (a.tmod b)))
   | .and=>K (.d (.int k (bits .and k a b)))
   | .or=>K (.d (.int k (bits .or k a b)))
   | .xor=>K (.d (.int k (bits .xor k a b)))
   | .andNot=>K (.d (.int k (bits .andNot k a b)))
   | .eql=>K (.d (.bool (decide (a=b))))
   | .neq=>K (.d (.bool (!decide (a=b))))
   | .lss=>K (.d (.bool (decide (a < b))))
   | .leq=>K (.d (.bool (decide (a<=b))))
   | .gtr=>K (.d (.bool (decide (b < a))))
   | .geq=>K (.d (.bool (decide (b<=a))))
   |_=>aH "binOp: ints"
  else aH "binOp: kinds"
def aGj (op:BinOp) (a b:List UInt8) (K:SV->Prop):Prop:=
 match op with
 | .add=>a.length+b.length<=9223372036854775807/\K (.d (.str (a++b)))
 | .eql=>K (.d (.bool (decide (a=b))))
 | .neq=>K (.d (.bool (!decide (a=b))))
 | .lss=>K (.d (.bool (Op.bytesLess a b)))
 | .leq=>K (.d (.bool (Op.bytesLess a b || decide (a=b))))
 | .gtr=>K (.d (.bool (!(Op.bytesLess a b || decide (a=b)))))
 | .geq=>K (.d (.bool (!Op.bytesLess a b)))
 |_=>aH "binOp: strings"
def aNm:TD->D->D->Option Bool
 | .int _, .int k a, .int k' b=>if k=k' then some (decide (a=b))else none
 | .bool, .bool a, .bool b=>some (a==b)
 | .string, .str a, .str b=>some (decide (a=b))
 |_,_,_=>none
def aTs (ti:TypeId->Option TI) (xs ys:List D):List (TypeId×Nat)->Option Bool
 | []=>some true
 |(ft,off)::r=>
  match ti ft with
  |some T=>
   if T.td.isAgg then none else
   match xs[off]? with
   |some x=>
    match ys[off]? with
    |some y=>
     match aNm T.td x y with
     |some c=>match aTs ti xs ys r with|some b=>some (c && b)|none=>none
     |none=>none
    |none=>none
   |none=>none
  |none=>none
def aV9 (P:Program) (t:TypeId):Bool:=
 !P.stoodInHeld t && !P.eqGuardType P.depth t && (match P.underlying t with|some (.struct fs)=>fs.toList.all (·.name != "_")|_=>false)
def aR4 (P:Program) (ti:TypeId->Option TI) (op:BinOp) (t:TypeId) (xs ys:List D) (K:SV->Prop):Prop:=
 match ti t with
 |some { td:= .struct fs, .. }=>
  aV9 P t=true/\
  match aTs ti xs ys fs with
  |some b=>(match op with| .eql=>K (.d (.bool b))| .neq=>K (.d (.bool (!b)))|_=>aH "binOp: structs")
  |none=>aH "binOp: fields"
 |_=>aH "binOp: a struct's type"
def aV0 (x:SV) (K:Bool->Prop):Prop:=
 match x with
 | .d .nil=>K true
 | .d (.sl _ rows)=> ∀b:Bool,(b=true->rows=[])->K b
 | .osl _ _ rows=> ∀b:Bool,(b=true->rows=[])->K b
 | .mw _ _ n=> ∀b:Bool,(b=true->n=0)->K b
 | .zc=> ∀b:Bool,K b
 |_=>aH "nil: no slice"
theorem aS1 {w:World}{ρ:Env}{x:SV}{v:Value}{K:Bool->Prop}(h:aV0 x K) (hr:Rep w ρ x v): ∃A n c,v= .slice A n c/\K A.isNone:=by
 unfold aV0 at h
 split at h
 ·exact⟨none,0,0,hr.nil_inv,h⟩
 ·rename_i z rows
  cases hr with
  |d _ _ hd=>
   obtain⟨A,cap,b,off,e,_,_,hA,_⟩:=hd.of_sl
   refine⟨A,_,cap,e,h _ λhn=> ?_⟩
   by_cases hne:rows=[]
   ·exact hne
   ·rw [hA hne]at hn;cases hn
 ·rename_i z rows
  obtain⟨A,cap,b,off,e,_,_,hA,_⟩:=hr.osl_inv.1.of_sl
  refine⟨A,_,cap,e,h _ λhn=> ?_⟩
  by_cases hne:rows=[]
  ·exact hne
  ·rw [hA hne]at hn;cases hn
 ·rename_i id z n
  obtain⟨A,cap,e,_,_,hA,_⟩:=hr.mw_inv
  refine⟨A,n,cap,e,h _ λhn=> ?_⟩
  by_cases hne:n=0
  ·exact hne
  ·obtain⟨g,rfl⟩:=hA hne;cases hn
 ·obtain⟨A,e⟩:=hr.zc_inv
  exact⟨A,0,0,e,h _⟩
 ·exact h.elim
theorem aEu (w:World) {t e:TypeId}(A:Option Addr) (n c:Nat) (ht:P.underlying t=some (.slice e)):(binOp .eql t (.slice A n c) (.slice none 0 0)).run P w= .ok (.bool A.isNone) w:=by
 have h: ∀d:Nat,(Op.equalIn (d+1) t (.slice A n c) (.slice none 0 0)).run P w= .ok A.isNone w:= λd=>by
  cases A<;>simp [Op.equalIn,run_underlying ht]
 simp only [binOp]
 simp [Op.equal,Op.maxDepth,h 9999]
theorem aEt (w:World) {t e:TypeId}(A:Option Addr) (n c:Nat) (ht:P.underlying t=some (.slice e)):(binOp .neq t (.slice A n c) (.slice none 0 0)).run P w= .ok (.bool (!A.isNone)) w:=by
 have h: ∀d:Nat,(Op.equalIn (d+1) t (.slice A n c) (.slice none 0 0)).run P w= .ok A.isNone w:= λd=>by
  cases A<;>simp [Op.equalIn,run_underlying ht]
 simp only [binOp]
 simp [Op.equal,Op.maxDepth,h 9999]
theorem qE (op:BinOp) (t:TypeId) (x y:Operand) (A B:Option Addr) (n c n' c':Nat) (w:World):(eqGuard op t x y (.slice A n c) (.slice B n' c')).run P w= .ok () w:=by
 cases op<;>simp [eqGuard]
def aUn (P:Program) (ti:TypeId->Option TI) (op:BinOp) (t:TypeId) (x y:SV) (K:SV->Prop):Prop:=
 match x,y with
 | .d (.int k a), .d (.int k' b)=>aHd op k a k' b K
 | .d (.str a), .d (.str b)=>aGj op a b K
 | .d (.bool a), .d (.bool b)=>
  (match ti t with
  |some { td:= .bool, .. }=>(match op with| .eql=>K (.d (.bool (a==b)))| .neq=>K (.d (.bool (!(a==b))))|_=>aH "binOp: bools")
  |_=>aH "binOp: a bool's type")
 | .d (.agg xs), .d (.agg ys)=>aR4 P ti op t xs ys K
 |x, .d .nil=>
  (match ti t with
  |some { td:= .slice _, .. }=>aV0 x λb=>(match op with| .eql=>K (.d (.bool b))| .neq=>K (.d (.bool (!b)))|_=>aH "binOp: slices")
  |_=>aH "binOp: a slice's type")
 |_,_=>aH "binOp"
theorem bool_inv {d:TypeDesc}(h:aEk d= .bool):d= .bool:=by
 cases d<;>simp [aEk]at h;rfl
theorem nF {d:TypeDesc}{k:IntKind}(h:aEk d= .int k):d= .int k:=by
 cases d<;>simp [aEk]at h;rw [h]
theorem wF (op:BinOp) (t:TypeId) (x y:Operand) (k k':IntKind) (a b:Int) (w:World):(eqGuard op t x y (.int k a) (.int k' b)).run P w= .ok () w:=by
 cases op<;>simp [eqGuard]
theorem wE (op:BinOp) (t:TypeId) (x y:Operand) (a b:ByteArray) (w:World):(eqGuard op t x y (.string a) (.string b)).run P w= .ok () w:=by
 cases op<;>simp [eqGuard]
theorem sP (op:BinOp) (t:TypeId) (x y:Operand) (a b:Bool) (w:World):(eqGuard op t x y (.bool a) (.bool b)).run P w= .ok () w:=by
 cases op<;>simp [eqGuard]
theorem yE {op:BinOp}{k k':IntKind}{a b:Int}{K:SV->Prop}(t:TypeId) (h:aHd op k a k' b K): ∃v x,(∀w,(binOp op t (.int k a) (.int k' b)).run P w= .ok v w)/\K (.d x)/\(∀w S,RepD w S x v):=by
 unfold aHd at h
 split at h
 ·obtain⟨h0,hk⟩:=h
  have h0':¬ b < 0:=by omega
  exact⟨_,_,λw=>by simp [binOp,Op.shift,h0'],hk,λw S=> .int _ _⟩
 ·obtain⟨h0,hk⟩:=h
  have h0':¬ b < 0:=by omega
  exact⟨_,_,λw=>by simp [binOp,Op.shift,h0'],hk,λw S=> .int _ _⟩
 ·rename_i h1 h2
  split at h
  ·rename_i e
   subst e
   split at h
   ·exact⟨_,_,λw=>by simp [binOp,Op.intArith],nV h,λw S=> .int _ _⟩
   ·exact⟨_,_,λw=>by simp [binOp,Op.intArith],nV h,λw S=> .int _ _⟩
   ·exact⟨_,_,λw=>by simp [binOp,Op.intArith],nV h,λw S=> .int _ _⟩
   ·exact⟨_,_,λw=>by simp [binOp,Op.intDiv,h.1],nV h.2,λw S=> .int _ _⟩
   ·exact⟨_,_,λw=>by simp [binOp,Op.intDiv,h.1],h.2,λw S=> .int _ _⟩
   ·exact⟨_,_,λw=>by simp [binOp,intBits_and],h,λw S=> .int _ _⟩
   ·exact⟨_,_,λw=>by simp [binOp,intBits_or],h,λw S=> .int _ _⟩
   ·exact⟨_,_,λw=>by simp [binOp,intBits_xor],h,λw S=> .int _ _⟩
   ·exact⟨_,_,λw=>by simp [binOp,intBits_andNot],h,λw S=> .int _ _⟩
   ·exact⟨_,_,λw=>by simp [binOp,Op.intCmp];rfl,h,λw S=> .bool _⟩
   ·exact⟨_,_,λw=>by simp [binOp,Op.intCmp];rfl,h,λw S=> .bool _⟩
   ·exact⟨_,_,λw=>by simp [binOp,Op.intCmp],h,λw S=> .bool _⟩
   ·exact⟨_,_,λw=>by simp [binOp,Op.intCmp],h,λw S=> .bool _⟩
   ·exact⟨_,_,λw=>by simp [binOp,Op.intCmp],h,λw S=> .bool _⟩
   ·exact⟨_,_,λw=>by simp [binOp,Op.intCmp],h,λw S=> .bool _⟩
   ·exact h.elim
  ·exact h.elim
theorem kB (l:List UInt8):(⟨l.toArray⟩:ByteArray).toList=l:=by rw [ByteArray.toList_eq]
theorem rM (a b:List UInt8):(a==b)=decide (a=b):=by
 by_cases h:a=b<;>simp [h]
theorem yD {op:BinOp}{a b:List UInt8}{K:SV->Prop}(t:TypeId) (h:aGj op a b K): ∃v x,(∀w,(binOp op t (.string ⟨a.toArray⟩) (.string ⟨b.toArray⟩)).run P w= .ok v w)/\K (.d x)/\(∀w S,RepD w S x v):=by
 have ea:=kB a
 have eb:=kB b
 unfold aGj at h
 split at h
 ·obtain⟨h1,h2⟩:=h
  have e:(⟨a.toArray⟩:ByteArray)++(⟨b.toArray⟩:ByteArray)=⟨(a++b).toArray⟩:=by
   apply ByteArray.ext
   simp
  refine⟨_,_,λw=> ?_,h2,λw S=> .str _ (by simp only [maxLen,List.length_append];omega)⟩
  rw [<-e]
  have hsz: ∀l:List UInt8,(⟨l.toArray⟩:ByteArray).size=l.length:= λl=>rfl
  simp [binOp,Op.stringOp,hsz]
  omega
 ·exact⟨_,_,λw=>by simp [binOp,Op.stringOp,ea,eb,rM],h,λw S=> .bool _⟩
 ·exact⟨_,_,λw=>by simp [binOp,Op.stringOp,ea,eb,rM],h,λw S=> .bool _⟩
 ·exact⟨_,_,λw=>by simp [binOp,Op.stringOp,ea,eb],h,λw S=> .bool _⟩
 ·exact⟨_,_,λw=>by simp [binOp,Op.stringOp,ea,eb,rM],h,λw S=> .bool _⟩
 ·exact⟨_,_,λw=>by simp only [binOp,Op.stringOp,ea,eb,rM];rfl,h,λw S=> .bool _⟩
 ·exact⟨_,_,λw=>by simp [binOp,Op.stringOp,ea,eb],h,λw S=> .bool _⟩
 ·exact h.elim
theorem aJ2 {td:TD}{x y:D}{c:Bool}(h:aNm td x y=some c) {w:World}{S:Nat->Nat->Prop}{u v:Value}(hx:RepD w S x u) (hy:RepD w S y v) {t:TypeId}{T:TI}{dd:TypeDesc}{i:TypeInfo}{z:Value}(hT:TIok P t T dd i z)
  (htd:T.td=td) (d:Nat) (w':World):(Op.equalIn (d+1) t u v).run P w'= .ok c w':=by
 have hd:=hT.td
 rw [htd]at hd
 unfold aNm at h
 split at h
 ·rename_i k1 k a k' b
  cases hx;cases hy
  split at h
  ·rename_i e
   subst e
   have:=nF hd
   subst this
   rw [run_equalIn_int w' d t _ _ _ _ hT.und]
   injection h with h
   rw [<-h]
   rfl
  ·cases h
 ·cases hx;cases hy
  injection h with h
  have:=bool_inv hd
  subst this
  rw [<-h]
  exact run_equalIn_bool' w' d t _ _ hT.und
 ·cases hx;cases hy
  injection h with h
  have:=gD hd
  subst this
  rw [run_equalIn_string w' d t _ _ hT.und,kB,kB,rM,h]
 ·cases h
theorem aP6 {ti:TypeId->Option TI}(hti:fD P ti) {w:World}{S:Nat->Nat->Prop}{xs ys:List D}{us vs:Array Value}(hxl:us.size=xs.length) (hyl:vs.size=ys.length)
  (hx: ∀(j:Nat) (x:D) (u:Value),xs[j]? =some x->us[j]? =some u->RepD w S x u) (hy: ∀(j:Nat) (x:D) (u:Value),ys[j]? =some x->vs[j]? =some u->RepD w S x u) (d:Nat) (w':World):
  ∀(fs:List Field) (b:Bool),(∀f∈fs,f.name≠ "_")->aTs ti xs ys (fs.map λf=>(f.type,f.offset))=some b->(Op.eqFields (d+1) us vs fs).run P w'= .ok b w':=by
 intro fs
 induction fs with
 |nil=>intro b _ h;simp [aTs]at h;subst h;simp [Op.eqFields]
 |cons f r ih=>
  intro b hn h
  simp only [List.map_cons,aTs]at h
  split at h
  ·rename_i T hT
   obtain⟨dd,i,z,hT⟩:=aP (hti _ _ hT)
   split at h
   ·cases h
   ·rename_i ha
    split at h
    ·rename_i x hxx
     split at h
     ·rename_i y hyy
      split at h
      ·rename_i c hc
       split at h
       ·rename_i b' hb'
        injection h with h
        have hlx:=(List.getElem?_eq_some_iff.1 hxx).1
        have hly:=(List.getElem?_eq_some_iff.1 hyy).1
        have hu:us[f.offset]? =some (us[f.offset]'(by omega)):=Array.getElem?_eq_getElem (by omega)
        have hv:vs[f.offset]? =some (vs[f.offset]'(by omega)):=Array.getElem?_eq_getElem (by omega)
        have hr:=aJ2 (P:=P) hc (hx _ x _ hxx hu) (hy _ y _ hyy hv) hT rfl d w'
        have hrest:=ih b' (λg hg=>hn g (by simp [hg])) hb'
        have ha':T.td.isAgg=false:=by simpa using ha
        have hfn:f.name≠ "_" :=hn f (by simp)
        simp only [Op.eqFields,hfn,ne_eq,not_false_eq_true,if_true,Sem.run_bind,nN hT,ha',Bool.false_eq_true,if_false,hu,hv,Result.andThen_ok,hr]
        cases c
        ·simp at h;subst h;simp
        ·simp at h;subst h;simpa using hrest
       ·cases h
      ·cases h
     ·cases h
    ·cases h
  ·cases h
theorem aTf {ti:TypeId->Option TI}(hti:fD P ti) {o:Oper}{op:BinOp}{t t':TypeId}{x y:Operand}(ho:o.op= .binOp op t x y t') {fr:Fr}{hp:Hp}{K:SV->Prop}
  (h:ev fr x λs=>ev fr y λr=>aUn P ti op t s r K):eO P o fr hp K:=by
 intro E ρ a w hm hf
 obtain⟨s,hs,hv0⟩:=cX h
 obtain⟨r,hr,hv⟩:=cX hv0
 clear hv0
 have h1:=aV hf hs
 have h2:=aV hf hr
 unfold aUn at hv
 split at hv
 ·obtain⟨v,q,a1,a2,a3⟩:=yE (P:=P) t hv
  exact⟨v,_,λw' _=>by simp [execOp,ho,h1.int_inv,h2.int_inv,wF,a1], .d _ _ (a3 w ρ.S),a2⟩
 ·obtain⟨v,q,a1,a2,a3⟩:=yD (P:=P) t hv
  exact⟨v,_,λw' _=>by simp [execOp,ho,h1.str_inv.1,h2.str_inv.1,wE,a1], .d _ _ (a3 w ρ.S),a2⟩
 ·rename_i b c
  split at hv
  ·rename_i hT
   obtain⟨d,i,z,hT⟩:=aP (hti _ _ hT)
   have hd:=bool_inv hT.td
   subst hd
   split at hv
   ·exact⟨_,_,λw' _=>by simp [execOp,ho,h1.bool_inv,h2.bool_inv,sP,run_eql_bool w' t b c hT.und], .d _ _ (.bool _),hv⟩
   ·exact⟨_,_,λw' _=>by simp [execOp,ho,h1.bool_inv,h2.bool_inv,sP,run_neq_bool w' t b c hT.und], .d _ _ (.bool _),hv⟩
   ·exact hv.elim
  ·exact hv.elim
 ·rename_i xs ys
  obtain⟨us,e1,hl1,hh1⟩:=h1.dagg_inv
  obtain⟨vs,e2,hl2,hh2⟩:=h2.dagg_inv
  unfold aR4 at hv
  split at hv
  ·rename_i fs _ _ _ hT
   obtain⟨d,i,z,hT⟩:=aP (hti _ _ hT)
   obtain⟨gs,rfl,hfs⟩:=nK hT.td
   obtain⟨hok,hv⟩:=hv
   unfold aV9 at hok
   rw [hT.und]at hok
   simp only [Bool.and_eq_true,Bool.not_eq_true',List.all_eq_true,bne_iff_ne]at hok
   obtain⟨⟨k1,k2⟩,k3⟩:=hok
   subst hfs
   split at hv
   ·rename_i b hb
    have hfo:P.fieldsOf t=gs:=by simp [Program.fieldsOf,hT.und]
    have hrun:= λw'=>aP6 (P:=P) hti hl1 hl2 hh1 hh2 9998 w' gs.toList b k3 hb
    have heq:= λw'=>run_equalIn_struct (P:=P) w' 9999 t us vs (by rw [hfo];exact hT.und) k1
    rw [hfo]at heq
    split at hv
    ·refine⟨_,_,λw' _=> ?_, .d _ _ (.bool _),hv⟩
     simp only [execOp,ho,e1,e2,Sem.run_bind,run_eqGuard_agg w' _ t x y us vs k2,Result.andThen_ok,run_eql_struct,heq,hrun]
     rfl
    ·refine⟨_,_,λw' _=> ?_, .d _ _ (.bool _),hv⟩
     simp only [execOp,ho,e1,e2,Sem.run_bind,run_eqGuard_agg w' _ t x y us vs k2,Result.andThen_ok,run_neq_struct,heq,hrun]
     rfl
    ·exact hv.elim
   ·exact hv.elim
  ·exact hv.elim
 ·split at hv
  ·rename_i e _ _ _ hT
   obtain⟨d,i,z,hT⟩:=aP (hti _ _ hT)
   have hd:=bZ hT.td
   subst hd
   obtain⟨A,n,c,e1,hk⟩:=aS1 hv h1
   have e2:=h2.nil_inv
   split at hk
   ·exact⟨_,_,λw' _=>by simp [execOp,ho,e1,e2,qE,aEu w' A n c hT.und], .d _ _ (.bool _),hk⟩
   ·exact⟨_,_,λw' _=>by simp [execOp,ho,e1,e2,qE,aEt w' A n c hT.und], .d _ _ (.bool _),hk⟩
   ·exact hk.elim
  ·exact hv.elim
 ·exact hv.elim
def vUn (op:UnOp) (x:SV) (K:SV->Prop):Prop:=
 match op,x with
 | .not, .d (.bool b)=>K (.d (.bool (!b)))
 | .neg, .d (.int k n)=>aE5 k (0 - n) K
 |_,_=>aH "unOp"
theorem aUy {o:Oper}{op:UnOp}{t:TypeId}{x:Operand}(ho:o.op= .unOp op t x) {fr:Fr}{hp:Hp}{K:SV->Prop}
  (h:ev fr x λs=>vUn op s K):eO P o fr hp K:=by
 intro E ρ a w hm hf
 obtain⟨s,hs,hv⟩:=cX h
 have h1:=aV hf hs
 unfold vUn at hv
 split at hv
 ·exact⟨_,_,λw' _=>by simp [execOp,ho,h1.bool_inv,Op.unary], .d _ _ (.bool _),hv⟩
 ·exact⟨_,_,λw' _=>by simp [execOp,ho,h1.int_inv,Op.unary,Op.intArith], .d _ _ (.int _ _),nV hv⟩
 ·exact hv.elim
def evL (fr:Fr):List Operand->Option (List SV)
 | []=>some []
 |x::r=>match evO fr x with
  |some s=>match evL fr r with|some l=>some (s::l)|none=>none
  |none=>none
theorem wD {ρ:Env}{w:World}{fr:Fr}{a:Act}(hf:dY ρ w fr a.tmps): ∀(xs:List Operand) (l:List SV),evL fr xs=some l->xs.length=l.length/\ ∀(j:Nat) (s:SV) (v:Value),l[j]? =some s->(xs.map a.eval)[j]? =some v->Rep w ρ s v:=by
 intro xs
 induction xs with
 |nil=>intro l h;simp [evL]at h;subst h;simp
 |cons x r ih=>
  intro l h
  simp only [evL]at h
  split at h
  ·rename_i s hs
   split at h
   ·rename_i l' hl'
    simp at h
    subst h
    obtain⟨a1,a2⟩:=ih l' hl'
    refine⟨by simp [a1],λj s' v h1 h2=> ?_⟩
    cases j with
    |zero=>simp at h1 h2;subst h1;subst h2;exact aV hf hs
    |succ j=>simp at h1 h2;exact a2 j s' v h1 (by simpa using h2)
   ·cases h
  ·cases h
theorem aUz {o:Oper}{f:FuncId}{first cap:Array Operand}(ho:o.op= .makeFunc (.func f) first cap) {fr:Fr}{hp:Hp}{K:SV->Prop}
  (h : match evL fr first.toList with
   |some l=>(match evL fr cap.toList with|some m=>K (.fn f l m)|none=>aH "makeFunc")
   |none=>aH "makeFunc"):eO P o fr hp K:=by
 intro E ρ a w hm hf
 split at h
 ·rename_i l hl
  split at h
  ·rename_i m hm'
   obtain⟨a1,a2⟩:=wD hf _ _ hl
   obtain⟨b1,b2⟩:=wD hf _ _ hm'
   refine⟨.func (.func f) (first.map a.eval) (cap.map a.eval),_,λw' _=>by simp [execOp,ho,Instr.makeFunc], .fn f l m _ _ (by simpa using a1) (by simpa using b1) (λj s v h1 h2=>a2 j s v h1 ?_) (λj s v h1 h2=>b2 j s v h1 ?_),h⟩
   ·rw [<-Array.toList_map];simpa using h2
   ·rw [<-Array.toList_map];simpa using h2
  ·exact h.elim
 ·exact h.elim
def aUl (ti:TypeId->Option TI) (t:TypeId) (s:SV) (K:SV->Prop):Prop:=
 match ti t with
 |some { td:= .string, .. }=>(match s with| .d (.str l)=>l.length<=9223372036854775807->K (.d (.int .i64 l.length))|_=>aH "len: no string")
 |some { td:= .slice _, .. }=>
  (match s with
  | .d .nil=>K (.d (.int .i64 0))
  | .msl _ _ _ n=>n<=9223372036854775807->K (.d (.int .i64 n))
  | .mw _ _ n=>n<=9223372036854775807->K (.d (.int .i64 n))
  | .ms _ _ _ n _=>n<=9223372036854775807->K (.d (.int .i64 n))
  | .zc=>K (.d (.int .i64 0))
  |s=>match sC s with
   |some (_,rows)=>rows.length<=9223372036854775807->K (.d (.int .i64 rows.length))
   |none=>aH "len: no slice")
 |some { td:= .array n _, .. }=>K (.d (.int .i64 n))
 |_=>aH "len: a type"
theorem aR {ρ:Operand->Value}{o:Oper}{b:Builtin}{args:Array Operand}{ts:Array TypeId}(ho:o.op= .call { callee:= .builtin b,args:=args,argTypes:=ts }) (w:World):
  (execOp ρ o).run P w=(builtin b ts o.type (args.map λ| .const _=>true|_=>false) (args.map ρ)).run P w:=by
 simp only [execOp,ho,resolve,invoke,Sem.run_bind,Sem.run_pure,Result.andThen_ok]
 rfl
theorem aTd {ti:TypeId->Option TI}(hti:fD P ti) {o:Oper}{t:TypeId}{x:Operand}(ho:o.op= .call { callee:= .builtin .len,args:= #[x],argTypes:= #[t] }) {fr:Fr}{hp:Hp}{K:SV->Prop}
  (h:ev fr x λs=>aUl ti t s K):eO P o fr hp K:=by
 intro E ρ a w hm hf
 obtain⟨s,hs,hv⟩:=cX h
 have h1:=aV hf hs
 unfold aUl at hv
 split at hv
 ·rename_i hT
  obtain⟨d,i,z,hT⟩:=aP (hti _ _ hT)
  have hd:=gD hT.td
  subst hd
  split at hv
  ·rename_i l
   obtain⟨e,hl⟩:=h1.str_inv
   refine⟨_,_,λw' _=> ?_, .d _ _ (.int _ _),hv hl⟩
   rw [aR ho]
   simp [builtin,e,Builtin.len_,run_underlying hT.und,goInt]
   rfl
  ·exact hv.elim
 ·rename_i e _ _ _ hT
  obtain⟨d,i,z,hT⟩:=aP (hti _ _ hT)
  have hd:=bZ hT.td
  subst hd
  split at hv
  ·refine⟨_,_,λw' _=> ?_, .d _ _ (.int _ _),hv⟩
   rw [aR ho]
   simp [builtin,h1.nil_inv,Builtin.len_,run_underlying hT.und,goInt]
  ·obtain⟨g,cap,hg,e1,hn,hc⟩:=h1.msl_inv
   refine⟨_,_,λw' _=> ?_, .d _ _ (.int _ _),hv (by simp only [maxLen]at hc;omega)⟩
   rw [aR ho]
   simp [builtin,e1,Builtin.len_,run_underlying hT.und,goInt]
  ·obtain⟨A,cap,e1,hn,hc,_⟩:=h1.mw_inv
   refine⟨_,_,λw' _=> ?_, .d _ _ (.int _ _),hv (by simp only [maxLen]at hc;omega)⟩
   rw [aR ho]
   simp [builtin,e1,Builtin.len_,run_underlying hT.und,goInt]
  ·obtain⟨A,cap,e1,hn,hc,_⟩:=h1.ms_inv
   refine⟨_,_,λw' _=> ?_, .d _ _ (.int _ _),hv (by simp only [maxLen]at hc;omega)⟩
   rw [aR ho]
   simp [builtin,e1,Builtin.len_,run_underlying hT.und,goInt]
  ·obtain⟨A,e1⟩:=h1.zc_inv
   refine⟨_,_,λw' _=> ?_, .d _ _ (.int _ _),hv⟩
   rw [aR ho]
   simp [builtin,e1,Builtin.len_,run_underlying hT.und,goInt]
  ·split at hv
   ·rename_i z' rows hrows
    obtain⟨A,cap,b,off,e1,hn,hc,_,_⟩:=(kG hrows h1).of_sl
    refine⟨_,_,λw' _=> ?_, .d _ _ (.int _ _),hv (by simp only [maxLen]at hc;omega)⟩
    rw [aR ho]
    simp [builtin,e1,Builtin.len_,run_underlying hT.und,goInt]
   ·exact hv.elim
 ·rename_i n e _ _ _ hT
  obtain⟨d,i,z,hT⟩:=aP (hti _ _ hT)
  have hd:=kU hT.td
  subst hd
  refine⟨_,_,λw' _=> ?_, .d _ _ (.int _ _),hv⟩
  rw [aR ho]
  simp [builtin,Builtin.len_,run_underlying hT.und,goInt]
 ·exact hv.elim
def aUm (ti:TypeId->Option TI) (t:TypeId) (s:SV) (hp:Hp) (K:SV->Prop):Prop:=
 match ti t with
 |some { td:= .slice _, .. }=>
  (match s with
  | .d .nil=>K (.d (.int .i64 0))
  | .zc=>K (.d (.int .i64 0))
  | .mw id _ n => (match aU hp id with
   |some (.mrow _ _ cap rows)=>n=rows.length/\(rows.length<=cap->cap<=9223372036854775807->K (.d (.int .i64 cap)))
   |_=>aH "cap: no such rows")
  |_=>aH "cap: no slice of its own")
 |_=>aH "cap: a type"
theorem fZ.shape {w:World}{S:Nat->Nat->Prop}{e z cap:Nat}{rows:List (List D)}{v:Value}(h:fZ w S e z cap rows v): ∃A,v= .slice A rows.length cap/\rows.length<=cap/\cap<=maxLen/\(cap≠0-> ∃g,A=some ⟨g,0,none⟩):=by
 rcases h with⟨rfl,rfl,A,rfl⟩|⟨hc,g,cur,rfl,h1,h2,h3,_⟩
 ·exact⟨A,rfl,by simp,by simp,λh=>absurd rfl h⟩
 ·exact⟨_,rfl,h2,h3,λ_=>⟨g,rfl⟩⟩
theorem aTe {ti:TypeId->Option TI}(hti:fD P ti) {o:Oper}{t:TypeId}{x:Operand}(ho:o.op= .call { callee:= .builtin .cap,args:= #[x],argTypes:= #[t] }) {fr:Fr}{hp:Hp}{K:SV->Prop}
  (h:ev fr x λs=>aUm ti t s hp K):eO P o fr hp K:=by
 intro E ρ a w hm hf
 obtain⟨s,hs,hv⟩:=cX h
 have h1:=aV hf hs
 unfold aUm at hv
 split at hv
 ·rename_i e _ _ _ hT
  obtain⟨d,i,z,hT⟩:=aP (hti _ _ hT)
  have hd:=bZ hT.td
  subst hd
  split at hv
  ·refine⟨_,_,λw' _=> ?_, .d _ _ (.int _ _),hv⟩
   rw [aR ho]
   simp [builtin,h1.nil_inv,Builtin.cap_,run_underlying hT.und,goInt]
  ·obtain⟨A,e1⟩:=h1.zc_inv
   refine⟨_,_,λw' _=> ?_, .d _ _ (.int _ _),hv⟩
   rw [aR ho]
   simp [builtin,e1,Builtin.cap_,run_underlying hT.und,goInt]
  ·rename_i id z' n
   split at hv
   ·rename_i e' z'' cap rows ho'
    obtain⟨hn,hv⟩:=hv
    obtain⟨q1,q2⟩:=hm.sat id _ ho'
    obtain⟨A,q3,q4,q5,_⟩:=q2.shape
    obtain⟨A',cap',e1,_,_,_,_,e2⟩:=h1.mw_inv
    have e3:=e2 (by omega)
    rw [e3,q3]at e1
    injection e1 with e4 e5 e6
    refine⟨.int .i64 cap,_,λw' _=> ?_, .d _ _ (.int _ _),hv q4 (by simpa only [maxLen]using q5)⟩
    rw [aR ho]
    rw [q3]at e3
    simp [builtin,e3,Builtin.cap_,run_underlying hT.und,goInt]
   ·exact hv.elim
  ·exact hv.elim
 ·exact hv.elim
end
end Go.Proofs.YtfhoddcminbffaaGreatDoor
namespace Go.Proofs.YtfhoddcminbffaaGreatDoor
open Go.RowKit
theorem Mem.sub {E:Entry}{ρ:Env}{hp hp':Hp}{w:World}(h:Mem E ρ hp w) (hs: ∀id o,aU hp' id=some o->aU hp id=some o):Mem E ρ hp' w:=
 ⟨h.os, h.tape, h.output, h.size, h.old, h.sold, h.snew, h.slt, h.kp, λid o ho => h.sat id o (hs id o ho), λid o id' o' g a b => h.inj id o id' o' g (hs _ _ a) (hs _ _ b),
  λid o g a=>h.hb id o g (hs _ _ a),h.mv,λid o g a r b id' o' c=>h.ro id o g (hs _ _ a) r b id' o' (hs _ _ c),h.md⟩
def aI0:Hp->Nat->Hp
 | [],_=>[]
 |(k,o)::r,t=>if k=t then aI0 r t else (k,o)::aI0 r t
def wH:Hp->Nat->(Hp->Prop)->Prop
 | [],_,K=>K []
 |(k,o)::r,t,K=>if k=t then wH r t K else wH r t λr'=>K ((k,o)::r')
theorem qG: ∀(hp:Hp) (t:Nat) (K:Hp->Prop),wH hp t K=K (aI0 hp t):=by
 intro hp
 induction hp with
 |nil=>intro t K;rfl
 |cons p r ih=>
  obtain⟨k,o⟩:=p
  intro t K
  simp only [wH,aI0]
  split
  ·rw [ih]
  ·rw [ih]
theorem pZ (hp:Hp) (id i:Nat):aU (aI0 hp id) i=if i=id then none else aU hp i:=by
 induction hp with
 |nil=>simp [aI0,aU]
 |cons p r ih=>
  obtain⟨k,o⟩:=p
  by_cases e:k=id
  ·subst e
   simp only [aI0,if_true,ih,aU]
   by_cases e':i=k
   ·simp [e']
   ·simp [e',Ne.symm e']
  ·simp only [aI0,e,if_false,aU]
   by_cases e':k=i
   ·subst e';simp [e]
   ·simp [e',ih]
theorem Mem.del {E:Entry}{ρ:Env}{hp:Hp}{w:World}(h:Mem E ρ hp w) (id:Nat):Mem E ρ (aI0 hp id) w:=
 h.sub λi o ho=>by
  rw [pZ]at ho
  split at ho
  ·cases ho
  ·exact ho
theorem aMc {w':World}{S S':Nat->Nat->Prop}{w:World}{e z:Nat}{v':Value}{rows:List (List D)}{vs:List Value}(hown:w'.ownsRow 0 e z v' rows.length vs) (hfl:Flat w S z rows vs)
  (hS: ∀g,v'.ownBlock=some g-> ∀k,k < rows.length * z->S' g k) (hr: ∀x v,RepD w S x v->RepD w' S' x v):RepD w' S' (.sl z rows) v':=by
 rcases aGw hown with⟨e1,e2⟩|⟨g,cap,e1,hc1,hc2⟩
 ·have hnil:rows=[]:=List.eq_nil_of_length_eq_zero e2
  rw [hnil,e1]
  exact RepD.mk_sl (b:=0) (off:=0) (by simp) (by simp) (λhne=>absurd rfl hne) ⟨by simp,by simp⟩ (by simp)
 ·have hview:View w' S' z rows g 0:=by
   refine hfl.view (λk u hu=> ?_) (λk hk=> ?_) hr
   ·rw [Nat.zero_add];exact kI hown (g:=g) (by rw [e1];rfl) k u hu
   ·rw [Nat.zero_add]
    refine hS g (by rw [e1];rfl) k ?_
    rw [hfl.len]at hk
    exact hk
  have hfin:RepD w' S' (.sl z rows) (.slice (some ⟨g,0,none⟩) rows.length cap):=RepD.mk_sl (b:=g) (off:=0) hc1 hc2 (λ_=>rfl) hview rfl
  rw [<-e1]at hfin
  exact hfin
theorem Mem.newOwn {E:Entry}{ρ:Env}{hp:Hp}{w w':World}(h:Mem E ρ hp w) {id e z:Nat}{rows:List (List D)}{vs:List Value}{v':Value}(hg:Grew w w')
  (hown:w'.ownsRow 0 e z v' rows.length vs) (hnew: ∀g,v'.ownBlock=some g->w.heap.size<=g) (hfl:Flat w ρ.S z rows vs) (hid:id∉gG hp) (hpin:id∉E.pin):
  Mem E (ρ.grown id rows.length z v') ((id, .own e z rows.length)::hp) w'/\(∀fr tm,id∉fV fr->dY ρ w fr tm->dY (ρ.grown id rows.length z v') w' fr tm)/\
   Rep w' (ρ.grown id rows.length z v') (.osl id z rows) v':=by
 have hk:bY ρ.S w w':=hg.keeps h.slt
 have hSS: ∀b k,ρ.S b k->(ρ.grown id rows.length z v').S b k:= λb k hs=> .inl hs
 have hmv: ∀i,i≠id->ρ.moved (ρ.grown id rows.length z v') i:= λi hi=>⟨rfl, .inl (by simp [Env.grown,hi])⟩
 have hat: ∀i o,i≠id->(ρ.grown id rows.length z v').at i o=ρ.at i o:=by
  intro i o hi
  cases o<;>simp [Env.at,Env.grown,hi]
 have hatid:(ρ.grown id rows.length z v').at id (.own e z rows.length)=v'.ownBlock:=by simp [Env.at,Env.grown]
 have hget: ∀i o,aU ((id,HObj.own e z rows.length)::hp) i=some o->(i=id/\o= .own e z rows.length)\/(i≠id/\aU hp i=some o):=by
  intro i o ho
  by_cases e:i=id
  ·subst e;simp [aU]at ho;exact .inl ⟨rfl,ho.symm⟩
  ·rw [cG (λh=>e h.symm)]at ho;exact .inr ⟨e,ho⟩
 have hlt': ∀b,v'.ownBlock=some b->b < w'.heap.size:= λb hb=>(hown.lt b hb).2
 refine⟨⟨hg.os.trans h.os,hg.tape.trans h.tape,hg.output.trans h.output,Nat.le_trans h.size hg.size, ?_, ?_, ?_, ?_,h.kp.trans h.sold hk, ?_, ?_, ?_, ?_, ?_,λb hb=>(hg.block b (aW (h.md b hb))).trans (h.md b hb)⟩, ?_, ?_⟩
 ·exact λb hb hB=>(hg.block b (Nat.lt_of_lt_of_le hb h.size)).trans (h.old b hb hB)
 ·exact λb k hs=> .inl (h.sold b k hs)
 ·rintro b k (hs|⟨hs,_⟩) hb hB
  ·exact h.snew b k hs hb hB
  ·have:=hnew b hs;have:=h.size;omega
 ·rintro b k (hs|⟨hs,_⟩)
  ·exact Nat.lt_of_lt_of_le (h.slt b k hs) hg.size
  ·exact hlt' b hs
 ·intro i o ho
  rcases hget i o ho with⟨rfl,rfl⟩|⟨e1,ho1⟩
  ·refine⟨by simp [Env.grown],vs,by simpa [Env.grown]using hown, ?_,hfl.one⟩
   intro g hgg k hk'
   simp only [Env.grown,if_true]at hgg hk' |-
   rcases hk' with hs|⟨_,hs⟩
   ·have:=hnew g hgg;have:=h.slt g k hs;omega
   ·exact hs
  ·refine(h.sat i o ho1).keep hk hSS ?_ (by simp [Env.grown,e1]) ?_ ?_
   ·rintro j hj
    exact hmv j λe'=>hid (e' ▸ bQ ho1 hj)
   ·rintro g (hg'|⟨hg',hrd⟩)
    ·exact hg.block g (h.blk_lt ho1 hg')
    ·exact hg.block g (h.ro_lt ho1 hrd hg')
   ·rintro g hg' k (hs|⟨hs,_⟩)
    ·exact hs
    ·have:=hnew g hs;have:=h.blk_lt ho1 hg';omega
 ·intro i o i' o' g ho ho' hg1 hg2
  rcases hget i o ho with⟨e1,rfl⟩|⟨e1,ho1⟩
  ·rcases hget i' o' ho' with⟨e2,rfl⟩|⟨e2,ho2⟩
   ·rw [e1,e2]
   ·rw [e1,hatid]at hg1
    rw [hat i' o' e2]at hg2
    have:=hnew g hg1;have:=h.blk_lt ho2 hg2;omega
  ·rw [hat i o e1]at hg1
   rcases hget i' o' ho' with⟨e2,rfl⟩|⟨e2,ho2⟩
   ·rw [e2,hatid]at hg2
    have:=hnew g hg2;have:=h.blk_lt ho1 hg1;omega
   ·rw [hat i' o' e2]at hg2
    exact h.inj i o i' o' g ho1 ho2 hg1 hg2
 ·intro i o g ho hg1
  rcases hget i o ho with⟨e1,rfl⟩|⟨e1,ho1⟩
  ·rw [e1,hatid]at hg1
   have:=hnew g hg1;have:=h.size;left;omega
  ·rw [hat i o e1]at hg1
   exact h.hb i o g ho1 hg1
 ·exact λi hi=>Env.moved_trans (h.mv i hi) (hmv i λe=>hpin (e ▸ hi))
 ·intro i oR g ho hrd hg1 i' o' ho' hg2
  rcases hget i _ ho with⟨_,hc⟩|⟨e1,ho1⟩
  ·rw [hc]at hrd;exact hrd.elim
  ·have hg1':ρ.blk i=some g:=hg1
   rcases hget i' o' ho' with⟨e2,rfl⟩|⟨e2,ho2⟩
   ·rw [e2,hatid]at hg2
    have:=hnew g hg2;have:=h.ro_lt ho1 hrd hg1';omega
   ·rw [hat i' o' e2]at hg2
    exact h.ro i _ g ho1 hrd hg1' i' o' ho2 hg2
 ·exact λfr tm hf hfs=>hfs.mono hk hSS λi hi=>hmv i λe=>hf (e ▸ hi)
 ·refine .osl id z rows v' ?_ (by simp [Env.grown]) (by simp [Env.grown])
  exact aMc hown hfl (λg hgg k hk'=> .inr ⟨hgg,hk'⟩) λx v hx=>hx.mono hk hSS
theorem Mem.newNil {E:Entry}{ρ:Env}{hp:Hp}{w:World}(h:Mem E ρ hp w) {id:Nat}(e z:Nat) (hid:id∉gG hp) (hpin:id∉E.pin):
  Mem E (ρ.grown id 0 z (.slice none 0 0)) ((id, .own e z 0)::hp) w/\(∀fr tm,id∉fV fr->dY ρ w fr tm->dY (ρ.grown id 0 z (.slice none 0 0)) w fr tm)/\
   Rep w (ρ.grown id 0 z (.slice none 0 0)) (.osl id z []) (.slice none 0 0):=
 h.newOwn (rows:=[]) (vs:=[]) (Grew.refl w) (World.ownsRow_nil w 0 e z) (by simp [Value.ownBlock]) (Flat.nil w ρ.S z) hid hpin
def Env.retop (ρ:Env) (id n:Nat) (v:Value):Env:={ ρ with n:= λi=>if i=id then n else ρ.n i,tv:= λi=>if i=id then v else ρ.tv i }
theorem Env.retop_at (ρ:Env) {id n:Nat}{v:Value}{i:Nat}{o:HObj}(h:i≠id):(ρ.retop id n v).at i o=ρ.at i o:=by
 cases o<;>simp [Env.at,Env.retop,h]
theorem Env.moved_retop (ρ:Env) {id n:Nat}{v:Value}{i:Nat}(h:i≠id):ρ.moved (ρ.retop id n v) i:=⟨rfl, .inl (by simp [Env.retop,h])⟩
theorem Mem.setMrow {E:Entry}{ρ:Env}{hp:Hp}{w w':World}(h:Mem E ρ hp w) {id e z cap:Nat}{rows:List (List D)}(ho:aU hp id=some (.mrow e z cap rows)) {cap':Nat}{rows':List (List D)}{v':Value}
  (hos:w'.os=w.os) (htape:w'.tape=w.tape) (hout:aKt w' w) (hsz:w.heap.size<=w'.heap.size) (hoth: ∀b,b < w.heap.size->fM (ρ.tv id)≠some b->w'.heap[b]? =w.heap[b]?)
  (hm:fZ w' ρ.S e z cap' rows' v') (hblk: ∀g,fM v'=some g->fM (ρ.tv id)=some g\/w.heap.size<=g)
  (hver:(rows'.length=rows.length/\v'=ρ.tv id)\/rows.length < rows'.length):
  Mem E (ρ.retop id rows'.length v') (hY hp id (.mrow e z cap' rows')) w'/\bY ρ.S w w'/\ ∀i,ρ.moved (ρ.retop id rows'.length v') i:=by
 obtain⟨hn0,hm0⟩:=h.sat id _ ho
 have hnoS: ∀g,fM (ρ.tv id)=some g-> ∀i,¬ ρ.S g i:=by
  intro g hg
  rcases hm0 with⟨_,_,A,e1⟩|⟨hc,g',cur,e1,_,_,_,_,_,h7⟩
  ·rw [e1]at hg;cases A<;>simp [fM]at hg
  ·rw [e1]at hg
   have:cap≠0:=by omega
   simp only [fM,this,if_false,Option.some.injEq]at hg
   subst hg;exact h7
 have hk:bY ρ.S w w':= λb i hs=>World.cell?_of_block (w:=w) (hoth b (h.slt b i hs) λhb=>hnoS b hb i hs)
 have hmv: ∀i,ρ.moved (ρ.retop id rows'.length v') i:=by
  intro i
  by_cases e1:i=id
  ·subst e1
   refine⟨rfl, ?_⟩
   simp only [Env.retop,if_true]
   rcases hver with⟨a,b⟩|a
   ·left;exact⟨by omega,b⟩
   ·right;omega
  ·exact ρ.moved_retop e1
 have hget: ∀j o,aU (hY hp id (.mrow e z cap' rows')) j=some o->(j=id/\o= .mrow e z cap' rows')\/(j≠id/\aU hp j=some o):=by
  intro j o hj
  rw [dC _ ho]at hj
  by_cases e1:j=id
  ·simp [e1]at hj;exact .inl ⟨e1,hj.symm⟩
  ·simp [e1]at hj;exact .inr ⟨e1,hj⟩
 have hatid:(ρ.retop id rows'.length v').at id (.mrow e z cap' rows')=fM v':=by simp [Env.at,Env.retop]
 have hne: ∀j o b,j≠id->aU hp j=some o->ρ.at j o=some b->fM (ρ.tv id)≠some b:= λj o b hj hjo hb hvb=>hj (h.inj j o id _ b hjo ho hb hvb)
 have hlt': ∀b,fM v'=some b->b < w'.heap.size:= λb hb=>by obtain⟨cur,hc⟩:=hm.heap hb;exact aW hc
 refine⟨⟨hos.trans h.os,htape.trans h.tape,hout.trans h.output,Nat.le_trans h.size hsz, ?_,h.sold,h.snew,λb i hs=>Nat.lt_of_lt_of_le (h.slt b i hs) hsz,h.kp.trans h.sold hk, ?_, ?_, ?_,λj hj=>Env.moved_trans (h.mv j hj) (hmv j), ?_, ?_⟩,hk,hmv⟩
 ·intro b hb hB
  rw [hoth b (Nat.lt_of_lt_of_le hb h.size) ?_]
  ·exact h.old b hb hB
  ·intro hvb
   rcases h.hb id _ b ho hvb with hge|hB'
   ·omega
   ·exact hB hB'
 ·intro j o hj
  rcases hget j o hj with⟨rfl,rfl⟩|⟨e1,hj⟩
  ·refine⟨by simp [Env.retop], ?_⟩
   have:(ρ.retop j rows'.length v').tv j=v':=by simp [Env.retop]
   rw [this];exact hm
  ·refine(h.sat j o hj).keep hk (λ_ _ x=>x) (λa _=>hmv a) (by simp [Env.retop,e1]) ?_ (λ_ _ _ x=>x)
   rintro b (hb|⟨hb,hrd⟩)
   ·exact hoth b (h.blk_lt hj hb) (hne j o b e1 hj hb)
   ·exact hoth b (h.ro_lt hj hrd hb) λhvb=>h.ro j _ b hj hrd hb id _ ho hvb
 ·intro j o j' o' b hj hj' hb hb'
  rcases hget j o hj with⟨e1,rfl⟩|⟨e1,hj1⟩
  ·rcases hget j' o' hj' with⟨e2,rfl⟩|⟨e2,hj2⟩
   ·rw [e1,e2]
   ·rw [e1,hatid]at hb
    rw [ρ.retop_at e2]at hb'
    rcases hblk b hb with hvb|hge
    ·exact absurd hvb (hne j' o' b e2 hj2 hb')
    ·have:=h.blk_lt hj2 hb';omega
  ·rw [ρ.retop_at e1]at hb
   rcases hget j' o' hj' with⟨e2,rfl⟩|⟨e2,hj2⟩
   ·rw [e2,hatid]at hb'
    rcases hblk b hb' with hvb|hge
    ·exact absurd hvb (hne j o b e1 hj1 hb)
    ·have:=h.blk_lt hj1 hb;omega
   ·rw [ρ.retop_at e2]at hb'
    exact h.inj j o j' o' b hj1 hj2 hb hb'
 ·intro j o b hj hb
  rcases hget j o hj with⟨e1,rfl⟩|⟨e1,hj1⟩
  ·rw [e1,hatid]at hb
   rcases hblk b hb with hvb|hge
   ·exact h.hb id _ b ho hvb
   ·have:=h.size;left;omega
  ·rw [ρ.retop_at e1]at hb
   exact h.hb j o b hj1 hb
 ·intro j oR b hj hrd hb j' o' hj' hb'
  have hb0:ρ.blk j=some b:=hb
  rcases hget j _ hj with⟨_,hc⟩|⟨e1,hj1⟩
  ·rw [hc]at hrd;exact hrd.elim
  ·rcases hget j' o' hj' with⟨e2,rfl⟩|⟨e2,hj2⟩
   ·rw [e2,hatid]at hb'
    rcases hblk b hb' with hvb|hge
    ·exact h.ro j _ b hj1 hrd hb0 id _ ho hvb
    ·have:=h.ro_lt hj1 hrd hb0;omega
   ·rw [ρ.retop_at e2]at hb'
    exact h.ro j _ b hj1 hrd hb0 j' o' hj2 hb'
 ·intro b hb
  refine(hoth b (aW (h.md b hb)) λhvb=> ?_).trans (h.md b hb)
  obtain⟨cur,hc⟩:=hm0.heap hvb
  rw [h.md b hb]at hc;cases hc
theorem Mem.newMrow {E:Entry}{ρ:Env}{hp:Hp}{w w':World}(h:Mem E ρ hp w) {id e z cap:Nat}{rows:List (List D)}{v:Value}(hid:id∉gG hp) (hpin:id∉E.pin) (hg:Grew w w')
  (hm:fZ w' ρ.S e z cap rows v) (hnew: ∀g,fM v=some g->w.heap.size<=g):
  Mem E (ρ.retop id rows.length v) ((id, .mrow e z cap rows)::hp) w'/\bY ρ.S w w'/\ ∀i,i≠id->ρ.moved (ρ.retop id rows.length v) i:=by
 have hk:bY ρ.S w w':=hg.keeps h.slt
 have hmv: ∀i,i≠id->ρ.moved (ρ.retop id rows.length v) i:= λi hi=>ρ.moved_retop hi
 have hatid:(ρ.retop id rows.length v).at id (.mrow e z cap rows)=fM v:=by simp [Env.at,Env.retop]
 have hget: ∀i o,aU ((id,HObj.mrow e z cap rows)::hp) i=some o->(i=id/\o= .mrow e z cap rows)\/(i≠id/\aU hp i=some o):=by
  intro i o ho
  by_cases e:i=id
  ·subst e;simp [aU]at ho;exact .inl ⟨rfl,ho.symm⟩
  ·rw [cG (λh=>e h.symm)]at ho;exact .inr ⟨e,ho⟩
 refine⟨⟨hg.os.trans h.os,hg.tape.trans h.tape,hg.output.trans h.output,Nat.le_trans h.size hg.size, ?_,h.sold,h.snew,λb i hs=>Nat.lt_of_lt_of_le (h.slt b i hs) hg.size,h.kp.trans h.sold hk, ?_, ?_, ?_, ?_, ?_,λb hb=>(hg.block b (aW (h.md b hb))).trans (h.md b hb)⟩,hk,hmv⟩
 ·exact λb hb hB=>(hg.block b (Nat.lt_of_lt_of_le hb h.size)).trans (h.old b hb hB)
 ·intro i o ho
  rcases hget i o ho with⟨rfl,rfl⟩|⟨e1,ho1⟩
  ·refine⟨by simp [Env.retop], ?_⟩
   have:(ρ.retop i rows.length v).tv i=v:=by simp [Env.retop]
   rw [this];exact hm
  ·refine(h.sat i o ho1).keep hk (λ_ _ x=>x) ?_ (by simp [Env.retop,e1]) ?_ (λ_ _ _ x=>x)
   ·rintro j hj
    exact hmv j λe'=>hid (e' ▸ bQ ho1 hj)
   ·rintro g (hg'|⟨hg',hrd⟩)
    ·exact hg.block g (h.blk_lt ho1 hg')
    ·exact hg.block g (h.ro_lt ho1 hrd hg')
 ·intro i o i' o' g ho ho' hg1 hg2
  rcases hget i o ho with⟨e1,rfl⟩|⟨e1,ho1⟩
  ·rcases hget i' o' ho' with⟨e2,rfl⟩|⟨e2,ho2⟩
   ·rw [e1,e2]
   ·rw [e1,hatid]at hg1
    rw [ρ.retop_at e2]at hg2
    have:=hnew g hg1;have:=h.blk_lt ho2 hg2;omega
  ·rw [ρ.retop_at e1]at hg1
   rcases hget i' o' ho' with⟨e2,rfl⟩|⟨e2,ho2⟩
   ·rw [e2,hatid]at hg2
    have:=hnew g hg2;have:=h.blk_lt ho1 hg1;omega
   ·rw [ρ.retop_at e2]at hg2
    exact h.inj i o i' o' g ho1 ho2 hg1 hg2
 ·intro i o g ho hg1
  rcases hget i o ho with⟨e1,rfl⟩|⟨e1,ho1⟩
  ·rw [e1,hatid]at hg1
   have:=hnew g hg1;have:=h.size;left;omega
  ·rw [ρ.retop_at e1]at hg1
   exact h.hb i o g ho1 hg1
 ·exact λi hi=>Env.moved_trans (h.mv i hi) (hmv i λe=>hpin (e ▸ hi))
 ·intro i oR g ho hrd hg1 i' o' ho' hg2
  rcases hget i _ ho with⟨_,hc⟩|⟨e1,ho1⟩
  ·rw [hc]at hrd;exact hrd.elim
  ·have hg1':ρ.blk i=some g:=hg1
   rcases hget i' o' ho' with⟨e2,rfl⟩|⟨e2,ho2⟩
   ·rw [e2,hatid]at hg2
    have:=hnew g hg2;have:=h.ro_lt ho1 hrd hg1';omega
   ·rw [ρ.retop_at e2]at hg2
    exact h.ro i _ g ho1 hrd hg1' i' o' ho2 hg2
theorem fZ.rep {w:World}{ρ:Env}{e z cap id:Nat}{rows:List (List D)}(h:fZ w ρ.S e z cap rows (ρ.tv id)) (hn:ρ.n id=rows.length) {n:Nat}(hl:n=rows.length):Rep w ρ (.mw id z n) (ρ.tv id):=by
 obtain⟨A,e1,h2,h3,h4⟩:=h.shape
 subst hl
 have:=Rep.mw (w:=w) (ρ:=ρ) id z rows.length cap A h2 h3 (λh0=>h4 (by omega)) (by omega) (λ_=>e1.symm)
 rw [e1];exact this
end Go.Proofs.YtfhoddcminbffaaGreatDoor
namespace Go.Proofs.YtfhoddcminbffaaGreatDoor
open Go.RowKit
def wZ (c:UInt8):List D:=[.int .u8 c.toNat]
def aVl:List D->UInt8
 | [.int .u8 n]=>UInt8.ofNat n.toNat
 |_=>0
def unb (rows:List (List D)):List UInt8:=rows.map aVl
theorem aEf (l:List UInt8):unb (l.map wZ)=l:=by
 unfold unb
 rw [List.map_map]
 conv=>rhs;rw [<-List.map_id l]
 apply List.map_congr_left
 intro c _
 simp [aVl,wZ]
section
variable {P:Program}
def conv (k0 k:IntKind) (n:Int) (K:SV->Prop):Prop:=
 match k0 with
 | .u64=>K (.d (.int k (k.wrap n)))
 |_=>aE5 k n K
theorem aNr {k0 k:IntKind}{n:Int}{K:SV->Prop}(h:conv k0 k n K):K (.d (.int k (k.wrap n))):=by
 cases k0<;>simp only [conv]at h<;>first|exact nV h|exact h
def aRc (ti:TypeId->Option TI) (src dst:TypeId) (s:SV) (hp:Hp) (K:SV->Hp->Prop):Prop:=
 match ti dst with
 |some { td:= .int k, .. }=>(match s with| .d (.int k0 n)=>(ti src).isSome=true/\conv k0 k n λr=>K r hp|_=>aH "convert: to an int")
 |some { td:= .string, .. }=>
  (match s with
  | .d (.str l)=>(ti src).isSome=true/\K (.d (.str l)) hp
  |s=>
   match ti src with
   |some { td:= .slice e, .. }=>
    match ti e with
    |some { td:= .int .u8, .. }=>
     match s with
     | .d .nil=>K (.d (.str [])) hp
     |s=>match sC s with
      |some (1,rows)=>rows=(unb rows).map wZ/\K (.d (.str (unb rows))) hp
      |_=>aH "convert: to a string"
    |_=>aH "convert: to a string"
   |_=>aH "convert: to a string")
 |some { td:= .slice e, .. }=>
  match ti e with
  |some { td:= .int .u8, .. }=>
   (match s with
   | .d (.str l)=>(ti src).isSome=true/\K (.d (.sl 1 (l.map wZ))) hp
   | .osl id 1 rows=>src=dst/\rows≠[]/\aU hp id=some (.own e 1 rows.length)/\wH hp id λhp'=>K (.d (.sl 1 rows)) hp'
   |_=>aH "convert: to bytes")
  |_=>aH "convert: to a slice"
 |_=>aH "convert"
theorem tI {ti:TypeId->Option TI}(hti:fD P ti) {t:TypeId}(h:(ti t).isSome=true): ∃d,P.underlying t=some d:=by
 obtain⟨T,hT⟩:=Option.isSome_iff_exists.1 h
 obtain⟨d,i,z,hT⟩:=aP (hti _ _ hT)
 exact⟨d,hT.und⟩
theorem aFv {w:World}{g n k:Nat}: ∀b i,(w.freeze ⟨g,n,none⟩ k).cell? ⟨b,i,none⟩=w.cell? ⟨b,i,none⟩:=by
 intro b i
 unfold World.freeze
 split
 ·rfl
 ·unfold World.cell?
  simp only [Array.getElem?_modify]
  by_cases e:g=b
  ·subst e
   simp only [if_true]
   cases w.heap[g]? with
   |none=>rfl
   |some o=>cases o<;>rfl
  ·simp [e]
theorem jN {w:World}{g n k b:Nat}(h:b≠g):(w.freeze ⟨g,n,none⟩ k).heap[b]? =w.heap[b]? :=by
 unfold World.freeze
 split
 ·rfl
 ·simp [Array.getElem?_modify,Ne.symm h]
theorem vT {w:World}{g n k:Nat}:(w.freeze ⟨g,n,none⟩ k).heap.size=w.heap.size:=by
 unfold World.freeze
 split<;>simp
theorem Mem.freezeOwn {E:Entry}{ρ:Env}{hp:Hp}{w:World}(h:Mem E ρ hp w) {id e z n g:Nat}(ho:aU hp id=some (.own e z n)) (hg:(ρ.tv id).ownBlock=some g) (m k:Nat):
  Mem E ρ (aI0 hp id) (w.freeze ⟨g,m,none⟩ k)/\(∀fr tm,dY ρ w fr tm->dY ρ (w.freeze ⟨g,m,none⟩ k) fr tm)/\ ∀s v,Rep w ρ s v->Rep (w.freeze ⟨g,m,none⟩ k) ρ s v:=by
 have hk:bY ρ.S w (w.freeze ⟨g,m,none⟩ k):= λb i _=>aFv b i
 have hrf: ∀i,ρ.moved ρ i:=ρ.moved_refl
 have hat:ρ.at id (.own e z n)=some g:=hg
 have hd:=h.del id
 refine⟨⟨?_, ?_, ?_,by rw [vT];exact h.size, ?_,h.sold,h.snew,by rw [vT];exact h.slt,h.kp.trans h.sold hk, ?_,hd.inj,hd.hb,h.mv,hd.ro,λb hb=>(jN (λe'=>by obtain⟨_,xs,h1,_⟩:=h.sat id _ ho;subst e';exact mH h1 hg (h.md _ hb))).trans (h.md b hb)⟩, ?_, ?_⟩
 ·unfold World.freeze;split<;>exact h.os
 ·unfold World.freeze;split<;>exact h.tape
 ·unfold World.freeze;split<;>exact h.output
 ·intro b hb hB
  rw [jN ?_]
  ·exact h.old b hb hB
  ·rintro rfl
   rcases h.hb id _ b ho hat with hge|hB'
   ·omega
   ·exact hB hB'
 ·intro i o hi
  rw [pZ]at hi
  split at hi
  ·cases hi
  ·rename_i hne
   refine(h.sat i o hi).keep hk (λ_ _ x=>x) (λj _=>hrf j) ⟨rfl,rfl⟩ ?_ (λ_ _ _ x=>x)
   rintro b (hb'|⟨hb',hrd⟩)
   ·exact jN λe'=>hne (h.inj i o id _ b hi ho hb' (by rw [e'];exact hat))
   ·exact jN λe'=>h.ro i _ b hi hrd hb' id _ ho (by rw [e'];exact hat)
 ·exact λfr tm hf=>hf.mono hk (λ_ _ x=>x) λi _=>hrf i
 ·exact λs v hr=>hr.mono hk (λ_ _ x=>x) λi _=>hrf i
theorem aRz {ti:TypeId->Option TI}(hti:fD P ti) {o:Oper}{src dst:TypeId}{x:Operand}(ho:o.op= .convert src dst x) {pin:List Nat}{fr:Fr}{hp:Hp}{K:SV->Hp->Prop}
  (h:ev fr x λs=>aRc ti src dst s hp K):aA1 P o pin fr hp K:=by
 intro E ρ a w _ hm hf next Q hn
 obtain⟨s,hs,hv⟩:=cX h
 have hr:=aV hf hs
 have hrun: ∀v w',(convert src dst (a.eval x)).run P w= .ok v w'->(execOp a.eval o).run P w= .ok (.value v) w':=by
  intro v w' e
  simp [execOp,ho,e]
 have same: ∀v r,(convert src dst (a.eval x)).run P w= .ok v w->Rep w ρ r v->K r hp->o.wp P a w next Q:= λv r e1 e2 e3=>
  cD (hrun _ _ e1) (hn v w ρ r hp e3 hm hf e2)
 unfold aRc at hv
 split at hv
 ·rename_i k _ _ _ hT
  obtain⟨d,i,z,hT⟩:=aP (hti _ _ hT)
  have hd:=nF hT.td
  subst hd
  split at hv
  ·rename_i k0 n
   obtain⟨d',hd'⟩:=tI hti hv.1
   refine same _ _ ?_ (.d _ _ (.int _ _)) (aNr hv.2)
   simp [convert,run_underlying hd',run_underlying hT.und,hr.int_inv,Conv.intToInt]
  ·exact hv.elim
 ·rename_i hT
  obtain⟨d,i,z,hT⟩:=aP (hti _ _ hT)
  have hd:=gD hT.td
  subst hd
  split at hv
  ·rename_i l
   obtain⟨d',hd'⟩:=tI hti hv.1
   refine same _ _ ?_ hr hv.2
   have e:=hr.str_inv.1
   simp [convert,run_underlying hd',run_underlying hT.und,e]
  ·split at hv
   ·rename_i e _ _ _ hT2
    obtain⟨d2,i2,z2,hT2⟩:=aP (hti _ _ hT2)
    have hd:=bZ hT2.td
    subst hd
    split at hv
    ·rename_i hT3
     obtain⟨d3,i3,z3,hT3⟩:=aP (hti _ _ hT3)
     have hd:=nF hT3.td
     subst hd
     split at hv
     ·refine same (.string ⟨#[]⟩) _ ?_ (.d _ _ (RepD.str [] (by simp))) hv
      rw [hr.nil_inv,run_convert_bytes_string w src dst e none 0 0 hT2.und hT3.und hT.und]
      rfl
     ·split at hv
      ·rename_i rows hrows
       obtain⟨he,hk⟩:=hv
       obtain⟨A,cap,b,off,e1,hnc,hcm,hA,hview⟩:=(kG hrows hr).of_sl
       have hlen:(unb rows).length=rows.length:=by simp [unb]
       have hle:(unb rows).length<=maxLen:=by rw [hlen];omega
       refine same _ _ ?_ (.d _ _ (RepD.str (unb rows) hle)) hk
       rw [e1]
       by_cases hne:rows=[]
       ·subst hne
        rcases A with _|ad
        ·rw [run_convert_bytes_string w src dst e _ _ _ hT2.und hT3.und hT.und]
         rfl
        ·have:=run_convert_bytes_back (P:=P) w src dst e ad cap [] hT2.und hT3.und hT.und (λj hj=>by simp at hj)
         simpa [unb]using this
       ·have hA':=hA hne
        subst hA'
        have := run_convert_bytes_back (P := P) w src dst e ⟨b, off, none⟩ cap (unb rows) hT2.und hT3.und hT.und (λj hj => by
         rw [cN]
         have hj':j < rows.length:=by omega
         have hrow:rows[j]? =some (wZ (unb rows)[j]):=by
          conv=>lhs;rw [he]
          rw [List.getElem?_map,List.getElem?_eq_getElem hj];rfl
         obtain⟨v,c1,_,_,c4⟩:=hview.cell j _ 0 _ hrow (by simp [wZ];rfl)
         cases c4
         have ej:j * 1+0=j:=by omega
         rw [ej]at c1
         exact c1)
        rw [hlen]at this
        exact this
      ·exact hv.elim
    ·exact hv.elim
   ·exact hv.elim
 ·rename_i e _ _ _ hT
  obtain⟨d,i,z,hT⟩:=aP (hti _ _ hT)
  have hd:=bZ hT.td
  subst hd
  split at hv
  ·rename_i hT3
   obtain⟨d3,i3,z3,hT3⟩:=aP (hti _ _ hT3)
   have hd:=nF hT3.td
   subst hd
   split at hv
   ·rename_i l
    obtain⟨d',hd'⟩:=tI hti hv.1
    obtain⟨ex,hl⟩:=hr.str_inv
    have hsz:(⟨l.toArray⟩:ByteArray).size=l.length:=rfl
    have hrun2:=Lib.run_convert_string_bytes (P:=P) w src dst e ⟨l.toArray⟩ hd' hT.und hT3.und
    rw [<-ex]at hrun2
    have hg:Grew w (Lib.bytesWorld w e ⟨l.toArray⟩):=by
     refine⟨?_, ?_, ?_, ?_,λb hb=>Lib.bytesWorld_at_old w e _ b hb⟩
     ·unfold Lib.bytesWorld World.freeze;split<;>rfl
     ·unfold Lib.bytesWorld World.freeze;split<;>rfl
     ·unfold Lib.bytesWorld World.freeze;split<;>exact⟨rfl,Nat.le_succ _⟩
     ·rw [Lib.bytesWorld_size];omega
    have hmg:=hm.grow hg (λb i=>ρ.S b i\/(b=w.heap.size/\i < l.length)) (λ_ _ x=> .inl x) (λb i x=>by rcases x with x|⟨x,_⟩;exact .inl x;right;omega)
     (λb i x=>by rw [Lib.bytesWorld_size];rcases x with x|⟨x,_⟩;(have:=hm.slt b i x;omega);omega)
    refine cD (hrun _ _ hrun2) (hn _ _ _ (.d (.sl 1 (l.map wZ))) hp hv.2 hmg.1 (hmg.2 fr _ hf) (.d _ _ ?_))
    have hcap:=grownCap_ge w l.length 0 e
    have hcapm:grownCap w l.length 0 e<=maxLen:=grownCap_le_maxLen w l.length 0 e (by simpa only [maxLen]using hl)
    refine RepD.mk_sl (b:=w.heap.size) (off:=0) (by rw [List.length_map];exact hcap) hcapm (λ_=>rfl) ⟨?_, ?_⟩ (by rw [List.length_map];exact hsz)
    ·intro row hrow
     obtain⟨c,_,rfl⟩:=List.mem_map.1 hrow
     rfl
    ·intro a' row j y h1 h2
     simp only [List.getElem?_map,Option.map_eq_some_iff]at h1
     obtain⟨c,hc,rfl⟩:=h1
     obtain⟨hlt,hce⟩:=List.getElem?_eq_some_iff.1 hc
     have hj:j=0/\y= .int .u8 c.toNat:=by
      cases j with
      |zero=>simp [wZ]at h2;exact⟨rfl,h2.symm⟩
      |succ j=>simp [wZ]at h2
     obtain⟨rfl,rfl⟩:=hj
     refine⟨.int .u8 c.toNat, ?_, .inr ⟨rfl,by simpa using hlt⟩,rfl, .int _ _⟩
     have:=Lib.bytesWorld_cell w e ⟨l.toArray⟩ a' (by rw [hsz];exact hlt)
     simp only [Nat.mul_one,Nat.add_zero,Nat.zero_add]
     rw [this]
     simp [List.getD,hc]
   ·rename_i id rows
    obtain⟨rfl,hne,hoo,hk⟩:=hv
    rw [qG]at hk
    obtain⟨hrd,hnl,htt⟩:=hr.osl_inv
    obtain⟨hn1,xs,hown,_,_⟩:=hm.sat id _ hoo
    have ev1:=htt hn1.symm
    rcases aGw hown with⟨e1,e2⟩|⟨g,cap,e1,_,_⟩
    ·exact absurd (List.eq_nil_of_length_eq_zero (by omega)) hne
    ·obtain⟨cur,hcur⟩: ∃cur,w.heap[g]? =some (.cells cur e (0,0)):=by
      rcases hown.2 with⟨hn0,_⟩|⟨g',cap',cur,hv',_,hh,_⟩
      ·rw [e1]at hn0;cases hn0
      ·rw [e1]at hv'
       injection hv' with hv'
       injection hv' with hv'
       injection hv' with hv'
       subst hv'
       exact⟨cur,hh⟩
     have hfz:=hm.freezeOwn hoo (g:=g) (by rw [e1];rfl) cur.size 1
     have hrun2:(convert src src (a.eval x)).run P w= .ok (a.eval x) (w.freeze ⟨g,cur.size,none⟩ 1):=by
      have hsh:w.shape? g=some (e,cur.size):=by simp [World.shape?,hcur]
      rw [ev1,e1]
      simp [convert,run_underlying hT.und,run_underlying hT3.und,markStringish,hsh]
     exact cD (hrun _ _ hrun2) (hn _ _ ρ (.d (.sl 1 rows)) _ hk hfz.1 (hfz.2.1 fr _ hf) (hfz.2.2 _ _ (.d _ _ hrd)))
   ·exact hv.elim
  ·exact hv.elim
 ·exact hv.elim
end
end Go.Proofs.YtfhoddcminbffaaGreatDoor
namespace Go.Proofs.YtfhoddcminbffaaGreatDoor
open Go.RowKit
section
variable {P:Program}
def wC (fr:Fr):Option Operand->Option (Option SV)
 |none=>some none
 |some x=>match evO fr x with|some s=>some (some s)|none=>none
def cut (n:Nat) (lo hi mx:Option SV) (K:Nat->Nat->Prop):Prop:=
 match mx with
 |none=>
  (match lo, hi with
  |none,none=>K 0 n
  |some (.d (.int _ l)),none=>0<=l/\l.toNat<=n/\K l.toNat n
  |none,some (.d (.int _ h))=>0<=h/\h.toNat<=n/\K 0 h.toNat
  |some (.d (.int _ l)),some (.d (.int _ h))=>0<=l/\l<=h/\h.toNat<=n/\K l.toNat h.toNat
  |_,_=>aH "slice: bounds")
 |some (.d (.int _ m))=>
  (match lo, hi with
  |none,some (.d (.int _ h))=>0<=h/\h<=m/\m.toNat<=n/\K 0 h.toNat
  |some (.d (.int _ l)),some (.d (.int _ h))=>0<=l/\l<=h/\h<=m/\m.toNat<=n/\K l.toNat h.toNat
  |_,_=>aH "slice: bounds")
 |_=>aH "slice: bounds"
def aKx (ti:TypeId->Option TI) (t:TypeId) (s:SV) (lo hi mx:Option SV) (K:SV->Prop):Prop:=
 match ti t with
 |some { td:= .string, .. }=>(match s with| .d (.str l)=>mx.isNone=true/\cut l.length lo hi mx λa b=>K (.d (.str ((l.take b).drop a)))|_=>aH "slice: no string")
 |some { td:= .slice e, .. }=>
  (match ti e with
  |some T=>
   (match s with
   | .d .nil=>cut 0 lo hi mx λ_ _=>K (.d (.sl T.size []))
   |s=>match sC s with
    |some (z,rows)=>T.size=z/\cut rows.length lo hi mx λa b=>K (.d (.sl z ((rows.take b).drop a)))
    |none=>aH "slice: no slice")
  |none=>aH "slice: an element's type")
 |some { td:= .array n e, .. }=>
  (match ti e with
  |some T=>(match s,lo,hi,mx with| .ptr id off,none,none,none=>n<=9223372036854775807/\K (.msl id T.size off n)|_,_,_,_=>aH "slice: an array")
  |none=>aH "slice: an element's type")
 |_=>aH "slice: a type"
theorem aEv {n cap:Nat}(isSl:Bool) {lo hi mx:Option SV}{lv hv mv:Option Value}{w:World}{ρ:Env}{K:Nat->Nat->Prop}(hc:n<=cap)
  (hl: ∀s,lo=some s-> ∃v,lv=some v/\Rep w ρ s v) (hl0:lo=none->lv=none) (hh: ∀s,hi=some s-> ∃v,hv=some v/\Rep w ρ s v) (hh0:hi=none->hv=none)
  (hm: ∀s,mx=some s-> ∃v,mv=some v/\Rep w ρ s v) (hm0:mx=none->mv=none) (h:cut n lo hi mx K):
  ∃a b m,(∀w',(Instr.sliceBounds isSl n cap lv hv mv).run P w'= .ok (a,b,m) w')/\a<=b/\b<=n/\b<=m/\m<=cap/\K a b:=by
 unfold cut at h
 split at h
 ·have e3:=hm0 rfl
  subst e3
  split at h
  ·have e1:=hl0 rfl;have e2:=hh0 rfl
   subst e1;subst e2
   exact⟨0,n,cap,λw'=>by simp [Instr.sliceBounds],by omega,by omega,hc,by omega,h⟩
  ·rename_i k l
   obtain⟨v,e1,r1⟩:=hl _ rfl
   have e2:=hh0 rfl
   subst e1;subst e2
   obtain⟨h0,h1,hk⟩:=h
   have h1':l<=(n:Int):=by omega
   exact⟨l.toNat,n,cap,λw'=>by simp [Instr.sliceBounds,r1.int_inv,run_sliceBound,h0,h1'],by omega,by omega,hc,by omega,hk⟩
  ·rename_i k hh'
   obtain⟨v,e1,r1⟩:=hh _ rfl
   have e2:=hl0 rfl
   subst e1;subst e2
   obtain⟨h0,h1,hk⟩:=h
   have h1':hh'<=(cap:Int):=by omega
   exact⟨0,hh'.toNat,cap,λw'=>by simp [Instr.sliceBounds,r1.int_inv,run_sliceBound,h0,h1'],by omega,by omega,by omega,by omega,hk⟩
  ·rename_i k l k' hh'
   obtain⟨v,e1,r1⟩:=hh _ rfl
   obtain⟨v',e2,r2⟩:=hl _ rfl
   subst e1;subst e2
   obtain⟨h0,h1,h2,hk⟩:=h
   have h1':hh'<=(cap:Int):=by omega
   have h0':0<=hh':=by omega
   have h3:l<=(hh'.toNat:Int):=by omega
   refine⟨l.toNat,hh'.toNat,cap,λw'=> ?_,by omega,by omega,by omega,by omega,hk⟩
   simp only [Instr.sliceBounds,r1.int_inv,r2.int_inv,Sem.run_bind,Sem.run_pure,Result.andThen_ok,run_sliceBound (P:=P) w' k' hh' cap _ h0' h1']
   simp only [run_sliceBound (P:=P) w' k l hh'.toNat _ h0 h3,Result.andThen_ok]
  ·exact h.elim
 ·rename_i km m
  obtain⟨vm,e3,r3⟩:=hm _ rfl
  subst e3
  split at h
  ·rename_i k hh'
   obtain⟨v,e1,r1⟩:=hh _ rfl
   have e2:=hl0 rfl
   subst e1;subst e2
   obtain⟨h0,h1,h2,hk⟩:=h
   have hm0:0<=m:=by omega
   have hm1:m<=(cap:Int):=by omega
   have h3:hh'<=(m.toNat:Int):=by omega
   refine⟨0,hh'.toNat,m.toNat,λw'=> ?_,by omega,by omega,by omega,by omega,hk⟩
   simp only [Instr.sliceBounds,r1.int_inv,r3.int_inv,Sem.run_bind,Sem.run_pure,Result.andThen_ok,run_sliceBound (P:=P) w' km m cap _ hm0 hm1]
   simp only [run_sliceBound (P:=P) w' k hh' m.toNat _ h0 h3,Result.andThen_ok]
  ·rename_i k l k' hh'
   obtain⟨v,e1,r1⟩:=hh _ rfl
   obtain⟨v',e2,r2⟩:=hl _ rfl
   subst e1;subst e2
   obtain⟨h0,h1,h2,h3,hk⟩:=h
   have hm0:0<=m:=by omega
   have hm1:m<=(cap:Int):=by omega
   have h0':0<=hh':=by omega
   have h4:hh'<=(m.toNat:Int):=by omega
   have h5:l<=(hh'.toNat:Int):=by omega
   refine⟨l.toNat,hh'.toNat,m.toNat,λw'=> ?_,by omega,by omega,by omega,by omega,hk⟩
   simp only [Instr.sliceBounds,r1.int_inv,r2.int_inv,r3.int_inv,Sem.run_bind,Sem.run_pure,Result.andThen_ok,run_sliceBound (P:=P) w' km m cap _ hm0 hm1]
   simp only [run_sliceBound (P:=P) w' k' hh' m.toNat _ h0' h4,Result.andThen_ok]
   simp only [run_sliceBound (P:=P) w' k l hh'.toNat _ h0 h5,Result.andThen_ok]
  ·exact h.elim
 ·exact h.elim
theorem View.cut_ {w:World}{S:Nat->Nat->Prop}{z:Nat}{rows:List (List D)}{b off:Nat}(h:View w S z rows b off) (l m:Nat):View w S z ((rows.take m).drop l) b (off+l * z):=by
 refine⟨λrow hr=>h.hz row (List.mem_of_mem_take (List.mem_of_mem_drop hr)),λi row j x h1 h2=> ?_⟩
 rw [List.getElem?_drop,List.getElem?_take]at h1
 split at h1
 ·obtain⟨v,a1,a2,a3,a4⟩:=h.cell (l+i) row j x h1 h2
  have e:off+((l+i)* z+j)=off+l * z+(i * z+j):=by rw [Nat.add_mul];omega
  rw [e]at a1 a2
  exact⟨v,a1,a2,a3,a4⟩
 ·cases h1
theorem qD {ρ:Env}{w:World}{fr:Fr}{a:Act}(hf:dY ρ w fr a.tmps) {x:Option Operand}{s:Option SV}(h:wC fr x=some s):
  (∀r,s=some r-> ∃v,x.map a.eval=some v/\Rep w ρ r v)/\(s=none->x.map a.eval=none):=by
 cases x with
 |none=>simp [wC]at h;subst h;simp
 |some x=>
  simp only [wC]at h
  split at h
  ·rename_i r hr
   simp at h
   subst h
   exact⟨λr' e=>⟨a.eval x,rfl,by injection e with e;subst e;exact aV hf hr⟩,λe=>by cases e⟩
  ·cases h
theorem aPf {ti:TypeId->Option TI}(hti:fD P ti) {o:Oper}{t:TypeId}{x:Operand}{lo hi mx:Option Operand}(ho:o.op= .slice t x lo hi mx) {fr:Fr}{hp:Hp}{K:SV->Prop}
  (h : ev fr x λs => match wC fr lo with
   | some l => (match wC fr hi with
    |some h=>(match wC fr mx with|some m=>aKx ti t s l h m K|none=>aH "slice: max")
    |none=>aH "slice: high")
   |none=>aH "slice: low"):eO P o fr hp K:=by
 intro E ρ a w hm hf
 obtain⟨s,hs,hv0⟩:=cX h
 have hr:=aV hf hs
 split at hv0
 ·rename_i l hl
  split at hv0
  ·rename_i hh hhh
   split at hv0
   ·rename_i m hm'
    obtain⟨l1,l2⟩:=qD hf hl
    obtain⟨h1,h2⟩:=qD hf hhh
    obtain⟨m1,m2⟩:=qD hf hm'
    have hv:=hv0
    clear hv0
    unfold aKx at hv
    split at hv
    ·rename_i hT
     obtain⟨d,i,z,hT⟩:=aP (hti _ _ hT)
     have hd:=gD hT.td
     subst hd
     split at hv
     ·rename_i l'
      obtain⟨hmx,hv⟩:=hv
      obtain⟨e,hle⟩:=hr.str_inv
      have hmn:m=none:=by simpa using hmx
      obtain⟨a',b,m',hrun,hab,hbn,hbm,hmc,hk⟩:=aEv (P:=P) false (Nat.le_refl _) l1 l2 h1 h2 m1 m2 hv
      have hmv:mx.map a.eval=none:=m2 hmn
      rw [hmv]at hrun
      have hmxn:mx.isSome=false:=by cases mx<;>simp_all
      refine⟨.string ((⟨l'.toArray⟩:ByteArray).extract a' b),_,λw' _=> ?_, ?_,hk⟩
      ·have hsz:(⟨l'.toArray⟩:ByteArray).size=l'.length:=rfl
       simp [execOp,ho,Instr.sliceAt,run_underlying hT.und,Instr.slice,e,hmv,hsz,hrun]
      ·have e2:(⟨l'.toArray⟩:ByteArray).extract a' b=⟨((l'.take b).drop a').toArray⟩:=by
        apply ByteArray.ext
        simp [ByteArray.data_extract,List.extract_toArray,List.drop_take]
       rw [e2]
       exact .d _ _ (.str _ (by simp only [maxLen,List.length_drop,List.length_take];omega))
     ·exact hv.elim
    ·rename_i e _ _ _ hT
     obtain⟨d,i,z,hT⟩:=aP (hti _ _ hT)
     have hd:=bZ hT.td
     subst hd
     split at hv
     ·rename_i T hT2
      obtain⟨d2,i2,z2,hT2⟩:=aP (hti _ _ hT2)
      have hgo: ∀(A:Option Addr) (len cap a' b m':Nat),a.eval x= .slice A len cap->(∀w',(Instr.sliceBounds true len cap (lo.map a.eval) (hi.map a.eval) (mx.map a.eval)).run P w'= .ok (a',b,m') w')->
        ∀w',Kept ρ hp w w'->(execOp a.eval o).run P w'= .ok (.value (.slice (if m'=a' then A else A.map (·.add (a' * T.size))) (b - a') (m' - a'))) w':=by
       intro A len cap a' b m' e1 e2 w' _
       simp [execOp,ho,Instr.sliceAt,run_underlying hT.und,Instr.slice,e1,e2,hT2.run_size]
      split at hv
      ·have e1:=hr.nil_inv
       obtain⟨a',b,m',hrun,hab,hbn,hbm,hmc,hk⟩:=aEv (P:=P) true (Nat.le_refl _) l1 l2 h1 h2 m1 m2 hv
       refine⟨_,_,hgo _ _ _ _ _ _ e1 hrun, .d _ _ ?_,hk⟩
       exact RepD.mk_sl (b:=0) (off:=0) (by simp) (by simp only [maxLen];omega) (λhne=>absurd rfl hne) ⟨by simp,by simp⟩ (by simp;omega)
      ·split at hv
       ·rename_i z' rows hrows
        obtain⟨hz,hv⟩:=hv
        obtain⟨A,cap,bb,off,e1,hnc,hcm,hA,hview⟩:=(kG hrows hr).of_sl
        obtain⟨a',b,m',hrun,hab,hbn,hbm,hmc,hk⟩:=aEv (P:=P) true hnc l1 l2 h1 h2 m1 m2 hv
        refine⟨_,_,hgo _ _ _ _ _ _ e1 hrun, .d _ _ ?_,hk⟩
        refine RepD.mk_sl (b:=bb) (off:=off+a' * z') (by simp only [List.length_drop,List.length_take];omega) (by simp only [maxLen]at hcm |-;omega) ?_ (hview.cut_ a' b) (by simp only [List.length_drop,List.length_take];omega)
        intro hne
        have hlt:a' < b:=by
         rcases Nat.lt_or_ge a' b with h|h
         ·exact h
         ·exact absurd (List.drop_eq_nil_of_le (by rw [List.length_take];omega)) hne
        have hne':rows≠[]:=by rintro rfl;simp at hne
        rw [hA hne',if_neg (by omega),hz]
        simp [cN]
       ·exact hv.elim
     ·exact hv.elim
    ·rename_i n e _ _ _ hT
     obtain⟨d,i,z,hT⟩:=aP (hti _ _ hT)
     have hd:=kU hT.td
     subst hd
     split at hv
     ·rename_i T hT2
      obtain⟨d2,i2,z2,hT2⟩:=aP (hti _ _ hT2)
      split at hv
      ·rename_i id off
       obtain⟨g,hg,e1⟩:=hr.ptr_inv
       have q1:=l2 rfl
       have q2:=h2 rfl
       have q3:=m2 rfl
       refine⟨.slice (some ⟨g,off,none⟩) n n,_,λw' _=> ?_, .msl id T.size off n g n hg (Nat.le_refl _) (by simpa only [maxLen]using hv.1),hv.2⟩
       simp [execOp,ho,Instr.sliceAt,run_underlying hT.und,e1,q1,q2,q3,Instr.sureAddr,Instr.sliceBounds,hT2.run_size,Addr.add]
      ·exact hv.elim
     ·exact hv.elim
    ·exact hv.elim
   ·exact hv0.elim
  ·exact hv0.elim
 ·exact hv0.elim
def fX (id:Nat) (pin:List Nat) (fr:Fr) (hp:Hp):Prop:=id∉pin/\id∉fV fr/\id∉gG hp
def aKw (ti:TypeId->Option TI) (t:TypeId) (s x:SV) (hp:Hp) (K:Hp->Prop):Prop:=
 match ti t with
 |some T=>
  (match s with
  | .ptr id off=>
   (match aU hp id with
   |some (.cells t' cs)=>
    if T.td.isAgg then
     (match qK x with
     |some ns=>ns.length=T.size/\off+T.size<=cs.length/\(∀n∈ns,xN n=true)/\nX hp id (.cells t' (kF cs off ns)) K
     |none=>aH "store: no struct")
    else T.size=1/\xN x=true/\off < cs.length/\nX hp id (.cells t' (cs.set off x)) K
   |_=>aH "store: no such object")
  |_=>aH "store: no address of an object")
 |none=>aH "store: a type"
theorem aIw (cs:List SV) (off:Nat) (x:SV) (h:off < cs.length):kF cs off [x]=cs.set off x:=by
 unfold kF
 rw [List.set_eq_take_append_cons_drop,if_pos h]
 simp
theorem rZ {t:TypeId}{T:TI}{d:TypeDesc}{i:TypeInfo}{z:Value}(hT:TIok P t T d i z) (w:World) (g off:Nat) (v:Value) (hv:v.cells.size=T.size) (cur:Array Value) (t':TypeId) (hg:w.heap[g]? =some (.cells cur t' (0,0)))
  (hfit:off+v.cells.toList.length<=cur.size) (h1: ∀u∈v.cells.toList,u.oneCell'=true):
  (storeVar t ⟨g,off,none⟩ v).run P w= .ok () (w.setRow g (cur.toList.take off++v.cells.toList++cur.toList.drop (off+v.cells.toList.length)).toArray):=by
 have:=run_storeCells_at P g off t' v.cells.toList 0 cur w hg (by simpa using hfit) h1
 simp only [Nat.add_zero]at this
 simp only [storeVar,Sem.run_bind,hT.run_size,Result.andThen_ok,hv,ne_eq,not_true_eq_false,if_false]
 exact this
theorem aPe {ti:TypeId->Option TI}(hti:fD P ti) {o:Oper}{t:TypeId}{x y:Operand}(ho:o.op= .store t x y) {pin:List Nat}{fr:Fr}{hp:Hp}{K:SV->Hp->Prop}
  (h:ev fr x λs=>ev fr y λr=>aKw ti t s r hp λhp'=>K (.d (.lit undef)) hp'):aA1 P o pin fr hp K:=by
 intro E ρ a w _ hm hf next Q hn
 obtain⟨s,hs,hv0⟩:=cX h
 obtain⟨r,hr,hv⟩:=cX hv0
 clear hv0
 have h1:=aV hf hs
 have h2:=aV hf hr
 unfold aKw at hv
 split at hv
 ·rename_i T hT
  obtain⟨d,i,z,hT⟩:=aP (hti _ _ hT)
  split at hv
  ·rename_i id off
   obtain⟨g,hg,e1⟩:=h1.ptr_inv
   split at hv
   ·rename_i t' cs hoo
    have fin: ∀(ns:List SV) (v:Value),a.eval y=v->v.cells.toList.length=ns.length->v.cells.size=T.size->off+ns.length<=cs.length->(∀u∈v.cells.toList,u.oneCell'=true)->
      (∀(j:Nat) (s:SV) (u:Value),ns[j]? =some s->v.cells.toList[j]? =some u->Rep w ρ s u)->K (.d (.lit undef)) (hY hp id (.cells t' (kF cs off ns)))->o.wp P a w next Q:=by
     intro ns v ev1 q1 q2 q3 q4 q5 hk
     obtain⟨cur,c1,c2,c3,c4⟩:=hm.store hoo hg ns v.cells.toList q1 q3 q4 q5
     refine aA2 ?_ (hn undef _ ρ _ _ hk c3 (c4 fr _ hf) (.d _ _ (.lit _)))
     simp [execOp,ho,Instr.storeAt,e1,ev1,Instr.sureAddr,rZ hT w g off v q2 cur t' c1 c2 q4]
    split at hv
    ·split at hv
     ·rename_i ns hns
      obtain⟨k1,k2,k3,hk⟩:=hv
      rw [gN]at hk
      obtain⟨vs,ev1,hl,hh⟩:=oU hns h2
      refine fin ns (.agg vs) ev1 (by simpa [Value.cells]using hl) (by simp [Value.cells];omega) (by omega) ?_ ?_ hk
      ·intro u hu
       obtain⟨j,hj,rfl⟩:=List.getElem_of_mem hu
       simp only [Value.cells]at hj |-
       have hjl:j < ns.length:=by rw [<-hl];simpa using hj
       exact tP (hh j ns[j] _ (List.getElem?_eq_getElem hjl) (by simp [Array.getElem?_eq_getElem (show j < vs.size by simpa using hj)])) (k3 _ (List.getElem_mem hjl))
      ·intro j s u hs' hu
       exact hh j s u hs' (by simpa [Value.cells]using hu)
     ·exact hv.elim
    ·obtain⟨k1,k2,k3,hk⟩:=hv
     rw [gN]at hk
     have ho1:=tP h2 k2
     have hcells:(a.eval y).cells= #[a.eval y]:=by
      generalize a.eval y=u at *
      cases u<;>simp_all [Value.oneCell',Value.cells]
     refine fin [r] (a.eval y) rfl (by simp [hcells]) (by simp [hcells,k1]) (by simp only [List.length_singleton];omega) ?_ ?_ (by rw [aIw cs off r k3];exact hk)
     ·intro u hu
      simp [hcells]at hu
      subst hu
      exact ho1
     ·intro j s u hs' hu
      simp only [hcells]at hu
      cases j with
      |zero=>simp at hs' hu;subst hs';subst hu;exact h2
      |succ j=>simp at hs'
   ·exact hv.elim
  ·exact hv.elim
 ·exact hv.elim
theorem Env.upd_kb (ρ:Env) {id g i:Nat}{x:HObj}(h:i≠id):(ρ.upd id g).kb i x=ρ.kb i x:=by
 cases x<;>simp [Env.kb,Env.upd,h]
theorem yT {o:Oper}{a:Act}{w:World}{E:Entry}{ρ:Env}{hp:Hp}{fr:Fr}{pin:List Nat}{next:Act->World->Prop}{Q:Exit->Act->World->Prop}{K:SV->Hp->Prop}(hp':E.pin=pin) (hm:Mem E ρ hp w) (hf:dY ρ w fr a.tmps)
  (hn: ∀v w' ρ' s hp',K s hp'->Mem E ρ' hp' w'->dY ρ' w' fr a.tmps->Rep w' ρ' s v->KInfo ρ hp w ρ' hp' w'->next (a.put o.dst v) w')
  (id:Nat) (t:TypeId) (cs:List SV) (vs:Array Value) (hfr:fX id pin fr hp) (hids:id∉SV.idsL cs) (hl:vs.size=cs.length) (h1: ∀v∈vs,v.oneCell'=true)
  (hr: ∀(j:Nat) (s:SV) (v:Value),cs[j]? =some s->vs[j]? =some v->Rep w ρ s v) (hk:K (.ptr id 0) ((id, .cells t cs)::hp))
  (hrun:(execOp a.eval o).run P w= .ok (.value (.pointer (some ⟨w.heap.size,0,none⟩))) (w.alloc (.cells vs t))):o.wp P a w next Q:=by
 obtain⟨f1,f2,f3⟩:=hfr
 obtain⟨m1,m2,_⟩:=hm.alloc id vs t cs f3 (by rw [hp'];exact f1) hl h1 hr hids
 refine cD hrun (hn _ _ _ _ _ hk m1 (m2 fr _ f2 hf) (.ptr id 0 _ (by simp [Env.upd])) (KInfo.mk_ (hm.kept_grew (Grew.alloc w _)) (λ_ _ x=>x) λi x g hx hg=> ?_))
 have hne:i≠id:= λe=>f3 (e ▸ bQ hx (.inl rfl))
 exact⟨by rw [cG (Ne.symm hne)];exact hx,by rw [ρ.upd_kb hne];exact hg⟩
theorem aGz {ti:TypeId->Option TI}(hti:fD P ti) {o:Oper}{t:TypeId}{id:Nat}(ho:o.op= .alloc t) {pin:List Nat}{fr:Fr}{hp:Hp}{K:SV->Hp->Prop}
  (h : match ti t with
   |some T=>fX id pin fr hp/\K (.ptr id 0) ((id, .cells t (T.zero.map .d))::hp)
   |none=>aH "alloc: a type"):wU P o pin fr hp K:=by
 intro E ρ a w hp' hm hf next Q hn
 split at h
 ·rename_i T hT
  obtain⟨d,i,z,hT⟩:=aP (hti _ _ hT)
  obtain⟨hfr,hk⟩:=h
  have hidd: ∀l:List D,SV.idsL (l.map SV.d)=[]:=by
   intro l;induction l with
   |nil=>rfl
   |cons x r ih=>simp [SV.idsL,SV.ids,ih]
  refine yT hp' hm hf hn id t _ z.cells hfr (by rw [hidd];simp) (by simp [hT.zs]) hT.one ?_ hk ?_
  ·intro j s v hs hv
   rw [hT.zs]at hs
   simp only [List.map_map,List.getElem?_map,Option.map_eq_some_iff]at hs
   obtain⟨u,hu,rfl⟩:=hs
   have:u=v:=by
    have hu':z.cells[j]? =some u:=by simpa using hu
    rw [hu']at hv;injection hv
   subst this
   exact .d _ _ (pL w ρ.S u)
  ·simp [execOp,ho,Instr.alloc,zeroValue,typeInfo,hT.info,hT.zero,newVar,newRow]
 ·exact h.elim
def iX (s:SV):Option (List SV):=
 match qK s with
 |some cs=>if cs.all xN then some cs else none
 |none=>if xN s then some [s]else none
theorem mG {w:World}{ρ:Env}{s:SV}{v:Value}{cs:List SV}(h:iX s=some cs) (hr:Rep w ρ s v):
  v.cells.size=cs.length/\(∀u∈v.cells,u.oneCell'=true)/\ ∀(j:Nat) (s:SV) (u:Value),cs[j]? =some s->v.cells[j]? =some u->Rep w ρ s u:=by
 unfold iX at h
 split at h
 ·rename_i cs' hcs
  split at h
  ·rename_i hall
   simp at h
   subst h
   obtain⟨vs,e,hl,hh⟩:=oU hcs hr
   subst e
   refine⟨hl,λu hu=> ?_,hh⟩
   obtain⟨j,hj,rfl⟩:=Array.mem_iff_getElem.1 hu
   simp only [Value.cells]at hj |-
   have hjl:j < cs'.length:=by omega
   rw [List.all_eq_true]at hall
   exact tP (hh j cs'[j] _ (List.getElem?_eq_getElem hjl) (Array.getElem?_eq_getElem hj)) (hall _ (List.getElem_mem hjl))
  ·cases h
 ·split at h
  ·rename_i hl
   simp at h
   subst h
   have ho1:=tP hr hl
   have hcells:v.cells= #[v]:=by cases v<;>simp_all [Value.oneCell',Value.cells]
   rw [hcells]
   refine⟨rfl,λu hu=>by simp at hu;subst hu;exact ho1,λj s' u hs hu=> ?_⟩
   cases j with
   |zero=>simp at hs hu;subst hs;subst hu;exact hr
   |succ j=>simp at hs
  ·cases h
theorem aQp {o:Oper}{t:TypeId}{x:Operand}{id:Nat}(ho:o.op= .box t x) {pin:List Nat}{fr:Fr}{hp:Hp}{K:SV->Hp->Prop}
  (h : ev fr x λs => match iX s with
   |some cs=>fX id pin fr hp/\id∉SV.idsL cs/\K (.ptr id 0) ((id, .cells t cs)::hp)
   |none=>aH "box: cells"):wU P o pin fr hp K:=by
 intro E ρ a w hp' hm hf next Q hn
 obtain⟨s,hs,hv⟩:=cX h
 have h1:=aV hf hs
 split at hv
 ·rename_i cs hcs
  obtain⟨k1,k2,k3⟩:=mG hcs h1
  exact yT hp' hm hf hn id t cs _ hv.1 hv.2.1 k1 k2 k3 hv.2.2 (by simp [execOp,ho,Instr.box,newVar,newRow])
 ·exact hv.elim
end
end Go.Proofs.YtfhoddcminbffaaGreatDoor
