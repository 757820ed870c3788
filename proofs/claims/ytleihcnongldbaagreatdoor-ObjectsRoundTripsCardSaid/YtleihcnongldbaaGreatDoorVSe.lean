/-
  Symbolic operations, one by one: reading.
  Conditions: none.
-/
import Derived.Test.YtleihcnongldbaaGreatDoorVSd
set_option linter.unnecessarySimpa false
set_option linter.unusedSectionVars false
set_option linter.unusedSimpArgs false
set_option linter.unusedVariables false
namespace Go.Proofs.YtleihcnongldbaaGreatDoor
open Go.RowKit
section
variable {P:Program}
theorem fT {t:TypeId}{T:TI}{d:TypeDesc}{i:TypeInfo}{z:Value}(h:TIok P t T d i z) (ha:T.td.isAgg=true) (w:World) (a:Addr) (vs:List Value) (hl:vs.length=T.size)
  (hc: ∀j v,vs[j]? =some v->w.cell? (a.add j)=some v):(loadVar t a).run P w= .ok (.agg vs.toArray) w:=by
 have hr:=run_loadCells_list (P:=P) w a vs hc
 rw [hl]at hr
 simp [loadVar,h.run_isAgg,ha,h.run_size,hr]
theorem fS {t:TypeId}{T:TI}{d:TypeDesc}{i:TypeInfo}{z:Value}(h:TIok P t T d i z) (ha:T.td.isAgg=false) (w:World) (a:Addr) (v:Value)
  (hc:w.cell? a=some v):(loadVar t a).run P w= .ok v w:=by
 simp [loadVar,h.run_isAgg,ha,load,Sem.run,hc]
def aCl (ti:TypeId->Option TI) (t:TypeId) (s:SV) (hp:Hp) (K:SV->Prop):Prop:=
 match ti t with
 |none=>aG "load: a type"
 |some T=>
  match s with
  | .ptr id off=>
   match aQ hp id with
   |some (.cells _ cs)=>if T.td.isAgg then off+T.size<=cs.length/\K (xM ((cs.drop off).take T.size))else ∃x,cs[off]? =some x/\K x
   |some (.ro _ cs)=>if T.td.isAgg then off+T.size<=cs.length/\K (xM ((cs.drop off).take T.size))else ∃x,cs[off]? =some x/\K x
   |_=>aG "load: no such object"
  | .ea z rows i off=> ∃row,rows[i]? =some row/\if T.td.isAgg then off+T.size<=z/\K (.d (.agg ((row.drop off).take T.size)))else ∃x,row[off]? =some x/\K (.d x)
  | .mp id z i off ver=>
   match aQ hp id with
   |some (.mrow _ z' _ rows)=>z=z'/\ver=rows.length/\ ∃row,rows[i]? =some row/\if T.td.isAgg then off+T.size<=z/\K (.d (.agg ((row.drop off).take T.size)))else ∃x,row[off]? =some x/\K (.d x)
   |_=>aG "load: no such rows"
  |_=>aG "load: no address"
theorem fE.row {w:World}{S:Nat->Nat->Prop}{e z cap:Nat}{rows:List (List D)}{v:Value}(h:fE w S e z cap rows v) {i:Nat}{row:List D}(hi:rows[i]? =some row):
  ∃g cur,eO v=some g/\w.heap[g]? =some (.cells cur e (0,0))/\row.length=z/\(i+1)* z<=cur.size/\ ∀j x,row[j]? =some x-> ∃u,cur[i * z+j]? =some u/\RepD w S x u/\u.oneCell'=true:=by
 rcases h with⟨rfl,_⟩|⟨hc,g,cur,rfl,h1,h2,h3,h4,h6,h7⟩
 ·simp at hi
 ·have hlt:i < rows.length:=(List.getElem?_eq_some_iff.1 hi).1
  have hle:(i+1)* z<=cap * z:=Nat.mul_le_mul_right z (by omega)
  refine⟨g,cur,(by have:cap≠0:=(by omega);simp [eO,this]),h1,h6.hz row (List.mem_of_getElem? hi),by rw [h4];exact hle,λj x hx=> ?_⟩
  obtain⟨u,u1,u2⟩:=h6.at_ i row j x hi hx
  refine⟨u, ?_,u2,h6.one u (List.mem_of_getElem? u1)⟩
  rw [List.getElem?_take]at u1
  split at u1
  ·simpa using u1
  ·cases u1
theorem vG {w:World}{ρ:Env}{g off t:Nat}{T:TI}{d:TypeDesc}{i:TypeInfo}{z:Value}{t':TypeId}{cs:List SV}(hT:TIok P t T d i z) (hc:cP w ρ g t' cs) {K:SV->Prop}
  (h:if T.td.isAgg then off+T.size<=cs.length/\K (xM ((cs.drop off).take T.size))else ∃x,cs[off]? =some x/\K x):
  ∃v s,(∀w':World,w'.heap[g]? =w.heap[g]? ->(loadVar t ⟨g,off,none⟩).run P w'= .ok v w')/\Rep w ρ s v/\K s:=by
 obtain⟨cur,h1,h2,h3,h4⟩:=hc
 have hcell: ∀w':World,w'.heap[g]? =w.heap[g]? -> ∀j,w'.cell? ⟨g,j,none⟩=cur[j]? := λw' hg j=>cell_of_row w' g j cur t' (0,0) (hg.trans h1)
 split at h
 ·rename_i ha
  obtain⟨hle,hk⟩:=h
  refine⟨.agg ((cur.toList.drop off).take T.size).toArray,_,λw' hg=>fT hT ha w' _ _ (by simp;omega) ?_,kH (by simp;omega) ?_,hk⟩
  ·intro j v hv
   rw [bX,hcell w' hg]
   rw [List.getElem?_take]at hv
   split at hv
   ·rw [List.getElem?_drop]at hv;simpa using hv
   ·cases hv
  ·intro j s v hs hv
   have hv':((cur.toList.drop off).take T.size)[j]? =some v:=by simpa using hv
   rw [List.getElem?_take]at hs hv'
   split at hs
   ·rename_i hj
    rw [if_pos hj]at hv'
    rw [List.getElem?_drop]at hs hv'
    exact h4 _ s v hs (by simpa using hv')
   ·cases hs
 ·rename_i ha
  obtain⟨x,hx,hk⟩:=h
  have hlt:off < cs.length:=(List.getElem?_eq_some_iff.1 hx).1
  have hv:cur[off]? =some (cur[off]'(by omega)):=Array.getElem?_eq_getElem (by omega)
  exact⟨_,x,λw' hg=>fS hT (by simpa using ha) w' _ _ (by rw [hcell w' hg];exact hv),h4 off x _ hx hv,hk⟩
theorem aF5 {ti:TypeId->Option TI}(hti:cT P ti) {o:Oper}{t:TypeId}{x:Operand}(ho:o.op= .load t x) {fr:Fr}{hp:Hp}{K:SV->Prop}
  (h:ev fr x λs=>aCl ti t s hp K):cY P o fr hp K:=by
 intro E ρ a w hm hf
 obtain⟨s,hs,hv⟩:=cA h
 have hr:=aU hf hs
 have hrun: ∀(ad:Addr) v w',a.eval x= .pointer (some ad)->(loadVar t ad).run P w'= .ok v w'->(execOp a.eval o).run P w'= .ok (.value v) w':=by
  intro ad v w' e1 e2
  simp [execOp,ho,Instr.loadAt,e1,Instr.sureAddr,e2]
 unfold aCl at hv
 split at hv
 ·exact hv.elim
 ·rename_i T hT
  obtain⟨d,i,z,hT⟩:=aM (hti _ _ hT)
  split at hv
  ·rename_i id off
   obtain⟨g,hg,e⟩:=hr.ptr_inv
   split at hv
   ·rename_i t' cs ho'
    obtain⟨g',hg',hc,_⟩:=hm.sat id _ ho'
    rw [hg]at hg';injection hg' with hg';subst hg'
    obtain⟨v,s,h1,h2,h3⟩:=vG hT hc hv
    exact⟨v,s,λw' hkp=>hrun _ v w' e (h1 w' (hkp.o id _ g ho' hg)),h2,h3⟩
   ·rename_i t' cs ho'
    obtain⟨g',hg',hc⟩:=hm.sat id _ ho'
    rw [hg]at hg';injection hg' with hg';subst hg'
    obtain⟨v,s,h1,h2,h3⟩:=vG hT hc hv
    exact⟨v,s,λw' hkp=>hrun _ v w' e (h1 w' (hkp.o id _ g ho' hg)),h2,h3⟩
   ·exact hv.elim
  ·rename_i z' rows i' off
   obtain⟨b,o',hview,e⟩:=hr.ea_inv
   obtain⟨row,hrow,hv⟩:=hv
   have hrl:=hview.hz row (List.mem_of_getElem? hrow)
   split at hv
   ·rename_i ha
    obtain⟨hle,hk⟩:=hv
    -- the row's cells
    have hgc: ∀w',Kept ρ hp w w'-> ∀k v,ρ.S b k->w.cell? ⟨b,k,none⟩=some v->w'.cell? ⟨b,k,none⟩=some v:= λw' hkp k v hs hc=>(hkp.s b k hs).trans hc
    have hcells: ∀j,j < T.size-> ∃v,w.cell? ⟨b,o'+(i' * z'+(off+j)),none⟩=some v/\ρ.S b (o'+(i' * z'+(off+j)))/\ ∀y,row[off+j]? =some y->RepD w ρ.S y v:=by
     intro j hj
     have hx:row[off+j]? =some (row[off+j]'(by omega)):=List.getElem?_eq_getElem (by omega)
     obtain⟨v,c1,c2,_,c4⟩:=hview.cell i' row (off+j) _ hrow hx
     exact⟨v,c1,c2,λy hy=>by rw [hx]at hy;injection hy with hy;rw [<-hy];exact c4⟩
    let vs:List Value:=(List.range T.size).map λj=>(w.cell? ⟨b,o'+(i' * z'+(off+j)),none⟩).getD undef
    have hvs: ∀j v,vs[j]? =some v->j < T.size/\w.cell? ⟨b,o'+(i' * z'+(off+j)),none⟩=some v:=by
     intro j v hj
     simp only [vs,List.getElem?_map,Option.map_eq_some_iff]at hj
     obtain⟨j',hj',rfl⟩:=hj
     obtain⟨hlt,he⟩:=List.getElem?_eq_some_iff.1 hj'
     simp at hlt he
     subst he
     obtain⟨v,c1,_⟩:=hcells j hlt
     exact⟨hlt,by rw [c1];rfl⟩
    refine⟨.agg vs.toArray, .d (.agg ((row.drop off).take T.size)),λw' hg=>hrun _ _ w' e (fT hT ha w' _ vs (by simp [vs]) ?_), .d _ _ (.agg _ _ (by simp [vs];omega) ?_),hk⟩
    ·intro j v hj
     rw [bX]
     obtain⟨hjl,hjc⟩:=hvs j v hj
     obtain⟨_,_,hjs,_⟩:=hcells j hjl
     have e3:o'+(i' * z'+off)+j=o'+(i' * z'+(off+j)):=by omega
     rw [e3]
     exact hgc w' hg _ v hjs hjc
    ·intro j y v hy hv
     obtain⟨hlt,hc⟩:=hvs j v (by simpa using hv)
     obtain⟨v',c1,_,c2⟩:=hcells j hlt
     rw [hc]at c1;injection c1 with c1;subst c1
     rw [List.getElem?_take,if_pos hlt,List.getElem?_drop]at hy
     exact c2 y hy
   ·rename_i ha
    obtain⟨y,hy,hk⟩:=hv
    obtain⟨v,c1,c2,_,c4⟩:=hview.cell i' row off y hrow hy
    exact⟨v,_,λw' hkp=>hrun _ v w' e (fS hT (by simpa using ha) w' _ _ ((hkp.s _ _ c2).trans c1)), .d _ _ c4,hk⟩
  ·rename_i id z' i' off ver
   split at hv
   ·rename_i e' z'' cap rows ho'
    obtain⟨rfl,hver,row,hrow,hv⟩:=hv
    obtain⟨h1,h2⟩:=hm.sat id _ ho'
    obtain⟨ad,e,_,hgv⟩:=hr.mp_inv
    obtain⟨g,hg,rfl⟩:=hgv (by omega)
    obtain⟨g',cur,m1,m2,m3,m4,m5⟩:=h2.row hrow
    rw [hg]at m1;injection m1 with m1;subst m1
    have hcell: ∀w':World,Kept ρ hp w w'-> ∀j,w'.cell? ⟨g,j,none⟩=cur[j]? := λw' hkp j=>cell_of_row w' g j cur e' (0,0) ((hkp.o id _ g ho' hg).trans m2)
    split at hv
    ·rename_i ha
     obtain⟨hle,hk⟩:=hv
     have hsz:i' * z'+off+T.size<=cur.size:=by rw [Nat.add_mul]at m4;omega
     refine⟨.agg ((cur.toList.drop (i' * z'+off)).take T.size).toArray, .d (.agg ((row.drop off).take T.size)),λw' hkp=>hrun _ _ w' e (fT hT ha w' _ _ (by simp;omega) ?_), .d _ _ (.agg _ _ (by simp;omega) ?_),hk⟩
     ·intro j v hv'
      rw [bX,hcell w' hkp]
      rw [List.getElem?_take]at hv'
      split at hv'
      ·rw [List.getElem?_drop]at hv';simpa using hv'
      ·cases hv'
     ·intro j y v hy hv'
      have hv2:((cur.toList.drop (i' * z'+off)).take T.size)[j]? =some v:=by simpa using hv'
      rw [List.getElem?_take]at hy hv2
      split at hy
      ·rename_i hj
       rw [if_pos hj,List.getElem?_drop]at hv2
       rw [List.getElem?_drop]at hy
       obtain⟨u,u1,u2,_⟩:=m5 (off+j) y hy
       have e2:i' * z'+off+j=i' * z'+(off+j):=by omega
       rw [e2]at hv2
       have hv3:cur[i' * z'+(off+j)]? =some v:=by simpa using hv2
       rw [u1]at hv3;injection hv3 with hv3;subst hv3
       exact u2
      ·cases hy
    ·rename_i ha
     obtain⟨y,hy,hk⟩:=hv
     obtain⟨u,u1,u2,_⟩:=m5 off y hy
     exact⟨u,_,λw' hkp=>hrun _ u w' e (fS hT (by simpa using ha) w' _ _ (by rw [hcell w' hkp];exact u1)), .d _ _ u2,hk⟩
   ·exact hv.elim
  ·exact hv.elim
theorem aF3 {o:Oper}{x:Operand}(ho:o.op= .move x\/o.op= .assign x) {fr:Fr}{hp:Hp}{K:SV->Prop}(h:ev fr x K):cY P o fr hp K:=by
 intro E ρ a w hm hf
 obtain⟨s,hs,hv⟩:=cA h
 refine⟨a.eval x,s,λw' _=> ?_,aU hf hs,hv⟩
 rcases ho with ho|ho<;>simp [execOp,ho]
theorem aL2 {o:Oper}{c x y:Operand}(ho:o.op= .pick c x y) {fr:Fr}{hp:Hp}{K:SV->Prop}
  (h : ev fr c λt => (match t with
   | .d (.bool b)=>brB b (ev fr x K) (ev fr y K)
   |_=>aG "pick: no bool")):cY P o fr hp K:=by
 intro E ρ a w hm hf
 obtain⟨t,ht,hv⟩:=cA h
 have hr:=aU hf ht
 split at hv
 ·rename_i b
  have e:=hr.bool_inv
  cases b
  ·obtain⟨s,hs,hk⟩:=cA (aIp hv rfl)
   exact⟨a.eval y,s,λw' _=>by simp [execOp,ho,e,asBool],aU hf hs,hk⟩
  ·obtain⟨s,hs,hk⟩:=cA (aIo hv rfl)
   exact⟨a.eval x,s,λw' _=>by simp [execOp,ho,e,asBool],aU hf hs,hk⟩
 ·exact hv.elim
def aNq (s:SV) (K:SV->Prop):Prop:=
 match s with
 | .ptr id off=>K (.ptr id off)
 | .ea z rows i off=>K (.ea z rows i off)
 | .mp id z i off ver=>K (.mp id z i off ver)
 | .yld id=>K (.yld id)
 | .fn f a b=>K (.fn f a b)
 | .d (.lit (.func (.func f) a b))=>K (.d (.lit (.func (.func f) a b)))
 |_=>aG "nilCheck"
theorem aMo {o:Oper}{x:Operand}(ho:o.op= .nilCheck x) {fr:Fr}{hp:Hp}{K:SV->Prop}(h:ev fr x λs=>aNq s K):cY P o fr hp K:=by
 intro E ρ a w hm hf
 obtain⟨s,hs,hv⟩:=cA h
 have hr:=aU hf hs
 refine⟨a.eval x,s,λw' _=> ?_,hr, ?_⟩
 ·unfold aNq at hv
  split at hv
  ·obtain⟨g,_,e⟩:=hr.ptr_inv;simp [execOp,ho,e]
  ·obtain⟨b,o',_,e⟩:=hr.ea_inv;simp [execOp,ho,e]
  ·obtain⟨ad,e,_⟩:=hr.mp_inv;simp [execOp,ho,e]
  ·obtain⟨l,_,e⟩:=hr.yld_inv;simp [execOp,ho,e]
  ·obtain⟨fv,cv,e,_⟩:=hr.fn_inv;simp [execOp,ho,e]
  ·simp [execOp,ho,hr.lit_inv]
  ·exact hv.elim
 ·unfold aNq at hv
  split at hv<;>first|exact hv|exact hv.elim
def wE (s:SV) (i:Nat) (K:SV->Prop):Prop:=
 match s with
 | .tup vs=> ∃x,vs[i]? =some x/\K x
 |_=>aG "extract: no tuple"
theorem aCy {o:Oper}{x:Operand}{i:Nat}(ho:o.op= .extract x i) {fr:Fr}{hp:Hp}{K:SV->Prop}(h:ev fr x λs=>wE s i K):cY P o fr hp K:=by
 intro E ρ a w hm hf
 obtain⟨s,hs,hv⟩:=cA h
 have hr:=aU hf hs
 unfold wE at hv
 split at hv
 ·rename_i cs
  obtain⟨y,hy,hk⟩:=hv
  obtain⟨vs,e,hl,hh⟩:=hr.tup_inv
  have hlt:=(List.getElem?_eq_some_iff.1 hy).1
  have hvv:vs[i]? =some (vs[i]'(by omega)):=Array.getElem?_eq_getElem (by omega)
  exact⟨_,y,λw' _=>by simp [execOp,ho,e,Instr.extract,hvv],hh i y _ hy hvv,hk⟩
 ·exact hv.elim
def aE8 (ti:TypeId->Option TI) (t:TypeId) (s:SV) (f:Nat) (K:SV->Prop):Prop:=
 match ti t with
 |some { td:= .struct fs, .. }=>
  match fs[f]? with
  |some (ft,off)=>
   match ti ft with
   |some T=>
    match s with
    | .d (.agg cs)=>if T.td.isAgg then off+T.size<=cs.length/\K (.d (.agg ((cs.drop off).take T.size)))else ∃x,cs[off]? =some x/\K (.d x)
    | .agg cs=>if T.td.isAgg then off+T.size<=cs.length/\K (xM ((cs.drop off).take T.size))else ∃x,cs[off]? =some x/\K x
    |_=>aG "field: no struct"
   |none=>aG "field: its type"
  |none=>aG "field: no such"
 |_=>aG "field: a struct's type"
theorem lY {d:TypeDesc}{fs:List (TypeId×Nat)}(h:yG d= .struct fs): ∃gs,d= .struct gs/\fs=gs.toList.map λf=>(f.type,f.offset):=by
 cases d<;>simp [yG]at h
 exact⟨_,rfl,h.symm⟩
theorem gO {t:TypeId}{T:TI}{d:TypeDesc}{i:TypeInfo}{z:Value}(h:TIok P t T d i z) (w:World) (cs:Array Value) (off:Nat):
  (part t cs off).run P w=if T.td.isAgg then .ok (.agg (cs.extract off (off+T.size))) w else match cs[off]? with|some v=> .ok v w|none=> .halt (.stuck "part: no such cell") w:=by
 simp only [part,Sem.run_bind,h.run_isAgg,Result.andThen_ok]
 cases T.td.isAgg
 ·simp
  cases cs[off]?<;>rfl
 ·simp [h.run_size]
theorem aHt {ti:TypeId->Option TI}(hti:cT P ti) {o:Oper}{t:TypeId}{x:Operand}{f:Nat}(ho:o.op= .field t x f) {fr:Fr}{hp:Hp}{K:SV->Prop}
  (h:ev fr x λs=>aE8 ti t s f K):cY P o fr hp K:=by
 intro E ρ a w hm hf
 obtain⟨s,hs,hv⟩:=cA h
 have hr:=aU hf hs
 unfold aE8 at hv
 split at hv
 ·rename_i fs _ _ _ hT
  obtain⟨d,i,z,hT⟩:=aM (hti _ _ hT)
  obtain⟨gs,rfl,hfs⟩:=lY hT.td
  split at hv
  ·rename_i ft off hff
   subst hfs
   simp only [List.getElem?_map,Option.map_eq_some_iff]at hff
   obtain⟨fd,hfd,he⟩:=hff
   injection he with he1 he2
   have hfd':gs[f]? =some fd:=by simpa using hfd
   split at hv
   ·rename_i T hT2
    obtain⟨d2,i2,z2,hT2⟩:=aM (hti _ _ hT2)
    have hrun: ∀(vs:Array Value) (w':World),a.eval x= .agg vs->(execOp a.eval o).run P w'=((part ft vs off).run P w').andThen λv w=> .ok (.value v) w:=by
     intro vs w' e
     simp [execOp,ho,Instr.field,run_underlying hT.und,hfd',e,asAgg,he1,he2]
    split at hv
    ·rename_i cs
     obtain⟨vs,e,hl,hh⟩:=hr.dagg_inv
     split at hv
     ·rename_i ha
      obtain⟨hle,hk⟩:=hv
      refine⟨_,_,λw' _=>by rw [hrun vs w' e,gO hT2];simp only [ha,if_true];rfl, .d _ _ (.agg _ _ (by simp<;>omega) ?_),hk⟩
      intro j y v hy hvv
      rw [List.getElem?_take]at hy
      split at hy
      ·rename_i hj
       rw [List.getElem?_drop]at hy
       refine hh (off+j) y v hy ?_
       rw [Array.getElem?_extract]at hvv
       split at hvv
       ·exact hvv
       ·cases hvv
      ·cases hy
     ·rename_i ha
      obtain⟨y,hy,hk⟩:=hv
      have hlt:=(List.getElem?_eq_some_iff.1 hy).1
      have hvv:vs[off]? =some (vs[off]'(by omega)):=Array.getElem?_eq_getElem (by omega)
      exact⟨_,_,λw' _=>by rw [hrun vs w' e,gO hT2];simp [ha,hvv], .d _ _ (hh off y _ hy hvv),hk⟩
    ·rename_i cs
     obtain⟨vs,e,hl,hh⟩:=hr.agg_inv
     split at hv
     ·rename_i ha
      obtain⟨hle,hk⟩:=hv
      refine⟨_,_,λw' _=>by rw [hrun vs w' e,gO hT2];simp only [ha,if_true];rfl,kH (by simp<;>omega) ?_,hk⟩
      intro j y v hy hvv
      rw [List.getElem?_take]at hy
      split at hy
      ·rename_i hj
       rw [List.getElem?_drop]at hy
       refine hh (off+j) y v hy ?_
       rw [Array.getElem?_extract]at hvv
       split at hvv
       ·exact hvv
       ·cases hvv
      ·cases hy
     ·rename_i ha
      obtain⟨y,hy,hk⟩:=hv
      have hlt:=(List.getElem?_eq_some_iff.1 hy).1
      have hvv:vs[off]? =some (vs[off]'(by omega)):=Array.getElem?_eq_getElem (by omega)
      exact⟨_,_,λw' _=>by rw [hrun vs w' e,gO hT2];simp [ha,hvv],hh off y _ hy hvv,hk⟩
    ·exact hv.elim
   ·exact hv.elim
  ·exact hv.elim
 ·exact hv.elim
def pG (ti:TypeId->Option TI) (t:TypeId) (s:SV) (f:Nat) (K:SV->Prop):Prop:=
 match ti t with
 |some { td:= .struct fs, .. }=>
  match fs[f]? with
  |some (ft,off)=>
   match ti ft with
   |some T=>
    if T.size=0 then aG "fieldAddr: a field of no size" else
    match s with
    | .ptr id o=>K (.ptr id (o+off))
    | .ea z rows i o=>K (.ea z rows i (o+off))
    | .mp id z i o ver=>K (.mp id z i (o+off) ver)
    |_=>aG "fieldAddr: no address"
   |none=>aG "fieldAddr: its type"
  |none=>aG "fieldAddr: no such"
 |_=>aG "fieldAddr: a struct's type"
theorem zA {ti:TypeId->Option TI}(hti:cT P ti) {o:Oper}{t:TypeId}{x:Operand}{f:Nat}(ho:o.op= .fieldAddr t x f) {fr:Fr}{hp:Hp}{K:SV->Prop}
  (h:ev fr x λs=>pG ti t s f K):cY P o fr hp K:=by
 intro E ρ a w hm hf
 obtain⟨s,hs,hv⟩:=cA h
 have hr:=aU hf hs
 unfold pG at hv
 split at hv
 ·rename_i fs _ _ _ hT
  obtain⟨d,i,z,hT⟩:=aM (hti _ _ hT)
  obtain⟨gs,rfl,hfs⟩:=lY hT.td
  split at hv
  ·rename_i ft off hff
   subst hfs
   simp only [List.getElem?_map,Option.map_eq_some_iff]at hff
   obtain⟨fd,hfd,he⟩:=hff
   injection he with he1 he2
   have hfd':gs[f]? =some fd:=by simpa using hfd
   split at hv
   ·rename_i T hT2
    obtain⟨d2,i2,z2,hT2⟩:=aM (hti _ _ hT2)
    split at hv
    ·exact hv.elim
    ·rename_i hsz
     have hrun: ∀(ad:Addr) (w':World),a.eval x= .pointer (some ad)->(execOp a.eval o).run P w'= .ok (.value (.pointer (some (ad.add off)))) w':=by
      intro ad w' e
      simp [execOp,ho,Instr.fieldAt,run_underlying hT.und,hfd',e,Instr.sureAddr,fieldPlace,he1,he2,hT2.run_size,hsz]
     split at hv
     ·rename_i id o'
      obtain⟨g,hg,e⟩:=hr.ptr_inv
      exact⟨_,_,λw' _=>hrun _ w' e,by rw [bX];exact .ptr id (o'+off) g hg,hv⟩
     ·rename_i z' rows i' o'
      obtain⟨b,o'',hview,e⟩:=hr.ea_inv
      refine⟨_,_,λw' _=>hrun _ w' e, ?_,hv⟩
      rw [bX]
      have:=Rep.ea (w:=w) (ρ:=ρ) z' rows i' (o'+off) b o'' hview
      have e2:o''+(i' * z'+o')+off=o''+(i' * z'+(o'+off)):=by omega
      rw [e2]
      exact this
     ·rename_i id z' i' o' ver
      obtain⟨ad,e,q1,q2⟩:=hr.mp_inv
      refine⟨_,_,λw' _=>hrun _ w' e, .mp id z' i' (o'+off) ver _ q1 (λhver=> ?_),hv⟩
      obtain⟨g,hg,rfl⟩:=q2 hver
      refine⟨g,hg, ?_⟩
      rw [bX]
      congr 1
      omega
     ·exact hv.elim
   ·exact hv.elim
  ·exact hv.elim
 ·exact hv.elim
def pX:SV->Option (Nat×List (List D))
 | .d (.sl z rows)=>some (z,rows)
 | .osl _ z rows=>some (z,rows)
 |_=>none
theorem hZ {w:World}{ρ:Env}{s:SV}{v:Value}{z:Nat}{rows:List (List D)}(h:pX s=some (z,rows)) (hr:Rep w ρ s v):RepD w ρ.S (.sl z rows) v:=by
 unfold pX at h
 split at h
 ·simp at h;obtain⟨rfl,rfl⟩:=h
  cases hr with|d _ _ h=>exact h
 ·simp at h;obtain⟨rfl,rfl⟩:=h
  cases hr with|osl _ _ _ _ h=>exact h
 ·cases h
def pF (ti:TypeId->Option TI) (t:TypeId) (s i:SV) (K:SV->Prop):Prop:=
 match i with
 | .d (.int _ n)=>
  match ti t with
  |some { td:= .slice e, .. }=>
   match ti e with
   |some T=>
    match s with
    | .msl id z off len=>T.size=z/\0<=n/\n.toNat < len/\K (.ptr id (off+n.toNat * z))
    | .mw id z len=>T.size=z/\0<=n/\n.toNat < len/\K (.mp id z n.toNat 0 len)
    | .ms id z lo len ver=>T.size=z/\0<=n/\n.toNat < len/\K (.mp id z (lo+n.toNat) 0 ver)
    |s=>
     match pX s with
     |some (z,rows)=>T.size=z/\0<=n/\n.toNat < rows.length/\K (.ea z rows n.toNat 0)
     |none=>aG "indexAddr: no slice"
   |none=>aG "indexAddr: an element's type"
  |some { td:= .array m e, .. }=>
   match ti e with
   |some T=>
    match s with
    | .ptr id off=>0<=n/\n.toNat < m/\K (.ptr id (off+n.toNat * T.size))
    | .ea z rows j off=>0<=n/\n.toNat < m/\K (.ea z rows j (off+n.toNat * T.size))
    | .mp id z j off ver=>0<=n/\n.toNat < m/\K (.mp id z j (off+n.toNat * T.size) ver)
    |_=>aG "indexAddr: no array's address"
   |none=>aG "indexAddr: an element's type"
  |_=>aG "indexAddr: a type"
 |_=>aG "indexAddr: no int"
theorem bR {d:TypeDesc}{e:TypeId}(h:yG d= .slice e):d= .slice e:=by
 cases d<;>simp [yG]at h;rw [h]
theorem gH {d:TypeDesc}{n e:Nat}(h:yG d= .array n e):d= .array n e:=by
 cases d<;>simp [yG]at h;rw [h.1,h.2]
theorem eT {t e:TypeId}{T:TI}{d:TypeDesc}{i:TypeInfo}{z:Value}(ht:P.underlying t=some (.slice e)) (he:TIok P e T d i z) (w:World) (ad:Addr) (len cap:Nat) (k:IntKind) (n:Int) (h0:0<=n) (h1:n.toNat < len):
  (Instr.indexAt t (.slice (some ad) len cap) (.int k n)).run P w= .ok (.pointer (some (ad.add (n.toNat * T.size)))) w:=by
 have h2:n < (len:Int):=by omega
 simp [Instr.indexAt,asIntOf,run_underlying ht,h0,h2,he.run_size]
theorem eU {t e m:TypeId}{T:TI}{d:TypeDesc}{i:TypeInfo}{z:Value}(ht:P.underlying t=some (.array m e)) (he:TIok P e T d i z) (w:World) (ad:Addr) (k:IntKind) (n:Int) (h0:0<=n) (h1:n.toNat < m):
  (Instr.indexAt t (.pointer (some ad)) (.int k n)).run P w= .ok (.pointer (some (ad.add (n.toNat * T.size)))) w:=by
 have h2:n < (m:Int):=by omega
 simp [Instr.indexAt,asIntOf,run_underlying ht,h0,h2,he.run_size,Instr.sureAddr]
theorem yZ {ti:TypeId->Option TI}(hti:cT P ti) {o:Oper}{t:TypeId}{x y:Operand}(ho:o.op= .indexAddr t x y) {fr:Fr}{hp:Hp}{K:SV->Prop}
  (h:ev fr x λs=>ev fr y λi=>pF ti t s i K):cY P o fr hp K:=by
 intro E ρ a w hm hf
 obtain⟨s,hs,hv0⟩:=cA h
 obtain⟨ix,hix,hv⟩:=cA hv0
 clear hv0
 have hr:=aU hf hs
 have hri:=aU hf hix
 unfold pF at hv
 split at hv
 ·rename_i k n
  have ei:=hri.int_inv
  have hrun: ∀u v w',a.eval x=u->(Instr.indexAt t u (.int k n)).run P w'= .ok v w'->(execOp a.eval o).run P w'= .ok (.value v) w':=by
   intro u v w' e1 e2
   simp [execOp,ho,e1,ei,e2]
  split at hv
  ·rename_i e _ _ _ hT
   obtain⟨d,i,z,hT⟩:=aM (hti _ _ hT)
   have hd:=bR hT.td
   subst hd
   split at hv
   ·rename_i T hT2
    obtain⟨d2,i2,z2,hT2⟩:=aM (hti _ _ hT2)
    split at hv
    ·rename_i id z' off len
     obtain⟨hz,h0,h1,hk⟩:=hv
     obtain⟨g,cap,hg,e1,_⟩:=hr.msl_inv
     refine⟨_,_,λw' _=>hrun _ _ w' e1 (eT hT.und hT2 w' _ _ _ k n h0 h1), ?_,hk⟩
     rw [bX,hz]
     exact .ptr id _ g hg
    ·rename_i id z' len
     obtain⟨hz,h0,h1,hk⟩:=hv
     obtain⟨A,cap,e1,hn,hc,hA,q1,q2⟩:=hr.mw_inv
     obtain⟨g,rfl⟩:=hA (by omega)
     refine⟨_,_,λw' _=>hrun _ _ w' e1 (eT hT.und hT2 w' _ _ _ k n h0 h1), .mp id z' n.toNat 0 len _ q1 (λhver=>⟨g, ?_, ?_⟩),hk⟩
     ·rw [<-q2 hver,e1]
      have:cap≠0:=by omega
      simp [eO,this]
     ·rw [bX,hz]
      congr 1
      omega
    ·rename_i id z' lo len ver
     obtain⟨hz,h0,h1,hk⟩:=hv
     obtain⟨A,cap,e1,hn,hc,hA,q1,q2⟩:=hr.ms_inv
     obtain⟨ad,rfl⟩:=hA (by omega)
     refine⟨_,_,λw' _=>hrun _ _ w' e1 (eT hT.und hT2 w' _ _ _ k n h0 h1), .mp id z' (lo+n.toNat) 0 ver _ q1 (λhver=> ?_),hk⟩
     obtain⟨A0,l0,c0,p1,p2,p3,p4,A',p5,p6⟩:=q2 hver
     obtain⟨g,rfl⟩:=p4 (by omega)
     rw [e1]at p5
     injection p5 with p7 p8 p9
     have p10:=p6 (by omega)
     rw [<-p7]at p10
     simp only [Option.map_some,Option.some.injEq,bX]at p10
     refine⟨g, ?_, ?_⟩
     ·rw [p1]
      have:c0≠0:=by omega
      simp [eO,this]
     ·rw [p10,bX,hz]
      congr 1
      rw [Nat.add_mul];omega
    ·split at hv
     ·rename_i z' rows hrows
      obtain⟨hz,h0,h1,hk⟩:=hv
      obtain⟨A,cap,b,off,e1,_,_,hA,hview⟩:=(hZ hrows hr).of_sl
      have hne:rows≠[]:=by rintro rfl;simp at h1
      have hA':=hA hne
      subst hA'
      refine⟨_,_,λw' _=>hrun _ _ w' e1 (eT hT.und hT2 w' _ _ _ k n h0 h1), ?_,hk⟩
      rw [bX,hz]
      exact .ea z' rows n.toNat 0 b off hview
     ·exact hv.elim
   ·exact hv.elim
  ·rename_i m e _ _ _ hT
   obtain⟨d,i,z,hT⟩:=aM (hti _ _ hT)
   have hd:=gH hT.td
   subst hd
   split at hv
   ·rename_i T hT2
    obtain⟨d2,i2,z2,hT2⟩:=aM (hti _ _ hT2)
    split at hv
    ·rename_i id off
     obtain⟨h0,h1,hk⟩:=hv
     obtain⟨g,hg,e1⟩:=hr.ptr_inv
     refine⟨_,_,λw' _=>hrun _ _ w' e1 (eU hT.und hT2 w' _ k n h0 h1), ?_,hk⟩
     rw [bX]
     exact .ptr id _ g hg
    ·rename_i z' rows j off
     obtain⟨h0,h1,hk⟩:=hv
     obtain⟨b,o',hview,e1⟩:=hr.ea_inv
     refine⟨_,_,λw' _=>hrun _ _ w' e1 (eU hT.und hT2 w' _ k n h0 h1), ?_,hk⟩
     rw [bX]
     have e2:o'+(j * z'+off)+n.toNat * T.size=o'+(j * z'+(off+n.toNat * T.size)):=by omega
     rw [e2]
     exact .ea z' rows j _ b o' hview
    ·rename_i id z' j off ver
     obtain⟨h0,h1,hk⟩:=hv
     obtain⟨ad,e1,q1,q2⟩:=hr.mp_inv
     refine⟨_,_,λw' _=>hrun _ _ w' e1 (eU hT.und hT2 w' _ k n h0 h1), .mp id z' j _ ver _ q1 (λhver=> ?_),hk⟩
     obtain⟨g,hg,rfl⟩:=q2 hver
     refine⟨g,hg, ?_⟩
     rw [bX]
     congr 1
     omega
    ·exact hv.elim
   ·exact hv.elim
  ·exact hv.elim
 ·exact hv.elim
def aE7 (ti:TypeId->Option TI) (t:TypeId) (s i:SV) (K:SV->Prop):Prop:=
 match i with
 | .d (.int _ n)=>
  match ti t with
  |some { td:= .string, .. }=>
   match s with
   | .d (.str l)=>0<=n/\ ∃h:n.toNat < l.length,K (.d (.int .u8 (l[n.toNat]'h).toNat))
   |_=>aG "index: no string"
  |some { td:= .array m e, .. }=>
   match ti e with
   |some T=>
    match s with
    | .d (.agg cs)=>if T.td.isAgg then (0<=n/\n.toNat < m/\n.toNat * T.size+T.size<=cs.length/\K (.d (.agg ((cs.drop (n.toNat * T.size)).take T.size))))else (0<=n/\n.toNat < m/\ ∃x,cs[n.toNat * T.size]? =some x/\K (.d x))
    |_=>aG "index: no array"
   |none=>aG "index: an element's type"
  |_=>aG "index: a type"
 |_=>aG "index: no int"
theorem eM {d:TypeDesc}(h:yG d= .string):d= .string:=by
 cases d<;>simp [yG]at h;rfl
theorem aHs {ti:TypeId->Option TI}(hti:cT P ti) {o:Oper}{t:TypeId}{x y:Operand}(ho:o.op= .index t x y) {fr:Fr}{hp:Hp}{K:SV->Prop}
  (h:ev fr x λs=>ev fr y λi=>aE7 ti t s i K):cY P o fr hp K:=by
 intro E ρ a w hm hf
 obtain⟨s,hs,hv0⟩:=cA h
 obtain⟨ix,hix,hv⟩:=cA hv0
 clear hv0
 have hr:=aU hf hs
 have hri:=aU hf hix
 unfold aE7 at hv
 split at hv
 ·rename_i k n
  have ei:=hri.int_inv
  split at hv
  ·rename_i hT
   obtain⟨d,i,z,hT⟩:=aM (hti _ _ hT)
   have hd:=eM hT.td
   subst hd
   split at hv
   ·rename_i l
    obtain⟨h0,h1,hk⟩:=hv
    obtain⟨e,_⟩:=hr.str_inv
    refine⟨_,_,λw' _=> ?_, .d _ _ (.int _ _),hk⟩
    have hlt:n.toNat < (⟨l.toArray⟩:ByteArray).size:=by simpa [ByteArray.size]using h1
    have hlt2:n < ((⟨l.toArray⟩:ByteArray).size:Int):=by omega
    have:=run_index_string (P:=P) (w:=w') t ⟨l.toArray⟩ k n hT.und
    rw [dif_pos ⟨h0,hlt2⟩]at this
    simp only [execOp,ho,e,ei,Sem.run_bind,this,Result.andThen_ok]
    rfl
   ·exact hv.elim
  ·rename_i m e _ _ _ hT
   obtain⟨d,i,z,hT⟩:=aM (hti _ _ hT)
   have hd:=gH hT.td
   subst hd
   split at hv
   ·rename_i T hT2
    obtain⟨d2,i2,z2,hT2⟩:=aM (hti _ _ hT2)
    split at hv
    ·rename_i cs
     obtain⟨vs,e1,hl,hh⟩:=hr.dagg_inv
     cases ha:T.td.isAgg
     ·rw [ha,if_neg (by decide)]at hv
      obtain⟨h0,h1,y',hy,hk⟩:=hv
      have hlt:=(List.getElem?_eq_some_iff.1 hy).1
      have hvv:vs[n.toNat * T.size]? =some (vs[n.toNat * T.size]'(by omega)):=Array.getElem?_eq_getElem (by omega)
      have h2:n < (m:Int):=by omega
      refine⟨_,_,λw' _=> ?_, .d _ _ (hh _ y' _ hy hvv),hk⟩
      simp [execOp,ho,e1,ei,Instr.index,asIntOf,run_underlying hT.und,h0,h2,hT2.run_size,gO hT2,ha,hvv]
     ·rw [ha,if_pos rfl]at hv
      obtain⟨h0,h1,hle,hk⟩:=hv
      have h2:n < (m:Int):=by omega
      refine⟨.agg (vs.extract (n.toNat * T.size) (n.toNat * T.size+T.size)),_,λw' _=> ?_, .d _ _ (.agg _ _ (by simp<;>omega) ?_),hk⟩
      ·simp [execOp,ho,e1,ei,Instr.index,asIntOf,run_underlying hT.und,h0,h2,hT2.run_size,gO hT2,ha]
      ·intro j y v hy hvv
       rw [List.getElem?_take]at hy
       split at hy
       ·rename_i hj
        rw [List.getElem?_drop]at hy
        refine hh (n.toNat * T.size+j) y v hy ?_
        rw [Array.getElem?_extract]at hvv
        split at hvv
        ·exact hvv
        ·cases hvv
       ·cases hy
    ·exact hv.elim
   ·exact hv.elim
  ·exact hv.elim
 ·exact hv.elim
end
end Go.Proofs.YtleihcnongldbaaGreatDoor
