/-
  Symbolic operations, one by one: computing.
  Conditions: none.
-/
import Derived.Test.YtbobcfjlbcgchaaGreatDoorWSd
import Derived.Laws.StructEq
set_option linter.unusedSectionVars false
set_option linter.unusedSimpArgs false
set_option linter.unusedVariables false
namespace Go.Proofs.YtbobcfjlbcgchaaGreatDoor
section
open Go.RowKit
section
variable {P:Program}
theorem jZ {t:TypeId}{T:TI}{d:TypeDesc}{i:TypeInfo}{z:Value}(h:TIok P t T d i z) (ha:T.td.isAgg=true) (w:World) (a:Addr) (vs:List Value) (hl:vs.length=T.size)
  (hc: ∀j v,vs[j]? =some v->w.cell? (a.add j)=some v):(loadVar t a).run P w= .ok (.agg vs.toArray) w:=by
 have b:=run_loadCells_list (P:=P) w a vs hc
 rw [hl]at b
 simp [loadVar,h.run_isAgg,ha,h.run_size,b]
theorem jY {t:TypeId}{T:TI}{d:TypeDesc}{i:TypeInfo}{z:Value}(h:TIok P t T d i z) (ha:T.td.isAgg=false) (w:World) (a:Addr) (v:Value)
  (hc:w.cell? a=some v):(loadVar t a).run P w= .ok v w:=by
 simp [loadVar,h.run_isAgg,ha,load,Sem.run,hc]
def aO0 (ti:TypeId->Option TI) (t:TypeId) (s:SV) (hp:Hp) (K:SV->Prop):Prop:=
 match ti t with
 |none=>aH "load: a type"
 |some T=>
  match s with
  | .ptr id off=>
   match aP hp id with
   |some (.cells _ cs)=>if T.td.isAgg then off+T.size<=cs.length/\K (aC7 ((cs.drop off).take T.size))else ∃x,cs[off]? =some x/\K x
   |some (.ro _ cs)=>if T.td.isAgg then off+T.size<=cs.length/\K (aC7 ((cs.drop off).take T.size))else ∃x,cs[off]? =some x/\K x
   |_=>aH "load: no such object"
  | .ea z rows i off=> ∃row,rows[i]? =some row/\if T.td.isAgg then off+T.size<=z/\K (.d (.agg ((row.drop off).take T.size)))else ∃x,row[off]? =some x/\K (.d x)
  | .mp id z i off ver=>
   match aP hp id with
   |some (.mrow _ z' _ rows)=>z=z'/\ver=rows.length/\ ∃row,rows[i]? =some row/\if T.td.isAgg then off+T.size<=z/\K (.d (.agg ((row.drop off).take T.size)))else ∃x,row[off]? =some x/\K (.d x)
   |_=>aH "load: no such rows"
  |_=>aH "load: no address"
theorem gX.row {w:World}{S:Nat->Nat->Prop}{e z cap:Nat}{rows:List (List D)}{v:Value}(h:gX w S e z cap rows v) {i:Nat}{row:List D}(hi:rows[i]? =some row):
  ∃g cur,gB v=some g/\w.heap[g]? =some (.cells cur e (0,0))/\row.length=z/\(i+1)* z<=cur.size/\ ∀j x,row[j]? =some x-> ∃u,cur[i * z+j]? =some u/\RepD w S x u/\u.oneCell'=true:=by
 rcases h with⟨rfl,_⟩|⟨hc,g,cur,rfl,d,h2,h3,f,b,h7⟩
 ·simp at hi
 ·have hlt:i < rows.length:=(List.getElem?_eq_some_iff.1 hi).1
  have c:(i+1)* z<=cap * z:=Nat.mul_le_mul_right z (by omega)
  refine⟨g,cur,(by have:cap≠0:=(by omega);simp [gB,this]),d,b.hz row (List.mem_of_getElem? hi),by rw [f];exact c,λj x hx=> ?_⟩
  obtain⟨u,a,k⟩:=b.at_ i row j x hi hx
  refine⟨u, ?_,k,b.one u (List.mem_of_getElem? a)⟩
  rw [List.getElem?_take]at a
  split at a
  ·simpa using a
  ·cases a
theorem aDn {w:World}{ρ:Env}{g off t:Nat}{T:TI}{d:TypeDesc}{i:TypeInfo}{z:Value}{t':TypeId}{cs:List SV}(hT:TIok P t T d i z) (hc:eP w ρ g t' cs) {K:SV->Prop}
  (h:if T.td.isAgg then off+T.size<=cs.length/\K (aC7 ((cs.drop off).take T.size))else ∃x,cs[off]? =some x/\K x):
  ∃v s,(∀w':World,w'.heap[g]? =w.heap[g]? ->(loadVar t ⟨g,off,none⟩).run P w'= .ok v w')/\Rep w ρ s v/\K s:=by
 obtain⟨cur,n,h2,h3,m⟩:=hc
 have a: ∀w':World,w'.heap[g]? =w.heap[g]? -> ∀j,w'.cell? ⟨g,j,none⟩=cur[j]? := λw' f j=>cell_of_row w' g j cur t' (0,0) (f.trans n)
 split at h
 ·rename_i k
  obtain⟨hle,l⟩:=h
  refine⟨.agg ((cur.toList.drop off).take T.size).toArray,_,λw' f=>jZ hT k w' _ _ (by simp;omega) ?_,oO (by simp;omega) ?_,l⟩
  ·intro j v b
   rw [cW,a w' f]
   rw [List.getElem?_take]at b
   split at b
   ·rw [List.getElem?_drop]at b;simpa using b
   ·cases b
  ·intro j s v e b
   have c:((cur.toList.drop off).take T.size)[j]? =some v:=by simpa using b
   rw [List.getElem?_take]at e c
   split at e
   ·rename_i o
    rw [if_pos o]at c
    rw [List.getElem?_drop]at e c
    exact m _ s v e (by simpa using c)
   ·cases e
 ·rename_i k
  obtain⟨x,hx,l⟩:=h
  have hlt:off < cs.length:=(List.getElem?_eq_some_iff.1 hx).1
  have b:cur[off]? =some (cur[off]'(by omega)):=Array.getElem?_eq_getElem (by omega)
  exact⟨_,x,λw' f=>jY hT (by simpa using k) w' _ _ (by rw [a w' f];exact b),m off x _ hx b,l⟩
theorem aSx {ti:TypeId->Option TI}(hti:fH P ti) {o:Oper}{t:TypeId}{x:Operand}(ho:o.op= .load t x) {fr:Fr}{hp:Hp}{K:SV->Prop}
  (h:ev fr x λs=>aO0 ti t s hp K):fI P o fr hp K:=by
 intro E ρ a w hm hf
 obtain⟨s,hs,f⟩:=dB h
 have hr:=aV hf hs
 have l: ∀(ad:Addr) v w',a.eval x= .pointer (some ad)->(loadVar t ad).run P w'= .ok v w'->(execOp a.eval o).run P w'= .ok (.value v) w':=by
  intro ad v w' e1 e2
  simp [execOp,ho,Instr.loadAt,e1,Instr.sureAddr,e2]
 unfold aO0 at f
 split at f
 ·exact f.elim
 ·rename_i T N
  obtain⟨d,i,z,N⟩:=aO (hti _ _ N)
  split at f
  ·rename_i id off
   obtain⟨g,L,e⟩:=hr.ptr_inv
   split at f
   ·rename_i t' cs A
    obtain⟨g',p,O,_⟩:=hm.sat id _ A
    rw [L]at p;injection p with p;subst p
    obtain⟨v,s,h1,Y,h3⟩:=aDn N O f
    exact⟨v,s,λw' c=>l _ v w' e (h1 w' (c.o id _ g A L)),Y,h3⟩
   ·rename_i t' cs A
    obtain⟨g',p,O⟩:=hm.sat id _ A
    rw [L]at p;injection p with p;subst p
    obtain⟨v,s,h1,Y,h3⟩:=aDn N O f
    exact⟨v,s,λw' c=>l _ v w' e (h1 w' (c.o id _ g A L)),Y,h3⟩
   ·exact f.elim
  ·rename_i G rows B off
   obtain⟨b,o',C,e⟩:=hr.ea_inv
   obtain⟨m,q,f⟩:=f
   have hrl:=C.hz m (List.mem_of_getElem? q)
   split at f
   ·rename_i Q
    obtain⟨a6,R⟩:=f
    -- the row's cells
    have a5: ∀w',Kept ρ hp w w'-> ∀k v,ρ.S b k->w.cell? ⟨b,k,none⟩=some v->w'.cell? ⟨b,k,none⟩=some v:= λw' c k v hs O=>(c.s b k hs).trans O
    have n: ∀j,j < T.size-> ∃v,w.cell? ⟨b,o'+(B * G+(off+j)),none⟩=some v/\ρ.S b (o'+(B * G+(off+j)))/\ ∀y,m[off+j]? =some y->RepD w ρ.S y v:=by
     intro j U
     have hx:m[off+j]? =some (m[off+j]'(by omega)):=List.getElem?_eq_getElem (by omega)
     obtain⟨v,I,W,_,c4⟩:=C.cell B m (off+j) _ q hx
     exact⟨v,I,W,λy r=>by rw [hx]at r;injection r with r;rw [<-r];exact c4⟩
    let vs:List Value:=(List.range T.size).map λj=>(w.cell? ⟨b,o'+(B * G+(off+j)),none⟩).getD undef
    have V: ∀j v,vs[j]? =some v->j < T.size/\w.cell? ⟨b,o'+(B * G+(off+j)),none⟩=some v:=by
     intro j v U
     simp only [vs,List.getElem?_map,Option.map_eq_some_iff]at U
     obtain⟨j',a7,rfl⟩:=U
     obtain⟨F,he⟩:=List.getElem?_eq_some_iff.1 a7
     simp at F he
     subst he
     obtain⟨v,I,_⟩:=n j F
     exact⟨F,by rw [I];rfl⟩
    refine⟨.agg vs.toArray, .d (.agg ((m.drop off).take T.size)),λw' L=>l _ _ w' e (jZ N Q w' _ vs (by simp [vs]) ?_), .d _ _ (.agg _ _ (by simp [vs];omega) ?_),R⟩
    ·intro j v U
     rw [cW]
     obtain⟨a1,a2⟩:=V j v U
     obtain⟨_,_,a3,_⟩:=n j a1
     have e3:o'+(B * G+off)+j=o'+(B * G+(off+j)):=by omega
     rw [e3]
     exact a5 w' L _ v a3 a2
    ·intro j y v r f
     obtain⟨F,O⟩:=V j v (by simpa using f)
     obtain⟨v',I,_,W⟩:=n j F
     rw [O]at I;injection I with I;subst I
     rw [List.getElem?_take,if_pos F,List.getElem?_drop]at r
     exact W y r
   ·rename_i Q
    obtain⟨y,r,R⟩:=f
    obtain⟨v,I,W,_,c4⟩:=C.cell B m off y q r
    exact⟨v,_,λw' c=>l _ v w' e (jY N (by simpa using Q) w' _ _ ((c.s _ _ W).trans I)), .d _ _ c4,R⟩
  ·rename_i id G B off ver
   split at f
   ·rename_i e' z'' cap rows A
    obtain⟨rfl,hver,m,q,f⟩:=f
    obtain⟨h1,Y⟩:=hm.sat id _ A
    obtain⟨ad,e,_,a4⟩:=hr.mp_inv
    obtain⟨g,L,rfl⟩:=a4 (by omega)
    obtain⟨g',cur,Z,m2,m3,m4,m5⟩:=Y.row q
    rw [L]at Z;injection Z with Z;subst Z
    have H: ∀w':World,Kept ρ hp w w'-> ∀j,w'.cell? ⟨g,j,none⟩=cur[j]? := λw' c j=>cell_of_row w' g j cur e' (0,0) ((c.o id _ g A L).trans m2)
    split at f
    ·rename_i Q
     obtain⟨a6,R⟩:=f
     have hsz:B * G+off+T.size<=cur.size:=by rw [Nat.add_mul]at m4;omega
     refine⟨.agg ((cur.toList.drop (B * G+off)).take T.size).toArray, .d (.agg ((m.drop off).take T.size)),λw' c=>l _ _ w' e (jZ N Q w' _ _ (by simp;omega) ?_), .d _ _ (.agg _ _ (by simp;omega) ?_),R⟩
     ·intro j v D
      rw [cW,H w' c]
      rw [List.getElem?_take]at D
      split at D
      ·rw [List.getElem?_drop]at D;simpa using D
      ·cases D
     ·intro j y v r D
      have M:((cur.toList.drop (B * G+off)).take T.size)[j]? =some v:=by simpa using D
      rw [List.getElem?_take]at r M
      split at r
      ·rename_i U
       rw [if_pos U,List.getElem?_drop]at M
       rw [List.getElem?_drop]at r
       obtain⟨u,u1,u2,_⟩:=m5 (off+j) y r
       have e2:B * G+off+j=B * G+(off+j):=by omega
       rw [e2]at M
       have J:cur[B * G+(off+j)]? =some v:=by simpa using M
       rw [u1]at J;injection J with J;subst J
       exact u2
      ·cases r
    ·rename_i Q
     obtain⟨y,r,R⟩:=f
     obtain⟨u,u1,u2,_⟩:=m5 off y r
     exact⟨u,_,λw' c=>l _ u w' e (jY N (by simpa using Q) w' _ _ (by rw [H w' c];exact u1)), .d _ _ u2,R⟩
   ·exact f.elim
  ·exact f.elim
theorem aSv {o:Oper}{x:Operand}(b:o.op= .move x\/o.op= .assign x) {fr:Fr}{hp:Hp}{K:SV->Prop}(h:ev fr x K):fI P o fr hp K:=by
 intro E ρ a w hm e
 obtain⟨s,c,d⟩:=dB h
 refine⟨a.eval x,s,λw' _=> ?_,aV e c,d⟩
 rcases b with b|b<;>simp [execOp,b]
theorem bA0 {o:Oper}{c x y:Operand}(ho:o.op= .pick c x y) {fr:Fr}{hp:Hp}{K:SV->Prop}
  (h : ev fr c λt => (match t with
   | .d (.bool b)=>brB b (ev fr x K) (ev fr y K)
   |_=>aH "pick: no bool")):fI P o fr hp K:=by
 intro E ρ a w hm i
 obtain⟨t,l,f⟩:=dB h
 have k:=aV i l
 split at f
 ·rename_i b
  have e:=k.bool_inv
  cases b
  ·obtain⟨s,g,j⟩:=dB (aXu f rfl)
   exact⟨a.eval y,s,λw' _=>by simp [execOp,ho,e,asBool],aV i g,j⟩
  ·obtain⟨s,g,j⟩:=dB (aXt f rfl)
   exact⟨a.eval x,s,λw' _=>by simp [execOp,ho,e,asBool],aV i g,j⟩
 ·exact f.elim
def bDc (s:SV) (K:SV->Prop):Prop:=
 match s with
 | .ptr id off=>K (.ptr id off)
 | .ea z rows i off=>K (.ea z rows i off)
 | .mp id z i off ver=>K (.mp id z i off ver)
 | .yld id=>K (.yld id)
 | .fn f a b=>K (.fn f a b)
 | .d (.lit (.func (.func f) a b))=>K (.d (.lit (.func (.func f) a b)))
 |_=>aH "nilCheck"
theorem bC4 {o:Oper}{x:Operand}(ho:o.op= .nilCheck x) {fr:Fr}{hp:Hp}{K:SV->Prop}(h:ev fr x λs=>bDc s K):fI P o fr hp K:=by
 intro E ρ a w hm i
 obtain⟨s,f,d⟩:=dB h
 have c:=aV i f
 refine⟨a.eval x,s,λw' _=> ?_,c, ?_⟩
 ·unfold bDc at d
  split at d
  ·obtain⟨g,_,e⟩:=c.ptr_inv;simp [execOp,ho,e]
  ·obtain⟨b,o',_,e⟩:=c.ea_inv;simp [execOp,ho,e]
  ·obtain⟨ad,e,_⟩:=c.mp_inv;simp [execOp,ho,e]
  ·obtain⟨l,_,e⟩:=c.yld_inv;simp [execOp,ho,e]
  ·obtain⟨fv,cv,e,_⟩:=c.fn_inv;simp [execOp,ho,e]
  ·simp [execOp,ho,c.lit_inv]
  ·exact d.elim
 ·unfold bDc at d
  split at d<;>first|exact d|exact d.elim
def aEh (s:SV) (i:Nat) (K:SV->Prop):Prop:=
 match s with
 | .tup vs=> ∃x,vs[i]? =some x/\K x
 |_=>aH "extract: no tuple"
theorem aP0 {o:Oper}{x:Operand}{i:Nat}(ho:o.op= .extract x i) {fr:Fr}{hp:Hp}{K:SV->Prop}(h:ev fr x λs=>aEh s i K):fI P o fr hp K:=by
 intro E ρ a w hm k
 obtain⟨s,g,c⟩:=dB h
 have j:=aV k g
 unfold aEh at c
 split at c
 ·rename_i cs
  obtain⟨y,d,l⟩:=c
  obtain⟨vs,e,hl,f⟩:=j.tup_inv
  have hlt:=(List.getElem?_eq_some_iff.1 d).1
  have b:vs[i]? =some (vs[i]'(by omega)):=Array.getElem?_eq_getElem (by omega)
  exact⟨_,y,λw' _=>by simp [execOp,ho,e,Instr.extract,b],f i y _ d b,l⟩
 ·exact c.elim
def aQx (ti:TypeId->Option TI) (t:TypeId) (s:SV) (f:Nat) (K:SV->Prop):Prop:=
 match ti t with
 |some { td:= .struct fs, .. }=>
  match fs[f]? with
  |some (ft,off)=>
   match ti ft with
   |some T=>
    match s with
    | .d (.agg cs)=>if T.td.isAgg then off+T.size<=cs.length/\K (.d (.agg ((cs.drop off).take T.size)))else ∃x,cs[off]? =some x/\K (.d x)
    | .agg cs=>if T.td.isAgg then off+T.size<=cs.length/\K (aC7 ((cs.drop off).take T.size))else ∃x,cs[off]? =some x/\K x
    |_=>aH "field: no struct"
   |none=>aH "field: its type"
  |none=>aH "field: no such"
 |_=>aH "field: a struct's type"
theorem rK {d:TypeDesc}{fs:List (TypeId×Nat)}(h:aGv d= .struct fs): ∃gs,d= .struct gs/\fs=gs.toList.map λf=>(f.type,f.offset):=by
 cases d<;>simp [aGv]at h
 exact⟨_,rfl,h.symm⟩
theorem lA {t:TypeId}{T:TI}{d:TypeDesc}{i:TypeInfo}{z:Value}(h:TIok P t T d i z) (w:World) (cs:Array Value) (off:Nat):
  (part t cs off).run P w=if T.td.isAgg then .ok (.agg (cs.extract off (off+T.size))) w else match cs[off]? with|some v=> .ok v w|none=> .halt (.stuck "part: no such cell") w:=by
 simp only [part,Sem.run_bind,h.run_isAgg,Result.andThen_ok]
 cases T.td.isAgg
 ·simp
  cases cs[off]?<;>rfl
 ·simp [h.run_size]
theorem aWm {ti:TypeId->Option TI}(hti:fH P ti) {o:Oper}{t:TypeId}{x:Operand}{f:Nat}(ho:o.op= .field t x f) {fr:Fr}{hp:Hp}{K:SV->Prop}
  (h:ev fr x λs=>aQx ti t s f K):fI P o fr hp K:=by
 intro E ρ a w hm N
 obtain⟨s,I,g⟩:=dB h
 have F:=aV N I
 unfold aQx at g
 split at g
 ·rename_i fs _ _ _ u
  obtain⟨d,i,z,u⟩:=aO (hti _ _ u)
  obtain⟨J,rfl,C⟩:=rK u.td
  split at g
  ·rename_i M off r
   subst C
   simp only [List.getElem?_map,Option.map_eq_some_iff]at r
   obtain⟨H,A,L⟩:=r
   injection L with he1 he2
   have p:J[f]? =some H:=by simpa using A
   split at g
   ·rename_i T l
    obtain⟨d2,i2,z2,l⟩:=aO (hti _ _ l)
    have k: ∀(vs:Array Value) (w':World),a.eval x= .agg vs->(execOp a.eval o).run P w'=((part M vs off).run P w').andThen λv w=> .ok (.value v) w:=by
     intro vs w' e
     simp [execOp,ho,Instr.field,run_underlying u.und,p,e,asAgg,he1,he2]
    split at g
    ·rename_i cs
     obtain⟨vs,e,hl,q⟩:=F.dagg_inv
     split at g
     ·rename_i n
      obtain⟨D,m⟩:=g
      refine⟨_,_,λw' _=>by rw [k vs w' e,lA l];simp only [n,if_true];rfl, .d _ _ (.agg _ _ (by simp<;>omega) ?_),m⟩
      intro j y v c b
      rw [List.getElem?_take]at c
      split at c
      ·rename_i G
       rw [List.getElem?_drop]at c
       refine q (off+j) y v c ?_
       rw [Array.getElem?_extract]at b
       split at b
       ·exact b
       ·cases b
      ·cases c
     ·rename_i n
      obtain⟨y,c,m⟩:=g
      have B:=(List.getElem?_eq_some_iff.1 c).1
      have b:vs[off]? =some (vs[off]'(by omega)):=Array.getElem?_eq_getElem (by omega)
      exact⟨_,_,λw' _=>by rw [k vs w' e,lA l];simp [n,b], .d _ _ (q off y _ c b),m⟩
    ·rename_i cs
     obtain⟨vs,e,hl,q⟩:=F.agg_inv
     split at g
     ·rename_i n
      obtain⟨D,m⟩:=g
      refine⟨_,_,λw' _=>by rw [k vs w' e,lA l];simp only [n,if_true];rfl,oO (by simp<;>omega) ?_,m⟩
      intro j y v c b
      rw [List.getElem?_take]at c
      split at c
      ·rename_i G
       rw [List.getElem?_drop]at c
       refine q (off+j) y v c ?_
       rw [Array.getElem?_extract]at b
       split at b
       ·exact b
       ·cases b
      ·cases c
     ·rename_i n
      obtain⟨y,c,m⟩:=g
      have B:=(List.getElem?_eq_some_iff.1 c).1
      have b:vs[off]? =some (vs[off]'(by omega)):=Array.getElem?_eq_getElem (by omega)
      exact⟨_,_,λw' _=>by rw [k vs w' e,lA l];simp [n,b],q off y _ c b,m⟩
    ·exact g.elim
   ·exact g.elim
  ·exact g.elim
 ·exact g.elim
def wL (ti:TypeId->Option TI) (t:TypeId) (s:SV) (f:Nat) (K:SV->Prop):Prop:=
 match ti t with
 |some { td:= .struct fs, .. }=>
  match fs[f]? with
  |some (ft,off)=>
   match ti ft with
   |some T=>
    if T.size=0 then aH "fieldAddr: a field of no size" else
    match s with
    | .ptr id o=>K (.ptr id (o+off))
    | .ea z rows i o=>K (.ea z rows i (o+off))
    | .mp id z i o ver=>K (.mp id z i (o+off) ver)
    |_=>aH "fieldAddr: no address"
   |none=>aH "fieldAddr: its type"
  |none=>aH "fieldAddr: no such"
 |_=>aH "fieldAddr: a struct's type"
theorem aHm {ti:TypeId->Option TI}(hti:fH P ti) {o:Oper}{t:TypeId}{x:Operand}{f:Nat}(ho:o.op= .fieldAddr t x f) {fr:Fr}{hp:Hp}{K:SV->Prop}
  (h:ev fr x λs=>wL ti t s f K):fI P o fr hp K:=by
 intro E ρ a w hm O
 obtain⟨s,L,c⟩:=dB h
 have G:=aV O L
 unfold wL at c
 split at c
 ·rename_i fs _ _ _ v
  obtain⟨d,i,z,v⟩:=aO (hti _ _ v)
  obtain⟨M,rfl,F⟩:=rK v.td
  split at c
  ·rename_i ft off u
   subst F
   simp only [List.getElem?_map,Option.map_eq_some_iff]at u
   obtain⟨I,A,N⟩:=u
   injection N with he1 he2
   have n:M[f]? =some I:=by simpa using A
   split at c
   ·rename_i T k
    obtain⟨d2,i2,z2,k⟩:=aO (hti _ _ k)
    split at c
    ·exact c.elim
    ·rename_i B
     have j: ∀(y:Addr) (w':World),a.eval x= .pointer (some y)->(execOp a.eval o).run P w'= .ok (.value (.pointer (some (y.add off)))) w':=by
      intro y w' e
      simp [execOp,ho,Instr.fieldAt,run_underlying v.und,n,e,Instr.sureAddr,fieldPlace,he1,he2,k.run_size,B]
     split at c
     ·rename_i id o'
      obtain⟨g,C,e⟩:=G.ptr_inv
      exact⟨_,_,λw' _=>j _ w' e,by rw [cW];exact .ptr id (o'+off) g C,c⟩
     ·rename_i r rows q o'
      obtain⟨b,m,l,e⟩:=G.ea_inv
      refine⟨_,_,λw' _=>j _ w' e, ?_,c⟩
      rw [cW]
      have:=Rep.ea (w:=w) (ρ:=ρ) r rows q (o'+off) b m l
      have e2:m+(q * r+o')+off=m+(q * r+(o'+off)):=by omega
      rw [e2]
      exact this
     ·rename_i id r q o' D
      obtain⟨y,e,H,J⟩:=G.mp_inv
      refine⟨_,_,λw' _=>j _ w' e, .mp id r q (o'+off) D _ H (λp=> ?_),c⟩
      obtain⟨g,C,rfl⟩:=J p
      refine⟨g,C, ?_⟩
      rw [cW]
      congr 1
      omega
     ·exact c.elim
   ·exact c.elim
  ·exact c.elim
 ·exact c.elim
def xJ:SV->Option (Nat×List (List D))
 | .d (.sl z rows)=>some (z,rows)
 | .osl _ z rows=>some (z,rows)
 |_=>none
theorem mA {w:World}{ρ:Env}{s:SV}{v:Value}{z:Nat}{rows:List (List D)}(h:xJ s=some (z,rows)) (hr:Rep w ρ s v):RepD w ρ.S (.sl z rows) v:=by
 unfold xJ at h
 split at h
 ·simp at h;obtain⟨rfl,rfl⟩:=h
  cases hr with|d _ _ h=>exact h
 ·simp at h;obtain⟨rfl,rfl⟩:=h
  cases hr with|osl _ _ _ _ h=>exact h
 ·cases h
def wK (ti:TypeId->Option TI) (t:TypeId) (s i:SV) (K:SV->Prop):Prop:=
 match i with
 | .d (.int _ n)=>
  match ti t with
  |some { td:= .slice e, .. }=>
   match ti e with
   |some T=>
    match s with
    | .msl id z off len=>T.size=z/\0<=n/\n.toNat < len/\K (.ptr id (off+n.toNat * z))
    | .mw id z len=>T.size=z/\0<=n/\n.toNat < len/\K (.mp id z n.toNat 0 len)
    | .ms id z lo len ver=>T.size=z/\0<=n/\n.toNat < len/\K (.mp id z (lo+n.toNat) 0 ver)
    |s=>
     match xJ s with
     |some (z,rows)=>T.size=z/\0<=n/\n.toNat < rows.length/\K (.ea z rows n.toNat 0)
     |none=>aH "indexAddr: no slice"
   |none=>aH "indexAddr: an element's type"
  |some { td:= .array m e, .. }=>
   match ti e with
   |some T=>
    match s with
    | .ptr id off=>0<=n/\n.toNat < m/\K (.ptr id (off+n.toNat * T.size))
    | .ea z rows j off=>0<=n/\n.toNat < m/\K (.ea z rows j (off+n.toNat * T.size))
    | .mp id z j off ver=>0<=n/\n.toNat < m/\K (.mp id z j (off+n.toNat * T.size) ver)
    |_=>aH "indexAddr: no array's address"
   |none=>aH "indexAddr: an element's type"
  |_=>aH "indexAddr: a type"
 |_=>aH "indexAddr: no int"
theorem cK {d:TypeDesc}{e:TypeId}(h:aGv d= .slice e):d= .slice e:=by
 cases d<;>simp [aGv]at h;rw [h]
theorem mQ {d:TypeDesc}{n e:Nat}(h:aGv d= .array n e):d= .array n e:=by
 cases d<;>simp [aGv]at h;rw [h.1,h.2]
theorem iI {t e:TypeId}{T:TI}{d:TypeDesc}{i:TypeInfo}{z:Value}(ht:P.underlying t=some (.slice e)) (he:TIok P e T d i z) (w:World) (ad:Addr) (len cap:Nat) (k:IntKind) (n:Int) (h0:0<=n) (h1:n.toNat < len):
  (Instr.indexAt t (.slice (some ad) len cap) (.int k n)).run P w= .ok (.pointer (some (ad.add (n.toNat * T.size)))) w:=by
 have a:n < (len:Int):=by omega
 simp [Instr.indexAt,asIntOf,run_underlying ht,h0,a,he.run_size]
theorem iJ {t e m:TypeId}{T:TI}{d:TypeDesc}{i:TypeInfo}{z:Value}(ht:P.underlying t=some (.array m e)) (he:TIok P e T d i z) (w:World) (ad:Addr) (k:IntKind) (n:Int) (h0:0<=n) (h1:n.toNat < m):
  (Instr.indexAt t (.pointer (some ad)) (.int k n)).run P w= .ok (.pointer (some (ad.add (n.toNat * T.size)))) w:=by
 have a:n < (m:Int):=by omega
 simp [Instr.indexAt,asIntOf,run_underlying ht,h0,a,he.run_size,Instr.sureAddr]
theorem aHl {ti:TypeId->Option TI}(hti:fH P ti) {o:Oper}{t:TypeId}{x y:Operand}(ho:o.op= .indexAddr t x y) {fr:Fr}{hp:Hp}{K:SV->Prop}
  (h:ev fr x λs=>ev fr y λi=>wK ti t s i K):fI P o fr hp K:=by
 intro E ρ a w hm Y
 obtain⟨s,hs,L⟩:=dB h
 obtain⟨ix,R,l⟩:=dB L
 clear L
 have I:=aV Y hs
 have W:=aV Y R
 unfold wK at l
 split at l
 ·rename_i k n
  have ei:=W.int_inv
  have f: ∀u v w',a.eval x=u->(Instr.indexAt t u (.int k n)).run P w'= .ok v w'->(execOp a.eval o).run P w'= .ok (.value v) w':=by
   intro u v w' e1 e2
   simp [execOp,ho,e1,ei,e2]
  split at l
  ·rename_i e _ _ _ B
   obtain⟨d,i,z,B⟩:=aO (hti _ _ B)
   have S:=cK B.td
   subst S
   split at l
   ·rename_i T c
    obtain⟨d2,i2,z2,c⟩:=aO (hti _ _ c)
    split at l
    ·rename_i id F off len
     obtain⟨hz,D,r,C⟩:=l
     obtain⟨g,cap,O,e1,_⟩:=I.msl_inv
     refine⟨_,_,λw' _=>f _ _ w' e1 (iI B.und c w' _ _ _ k n D r), ?_,C⟩
     rw [cW,hz]
     exact .ptr id _ g O
    ·rename_i id F len
     obtain⟨hz,D,r,C⟩:=l
     obtain⟨A,cap,e1,hn,hc,M,N,Q⟩:=I.mw_inv
     obtain⟨g,rfl⟩:=M (by omega)
     refine⟨_,_,λw' _=>f _ _ w' e1 (iI B.und c w' _ _ _ k n D r), .mp id F n.toNat 0 len _ N (λp=>⟨g, ?_, ?_⟩),C⟩
     ·rw [<-Q p,e1]
      have:cap≠0:=by omega
      simp [gB,this]
     ·rw [cW,hz]
      congr 1
      omega
    ·rename_i id F lo len G
     obtain⟨hz,D,r,C⟩:=l
     obtain⟨A,cap,e1,hn,hc,M,N,Q⟩:=I.ms_inv
     obtain⟨ad,rfl⟩:=M (by omega)
     refine⟨_,_,λw' _=>f _ _ w' e1 (iI B.und c w' _ _ _ k n D r), .mp id F (lo+n.toNat) 0 G _ N (λp=> ?_),C⟩
     obtain⟨A0,l0,c0,p1,p2,p3,p4,A',Z,p6⟩:=Q p
     obtain⟨g,rfl⟩:=p4 (by omega)
     rw [e1]at Z
     injection Z with p7 p8 p9
     have J:=p6 (by omega)
     rw [<-p7]at J
     simp only [Option.map_some,Option.some.injEq,cW]at J
     refine⟨g, ?_, ?_⟩
     ·rw [p1]
      have:c0≠0:=by omega
      simp [gB,this]
     ·rw [J,cW,hz]
      congr 1
      rw [Nat.add_mul];omega
    ·split at l
     ·rename_i F rows H
      obtain⟨hz,D,r,C⟩:=l
      obtain⟨A,cap,b,off,e1,_,_,M,q⟩:=(mA H I).of_sl
      have V:rows≠[]:=by rintro rfl;simp at r
      have U:=M V
      subst U
      refine⟨_,_,λw' _=>f _ _ w' e1 (iI B.und c w' _ _ _ k n D r), ?_,C⟩
      rw [cW,hz]
      exact .ea F rows n.toNat 0 b off q
     ·exact l.elim
   ·exact l.elim
  ·rename_i m e _ _ _ B
   obtain⟨d,i,z,B⟩:=aO (hti _ _ B)
   have S:=mQ B.td
   subst S
   split at l
   ·rename_i T c
    obtain⟨d2,i2,z2,c⟩:=aO (hti _ _ c)
    split at l
    ·rename_i id off
     obtain⟨D,r,C⟩:=l
     obtain⟨g,O,e1⟩:=I.ptr_inv
     refine⟨_,_,λw' _=>f _ _ w' e1 (iJ B.und c w' _ k n D r), ?_,C⟩
     rw [cW]
     exact .ptr id _ g O
    ·rename_i F rows j off
     obtain⟨D,r,C⟩:=l
     obtain⟨b,o',q,e1⟩:=I.ea_inv
     refine⟨_,_,λw' _=>f _ _ w' e1 (iJ B.und c w' _ k n D r), ?_,C⟩
     rw [cW]
     have e2:o'+(j * F+off)+n.toNat * T.size=o'+(j * F+(off+n.toNat * T.size)):=by omega
     rw [e2]
     exact .ea F rows j _ b o' q
    ·rename_i id F j off G
     obtain⟨D,r,C⟩:=l
     obtain⟨ad,e1,N,Q⟩:=I.mp_inv
     refine⟨_,_,λw' _=>f _ _ w' e1 (iJ B.und c w' _ k n D r), .mp id F j _ G _ N (λp=> ?_),C⟩
     obtain⟨g,O,rfl⟩:=Q p
     refine⟨g,O, ?_⟩
     rw [cW]
     congr 1
     omega
    ·exact l.elim
   ·exact l.elim
  ·exact l.elim
 ·exact l.elim
def aQw (ti:TypeId->Option TI) (t:TypeId) (s i:SV) (K:SV->Prop):Prop:=
 match i with
 | .d (.int _ n)=>
  match ti t with
  |some { td:= .string, .. }=>
   match s with
   | .d (.str l)=>0<=n/\ ∃h:n.toNat < l.length,K (.d (.int .u8 (l[n.toNat]'h).toNat))
   |_=>aH "index: no string"
  |some { td:= .array m e, .. }=>
   match ti e with
   |some T=>
    match s with
    | .d (.agg cs)=>if T.td.isAgg then (0<=n/\n.toNat < m/\n.toNat * T.size+T.size<=cs.length/\K (.d (.agg ((cs.drop (n.toNat * T.size)).take T.size))))else (0<=n/\n.toNat < m/\ ∃x,cs[n.toNat * T.size]? =some x/\K (.d x))
    |_=>aH "index: no array"
   |none=>aH "index: an element's type"
  |_=>aH "index: a type"
 |_=>aH "index: no int"
theorem iB {d:TypeDesc}(h:aGv d= .string):d= .string:=by
 cases d<;>simp [aGv]at h;rfl
theorem aWl {ti:TypeId->Option TI}(hti:fH P ti) {o:Oper}{t:TypeId}{x y:Operand}(ho:o.op= .index t x y) {fr:Fr}{hp:Hp}{K:SV->Prop}
  (h:ev fr x λs=>ev fr y λi=>aQw ti t s i K):fI P o fr hp K:=by
 intro E ρ a w hm M
 obtain⟨s,N,r⟩:=dB h
 obtain⟨ix,H,b⟩:=dB r
 clear r
 have L:=aV M N
 have F:=aV M H
 unfold aQw at b
 split at b
 ·rename_i k n
  have B:=F.int_inv
  split at b
  ·rename_i g
   obtain⟨d,i,z,g⟩:=aO (hti _ _ g)
   have I:=iB g.td
   subst I
   split at b
   ·rename_i l
    obtain⟨u,C,q⟩:=b
    obtain⟨e,_⟩:=L.str_inv
    refine⟨_,_,λw' _=> ?_, .d _ _ (.int _ _),q⟩
    have D:n.toNat < (⟨l.toArray⟩:ByteArray).size:=by simpa [ByteArray.size]using C
    have A:n < ((⟨l.toArray⟩:ByteArray).size:Int):=by omega
    have:=run_index_string (P:=P) (w:=w') t ⟨l.toArray⟩ k n g.und
    rw [dif_pos ⟨u,A⟩]at this
    simp only [execOp,ho,e,B,Sem.run_bind,this,Result.andThen_ok]
    rfl
   ·exact b.elim
  ·rename_i m e _ _ _ g
   obtain⟨d,i,z,g⟩:=aO (hti _ _ g)
   have I:=mQ g.td
   subst I
   split at b
   ·rename_i T f
    obtain⟨d2,i2,z2,f⟩:=aO (hti _ _ f)
    split at b
    ·rename_i cs
     obtain⟨vs,e1,hl,J⟩:=L.dagg_inv
     cases ha:T.td.isAgg
     ·rw [ha,if_neg (by decide)]at b
      obtain⟨u,C,O,p,q⟩:=b
      have D:=(List.getElem?_eq_some_iff.1 p).1
      have c:vs[n.toNat * T.size]? =some (vs[n.toNat * T.size]'(by omega)):=Array.getElem?_eq_getElem (by omega)
      have G:n < (m:Int):=by omega
      refine⟨_,_,λw' _=> ?_, .d _ _ (J _ O _ p c),q⟩
      simp [execOp,ho,e1,B,Instr.index,asIntOf,run_underlying g.und,u,G,f.run_size,lA f,ha,c]
     ·rw [ha,if_pos rfl]at b
      obtain⟨u,C,hle,q⟩:=b
      have G:n < (m:Int):=by omega
      refine⟨.agg (vs.extract (n.toNat * T.size) (n.toNat * T.size+T.size)),_,λw' _=> ?_, .d _ _ (.agg _ _ (by simp<;>omega) ?_),q⟩
      ·simp [execOp,ho,e1,B,Instr.index,asIntOf,run_underlying g.und,u,G,f.run_size,lA f,ha]
      ·intro j y v p c
       rw [List.getElem?_take]at p
       split at p
       ·rename_i hj
        rw [List.getElem?_drop]at p
        refine J (n.toNat * T.size+j) y v p ?_
        rw [Array.getElem?_extract]at c
        split at c
        ·exact c
        ·cases c
       ·cases p
    ·exact b.elim
   ·exact b.elim
  ·exact b.elim
 ·exact b.elim
end
section
variable {P:Program}
def aJ8 (k:IntKind) (r:Int) (K:SV->Prop):Prop:=
 match k with
 | .i64=>(-9223372036854775808<=r/\r<=9223372036854775807)/\K (.d (.int .i64 r))
 | .i32=>(-2147483648<=r/\r<=2147483647)/\K (.d (.int .i32 r))
 |k=>K (.d (.int k (k.wrap r)))
theorem sB {k:IntKind}{r:Int}{K:SV->Prop}(h:aJ8 k r K):K (.d (.int k (k.wrap r))):=by
 cases k<;>simp only [aJ8]at h<;>first|exact h|(rw [IntWalk.i64_in r h.1];exact h.2)|(rw [IntWalk.i32_in r h.1];exact h.2)
def aMs (op:BinOp) (k:IntKind) (a:Int) (k':IntKind) (b:Int) (K:SV->Prop):Prop:=
 match op with
 | .shl=>0<=b/\K (.d (.int k (k.wrap (a * 2 ^ (min b.toNat k.bits)))))
 | .shr=>0<=b/\K (.d (.int k (a.fdiv (2 ^ (min b.toNat k.bits)))))
 |op=>
  if k=k' then
   match op with
   | .add=>aJ8 k (a+b) K
   | .sub=>aJ8 k (a - b) K
   | .mul=>aJ8 k (a * b) K
   | .quo=>b≠0/\aJ8 k (a.tdiv b) K
   | .rem=>b≠0/\K (.d (.int k (a.tmod b)))
   | .and=>K (.d (.int k (bits .and k a b)))
   | .or=>K (.d (.int k (bits .or k a b)))
   | .xor=>K (.d (.int k (bits .xor k a b)))
   | .andNot=>K (.d (.int k (bits .andNot k a b)))
   | .eql=>K (.d (.bool (decide (a=b))))
   | .neq=>K (.d (.bool (!decide (a=b))))
   | .lss=>K (.d (.bool (decide (a < b))))
   | .leq=>K (.d (.bool (decide (a<=b))))
   | .gtr=>K (.d (.bool (decide (b < a))))
   | .geq=>K (.d (.bool (decide (b<=a))))
   |_=>aH "binOp: ints"
  else aH "binOp: kinds"
def aLu (op:BinOp) (a b:List UInt8) (K:SV->Prop):Prop:=
 match op with
 | .add=>a.length+b.length<=9223372036854775807/\K (.d (.str (a++b)))
 | .eql=>K (.d (.bool (decide (a=b))))
 | .neq=>K (.d (.bool (!decide (a=b))))
 | .lss=>K (.d (.bool (Op.bytesLess a b)))
 | .leq=>K (.d (.bool (Op.bytesLess a b || decide (a=b))))
 | .gtr=>K (.d (.bool (!(Op.bytesLess a b || decide (a=b)))))
 | .geq=>K (.d (.bool (!Op.bytesLess a b)))
 |_=>aH "binOp: strings"
def aIh:TD->D->D->Option Bool
 | .int _, .int k a, .int k' b=>if k=k' then some (decide (a=b))else none
 | .bool, .bool a, .bool b=>some (a==b)
 | .string, .str a, .str b=>some (decide (a=b))
 |_,_,_=>none
def bCn (ti:TypeId->Option TI) (xs ys:List D):List (TypeId×Nat)->Option Bool
 | []=>some true
 |(ft,off)::r=>
  match ti ft with
  |some T=>
   if T.td.isAgg then none else
   match xs[off]? with
   |some x=>
    match ys[off]? with
    |some y=>
     match aIh T.td x y with
     |some c=>match bCn ti xs ys r with|some b=>some (c && b)|none=>none
     |none=>none
    |none=>none
   |none=>none
  |none=>none
def bEu (P:Program) (t:TypeId):Bool:=
 !P.stoodInHeld t && !P.eqGuardType P.depth t && (match P.underlying t with|some (.struct fs)=>fs.toList.all (·.name != "_")|_=>false)
def aYu (P:Program) (ti:TypeId->Option TI) (op:BinOp) (t:TypeId) (xs ys:List D) (K:SV->Prop):Prop:=
 match ti t with
 |some { td:= .struct fs, .. }=>
  bEu P t=true/\
  match bCn ti xs ys fs with
  |some b=>(match op with| .eql=>K (.d (.bool b))| .neq=>K (.d (.bool (!b)))|_=>aH "binOp: structs")
  |none=>aH "binOp: fields"
 |_=>aH "binOp: a struct's type"
def bEl (x:SV) (K:Bool->Prop):Prop:=
 match x with
 | .d .nil=>K true
 | .d (.sl _ rows)=> ∀b:Bool,(b=true->rows=[])->K b
 | .osl _ _ rows=> ∀b:Bool,(b=true->rows=[])->K b
 | .mw _ _ n=> ∀b:Bool,(b=true->n=0)->K b
 | .zc=> ∀b:Bool,K b
 |_=>aH "nil: no slice"
theorem bA3 {w:World}{ρ:Env}{x:SV}{v:Value}{K:Bool->Prop}(h:bEl x K) (hr:Rep w ρ x v): ∃A n c,v= .slice A n c/\K A.isNone:=by
 unfold bEl at h
 split at h
 ·exact⟨none,0,0,hr.nil_inv,h⟩
 ·rename_i z rows
  cases hr with
  |d _ _ hd=>
   obtain⟨A,cap,b,off,e,_,_,i,_⟩:=hd.of_sl
   refine⟨A,_,cap,e,h _ λf=> ?_⟩
   by_cases a:rows=[]
   ·exact a
   ·rw [i a]at f;cases f
 ·rename_i z rows
  obtain⟨A,cap,b,off,e,_,_,i,_⟩:=hr.osl_inv.1.of_sl
  refine⟨A,_,cap,e,h _ λf=> ?_⟩
  by_cases a:rows=[]
  ·exact a
  ·rw [i a]at f;cases f
 ·rename_i id z n
  obtain⟨A,cap,e,_,_,i,_⟩:=hr.mw_inv
  refine⟨A,n,cap,e,h _ λf=> ?_⟩
  by_cases a:n=0
  ·exact a
  ·obtain⟨g,rfl⟩:=i a;cases f
 ·obtain⟨A,e⟩:=hr.zc_inv
  exact⟨A,0,0,e,h _⟩
 ·exact h.elim
theorem aJx (w:World) {t e:TypeId}(A:Option Addr) (n c:Nat) (ht:P.underlying t=some (.slice e)):(binOp .eql t (.slice A n c) (.slice none 0 0)).run P w= .ok (.bool A.isNone) w:=by
 have h: ∀d:Nat,(Op.equalIn (d+1) t (.slice A n c) (.slice none 0 0)).run P w= .ok A.isNone w:= λd=>by
  cases A<;>simp [Op.equalIn,run_underlying ht]
 simp only [binOp]
 simp [Op.equal,Op.maxDepth,h 9999]
theorem aJw (w:World) {t e:TypeId}(A:Option Addr) (n c:Nat) (ht:P.underlying t=some (.slice e)):(binOp .neq t (.slice A n c) (.slice none 0 0)).run P w= .ok (.bool (!A.isNone)) w:=by
 have h: ∀d:Nat,(Op.equalIn (d+1) t (.slice A n c) (.slice none 0 0)).run P w= .ok A.isNone w:= λd=>by
  cases A<;>simp [Op.equalIn,run_underlying ht]
 simp only [binOp]
 simp [Op.equal,Op.maxDepth,h 9999]
theorem vL (op:BinOp) (t:TypeId) (x y:Operand) (A B:Option Addr) (n c n' c':Nat) (w:World):(eqGuard op t x y (.slice A n c) (.slice B n' c')).run P w= .ok () w:=by
 cases op<;>simp [eqGuard]
def bDy (P:Program) (ti:TypeId->Option TI) (op:BinOp) (t:TypeId) (x y:SV) (K:SV->Prop):Prop:=
 match x,y with
 | .d (.int k a), .d (.int k' b)=>aMs op k a k' b K
 | .d (.str a), .d (.str b)=>aLu op a b K
 | .d (.bool a), .d (.bool b)=>
  (match ti t with
  |some { td:= .bool, .. }=>(match op with| .eql=>K (.d (.bool (a==b)))| .neq=>K (.d (.bool (!(a==b))))|_=>aH "binOp: bools")
  |_=>aH "binOp: a bool's type")
 | .d (.agg xs), .d (.agg ys)=>aYu P ti op t xs ys K
 |x, .d .nil=>
  (match ti t with
  |some { td:= .slice _, .. }=>bEl x λb=>(match op with| .eql=>K (.d (.bool b))| .neq=>K (.d (.bool (!b)))|_=>aH "binOp: slices")
  |_=>aH "binOp: a slice's type")
 |_,_=>aH "binOp"
theorem bool_inv {d:TypeDesc}(h:aGv d= .bool):d= .bool:=by
 cases d<;>simp [aGv]at h;rfl
theorem mY {d:TypeDesc}{k:IntKind}(h:aGv d= .int k):d= .int k:=by
 cases d<;>simp [aGv]at h;rw [h]
theorem aBd (op:BinOp) (t:TypeId) (x y:Operand) (k k':IntKind) (a b:Int) (w:World):(eqGuard op t x y (.int k a) (.int k' b)).run P w= .ok () w:=by
 cases op<;>simp [eqGuard]
theorem aBc (op:BinOp) (t:TypeId) (x y:Operand) (a b:ByteArray) (w:World):(eqGuard op t x y (.string a) (.string b)).run P w= .ok () w:=by
 cases op<;>simp [eqGuard]
theorem xS (op:BinOp) (t:TypeId) (x y:Operand) (a b:Bool) (w:World):(eqGuard op t x y (.bool a) (.bool b)).run P w= .ok () w:=by
 cases op<;>simp [eqGuard]
theorem aD4 {op:BinOp}{k k':IntKind}{a b:Int}{K:SV->Prop}(t:TypeId) (h:aMs op k a k' b K): ∃v x,(∀w,(binOp op t (.int k a) (.int k' b)).run P w= .ok v w)/\K (.d x)/\(∀w S,RepD w S x v):=by
 unfold aMs at h
 split at h
 ·obtain⟨g,f⟩:=h
  have c:¬ b < 0:=by omega
  exact⟨_,_,λw=>by simp [binOp,Op.shift,c],f,λw S=> .int _ _⟩
 ·obtain⟨g,f⟩:=h
  have c:¬ b < 0:=by omega
  exact⟨_,_,λw=>by simp [binOp,Op.shift,c],f,λw S=> .int _ _⟩
 ·rename_i h1 h2
  split at h
  ·rename_i e
   subst e
   split at h
   ·exact⟨_,_,λw=>by simp [binOp,Op.intArith],sB h,λw S=> .int _ _⟩
   ·exact⟨_,_,λw=>by simp [binOp,Op.intArith],sB h,λw S=> .int _ _⟩
   ·exact⟨_,_,λw=>by simp [binOp,Op.intArith],sB h,λw S=> .int _ _⟩
   ·exact⟨_,_,λw=>by simp [binOp,Op.intDiv,h.1],sB h.2,λw S=> .int _ _⟩
   ·exact⟨_,_,λw=>by simp [binOp,Op.intDiv,h.1],h.2,λw S=> .int _ _⟩
   ·exact⟨_,_,λw=>by simp [binOp,intBits_and],h,λw S=> .int _ _⟩
   ·exact⟨_,_,λw=>by simp [binOp,intBits_or],h,λw S=> .int _ _⟩
   ·exact⟨_,_,λw=>by simp [binOp,intBits_xor],h,λw S=> .int _ _⟩
   ·exact⟨_,_,λw=>by simp [binOp,intBits_andNot],h,λw S=> .int _ _⟩
   ·exact⟨_,_,λw=>by simp [binOp,Op.intCmp];rfl,h,λw S=> .bool _⟩
   ·exact⟨_,_,λw=>by simp [binOp,Op.intCmp];rfl,h,λw S=> .bool _⟩
   ·exact⟨_,_,λw=>by simp [binOp,Op.intCmp],h,λw S=> .bool _⟩
   ·exact⟨_,_,λw=>by simp [binOp,Op.intCmp],h,λw S=> .bool _⟩
   ·exact⟨_,_,λw=>by simp [binOp,Op.intCmp],h,λw S=> .bool _⟩
   ·exact⟨_,_,λw=>by simp [binOp,Op.intCmp],h,λw S=> .bool _⟩
   ·exact h.elim
  ·exact h.elim
theorem lX (l:List UInt8):(⟨l.toArray⟩:ByteArray).toList=l:=by rw [ByteArray.toList_eq]
theorem xC (a b:List UInt8):(a==b)=decide (a=b):=by
 by_cases h:a=b<;>simp [h]
theorem aD3 {op:BinOp}{a b:List UInt8}{K:SV->Prop}(t:TypeId) (h:aLu op a b K): ∃v x,(∀w,(binOp op t (.string ⟨a.toArray⟩) (.string ⟨b.toArray⟩)).run P w= .ok v w)/\K (.d x)/\(∀w S,RepD w S x v):=by
 have c:=lX a
 have f:=lX b
 unfold aLu at h
 split at h
 ·obtain⟨h1,i⟩:=h
  have e:(⟨a.toArray⟩:ByteArray)++(⟨b.toArray⟩:ByteArray)=⟨(a++b).toArray⟩:=by
   apply ByteArray.ext
   simp
  refine⟨_,_,λw=> ?_,i,λw S=> .str _ (by simp only [maxLen,List.length_append];omega)⟩
  rw [<-e]
  have g: ∀l:List UInt8,(⟨l.toArray⟩:ByteArray).size=l.length:= λl=>rfl
  simp [binOp,Op.stringOp,g]
  omega
 ·exact⟨_,_,λw=>by simp [binOp,Op.stringOp,c,f,xC],h,λw S=> .bool _⟩
 ·exact⟨_,_,λw=>by simp [binOp,Op.stringOp,c,f,xC],h,λw S=> .bool _⟩
 ·exact⟨_,_,λw=>by simp [binOp,Op.stringOp,c,f],h,λw S=> .bool _⟩
 ·exact⟨_,_,λw=>by simp [binOp,Op.stringOp,c,f,xC],h,λw S=> .bool _⟩
 ·exact⟨_,_,λw=>by simp only [binOp,Op.stringOp,c,f,xC];rfl,h,λw S=> .bool _⟩
 ·exact⟨_,_,λw=>by simp [binOp,Op.stringOp,c,f],h,λw S=> .bool _⟩
 ·exact h.elim
theorem aD5 {td:TD}{x y:D}{c:Bool}(h:aIh td x y=some c) {w:World}{S:Nat->Nat->Prop}{u v:Value}(hx:RepD w S x u) (hy:RepD w S y v) {t:TypeId}{T:TI}{dd:TypeDesc}{i:TypeInfo}{z:Value}(hT:TIok P t T dd i z)
  (htd:T.td=td) (d:Nat) (w':World):(Op.equalIn (d+1) t u v).run P w'= .ok c w':=by
 have f:=hT.td
 rw [htd]at f
 unfold aIh at h
 split at h
 ·rename_i k1 k a k' b
  cases hx;cases hy
  split at h
  ·rename_i e
   subst e
   have:=mY f
   subst this
   rw [run_equalIn_int w' d t _ _ _ _ hT.und]
   injection h with h
   rw [<-h]
   rfl
  ·cases h
 ·cases hx;cases hy
  injection h with h
  have:=bool_inv f
  subst this
  rw [<-h]
  exact run_equalIn_bool' w' d t _ _ hT.und
 ·cases hx;cases hy
  injection h with h
  have:=iB f
  subst this
  rw [run_equalIn_string w' d t _ _ hT.und,lX,lX,xC,h]
 ·cases h
theorem aVu {ti:TypeId->Option TI}(hti:fH P ti) {w:World}{S:Nat->Nat->Prop}{xs ys:List D}{us vs:Array Value}(hxl:us.size=xs.length) (hyl:vs.size=ys.length)
  (hx: ∀(j:Nat) (x:D) (u:Value),xs[j]? =some x->us[j]? =some u->RepD w S x u) (hy: ∀(j:Nat) (x:D) (u:Value),ys[j]? =some x->vs[j]? =some u->RepD w S x u) (d:Nat) (w':World):
  ∀(e:List Field) (b:Bool),(∀f∈e,f.name≠ "_")->bCn ti xs ys (e.map λf=>(f.type,f.offset))=some b->(Op.eqFields (d+1) us vs e).run P w'= .ok b w':=by
 intro e
 induction e with
 |nil=>intro b _ h;simp [bCn]at h;subst h;simp [Op.eqFields]
 |cons f r ih=>
  intro b t h
  simp only [List.map_cons,bCn]at h
  split at h
  ·rename_i T m
   obtain⟨dd,i,z,m⟩:=aO (hti _ _ m)
   split at h
   ·cases h
   ·rename_i B
    split at h
    ·rename_i x l
     split at h
     ·rename_i y k
      split at h
      ·rename_i c A
       split at h
       ·rename_i v o
        injection h with h
        have hlx:=(List.getElem?_eq_some_iff.1 l).1
        have hly:=(List.getElem?_eq_some_iff.1 k).1
        have q:us[f.offset]? =some (us[f.offset]'(by omega)):=Array.getElem?_eq_getElem (by omega)
        have s:vs[f.offset]? =some (vs[f.offset]'(by omega)):=Array.getElem?_eq_getElem (by omega)
        have C:=aD5 (P:=P) A (hx _ x _ l q) (hy _ y _ k s) m rfl d w'
        have a:=ih v (λg E=>t g (by simp [E])) o
        have n:T.td.isAgg=false:=by simpa using B
        have p:f.name≠ "_" :=t f (by simp)
        simp only [Op.eqFields,p,ne_eq,not_false_eq_true,if_true,Sem.run_bind,lA m,n,Bool.false_eq_true,if_false,q,s,Result.andThen_ok,C]
        cases c
        ·simp at h;subst h;simp
        ·simp at h;subst h;simpa using a
       ·cases h
      ·cases h
     ·cases h
    ·cases h
  ·cases h
theorem bC7 {ti:TypeId->Option TI}(hti:fH P ti) {o:Oper}{op:BinOp}{t t':TypeId}{x y:Operand}(ho:o.op= .binOp op t x y t') {fr:Fr}{hp:Hp}{K:SV->Prop}
  (h:ev fr x λs=>ev fr y λr=>bDy P ti op t s r K):fI P o fr hp K:=by
 intro E ρ a w hm T
 obtain⟨s,V,u⟩:=dB h
 obtain⟨r,W,f⟩:=dB u
 clear u
 have m:=aV T V
 have p:=aV T W
 unfold bDy at f
 split at f
 ·obtain⟨v,q,H,D,L⟩:=aD4 (P:=P) t f
  exact⟨v,_,λw' _=>by simp [execOp,ho,m.int_inv,p.int_inv,aBd,H], .d _ _ (L w ρ.S),D⟩
 ·obtain⟨v,q,H,D,L⟩:=aD3 (P:=P) t f
  exact⟨v,_,λw' _=>by simp [execOp,ho,m.str_inv.1,p.str_inv.1,aBc,H], .d _ _ (L w ρ.S),D⟩
 ·rename_i b c
  split at f
  ·rename_i g
   obtain⟨d,i,z,g⟩:=aO (hti _ _ g)
   have O:=bool_inv g.td
   subst O
   split at f
   ·exact⟨_,_,λw' _=>by simp [execOp,ho,m.bool_inv,p.bool_inv,xS,run_eql_bool w' t b c g.und], .d _ _ (.bool _),f⟩
   ·exact⟨_,_,λw' _=>by simp [execOp,ho,m.bool_inv,p.bool_inv,xS,run_neq_bool w' t b c g.und], .d _ _ (.bool _),f⟩
   ·exact f.elim
  ·exact f.elim
 ·rename_i xs ys
  obtain⟨I,e1,M,F⟩:=m.dagg_inv
  obtain⟨vs,e2,N,G⟩:=p.dagg_inv
  unfold aYu at f
  split at f
  ·rename_i fs _ _ _ g
   obtain⟨d,i,z,g⟩:=aO (hti _ _ g)
   obtain⟨Q,rfl,J⟩:=rK g.td
   obtain⟨j,f⟩:=f
   unfold bEu at j
   rw [g.und]at j
   simp only [Bool.and_eq_true,Bool.not_eq_true',List.all_eq_true,bne_iff_ne]at j
   obtain⟨⟨Y,R⟩,U⟩:=j
   subst J
   split at f
   ·rename_i b hb
    have B:P.fieldsOf t=Q:=by simp [Program.fieldsOf,g.und]
    have k:= λw'=>aVu (P:=P) hti M N F G 9998 w' Q.toList b U hb
    have l:= λw'=>run_equalIn_struct (P:=P) w' 9999 t I vs (by rw [B];exact g.und) Y
    rw [B]at l
    split at f
    ·refine⟨_,_,λw' _=> ?_, .d _ _ (.bool _),f⟩
     simp only [execOp,ho,e1,e2,Sem.run_bind,run_eqGuard_agg w' _ t x y I vs R,Result.andThen_ok,run_eql_struct,l,k]
     rfl
    ·refine⟨_,_,λw' _=> ?_, .d _ _ (.bool _),f⟩
     simp only [execOp,ho,e1,e2,Sem.run_bind,run_eqGuard_agg w' _ t x y I vs R,Result.andThen_ok,run_neq_struct,l,k]
     rfl
    ·exact f.elim
   ·exact f.elim
  ·exact f.elim
 ·split at f
  ·rename_i e _ _ _ g
   obtain⟨d,i,z,g⟩:=aO (hti _ _ g)
   have O:=cK g.td
   subst O
   obtain⟨A,n,c,e1,C⟩:=bA3 f m
   have e2:=p.nil_inv
   split at C
   ·exact⟨_,_,λw' _=>by simp [execOp,ho,e1,e2,vL,aJx w' A n c g.und], .d _ _ (.bool _),C⟩
   ·exact⟨_,_,λw' _=>by simp [execOp,ho,e1,e2,vL,aJw w' A n c g.und], .d _ _ (.bool _),C⟩
   ·exact C.elim
  ·exact f.elim
 ·exact f.elim
def vUn (op:UnOp) (x:SV) (K:SV->Prop):Prop:=
 match op,x with
 | .not, .d (.bool b)=>K (.d (.bool (!b)))
 | .neg, .d (.int k n)=>aJ8 k (0 - n) K
 | .xor, .d (.int k n)=>K (.d (.int k (bits .xor k (if k.signed then -1 else k.max) n)))
 |_,_=>aH "unOp"
theorem bEj {o:Oper}{op:UnOp}{t:TypeId}{x:Operand}(ho:o.op= .unOp op t x) {fr:Fr}{hp:Hp}{K:SV->Prop}
  (h:ev fr x λs=>vUn op s K):fI P o fr hp K:=by
 intro E ρ a w hm f
 obtain⟨s,e,b⟩:=dB h
 have c:=aV f e
 unfold vUn at b
 split at b
 ·exact⟨_,_,λw' _=>by simp [execOp,ho,c.bool_inv,Op.unary], .d _ _ (.bool _),b⟩
 ·exact⟨_,_,λw' _=>by simp [execOp,ho,c.int_inv,Op.unary,Op.intArith], .d _ _ (.int _ _),sB b⟩
 ·exact⟨_,_,λw' _=>by simp [execOp,ho,c.int_inv,Op.unary,intBits_xor], .d _ _ (.int _ _),b⟩
 ·exact b.elim
def evL (fr:Fr):List Operand->Option (List SV)
 | []=>some []
 |x::r=>match evO fr x with
  |some s=>match evL fr r with|some l=>some (s::l)|none=>none
  |none=>none
theorem aBb {ρ:Env}{w:World}{fr:Fr}{a:Act}(hf:dV ρ w fr a.tmps): ∀(xs:List Operand) (l:List SV),evL fr xs=some l->xs.length=l.length/\ ∀(j:Nat) (s:SV) (v:Value),l[j]? =some s->(xs.map a.eval)[j]? =some v->Rep w ρ s v:=by
 intro xs
 induction xs with
 |nil=>intro l h;simp [evL]at h;subst h;simp
 |cons x r ih=>
  intro l h
  simp only [evL]at h
  split at h
  ·rename_i s e
   split at h
   ·rename_i k d
    simp at h
    subst h
    obtain⟨g,f⟩:=ih k d
    refine⟨by simp [g],λj i v b c=> ?_⟩
    cases j with
    |zero=>simp at b c;subst b;subst c;exact aV hf e
    |succ j=>simp at b c;exact f j i v b (by simpa using c)
   ·cases h
  ·cases h
theorem bEk {o:Oper}{f:FuncId}{first cap:Array Operand}(ho:o.op= .makeFunc (.func f) first cap) {fr:Fr}{hp:Hp}{K:SV->Prop}
  (h : match evL fr first.toList with
   |some l=>(match evL fr cap.toList with|some m=>K (.fn f l m)|none=>aH "makeFunc")
   |none=>aH "makeFunc"):fI P o fr hp K:=by
 intro E ρ a w hm e
 split at h
 ·rename_i l hl
  split at h
  ·rename_i m b
   obtain⟨i,g⟩:=aBb e _ _ hl
   obtain⟨n,k⟩:=aBb e _ _ b
   refine⟨.func (.func f) (first.map a.eval) (cap.map a.eval),_,λw' _=>by simp [execOp,ho,Instr.makeFunc], .fn f l m _ _ (by simpa using i) (by simpa using n) (λj s v d c=>g j s v d ?_) (λj s v d c=>k j s v d ?_),h⟩
   ·rw [<-Array.toList_map];simpa using c
   ·rw [<-Array.toList_map];simpa using c
  ·exact h.elim
 ·exact h.elim
def bDw (ti:TypeId->Option TI) (t:TypeId) (s:SV) (K:SV->Prop):Prop:=
 match ti t with
 |some { td:= .string, .. }=>(match s with| .d (.str l)=>l.length<=9223372036854775807->K (.d (.int .i64 l.length))|_=>aH "len: no string")
 |some { td:= .slice _, .. }=>
  (match s with
  | .d .nil=>K (.d (.int .i64 0))
  | .msl _ _ _ n=>n<=9223372036854775807->K (.d (.int .i64 n))
  | .mw _ _ n=>n<=9223372036854775807->K (.d (.int .i64 n))
  | .ms _ _ _ n _=>n<=9223372036854775807->K (.d (.int .i64 n))
  | .zc=>K (.d (.int .i64 0))
  |s=>match xJ s with
   |some (_,rows)=>rows.length<=9223372036854775807->K (.d (.int .i64 rows.length))
   |none=>aH "len: no slice")
 |some { td:= .array n _, .. }=>K (.d (.int .i64 n))
 |_=>aH "len: a type"
theorem aU {ρ:Operand->Value}{o:Oper}{b:Builtin}{args:Array Operand}{ts:Array TypeId}(ho:o.op= .call { callee:= .builtin b,args:=args,argTypes:=ts }) (w:World):
  (execOp ρ o).run P w=(builtin b ts o.type (args.map λ| .const _=>true|_=>false) (args.map ρ)).run P w:=by
 simp only [execOp,ho,resolve,invoke,Sem.run_bind,Sem.run_pure,Result.andThen_ok]
 rfl
theorem bC5 {ti:TypeId->Option TI}(hti:fH P ti) {o:Oper}{t:TypeId}{x:Operand}(ho:o.op= .call { callee:= .builtin .len,args:= #[x],argTypes:= #[t] }) {fr:Fr}{hp:Hp}{K:SV->Prop}
  (h:ev fr x λs=>bDw ti t s K):fI P o fr hp K:=by
 intro E ρ a w hm u
 obtain⟨s,r,f⟩:=dB h
 have k:=aV u r
 unfold bDw at f
 split at f
 ·rename_i c
  obtain⟨d,i,z,c⟩:=aO (hti _ _ c)
  have p:=iB c.td
  subst p
  split at f
  ·rename_i l
   obtain⟨e,hl⟩:=k.str_inv
   refine⟨_,_,λw' _=> ?_, .d _ _ (.int _ _),f hl⟩
   rw [aU ho]
   simp [builtin,e,Builtin.len_,run_underlying c.und,goInt]
   rfl
  ·exact f.elim
 ·rename_i e _ _ _ c
  obtain⟨d,i,z,c⟩:=aO (hti _ _ c)
  have p:=cK c.td
  subst p
  split at f
  ·refine⟨_,_,λw' _=> ?_, .d _ _ (.int _ _),f⟩
   rw [aU ho]
   simp [builtin,k.nil_inv,Builtin.len_,run_underlying c.und,goInt]
  ·obtain⟨g,cap,hg,e1,q,j⟩:=k.msl_inv
   refine⟨_,_,λw' _=> ?_, .d _ _ (.int _ _),f (by simp only [maxLen]at j;omega)⟩
   rw [aU ho]
   simp [builtin,e1,Builtin.len_,run_underlying c.und,goInt]
  ·obtain⟨A,cap,e1,q,j,_⟩:=k.mw_inv
   refine⟨_,_,λw' _=> ?_, .d _ _ (.int _ _),f (by simp only [maxLen]at j;omega)⟩
   rw [aU ho]
   simp [builtin,e1,Builtin.len_,run_underlying c.und,goInt]
  ·obtain⟨A,cap,e1,q,j,_⟩:=k.ms_inv
   refine⟨_,_,λw' _=> ?_, .d _ _ (.int _ _),f (by simp only [maxLen]at j;omega)⟩
   rw [aU ho]
   simp [builtin,e1,Builtin.len_,run_underlying c.und,goInt]
  ·obtain⟨A,e1⟩:=k.zc_inv
   refine⟨_,_,λw' _=> ?_, .d _ _ (.int _ _),f⟩
   rw [aU ho]
   simp [builtin,e1,Builtin.len_,run_underlying c.und,goInt]
  ·split at f
   ·rename_i z' rows m
    obtain⟨A,cap,b,off,e1,q,j,_,_⟩:=(mA m k).of_sl
    refine⟨_,_,λw' _=> ?_, .d _ _ (.int _ _),f (by simp only [maxLen]at j;omega)⟩
    rw [aU ho]
    simp [builtin,e1,Builtin.len_,run_underlying c.und,goInt]
   ·exact f.elim
 ·rename_i n e _ _ _ c
  obtain⟨d,i,z,c⟩:=aO (hti _ _ c)
  have p:=mQ c.td
  subst p
  refine⟨_,_,λw' _=> ?_, .d _ _ (.int _ _),f⟩
  rw [aU ho]
  simp [builtin,Builtin.len_,run_underlying c.und,goInt]
 ·exact f.elim
def bDx (ti:TypeId->Option TI) (t:TypeId) (s:SV) (hp:Hp) (K:SV->Prop):Prop:=
 match ti t with
 |some { td:= .slice _, .. }=>
  (match s with
  | .d .nil=>K (.d (.int .i64 0))
  | .zc=>K (.d (.int .i64 0))
  | .mw id _ n => (match aP hp id with
   |some (.mrow _ _ cap rows)=>n=rows.length/\(rows.length<=cap->cap<=9223372036854775807->K (.d (.int .i64 cap)))
   |_=>aH "cap: no such rows")
  |_=>aH "cap: no slice of its own")
 |_=>aH "cap: a type"
theorem gX.shape {w:World}{S:Nat->Nat->Prop}{e z cap:Nat}{rows:List (List D)}{v:Value}(h:gX w S e z cap rows v): ∃A,v= .slice A rows.length cap/\rows.length<=cap/\cap<=maxLen/\(cap≠0-> ∃g,A=some ⟨g,0,none⟩):=by
 rcases h with⟨rfl,rfl,A,rfl⟩|⟨hc,g,cur,rfl,h1,b,a,_⟩
 ·exact⟨A,rfl,by simp,by simp,λh=>absurd rfl h⟩
 ·exact⟨_,rfl,b,a,λ_=>⟨g,rfl⟩⟩
theorem bC6 {ti:TypeId->Option TI}(hti:fH P ti) {o:Oper}{t:TypeId}{x:Operand}(ho:o.op= .call { callee:= .builtin .cap,args:= #[x],argTypes:= #[t] }) {fr:Fr}{hp:Hp}{K:SV->Prop}
  (h:ev fr x λs=>bDx ti t s hp K):fI P o fr hp K:=by
 intro E ρ a w p u
 obtain⟨s,r,b⟩:=dB h
 have f:=aV u r
 unfold bDx at b
 split at b
 ·rename_i e _ _ _ c
  obtain⟨d,i,z,c⟩:=aO (hti _ _ c)
  have v:=cK c.td
  subst v
  split at b
  ·refine⟨_,_,λw' _=> ?_, .d _ _ (.int _ _),b⟩
   rw [aU ho]
   simp [builtin,f.nil_inv,Builtin.cap_,run_underlying c.und,goInt]
  ·obtain⟨A,e1⟩:=f.zc_inv
   refine⟨_,_,λw' _=> ?_, .d _ _ (.int _ _),b⟩
   rw [aU ho]
   simp [builtin,e1,Builtin.cap_,run_underlying c.und,goInt]
  ·rename_i id z' n
   split at b
   ·rename_i e' z'' cap rows j
    obtain⟨hn,b⟩:=b
    obtain⟨q1,q⟩:=p.sat id _ j
    obtain⟨A,k,l,m,_⟩:=q.shape
    obtain⟨A',cap',e1,_,_,_,_,e2⟩:=f.mw_inv
    have g:=e2 (by omega)
    rw [g,k]at e1
    injection e1 with e4 e5 e6
    refine⟨.int .i64 cap,_,λw' _=> ?_, .d _ _ (.int _ _),b l (by simpa only [maxLen]using m)⟩
    rw [aU ho]
    rw [k]at g
    simp [builtin,g,Builtin.cap_,run_underlying c.und,goInt]
   ·exact b.elim
  ·exact b.elim
 ·exact b.elim
end
end
end Go.Proofs.YtbobcfjlbcgchaaGreatDoor
