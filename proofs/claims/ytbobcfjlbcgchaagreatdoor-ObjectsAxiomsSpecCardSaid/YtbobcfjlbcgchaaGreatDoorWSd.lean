/-
  Symbolic operations: what each operation of the model does to symbolic values and memory, and that this is so.
  Conditions: none.
-/
import Derived.Test.YtbobcfjlbcgchaaGreatDoorWSb
import Derived.Lib.ConvBytes
set_option linter.unusedSectionVars false
set_option linter.unusedSimpArgs false
set_option linter.unusedVariables false
set_option maxHeartbeats 1000000
namespace Go.Proofs.YtbobcfjlbcgchaaGreatDoor
section
open Go.RowKit
theorem zX {rows:List (List D)}{z i j:Nat}{row:List D}{x:D}(hz: ∀row∈rows,row.length=z) (h1:rows[i]? =some row) (h2:row[j]? =some x):i < rows.length/\j < z/\i * z+j < rows.length * z:=by
 have hi:i < rows.length:=(List.getElem?_eq_some_iff.1 h1).1
 have b:row∈rows:=List.mem_of_getElem? h1
 have a:j < row.length:=(List.getElem?_eq_some_iff.1 h2).1
 rw [hz row b]at a
 refine⟨hi,a, ?_⟩
 have:(i+1)* z<=rows.length * z:=Nat.mul_le_mul_right z hi
 rw [Nat.add_mul]at this
 omega
theorem Flat.nil (w:World) (S:Nat->Nat->Prop) (z:Nat):Flat w S z [] []:=⟨by simp,by simp,by simp,by simp⟩
theorem Flat.append {w:World}{S:Nat->Nat->Prop}{z:Nat}{rows rows':List (List D)}{vs vs':List Value}(h:Flat w S z rows vs) (h':Flat w S z rows' vs'):Flat w S z (rows++rows') (vs++vs'):=by
 refine⟨by rw [List.length_append,List.length_append,h.len,h'.len,Nat.add_mul], ?_, ?_, ?_⟩
 ·intro c f
  rcases List.mem_append.1 f with f|f
  ·exact h.hz c f
  ·exact h'.hz c f
 ·intro v d
  rcases List.mem_append.1 d with d|d
  ·exact h.one v d
  ·exact h'.one v d
 ·intro i c j x g k
  by_cases hi:i < rows.length
  ·rw [List.getElem?_append_left hi]at g
   obtain⟨v,a,b⟩:=h.at_ i c j x g k
   have:=zX h.hz g k
   exact⟨v,by rw [List.getElem?_append_left (by rw [h.len];exact this.2.2)];exact a,b⟩
  ·rw [List.getElem?_append_right (by omega)]at g
   obtain⟨v,a,b⟩:=h'.at_ _ c j x g k
   refine⟨v, ?_,b⟩
   have e:i * z=rows.length * z+(i - rows.length)* z:=by rw [<-Nat.add_mul];congr 1;omega
   rw [List.getElem?_append_right (by rw [h.len];omega),h.len]
   rw [<-a]
   congr 1
   omega
theorem Flat.view {w:World}{S S':Nat->Nat->Prop}{z:Nat}{rows:List (List D)}{vs:List Value}(h:Flat w S z rows vs) {w':World}{b off:Nat}
  (hc: ∀k v,vs[k]? =some v->w'.cell? ⟨b,off+k,none⟩=some v) (hs: ∀k,k < vs.length->S' b (off+k)) (hr: ∀x v,RepD w S x v->RepD w' S' x v):View w' S' z rows b off:=
 ⟨h.hz, λi c j x e f => by
  obtain⟨v,a,b⟩:=h.at_ i c j x e f
  have d:=(List.getElem?_eq_some_iff.1 a).1
  exact⟨v,hc _ v a,hs _ d,h.one v (List.mem_of_getElem? a),hr x v b⟩⟩
theorem View.flat {w:World}{S:Nat->Nat->Prop}{z:Nat}{rows:List (List D)}{b off:Nat}(h:View w S z rows b off):
  ∃vs,Flat w S z rows vs/\(∀k v,vs[k]? =some v->w.cell? ⟨b,off+k,none⟩=some v)/\ ∀k,k < vs.length->S b (off+k):=by
 have key: ∀k,k < rows.length * z-> ∃v,w.cell? ⟨b,off+k,none⟩=some v/\S b (off+k)/\v.oneCell'=true:=by
  intro k c
  have hz:0 < z:=by
   rcases Nat.eq_zero_or_pos z with e|e
   ·subst e;simp at c
   ·exact e
  have hi:k / z < rows.length:=(Nat.div_lt_iff_lt_mul hz).2 c
  have hj:k % z < z:=Nat.mod_lt _ hz
  have f:rows[k / z]? =some rows[k / z]:=List.getElem?_eq_getElem hi
  have hl:=h.hz rows[k / z] (List.getElem_mem hi)
  have hx:rows[k / z][k % z]? =some (rows[k / z][k % z]'(by omega)):=List.getElem?_eq_getElem (by omega)
  obtain⟨v,l,n,y,_⟩:=h.cell _ _ _ _ f hx
  have e:k / z * z+k % z=k:=by rw [Nat.mul_comm];exact Nat.div_add_mod k z
  rw [e]at l n
  exact⟨v,l,n,y⟩
 have a: ∀k v,((List.range (rows.length * z)).map λk=>(w.cell? ⟨b,off+k,none⟩).getD undef)[k]? =some v->w.cell? ⟨b,off+k,none⟩=some v:=by
  intro k v m
  simp only [List.getElem?_map,Option.map_eq_some_iff]at m
  obtain⟨k',q,rfl⟩:=m
  obtain⟨d,g⟩:=List.getElem?_eq_some_iff.1 q
  simp at d g
  obtain⟨u,o,_⟩:=key k d
  subst g
  rw [o];rfl
 refine⟨(List.range (rows.length * z)).map λk=>(w.cell? ⟨b,off+k,none⟩).getD undef,⟨by simp,h.hz, ?_, ?_⟩,a, ?_⟩
 ·intro v m
  obtain⟨k,c,rfl⟩:=List.mem_map.1 m
  obtain⟨u,o,_,B⟩:=key k (List.mem_range.1 c)
  rw [o];exact B
 ·intro i p j x t s
  have r:=zX h.hz t s
  obtain⟨v,l,n,y,A⟩:=h.cell i p j x t s
  refine⟨v, ?_,A⟩
  simp [r.2.2,l]
 ·intro k c
  simp at c
  exact(key k c).choose_spec.2.1
theorem dU (g k:Nat):(⟨g,0,none⟩:Addr).add k=⟨g,k,none⟩:=by unfold Addr.add;split<;>simp_all
theorem cW (b off k:Nat):(⟨b,off,none⟩:Addr).add k=⟨b,off+k,none⟩:=by unfold Addr.add;split<;>simp_all
theorem kG {w:World}{base:Nat}{e:TypeId}{size:Nat}{v:Value}{n:Nat}{xs:List Value}(h:w.ownsRow base e size v n xs) {g:Nat}(hg:v.ownBlock=some g):
  ∀k u,xs[k]? =some u->w.cell? ⟨g,k,none⟩=some u:= λk u a=>by
 have:=h.cells hg k u a
 rwa [dU]at this
theorem oW {w:World}{base:Nat}{e:TypeId}{size:Nat}{v:Value}{n:Nat}{xs:List Value}(h:w.ownsRow base e size v n xs) {b:Nat}(hb:v.ownBlock=some b) {x:Option (List Deferred)}(hd:w.heap[b]? =some (.deferred x)):False:=by
 rcases h.2 with⟨rfl,_⟩|⟨g,cap,cur,rfl,_,a,_⟩
 ·simp [Value.ownBlock]at hb
 ·simp only [Value.ownBlock,Option.some.injEq]at hb
  subst hb
  rw [hd]at a;cases a
section
variable {P:Program}
theorem sV (w:World) (t tx ty e:TypeId) (i:TypeInfo) (z:Value) (dx:TypeDesc) (ht:P.underlying t=some (.slice e)) (htx:P.underlying tx=some dx) (hdx:dx= .string\/ ∃s,dx= .slice s)
  (hi:P.info? e=some i) (hz:i.zero=some z) (hzs:z.cells.size=i.size)
  (v:Value) (n:Nat) (xs:List Value) (hown:w.ownsRow 0 e i.size v n xs)
  (x:Value) (m:Nat) (news:List Value) (hl:news.length=m * i.size) (hlen: ∀u:World,(Builtin.lenOf x).run P u= .ok m u)
  (hfc: ∀u:World,u.heap=w.heap->(Builtin.firstCells i.size m x).run P u= .ok news.toArray u) (h1: ∀u∈news,u.oneCell'=true)
  (h63:n+m<=maxLen) (hbytes:(n+m)* i.bytes<=140737488355328):
  ∃v' w',(Builtin.append_ #[t,tx] ty #[v,x]).run P w= .ok v' w'/\w'.ownsRow 0 e i.size v' (n+m) (xs++news)/\
   ((v'=v/\m=0/\w'=w)\/(∃g cap cs,v= .slice (some ⟨g,0,none⟩) n cap/\v'= .slice (some ⟨g,0,none⟩) (n+m) cap/\w'=w.setRow g cs)\/(v'.ownBlock=some w.heap.size/\Grew w w'/\0 < m)):=by
 have hsmall:n+m<=9223372036854775807:=by simp only [maxLen]at h63;omega
 have a:(xs++news).length=(n+m)* i.size:=by rw [List.length_append,hown.1,hl,Nat.add_mul]
 have f: ∀(old:Nat),old < n+m->
   (w.drew.alloc (.cells (xs.toArray++news.toArray++Builtin.zeroCells z.cells (grownCap w (n+m) old e - (n+m))) e)).ownsRow 0 e i.size
    (.slice (some ⟨w.heap.size,0,none⟩) (n+m) (grownCap w (n+m) old e)) (n+m) (xs++news):=by
  intro old ho
  have C:=grownCap_ge w (n+m) old e
  have k:grownCap w (n+m) old e<=maxLen:=grownCap_le_maxLen w (n+m) old e h63
  refine⟨a, .inr ⟨w.heap.size,_,_,rfl,Nat.zero_le _,heap_alloc_new w.drew _,C,k, ?_, ?_⟩⟩
  ·simp only [Array.size_append,List.size_toArray,size_zeroCells,hzs,hown.1,hl,<-Nat.add_mul]
   congr 1
   omega
  ·simp only [Array.toList_append,List.append_assoc]
   rw [<-List.append_assoc,<-a]
   exact List.take_left
 have h: ∀o,Grew w (w.drew.alloc o):= λo=>(Grew.drew w).trans (Grew.alloc _ _)
 rcases hown.2 with⟨rfl,rfl⟩|⟨g,cap,cur,rfl,hbg,F,hnc,k,B,l⟩
 ·have A:xs=[]:=List.eq_nil_of_length_eq_zero (by simpa using hown.1)
  subst A
  by_cases E:m=0
  ·subst E
   have H:news=[]:=List.eq_nil_of_length_eq_zero (by simpa using hl)
   subst H
   refine⟨.slice none 0 0,w, ?_,World.ownsRow_nil w 0 e i.size, .inl ⟨rfl,rfl,rfl⟩⟩
   have q:=hfc w rfl
   rcases hdx with rfl|⟨s,rfl⟩<;>simp [Builtin.append_,run_underlying ht,run_underlying htx,sizeOf,typeInfo,hi,hlen,q]
  ·have p:=f 0 (by omega)
   have d:¬ (9223372036854775807 < (m:Int)):=by omega
   have c:¬ (281474976710656 < Builtin.nextslicecap m 0 * i.bytes):=by
    have:=growslice_fits (need:=m) (old:=0) (bytes:=i.bytes) (by omega) (by simpa using hbytes)
    omega
   have q:=hfc w.drew rfl
   refine⟨.slice (some ⟨w.heap.size,0,none⟩) (0+m) (grownCap w (0+m) 0 e),_, ?_,p, .inr (.inr ⟨rfl,h _,by omega⟩)⟩
   rcases hdx with rfl|⟨s,rfl⟩<;>simp [Builtin.append_,run_underlying ht,run_underlying htx,sizeOf,typeInfo,zeroValue,hi,hz,hlen,E,d,c,Question.forced,run_firstCells_none,q,newRow,grownCap]
 ·by_cases b:n+m<=cap
  ·have r:n * i.size+news.length<=cur.size:=by rw [hl,B,<-Nat.add_mul];exact Nat.mul_le_mul_right _ b
   have y:=run_storeCells_at P g (n * i.size) e news 0 cur w F (by simpa using r) h1
   simp only [Nat.add_zero]at y
   have q:=hfc w rfl
   refine⟨.slice (some ⟨g,0,none⟩) (n+m) cap,w.setRow g (cur.toList.take (n * i.size)++news++cur.toList.drop (n * i.size+news.length)).toArray, ?_, ?_, .inr (.inl ⟨g,cap,_,rfl,rfl,rfl⟩)⟩
   ·rcases hdx with rfl|⟨s,rfl⟩<;>simp [Builtin.append_,run_underlying ht,run_underlying htx,sizeOf,typeInfo,hi,hlen,b,q,Addr.add_lit,y]
   ·refine⟨a, .inr ⟨g,cap,_,rfl,Nat.zero_le _,setRow_heap w g cur _ e _ F,b,k, ?_, ?_⟩⟩
    ·simp only [List.size_toArray,List.length_append,List.length_take,List.length_drop,Array.length_toList]
     omega
    ·rw [l,<-a,List.append_assoc,<-List.append_assoc]
     exact List.take_left
  ·have p:=f cap (by omega)
   have d:¬ (9223372036854775807 < ((n:Int)+(m:Int))):=by omega
   have c:¬ (281474976710656 < Builtin.nextslicecap (n+m) cap * i.bytes):=by
    have:=growslice_fits (need:=n+m) (old:=cap) (bytes:=i.bytes) (by omega) hbytes
    omega
   have q:=hfc w.drew rfl
   have D:=run_firstCells_some (P:=P) w.drew i.size n ⟨g,0,none⟩ n cap xs hown.1 (λj u G=>by rw [dU];exact kG hown rfl j u G)
   refine⟨.slice (some ⟨w.heap.size,0,none⟩) (n+m) (grownCap w (n+m) cap e),_, ?_,p, .inr (.inr ⟨rfl,h _,by omega⟩)⟩
   rcases hdx with rfl|⟨s,rfl⟩<;>(simp [Builtin.append_,run_underlying ht,run_underlying htx,sizeOf,typeInfo,zeroValue,hi,hz,hlen,b,d,c,Question.forced,q,D,newRow,grownCap];congr 2;apply Array.ext';simp [List.append_assoc])
end
theorem aMe {w:World}{base:Nat}{e:TypeId}{size:Nat}{v:Value}{n:Nat}{xs:List Value}(h:w.ownsRow base e size v n xs):(v= .slice none 0 0/\n=0)\/ ∃g cap,v= .slice (some ⟨g,0,none⟩) n cap/\n<=cap/\cap<=maxLen:=by
 rcases h.2 with b|⟨g,cap,cur,rfl,hbb,hg,a,c,_⟩
 ·exact .inl b
 ·exact .inr ⟨g,cap,rfl,a,c⟩
def Env.kb (ρ:Env) (id:Nat):HObj->Option Nat
 | .own _ _ _=>none
 | .mrow _ _ _ _=>gB (ρ.tv id)
 | .glob _ _ _=>none
 |_=>ρ.blk id
def Env.grown (ρ:Env) (id n' z:Nat) (v':Value):Env:=
 { S:= λb i=>ρ.S b i\/(v'.ownBlock=some b/\i < n' * z),blk:=ρ.blk,n:= λi=>if i=id then n' else ρ.n i,tv:= λi=>if i=id then v' else ρ.tv i }
theorem Mem.append {P:Program}{E:Entry}{ρ:Env}{hp:Hp}{w:World}(h:Mem E ρ hp w) {id e z:Nat}{rows:List (List D)}{v:Value}
  (ho:aP hp id=some (.own e z rows.length)) (hrep:Rep w ρ (.osl id z rows) v) {news:List (List D)} {vs:List Value} (hfl:Flat w ρ.S z news vs)
  (t tx ty:TypeId) (i:TypeInfo) (zv:Value) (dx:TypeDesc) (ht:P.underlying t=some (.slice e)) (htx:P.underlying tx=some dx) (hdx:dx= .string\/ ∃e',dx= .slice e')
  (hi:P.info? e=some i) (hz:i.zero=some zv) (hzs:zv.cells.size=i.size) (hsz:i.size=z)
  (x:Value) (hlen: ∀u:World,(Builtin.lenOf x).run P u= .ok news.length u)
  (hfc: ∀u:World,u.heap=w.heap->(Builtin.firstCells i.size news.length x).run P u= .ok vs.toArray u)
  (h63:rows.length+news.length<=maxLen) (hbytes:(rows.length+news.length)* i.bytes<=140737488355328):
  ∃v' w' ρ',(Builtin.append_ #[t,tx] ty #[v,x]).run P w= .ok v' w'/\Mem E ρ' (eY hp id (.own e z (rows.length+news.length))) w'/\(∀fr tm,dV ρ w fr tm->dV ρ' w' fr tm)/\
   Rep w' ρ' (.osl id z (rows++news)) v'/\cF ρ.S w w'/\(∀b i,ρ.S b i->ρ'.S b i)/\ρ'.blk=ρ.blk/\(∀j o,j≠id->ρ'.kb j o=ρ.kb j o)/\ ∀j o b,j≠id->aP hp j=some o->(ρ.at j o=some b\/ρ.blk j=some b/\o.Rd)->w'.heap[b]? =w.heap[b]? :=by
 subst hsz
 cases hrep with
 |osl _ _ _ _ hr hn htt=>
 obtain⟨b0,xs,n,c7,c6⟩:=h.sat id _ ho
 have J:=b0.symm
 have hv:=htt J
 rw [<-hv,<-J]at n
 have b3: ∀u∈xs,u.oneCell'=true:=c6
 obtain⟨v',w',b4,F,l⟩:=sV w t tx ty e i zv dx ht htx hdx hi hz hzs v rows.length xs n x news.length vs hfl.len hlen hfc hfl.one h63 hbytes
 -- the old rows' cells
 have b6:Flat w ρ.S i.size rows xs:=by
  obtain⟨A,cap,b,off,e1,hnc,hcm,hA,r⟩:=hr.of_sl
  refine⟨n.1,r.hz,b3, ?_⟩
  intro a b8 j y h1 h2
  obtain⟨u,c1,c2,c3,c4⟩:=r.cell a b8 j y h1 h2
  have Q:rows≠[]:=by rintro rfl;simp at h1
  have b1:=zX r.hz h1 h2
  rcases aMe n with⟨e2,e3⟩|⟨g,cap',e2,_⟩
  ·exact absurd (List.eq_nil_of_length_eq_zero e3) Q
  ·rw [e2]at e1
   injection e1 with e4 e5 e6
   rw [hA Q]at e4
   injection e4 with e4
   injection e4 with e7 e8
   subst e7;subst e8
   simp only [Nat.zero_add]at c1
   refine⟨u, ?_,c4⟩
   have N:a * i.size+j < xs.length:=by rw [n.1];exact b1.2.2
   have:=kG n (g:=g) (by rw [e2];rfl) _ _ (List.getElem?_eq_getElem N)
   rw [c1]at this
   rw [List.getElem?_eq_getElem N]
   exact this.symm
 have U:=b6.append hfl
 have p:(rows++news).length=rows.length+news.length:=List.length_append
 -- what is kept
 have G: ∀b,b < w.heap.size->v.ownBlock≠some b->w'.heap[b]? =w.heap[b]? :=by
  intro b hb Q
  rcases l with⟨_,_,rfl⟩|⟨g,cap,cs,rfl,rfl,rfl⟩|⟨_,L,_⟩
  ·rfl
  ·exact setRow_other w g b _ λe=>Q (by simp [Value.ownBlock,e])
  ·exact L.block b hb
 have T:w.heap.size<=w'.heap.size:=by
  rcases l with⟨_,_,rfl⟩|⟨g,cap,cs,rfl,rfl,rfl⟩|⟨_,L,_⟩
  ·exact Nat.le_refl _
  ·simp [World.setRow]
  ·exact L.size
 have b7: ∀g,v.ownBlock=some g-> ∀k,ρ.S g k->k < rows.length * i.size:=by
  intro g L k M
  rw [J]
  exact c7 g (by rw [<-hv];exact L) k M
 have M:cF ρ.S w w':=by
  intro b k a8
  by_cases hb:v.ownBlock=some b
  ·rcases l with⟨_,_,rfl⟩|⟨g,cap,cs,e1,e2,e3⟩|⟨_,L,_⟩
   ·rfl
   ·have b1:=b7 b hb k a8
    have b9:g=b:=by rw [e1]at hb;simpa [Value.ownBlock]using hb
    subst b9
    have a9:k < xs.length:=by rw [n.1];exact b1
    have a1:=kG n hb k _ (List.getElem?_eq_getElem a9)
    have a2:=kG F (g:=g) (by rw [e2];rfl) k xs[k] (by rw [List.getElem?_append_left a9,List.getElem?_eq_getElem a9])
    rw [a1,a2]
   ·exact World.cell?_of_block (w:=w) (L.block b (h.slt b k a8))
  ·exact World.cell?_of_block (w:=w) (G b (h.slt b k a8) hb)
 have a3: ∀b k,ρ.S b k->(ρ.grown id (rows.length+news.length) i.size v').S b k:= λb k Y=> .inl Y
 have a7: ∀j,ρ.moved (ρ.grown id (rows.length+news.length) i.size v') j:=by
  intro j
  refine⟨rfl, ?_⟩
  by_cases e:j=id
  ·subst e
   simp only [Env.grown,if_true]
   rcases l with⟨e1,e2,_⟩|⟨g,cap,cs,e1,e2,e3⟩|⟨_,_,hpos⟩
   ·left;rw [e2,J,e1,<-hv];exact⟨rfl,rfl⟩
   ·by_cases hm:news.length=0
    ·left;rw [hm,Nat.add_zero,e2,hm,Nat.add_zero,<-e1,<-hv];exact⟨J,rfl⟩
    ·right;omega
   ·right;omega
  ·left;simp [Env.grown,e]
 have c: ∀b,v'.ownBlock=some b->v.ownBlock=some b\/w.heap.size<=b:=by
  intro b hb
  rcases l with⟨e1,_,_⟩|⟨g,cap,cs,e1,e2,e3⟩|⟨e1,_,_⟩
  ·left;rw [<-e1];exact hb
  ·left;rw [e2]at hb;rw [e1];exact hb
  ·right;rw [e1]at hb;injection hb with hb;omega
 have V: ∀b,v.ownBlock=some b->E.w.heap.size<=b\/E.B b:= λb hb=>h.hb id _ b ho (by simp only [Env.at];rw [<-hv];exact hb)
 have N: ∀b,v'.ownBlock=some b->b < w'.heap.size:= λb hb=>(F.lt b hb).2
 have W: ∀j o,j≠id->(ρ.grown id (rows.length+news.length) i.size v').at j o=ρ.at j o:=by
  intro j o m
  cases o<;>simp [Env.at,Env.grown,m]
 have s: ∀j o,aP (eY hp id (.own e i.size (rows.length+news.length))) j=some o->(j=id/\o= .own e i.size (rows.length+news.length))\/(j≠id/\aP hp j=some o):=by
  intro j o m
  rw [bN _ ho]at m
  by_cases e1:j=id
  ·simp [e1]at m;exact .inl ⟨e1,m.symm⟩
  ·simp [e1]at m;exact .inr ⟨e1,m⟩
 have H:(ρ.grown id (rows.length+news.length) i.size v').at id (.own e i.size (rows.length+news.length))=v'.ownBlock:=by
  simp [Env.at,Env.grown]
 have f: ∀j o b,j≠id->aP hp j=some o->ρ.at j o=some b->v.ownBlock≠some b:=by
  intro j o b m d0 hb d
  exact m (h.inj j o id _ b d0 ho hb (by simp only [Env.at];rw [<-hv];exact d))
 refine⟨v',w',ρ.grown id (rows.length+news.length) i.size v',b4,⟨?_, ?_, ?_,Nat.le_trans h.size T, ?_, ?_, ?_, ?_,h.kp.trans h.sold M, ?_, ?_, ?_,λj m=>Env.moved_trans (h.mv j m) (a7 j), ?_,λb hb=>(G b (bD (h.md b hb)) (λd=>oW n d (h.md b hb))).trans (h.md b hb)⟩, ?_, ?_⟩
 ·rcases l with⟨_,_,rfl⟩|⟨g,cap,cs,rfl,rfl,rfl⟩|⟨_,L,_⟩
  ·exact h.os
  ·exact h.os
  ·exact L.os.trans h.os
 ·rcases l with⟨_,_,rfl⟩|⟨g,cap,cs,rfl,rfl,rfl⟩|⟨_,L,_⟩
  ·exact h.tape
  ·exact h.tape
  ·exact L.tape.trans h.tape
 ·rcases l with⟨_,_,rfl⟩|⟨g,cap,cs,rfl,rfl,rfl⟩|⟨_,L,_⟩
  ·exact h.output
  ·exact h.output
  ·exact L.output.trans h.output
 ·intro b hb hB
  rw [G b (Nat.lt_of_lt_of_le hb h.size) ?_]
  ·exact h.old b hb hB
  ·intro d
   rcases V b d with K|b2
   ·omega
   ·exact hB b2
 ·exact λb k Y=> .inl (h.sold b k Y)
 ·rintro b k (Y|⟨Y,_⟩) hb hB
  ·exact h.snew b k Y hb hB
  ·rcases c b Y with d|K
   ·rcases V b d with K|b2
    ·omega
    ·exact absurd b2 hB
   ·have:=h.size;omega
 ·rintro b k (Y|⟨Y,_⟩)
  ·exact Nat.lt_of_lt_of_le (h.slt b k Y) T
  ·exact N b Y
 ·intro j o m
  rcases s j o m with⟨rfl,rfl⟩|⟨e1,m⟩
  ·refine⟨by simp [Env.grown],xs++vs, ?_, ?_, ?_⟩
   ·simpa [Env.grown]using F
   ·intro g L k M
    simp only [Env.grown,if_true]at L M |-
    rcases M with M|⟨_,M⟩
    ·rcases c g L with d|K
     ·have:=b7 g d k M
      rw [Nat.add_mul];omega
     ·have:=h.slt g k M;omega
    ·exact M
   ·intro u hu
    rcases List.mem_append.1 hu with hu|hu
    ·exact b3 u hu
    ·exact hfl.one u hu
  ·refine(h.sat j o m).keep M a3 (λa _=>a7 a) (by simp [Env.grown,e1]) ?_ ?_
   ·rintro b (hb|⟨hb,C⟩)
    ·exact G b (h.blk_lt m hb) (f j o b e1 m hb)
    ·exact G b (h.ro_lt m C hb) λd=>h.ro j _ b m C hb id _ ho (by simp only [Env.at];rw [<-hv];exact d)
   ·rintro b hb k (O|⟨O,_⟩)
    ·exact O
    ·rcases c b O with d|K
     ·exact absurd d (f j o b e1 m hb)
     ·have:=h.blk_lt m hb;omega
 ·intro j o Z o' b m a4 hb q
  rcases s j o m with⟨e1,rfl⟩|⟨e1,I⟩
  ·rcases s Z o' a4 with⟨e2,rfl⟩|⟨e2,R⟩
   ·rw [e1,e2]
   ·rw [e1,H]at hb
    rw [W Z o' e2]at q
    rcases c b hb with d|K
    ·exact absurd d (f Z o' b e2 R q)
    ·have:=h.blk_lt R q;omega
  ·rw [W j o e1]at hb
   rcases s Z o' a4 with⟨e2,rfl⟩|⟨e2,R⟩
   ·rw [e2,H]at q
    rcases c b q with d|K
    ·exact absurd d (f j o b e1 I hb)
    ·have:=h.blk_lt I hb;omega
   ·rw [W Z o' e2]at q
    exact h.inj j o Z o' b I R hb q
 ·intro j o b m hb
  rcases s j o m with⟨e1,rfl⟩|⟨e1,I⟩
  ·rw [e1,H]at hb
   rcases c b hb with d|K
   ·exact V b d
   ·have:=h.size;left;omega
  ·rw [W j o e1]at hb
   exact h.hb j o b I hb
 ·intro j oR b m C hb Z o' a4 q
  have a6:ρ.blk j=some b:=hb
  rcases s j _ m with⟨_,hc⟩|⟨e1,I⟩
  ·rw [hc]at C;exact C.elim
  ·rcases s Z o' a4 with⟨e2,rfl⟩|⟨e2,R⟩
   ·rw [e2,H]at q
    rcases c b q with d|K
    ·exact h.ro j _ b I C a6 id _ ho (by simp only [Env.at];rw [<-hv];exact d)
    ·have:=h.ro_lt I C a6;omega
   ·rw [W Z o' e2]at q
    exact h.ro j _ b I C a6 Z o' R q
 ·exact λfr tm hf=>hf.mono M a3 λa _=>a7 a
 ·refine⟨?_,M,a3,rfl,λj o m=>by cases o<;>simp [Env.kb,Env.grown,m],λj o b e1 m hb=> ?_⟩
  rotate_left
  ·rcases hb with hb|⟨hb,C⟩
   ·exact G b (h.blk_lt m hb) (f j o b e1 m hb)
   ·exact G b (h.ro_lt m C hb) λd=>h.ro j _ b m C hb id _ ho (by simp only [Env.at];rw [<-hv];exact d)
  refine .osl id i.size _ v' ?_ (by simp [Env.grown]) (by simp [Env.grown])
  rcases aMe F with⟨e1,e2⟩|⟨g,cap,e1,c5,c8⟩
  ·have b5:rows++news=[]:=List.eq_nil_of_length_eq_zero (by rw [p];exact e2)
   rw [b5,e1]
   exact RepD.mk_sl (b:=0) (off:=0) (by simp) (by simp) (λQ=>absurd rfl Q) ⟨by simp,by simp⟩ (by simp)
  ·have r:View w' (ρ.grown id (rows.length+news.length) i.size v').S i.size (rows++news) g 0:=by
    refine U.view (λk u hu=> ?_) (λk O=> ?_) (λy u c9=>c9.mono M a3)
    ·rw [Nat.zero_add];exact kG F (g:=g) (by rw [e1];rfl) k u hu
    ·right
     refine⟨by rw [e1];rfl, ?_⟩
     rw [U.len,p]at O
     rw [Nat.zero_add];exact O
   have a5:RepD w' (ρ.grown id (rows.length+news.length) i.size v').S (.sl i.size (rows++news)) (.slice (some ⟨g,0,none⟩) (rows.length+news.length) cap):=
    RepD.mk_sl (b:=g) (off:=0) (by rw [p];exact c5) c8 (λ_=>rfl) r p.symm
   rw [<-e1]at a5
   exact a5
def aH (_why:String):Prop:=False
def brB (b:Bool) (y n:Prop):Prop:=match b with|true=>y|false=>n
theorem aB {b:Bool}{y n:Prop}(h1:b=true->y) (h2:b=false->n):brB b y n:=by cases b;exact h2 rfl;exact h1 rfl
theorem aA {p:Prop} [Decidable p] {y n:Prop}(h1:p->y) (h2:¬ p->n):brB (decide p) y n:=aB (λh=>h1 (of_decide_eq_true h)) (λh=>h2 (of_decide_eq_false h))
theorem aC {p:Prop} [Decidable p] {y n:Prop}(h1:¬ p->y) (h2:p->n):brB (!decide p) y n:=aB (λh=>h1 (by simpa using h)) (λh=>h2 (by simpa using h))
theorem aXt {b:Bool}{y n:Prop}(h:brB b y n):b=true->y:=by rintro rfl;exact h
theorem aXu {b:Bool}{y n:Prop}(h:brB b y n):b=false->n:=by rintro rfl;exact h
def iY:Hp->Nat->HObj->(Hp->Prop)->Prop
 | [],_,_,K=>K []
 |(k,o)::r,t,x,K=>if k=t then K ((k,x)::r)else iY r t x λr'=>K ((k,o)::r')
theorem eJ: ∀(hp:Hp) (t:Nat) (x:HObj) (K:Hp->Prop),iY hp t x K=K (eY hp t x):=by
 intro hp
 induction hp with
 |nil=>intro t x K;rfl
 |cons p r ih=>
  obtain⟨k,o⟩:=p
  intro t x K
  simp only [iY,eY]
  split
  ·rfl
  ·rw [ih]
inductive TD where
 |bool|int (k:IntKind)|string|slice (e:TypeId)|array (n:Nat) (e:TypeId)|struct (fs:List (TypeId×Nat))|pointer (e:TypeId)|other
def aGv:TypeDesc->TD
 | .bool=> .bool
 | .int k=> .int k
 | .string=> .string
 | .slice e=> .slice e
 | .array n e=> .array n e
 | .struct fs=> .struct (fs.toList.map λf=>(f.type,f.offset))
 | .pointer e=> .pointer e
 |_=> .other
def TD.isAgg:TD->Bool
 | .struct _=>true
 | .array _ _=>true
 |_=>false
def ofV:Value->SV
 | .int k n=> .d (.int k n)
 | .bool b=> .d (.bool b)
 | .string s=>if s.data.toList.length<=9223372036854775807 then .d (.str s.data.toList)else .d (.lit (.string s))
 | .slice none 0 0=> .d .nil
 |v=> .d (.lit v)
def bB7:Value->D
 | .int k n=> .int k n
 | .bool b=> .bool b
 | .string s=>if s.data.toList.length<=9223372036854775807 then .str s.data.toList else .lit (.string s)
 | .slice none 0 0=> .nil
 |v=> .lit v
structure TI where
 td:TD
 size:Nat
 bytes:Nat
 zero:List D
def eG (P:Program) (t:TypeId):Option TI:=
 match P.underlying t,P.info? t with
 |some d,some i=>
  match i.zero with
  |some z=>if z.cells.size==i.size && z.cells.all (·.oneCell')then some ⟨aGv d,i.size,i.bytes,z.cells.toList.map bB7⟩else none
  |none=>none
 |_,_=>none
theorem uL (w:World) (S:Nat->Nat->Prop) (v:Value):RepD w S (bB7 v) v:=by
 unfold bB7
 split
 ·exact .int _ _
 ·exact .bool _
 ·rename_i s
  split
  ·rename_i h
   have:RepD w S (.str s.data.toList) (.string ⟨s.data.toList.toArray⟩):= .str _ (by simpa only [maxLen]using h)
   simpa using this
  ·exact .lit _
 ·exact .nil
 ·exact .lit _
theorem aK3 (w:World) (ρ:Env) (v:Value):Rep w ρ (ofV v) v:=by
 have h:=uL w ρ.S v
 have e:ofV v= .d (bB7 v):=by
  unfold ofV bB7
  split<;>first|rfl|(split<;>rfl)
 rw [e]
 exact .d _ _ h
structure TIok (P:Program) (t:TypeId) (T:TI) (d:TypeDesc) (i:TypeInfo) (z:Value):Prop where
 und:P.underlying t=some d
 td:aGv d=T.td
 info:P.info? t=some i
 zero:i.zero=some z
 size:i.size=T.size
 bytes:i.bytes=T.bytes
 cells:z.cells.size=i.size
 one: ∀v∈z.cells,v.oneCell'=true
 zs:T.zero=z.cells.toList.map bB7
theorem aO {P:Program}{t:TypeId}{T:TI}(h:eG P t=some T): ∃d i z,TIok P t T d i z:=by
 unfold eG at h
 split at h
 ·rename_i d i e hi
  split at h
  ·rename_i z hz
   split at h
   ·rename_i a
    simp at h a
    subst h
    exact ⟨d, i, z, e, rfl, hi, hz, rfl, rfl, a.1, λv b => by
     obtain⟨k,c,rfl⟩:=Array.mem_iff_getElem.1 b
     exact a.2 k c,rfl⟩
   ·cases h
  ·cases h
 ·cases h
theorem TIok.run_size {P:Program}{t:TypeId}{T:TI}{d:TypeDesc}{i:TypeInfo}{z:Value}(h:TIok P t T d i z) (w:World):(sizeOf t).run P w= .ok T.size w:=by
 simp [sizeOf,typeInfo,h.info,h.size]
theorem TIok.run_isAgg {P:Program}{t:TypeId}{T:TI}{d:TypeDesc}{i:TypeInfo}{z:Value}(h:TIok P t T d i z) (w:World):(isAgg t).run P w= .ok T.td.isAgg w:=by
 have:=h.td
 unfold isAgg
 simp only [Sem.run_bind,run_underlying h.und,Result.andThen_ok]
 cases d<;>simp [aGv]at this<;>rw [<-this]<;>rfl
def fH (P:Program) (ti:TypeId->Option TI):Prop:= ∀t T,ti t=some T->eG P t=some T
def evO (fr:Fr):Operand->Option SV
 | .tmp t=>jB fr t
 | .const v=>some (ofV v)
 | .global _=>none
 | .func f=>some (.fn f [] [])
theorem aV {ρ:Env}{w:World}{fr:Fr}{a:Act}(hf:dV ρ w fr a.tmps) {x:Operand}{s:SV}(h:evO fr x=some s):Rep w ρ s (a.eval x):=by
 cases x with
 |tmp t=>
  obtain⟨v,b,c⟩:=hf t s h
  simp only [Act.eval,Array.getD_eq_getD_getElem?,b,Option.getD_some]
  exact c
 |const v=>
  simp only [evO,Option.some.injEq]at h
  subst h
  exact aK3 w ρ v
 |global g=>simp [evO]at h
 |func f=>
  simp only [evO,Option.some.injEq]at h
  subst h
  exact .fn f [] [] #[] #[] rfl rfl (by simp) (by simp)
def ev (fr:Fr) (x:Operand) (K:SV->Prop):Prop:=
 match evO fr x with
 |some s=>K s
 |none=>aH "an operand without a value"
theorem dB {fr:Fr}{x:Operand}{K:SV->Prop}(h:ev fr x K): ∃s,evO fr x=some s/\K s:=by
 unfold ev at h
 split at h
 ·exact⟨_,by assumption,h⟩
 ·exact h.elim
def aEb (P:Program) (o:Oper) (pin:Pin) (fr:Fr) (hp:Hp) (K:SV->Hp->Prop):Prop:=
 ∀(E:Entry) (ρ:Env) (a:Act) (w:World),E.pin=pin->Mem E ρ hp w->dV ρ w fr a.tmps-> ∀(next:Act->World->Prop) (Q:Exit->Act->World->Prop),
  (∀v w' ρ' s hp',K s hp'->Mem E ρ' hp' w'->dV ρ' w' fr a.tmps->Rep w' ρ' s v->next (a.put o.dst v) w')->o.wp P a w next Q
theorem bW {P:Program}{o:Oper}{a:Act}{w w':World}{v:Value}{next:Act->World->Prop}{Q:Exit->Act->World->Prop}
  (h:(execOp a.eval o).run P w= .ok (.value v) w') (hn:next (a.put o.dst v) w'):o.wp P a w next Q:=by
 unfold Oper.wp;rw [h];exact hn
theorem aEc {P:Program}{o:Oper}{a:Act}{w w':World}{next:Act->World->Prop}{Q:Exit->Act->World->Prop}
  (h:(execOp a.eval o).run P w= .ok .skip w') (hn:next (a.put o.dst undef) w'):o.wp P a w next Q:=by
 unfold Oper.wp;rw [h];exact hn
structure Kept (ρ:Env) (hp:Hp) (w w':World):Prop where
 s:cF ρ.S w w'
 o: ∀id x g,aP hp id=some x->ρ.kb id x=some g->w'.heap[g]? =w.heap[g]?
theorem Kept.refl (ρ:Env) (hp:Hp) (w:World):Kept ρ hp w w:=⟨λ_ _ _=>rfl,λ_ _ _ _ _=>rfl⟩
theorem Mem.obj_lt {E:Entry}{ρ:Env}{hp:Hp}{w:World}(h:Mem E ρ hp w) {id:Nat}{x:HObj}{g:Nat}(hx:aP hp id=some x) (hg:ρ.kb id x=some g):g < w.heap.size:=by
 cases x with
 |cells t cs=>exact h.blk_lt hx hg
 |ro t cs=>exact h.ro_lt hx trivial hg
 |rox X=>exact h.ro_lt hx trivial hg
 |own=>cases hg
 |mrow=>exact h.blk_lt hx hg
 |loop=>exact h.blk_lt hx hg
 |ext=>exact h.blk_lt hx hg
 |glob=>cases hg
theorem Mem.kept_grew {E:Entry}{ρ:Env}{hp:Hp}{w w':World}(h:Mem E ρ hp w) (hg:Grew w w'):Kept ρ hp w w':=
 ⟨hg.keeps h.slt,λ_ _ g hx hb=>hg.block g (h.obj_lt hx hb)⟩
structure KInfo (ρ:Env) (hp:Hp) (w:World) (ρ':Env) (hp':Hp) (w':World):Prop where
 k:Kept ρ hp w w'
 b: ∀w'',Kept ρ' hp' w' w''->Kept ρ hp w w''
theorem KInfo.mk_ {ρ ρ':Env}{hp hp':Hp}{w w':World}(hk:Kept ρ hp w w') (hS: ∀b i,ρ.S b i->ρ'.S b i) (ho: ∀id x g,aP hp id=some x->ρ.kb id x=some g->aP hp' id=some x/\ρ'.kb id x=some g):KInfo ρ hp w ρ' hp' w':=
 ⟨hk,λ_ h=>⟨λb i c=>(h.s b i (hS b i c)).trans (hk.s b i c),λid x g hx a=>(h.o id x g (ho id x g hx a).1 (ho id x g hx a).2).trans (hk.o id x g hx a)⟩⟩
def fI (P:Program) (o:Oper) (fr:Fr) (hp:Hp) (K:SV->Prop):Prop:=
 ∀(E:Entry) (ρ:Env) (a:Act) (w:World),Mem E ρ hp w->dV ρ w fr a.tmps-> ∃v s,(∀w',Kept ρ hp w w'->(execOp a.eval o).run P w'= .ok (.value v) w')/\Rep w ρ s v/\K s
def aBu (P:Program) (o:Oper) (pin:Pin) (fr:Fr) (hp:Hp) (K:SV->Hp->Prop):Prop:=
 ∀(E:Entry) (ρ:Env) (a:Act) (w:World),E.pin=pin->Mem E ρ hp w->dV ρ w fr a.tmps-> ∀(next:Act->World->Prop) (Q:Exit->Act->World->Prop),
  (∀v w' ρ' s hp',K s hp'->Mem E ρ' hp' w'->dV ρ' w' fr a.tmps->Rep w' ρ' s v->KInfo ρ hp w ρ' hp' w'->next (a.put o.dst v) w')->o.wp P a w next Q
theorem aBu.drop {P:Program}{o:Oper}{pin:Pin}{fr:Fr}{hp:Hp}{K:SV->Hp->Prop}(h:aBu P o pin fr hp K):aEb P o pin fr hp K:=
 λE ρ a w f e j next Q i=>h E ρ a w f e j next Q λv w' g s hp' a b c d _=>i v w' g s hp' a b c d
theorem aEb.pure {P:Program}{o:Oper}{pin:Pin}{fr:Fr}{hp:Hp}{K:SV->Hp->Prop}(h:fI P o fr hp λs=>K s hp):aEb P o pin fr hp K:=by
 intro E ρ a w _ b c next Q f
 obtain⟨v,s,d,e,g⟩:=h E ρ a w b c
 exact bW (d w (Kept.refl ρ hp w)) (f v w ρ s hp g b c e)
theorem Rep.int_inv {w:World}{ρ:Env}{k:IntKind}{n:Int}{v:Value}(h:Rep w ρ (.d (.int k n)) v):v= .int k n:=by
 cases h with|d _ _ h=>cases h;rfl
theorem Rep.bool_inv {w:World}{ρ:Env}{b:Bool}{v:Value}(h:Rep w ρ (.d (.bool b)) v):v= .bool b:=by
 cases h with|d _ _ h=>cases h;rfl
theorem Rep.str_inv {w:World}{ρ:Env}{l:List UInt8}{v:Value}(h:Rep w ρ (.d (.str l)) v):v= .string ⟨l.toArray⟩/\l.length<=9223372036854775807:=by
 cases h with|d _ _ h=>cases h with|str _ h=>exact⟨rfl,by simpa only [maxLen]using h⟩
theorem Rep.nil_inv {w:World}{ρ:Env}{v:Value}(h:Rep w ρ (.d .nil) v):v= .slice none 0 0:=by
 cases h with|d _ _ h=>cases h;rfl
theorem Rep.lit_inv {w:World}{ρ:Env}{u v:Value}(h:Rep w ρ (.d (.lit u)) v):v=u:=by
 cases h with|d _ _ h=>cases h;rfl
theorem Rep.ptr_inv {w:World}{ρ:Env}{id off:Nat}{v:Value}(h:Rep w ρ (.ptr id off) v): ∃g,ρ.blk id=some g/\v= .pointer (some ⟨g,off,none⟩):=by
 cases h with|ptr _ _ g h=>exact⟨g,h,rfl⟩
theorem Rep.ea_inv {w:World}{ρ:Env}{z i off:Nat}{rows:List (List D)}{v:Value}(h:Rep w ρ (.ea z rows i off) v): ∃b o,View w ρ.S z rows b o/\v= .pointer (some ⟨b,o+(i * z+off),none⟩):=by
 cases h with|ea _ _ _ _ b o h=>exact⟨b,o,h,rfl⟩
theorem Rep.agg_inv {w:World}{ρ:Env}{cs:List SV}{v:Value}(h:Rep w ρ (.agg cs) v): ∃vs:Array Value,v= .agg vs/\vs.size=cs.length/\ ∀(j:Nat) (s:SV) (u:Value),cs[j]? =some s->vs[j]? =some u->Rep w ρ s u:=by
 cases h with|agg _ vs hl h=>exact⟨vs,rfl,hl,h⟩
theorem Rep.dagg_inv {w:World}{ρ:Env}{cs:List D}{v:Value}(h:Rep w ρ (.d (.agg cs)) v): ∃vs:Array Value,v= .agg vs/\vs.size=cs.length/\ ∀(j:Nat) (x:D) (u:Value),cs[j]? =some x->vs[j]? =some u->RepD w ρ.S x u:=by
 cases h with|d _ _ h=>cases h with|agg _ vs hl h=>exact⟨vs,rfl,hl,h⟩
theorem Rep.tup_inv {w:World}{ρ:Env}{cs:List SV}{v:Value}(h:Rep w ρ (.tup cs) v): ∃vs:Array Value,v= .tuple vs/\vs.size=cs.length/\ ∀(j:Nat) (s:SV) (u:Value),cs[j]? =some s->vs[j]? =some u->Rep w ρ s u:=by
 cases h with|tup _ vs hl h=>exact⟨vs,rfl,hl,h⟩
theorem Rep.msl_inv {w:World}{ρ:Env}{id z off n:Nat}{v:Value}(h:Rep w ρ (.msl id z off n) v): ∃g cap,ρ.blk id=some g/\v= .slice (some ⟨g,off,none⟩) n cap/\n<=cap/\cap<=maxLen:=by
 cases h with|msl _ _ _ _ g cap h hn hc=>exact⟨g,cap,h,rfl,Nat.le_of_eq hn,hc⟩
theorem Rep.msl_full {w:World}{ρ:Env}{id z off n:Nat}{v:Value}(h:Rep w ρ (.msl id z off n) v): ∃g,ρ.blk id=some g/\v= .slice (some ⟨g,off,none⟩) n n/\n<=maxLen:=by
 cases h with|msl _ _ _ _ g cap h hn hc=>subst hn;exact⟨g,h,rfl,hc⟩
theorem Rep.osl_inv {w:World}{ρ:Env}{id z:Nat}{rows:List (List D)}{v:Value}(h:Rep w ρ (.osl id z rows) v):RepD w ρ.S (.sl z rows) v/\rows.length<=ρ.n id/\(rows.length=ρ.n id->v=ρ.tv id):=by
 cases h with|osl _ _ _ _ h hn ht=>exact⟨h,hn,ht⟩
theorem Rep.fn_inv {w:World}{ρ:Env}{f:FuncId}{first cap:List SV}{v:Value}(h:Rep w ρ (.fn f first cap) v): ∃fv cv:Array Value,v= .func (.func f) fv cv/\fv.size=first.length/\cv.size=cap.length/\
  (∀(j:Nat) (s:SV) (u:Value),first[j]? =some s->fv[j]? =some u->Rep w ρ s u)/\(∀(j:Nat) (s:SV) (u:Value),cap[j]? =some s->cv[j]? =some u->Rep w ρ s u):=by
 cases h with|fn _ _ _ fv cv hf hc h1 h2=>exact⟨fv,cv,rfl,hf,hc,h1,h2⟩
def bAx:List SV->Option (List D)
 | []=>some []
 | .d x::r=>match bAx r with|some l=>some (x::l)|none=>none
 |_::_=>none
def aC7 (cs:List SV):SV:=match bAx cs with|some l=> .d (.agg l)|none=> .agg cs
theorem aNn {cs:List SV}{l:List D}(h:bAx cs=some l):cs=l.map .d:=by
 induction cs generalizing l with
 |nil=>simp [bAx]at h;subst h;rfl
 |cons s r ih=>
  cases s<;>simp [bAx]at h
  split at h
  ·rename_i l' hl
   simp at h
   subst h
   simp [ih hl]
  ·cases h
theorem oO {w:World}{ρ:Env}{cs:List SV}{vs:Array Value}(hl:vs.size=cs.length) (h: ∀(j:Nat) (s:SV) (v:Value),cs[j]? =some s->vs[j]? =some v->Rep w ρ s v):Rep w ρ (aC7 cs) (.agg vs):=by
 unfold aC7
 split
 ·rename_i l a
  have e:=aNn a
  subst e
  refine .d _ _ (.agg l vs (by simpa using hl) λj x v hx b=> ?_)
  have:=h j (.d x) v (by simp [hx]) b
  cases this with|d _ _ h=>exact h
 ·exact .agg cs vs hl h
def vS:SV->Option (List SV)
 | .d (.agg ds)=>some (ds.map .d)
 | .agg cs=>some cs
 |_=>none
theorem tP {w:World}{ρ:Env}{s:SV}{v:Value}{cs:List SV}(h:vS s=some cs) (hr:Rep w ρ s v): ∃vs:Array Value,v= .agg vs/\vs.size=cs.length/\ ∀(j:Nat) (s:SV) (u:Value),cs[j]? =some s->vs[j]? =some u->Rep w ρ s u:=by
 unfold vS at h
 split at h
 ·simp at h;subst h
  obtain⟨vs,e,hl,c⟩:=hr.dagg_inv
  refine⟨vs,e,by simpa using hl,λj s u a b=> ?_⟩
  simp only [List.getElem?_map,Option.map_eq_some_iff]at a
  obtain⟨x,hx,rfl⟩:=a
  exact .d _ _ (c j x u hx b)
 ·simp at h;subst h
  exact hr.agg_inv
 ·cases h
def aKk:D->Bool
 | .agg _=>false
 | .lit v=>v.oneCell'
 |_=>true
def aC9:SV->Bool
 | .d x=>aKk x
 | .agg _=>false
 | .tup _=>false
 |_=>true
theorem yX {w:World}{S:Nat->Nat->Prop}{x:D}{v:Value}(h:RepD w S x v) (hl:aKk x=true):v.oneCell'=true:=by
 cases h<;>simp_all [aKk,Value.oneCell']
theorem yW {w:World}{ρ:Env}{s:SV}{v:Value}(h:Rep w ρ s v) (hl:aC9 s=true):v.oneCell'=true:=by
 cases h with
 |d x v h=>exact yX h (by simpa [aC9]using hl)
 |agg=>simp [aC9]at hl
 |tup=>simp [aC9]at hl
 |ptr=>rfl
 |ea=>rfl
 |osl id z rows v h=>exact yX h rfl
 |msl=>rfl
 |fn=>rfl
 |mw=>rfl
 |ms=>rfl
 |mp=>rfl
 |zc=>rfl
 |yld=>rfl
 |xv _ _ _ _ h1=>exact h1
theorem Rep.mw_inv {w:World}{ρ:Env}{id z n:Nat}{v:Value}(h:Rep w ρ (.mw id z n) v): ∃A cap,v= .slice A n cap/\n<=cap/\cap<=maxLen/\(n≠0-> ∃g,A=some ⟨g,0,none⟩)/\n<=ρ.n id/\(n=ρ.n id->v=ρ.tv id):=by
 cases h with|mw _ _ _ cap A hn hc hA h1 h2=>exact⟨A,cap,rfl,hn,hc,hA,h1,h2⟩
theorem Rep.ms_inv {w:World}{ρ:Env}{id z lo n ver:Nat}{v:Value}(h:Rep w ρ (.ms id z lo n ver) v): ∃A cap,v= .slice A n cap/\n<=cap/\cap<=maxLen/\(n≠0-> ∃a,A=some a)/\ver<=ρ.n id/\(ver=ρ.n id->aYz z lo n (ρ.tv id) v):=by
 cases h with|ms _ _ _ _ _ cap A hn hc hA h1 h2=>exact⟨A,cap,rfl,hn,hc,hA,h1,h2⟩
theorem Rep.mp_inv {w:World}{ρ:Env}{id z i off ver:Nat}{v:Value}(h:Rep w ρ (.mp id z i off ver) v): ∃a,v= .pointer (some a)/\ver<=ρ.n id/\(ver=ρ.n id-> ∃g,gB (ρ.tv id)=some g/\a=⟨g,i * z+off,none⟩):=by
 cases h with|mp _ _ _ _ _ a h1 h2=>exact⟨a,rfl,h1,h2⟩
theorem Rep.zc_inv {w:World}{ρ:Env}{v:Value}(h:Rep w ρ .zc v): ∃A,v= .slice A 0 0:=by
 cases h with|zc A=>exact⟨A,rfl⟩
theorem Rep.yld_inv {w:World}{ρ:Env}{id:Nat}{v:Value}(h:Rep w ρ (.yld id) v): ∃l,ρ.blk id=some l/\v= .func (.yield l) #[] #[]:=by
 cases h with|yld _ l h=>exact⟨l,h,rfl⟩
theorem Rep.xv_inv {w:World}{ρ:Env}{id:Nat}{mk:Nat->Value}{v:Value}(h:Rep w ρ (.xv id mk) v): ∃g,ρ.blk id=some g/\v=mk g/\(mk g).oneCell'=true:=by
 cases h with|xv _ _ g h h1=>exact⟨g,h,rfl,h1⟩
end
end Go.Proofs.YtbobcfjlbcgchaaGreatDoor
