/-
  Symbolic operations on rows that may be written: stores, make, append.
  Conditions: none.
-/
import Derived.Test.YtbobcfjlbcgchaaGreatDoorWSi
import Derived.Great.BuildSlice
import Derived.Laws.MakeOwn
set_option linter.unusedSectionVars false
set_option linter.unusedSimpArgs false
set_option linter.unusedVariables false
set_option maxHeartbeats 1000000
namespace Go.Proofs.YtbobcfjlbcgchaaGreatDoor
section
open Go.RowKit
section
variable {P:Program}
theorem aTr (off:Nat): ∀(l:List Value) (k:Nat) (cs:Array Value),
  ((l.zipIdx k).foldl (λ(cs:Array Value) (p:Value×Nat)=>cs.setIfInBounds (off+p.2) p.1) cs).size=cs.size/\
  ∀j,((l.zipIdx k).foldl (λ(cs:Array Value) (p:Value×Nat)=>cs.setIfInBounds (off+p.2) p.1) cs)[j]? =if off+k<=j/\j < off+k+l.length/\j < cs.size then l[j - (off+k)]? else cs[j]? :=by
 intro l
 induction l with
 |nil=>intro k cs;simp;intro j c d;omega
 |cons v r ih=>
  intro k cs
  simp only [List.zipIdx_cons,List.foldl_cons]
  obtain⟨c,d⟩:=ih (k+1) (cs.setIfInBounds (off+k) v)
  refine⟨by rw [c];simp,λj=> ?_⟩
  rw [d j]
  simp only [Array.size_setIfInBounds,List.length_cons]
  by_cases b:j < cs.size
  ·by_cases e:j=off+k
   ·subst e
    rw [if_neg (by omega),if_pos ⟨by omega,by omega,b⟩]
    simp [b]
   ·by_cases a:off+(k+1)<=j/\j < off+(k+1)+r.length/\j < cs.size
    ·rw [if_pos a,if_pos ⟨by omega,by omega,b⟩]
     obtain⟨q,hq⟩: ∃q,j - (off+k)=q+1:=⟨j - (off+(k+1)),by omega⟩
     rw [hq]
     simp only [List.getElem?_cons_succ]
     congr 1
     omega
    ·rw [if_neg a,if_neg (by omega),Array.getElem?_setIfInBounds_ne (by omega)]
  ·rw [if_neg (by omega),if_neg (by omega)]
   rw [Array.getElem?_eq_none (by simpa using b),Array.getElem?_eq_none (by omega)]
theorem aB3 (off:Nat) (vc cs:Array Value) (h:off+vc.size<=cs.size):
  (vc.zipIdx.foldl (λcs (c,j)=>cs.setIfInBounds (off+j) c) cs).toList=cs.toList.take off++vc.toList++cs.toList.drop (off+vc.toList.length):=by
 rw [<-Array.foldl_toList]
 have e:vc.zipIdx.toList=vc.toList.zipIdx:=by simp
 rw [e]
 obtain⟨h1,d⟩:=aTr off vc.toList 0 cs
 apply List.ext_getElem?
 intro j
 rw [splice_getElem? _ _ _ _ (by simpa using h)]
 have:=d j
 rw [Array.getElem?_toList]
 refine Eq.trans this ?_
 simp only [Nat.add_zero,Array.length_toList,Array.getElem?_toList]
 by_cases a:j < off
 ·rw [if_pos a,if_neg (by omega)]
 ·rw [if_neg a]
  by_cases b:j < off+vc.size
  ·rw [if_pos b,if_pos ⟨by omega,b,by omega⟩]
  ·rw [if_neg b,if_neg (by omega)]
def aPv (place:Nat->Option (Nat×Nat)):List SV->List (Nat×SV)->Option (List SV)
 |cs,[]=>some cs
 |cs,(i,s)::r=>
  match place i with
  |some (off,size)=>
   match kF s with
   |some ns=>if ns.length=size/\off+size<=cs.length then aPv place (jV cs off ns) r else none
   |none=>none
  |none=>none
def zH (w:World) (ρ:Env) (cs:List SV) (vs:Array Value):Prop:=
 vs.size=cs.length/\(∀v∈vs,v.oneCell'=true)/\ ∀(j:Nat) (s:SV) (v:Value),cs[j]? =some s->vs[j]? =some v->Rep w ρ s v
theorem aN1 {w:World}{ρ:Env}(place:Nat->Option (Nat×Nat)): ∀(parts:List (Nat×SV)) (pv:List (Nat×Value)) (cs:List SV) (vs:Array Value) (r:List SV),
  zH w ρ cs vs->pv.length=parts.length->(∀(j:Nat) (i:Nat) (s:SV) (t:Nat) (v:Value),parts[j]? =some (i,s)->pv[j]? =some (t,v)->i=t/\Rep w ρ s v)->aPv place cs parts=some r->
  ∃rs,Instr.fill place vs pv=some rs/\zH w ρ r rs:=by
 intro parts
 induction parts with
 |nil=>
  intro pv cs vs r x hl _ h
  have:pv=[]:=List.eq_nil_of_length_eq_zero (by simpa using hl)
  subst this
  simp [aPv]at h
  subst h
  exact⟨vs,rfl,x⟩
 |cons p rest ih=>
  obtain⟨i,s⟩:=p
  intro pv cs vs r x hl hp h
  obtain⟨q,pv',rfl⟩: ∃q pv',pv=q::pv':=by
   cases pv with
   |nil=>simp at hl
   |cons q pv'=>exact⟨q,pv',rfl⟩
  obtain⟨t,v⟩:=q
  obtain⟨rfl,J⟩:=hp 0 i s t v rfl rfl
  simp only [aPv]at h
  split at h
  ·rename_i off size z
   split at h
   ·rename_i E y
    split at h
    ·rename_i hcond
     obtain⟨K,L,I⟩:=oV y J
     obtain⟨c1,C,D⟩:=x
     have g:off+v.cells.size<=vs.size:=by omega
     have n:zH w ρ (jV cs off E) (v.cells.zipIdx.foldl (λcs (c,j)=>cs.setIfInBounds (off+j) c) vs):=by
      have o:=aB3 off v.cells vs g
      generalize v.cells.zipIdx.foldl (λcs (c,j)=>cs.setIfInBounds (off+j) c) vs=us at o |-
      have m:us=(vs.toList.take off++v.cells.toList++vs.toList.drop (off+v.cells.toList.length)).toArray:=by rw [<-o]
      refine⟨?_, ?_, ?_⟩
      ·rw [m]
       simp only [List.size_toArray,List.length_append,List.length_take,List.length_drop,jV,Array.length_toList]
       omega
      ·intro u e
       rw [m]at e
       simp only [List.mem_toArray,List.mem_append]at e
       rcases e with(e|e)|e
       ·exact C u (by simpa using List.mem_of_mem_take e)
       ·exact L u (by simpa using e)
       ·exact C u (by simpa using List.mem_of_mem_drop e)
      ·intro j A u l e
       rw [m]at e
       have d:(vs.toList.take off++v.cells.toList++vs.toList.drop (off+v.cells.toList.length))[j]? =some u:=by rw [<-e];simp
       rw [splice_getElem? _ _ _ _ (by simpa using g)]at d
       unfold jV at l
       rw [splice_getElem? _ _ _ _ (by omega)]at l
       have B:v.cells.toList.length=E.length:=by rw [Array.length_toList];exact K
       rw [B]at d
       split at l
       ·rename_i k;rw [if_pos k]at d;exact D j A u l (by simpa using d)
       ·rename_i k
        rw [if_neg k]at d
        split at l
        ·rename_i f;rw [if_pos f]at d;exact I _ A u l (by simpa using d)
        ·rename_i f;rw [if_neg f]at d;exact D j A u l (by simpa using d)
     obtain⟨rs,e1,e2⟩:=ih pv' _ _ r n (by simpa using hl) (λj a b a' G F H=>hp (j+1) a b a' G (by simpa using F) (by simpa using H)) h
     refine⟨rs, ?_,e2⟩
     simp only [Instr.fill,z]
     rw [if_neg]
     ·exact e1
     ·simp;omega
    ·cases h
   ·cases h
  ·cases h
def aAe (ti:TypeId->Option TI):List (TypeId×Nat)->Option (List (Nat×Nat))
 | []=>some []
 |(ft,off)::r=>
  match ti ft with
  |some T=>match aAe ti r with|some l=>some ((off,T.size)::l)|none=>none
  |none=>none
theorem aOv {ti:TypeId->Option TI}(hti:fH P ti): ∀(a:List Field) (l:List (Nat×Nat)),aAe ti (a.map λf=>(f.type,f.offset))=some l->a.mapM (λf=>(P.info? f.type).map λi=>(f.offset,i.size))=some l:=by
 intro a
 induction a with
 |nil=>intro l h;simp [aAe]at h;subst h;simp
 |cons f r ih=>
  intro l h
  simp only [List.map_cons,aAe]at h
  split at h
  ·rename_i T b
   obtain⟨d,i,z,b⟩:=aO (hti _ _ b)
   split at h
   ·rename_i e c
    simp at h
    subst h
    simp [ih e c,b.info,b.size]
   ·cases h
  ·cases h
def evP (fr:Fr):List (Nat×Operand)->Option (List (Nat×SV))
 | []=>some []
 |(i,x)::r=>match evO fr x with
  |some s=>match evP fr r with|some l=>some ((i,s)::l)|none=>none
  |none=>none
theorem aYn {ρ:Env}{w:World}{fr:Fr}{a:Act}(hf:dV ρ w fr a.tmps): ∀(xs:List (Nat×Operand)) (l:List (Nat×SV)),evP fr xs=some l->
  (xs.map λp=>(p.1,a.eval p.2)).length=l.length/\ ∀(j:Nat) (i:Nat) (s:SV) (b:Nat) (v:Value),l[j]? =some (i,s)->(xs.map λp=>(p.1,a.eval p.2))[j]? =some (b,v)->i=b/\Rep w ρ s v:=by
 intro xs
 induction xs with
 |nil=>intro l h;simp [evP]at h;subst h;simp
 |cons p r ih=>
  obtain⟨i0,x⟩:=p
  intro l h
  simp only [evP]at h
  split at h
  ·rename_i s n
   split at h
   ·rename_i m e
    simp at h
    subst h
    obtain⟨g,f⟩:=ih m e
    refine⟨by simpa using g,λj i k b v d c=> ?_⟩
    cases j with
    |zero=>simp at d c;obtain⟨rfl,rfl⟩:=d;obtain⟨rfl,rfl⟩:=c;exact⟨rfl,aV hf n⟩
    |succ j=>exact f j i k b v (by simpa using d) (by simpa using c)
   ·cases h
  ·cases h
def aQz (ti:TypeId->Option TI) (t:TypeId) (parts:List (Nat×SV)) (K:SV->Prop):Prop:=
 match ti t with
 |some T=>
  (match T.td with
  | .struct fs=>
   (match aAe ti fs with
   |some pl=>(match aPv (λi=>pl[i]?) (T.zero.map .d) parts with|some cs=>K (aC7 cs)|none=>aH "build: fill")
   |none=>aH "build: places")
  | .array _ e=>
   (match ti e with
   |some T2=>(match aPv (λi=>some (i * T2.size,T2.size)) (T.zero.map .d) parts with|some cs=>K (aC7 cs)|none=>aH "build: fill")
   |none=>aH "build: an element's type")
  |_=>aH "build: a type")
 |none=>aH "build: a type"
theorem aNs {t:TypeId}{T:TI}{d:TypeDesc}{i:TypeInfo}{z:Value}(hT:TIok P t T d i z) (w:World) (ρ:Env):zH w ρ (T.zero.map .d) z.cells:=by
 refine⟨by simp [hT.zs],hT.one, ?_⟩
 intro j s v a c
 rw [hT.zs]at a
 simp only [List.map_map,List.getElem?_map,Option.map_eq_some_iff]at a
 obtain⟨u,e,rfl⟩:=a
 have:u=v:=by
  have b:z.cells[j]? =some u:=by simpa using e
  rw [b]at c;injection c
 subst this
 exact .d _ _ (uL w ρ.S u)
theorem aWp {ti:TypeId->Option TI}(hti:fH P ti) {o:Oper}{t:TypeId}{parts:Array (Nat×Operand)}(ho:o.op= .build t parts) {fr:Fr}{hp:Hp}{K:SV->Prop}
  (h:match evP fr parts.toList with|some l=>aQz ti t l K|none=>aH "build: a part"):fI P o fr hp K:=by
 intro E ρ a w hm C
 split at h
 ·rename_i l hl
  obtain⟨y,A⟩:=aYn C _ _ hl
  have g: ∀cells:Array Value,P.built t (parts.toList.map λp=>(p.1,a.eval p.2))=some cells-> ∀w',Kept ρ hp w w'->(execOp a.eval o).run P w'= .ok (.value (.agg cells)) w':=by
   intro cells e w' _
   have:=run_build (P:=P) w' t (parts.map λp=>(p.1,a.eval p.2)) cells (by simpa using e)
   have e2:(parts.map λ(x:Nat×Operand)=>match x with|(i,x)=>(i,a.eval x))=parts.map λp=>(p.1,a.eval p.2):=rfl
   simp only [execOp,ho,Sem.run_bind,this,Result.andThen_ok,Sem.run_pure]
  unfold aQz at h
  split at h
  ·rename_i T b
   obtain⟨d,i,z,b⟩:=aO (hti _ _ b)
   have r:=aNs b w ρ
   have f:=b.td
   split at h
   ·rename_i fs v
    rw [v]at f
    obtain⟨gs,rfl,q⟩:=rK f
    subst q
    split at h
    ·rename_i pl s
     have m:=aOv hti _ _ s
     split at h
     ·rename_i cs j
      obtain⟨rs,u,k⟩:=aN1 _ l _ _ _ cs r y A j
      refine⟨_,_,g rs ?_,oO k.1 k.2.2,h⟩
      simp only [Program.built,b.info,b.und,b.zero,m,List.getElem?_toArray]
      exact u
     ·exact h.elim
    ·exact h.elim
   ·rename_i n e B
    rw [B]at f
    have D:=mQ f
    subst D
    split at h
    ·rename_i T2 c
     obtain⟨d2,i2,z2,c⟩:=aO (hti _ _ c)
     split at h
     ·rename_i cs j
      obtain⟨rs,u,k⟩:=aN1 _ l _ _ _ cs r y A j
      refine⟨_,_,g rs ?_,oO k.1 k.2.2,h⟩
      simp only [Program.built,b.info,b.und,b.zero,c.info,c.size]
      exact u
     ·exact h.elim
    ·exact h.elim
   ·exact h.elim
  ·exact h.elim
 ·exact h.elim
end
section
variable {P:Program}
def asD:SV->Option D
 | .d x=>some x
 | .osl _ z rows=>some (.sl z rows)
 |_=>none
theorem aNm {w:World}{ρ:Env}{s:SV}{v:Value}{x:D}(h:asD s=some x) (hr:Rep w ρ s v):RepD w ρ.S x v:=by
 unfold asD at h
 split at h
 ·injection h with h;subst h;cases hr with|d _ _ h=>exact h
 ·injection h with h;subst h;exact hr.osl_inv.1
 ·cases h
def bAt:List SV->Option (List D)
 | []=>some []
 |s::r=>match asD s with|some x=>(match bAt r with|some l=>some (x::l)|none=>none)|none=>none
theorem aL8: ∀{cs:List SV}{l:List D},bAt cs=some l->l.length=cs.length/\ ∀(j:Nat) (x:D),l[j]? =some x-> ∃s,cs[j]? =some s/\asD s=some x:=by
 intro cs
 induction cs with
 |nil=>intro l h;simp [bAt]at h;subst h;exact⟨rfl,by simp⟩
 |cons s r ih=>
  intro l h
  simp only [bAt]at h
  split at h
  ·rename_i x hx
   split at h
   ·rename_i l' b
    injection h with h
    subst h
    obtain⟨d,c⟩:=ih b
    refine⟨by simp [d],λj y a=> ?_⟩
    cases j with
    |zero=>simp at a;subst a;exact⟨s,by simp,hx⟩
    |succ j=>simp at a;simpa using c j y a
   ·cases h
  ·cases h
def aS3 (s:SV):Option (List D):=match kF s with|some cs=>bAt cs|none=>none
def aTv (z:Nat):List (List D)->List (Nat×SV)->Option (List (List D))
 |rows,[]=>some rows
 |rows,(i,s)::r=>
  match aS3 s with
  |some row=>if row.length=z/\i < rows.length then aTv z (rows.set i row) r else none
  |none=>none
theorem aS2 {w:World}{ρ:Env}{s:SV}{v:Value}{row:List D}(h:aS3 s=some row) (hr:Rep w ρ s v):
  v.cells.size=row.length/\(∀u∈v.cells,u.oneCell'=true)/\ ∀(j:Nat) (x:D) (u:Value),row[j]? =some x->v.cells[j]? =some u->RepD w ρ.S x u:=by
 unfold aS3 at h
 split at h
 ·rename_i cs a
  obtain⟨k1,e,g⟩:=oV a hr
  obtain⟨e1,e2⟩:=aL8 h
  refine⟨by omega,e,λj x u hx f=> ?_⟩
  obtain⟨d,b,c⟩:=e2 j x hx
  exact aNm c (g j d u b f)
 ·cases h
theorem Flat.set {w:World}{S:Nat->Nat->Prop}{z:Nat}{rows:List (List D)}{vs:List Value}(h:Flat w S z rows vs) {i:Nat}(hi:i < rows.length) {row:List D}(hrow:row.length=z) {pv:List Value}(hpl:pv.length=z)
  (h1: ∀u∈pv,u.oneCell'=true) (hr: ∀(j:Nat) (x:D) (u:Value),row[j]? =some x->pv[j]? =some u->RepD w S x u):
  Flat w S z (rows.set i row) (vs.take (i * z)++pv++vs.drop (i * z+pv.length)):=by
 have l:i * z+pv.length<=vs.length:=by
  rw [h.len,hpl]
  have:(i+1)* z<=rows.length * z:=Nat.mul_le_mul_right z hi
  rw [Nat.add_mul]at this
  omega
 refine⟨?_, ?_, ?_, ?_⟩
 ·simp only [List.length_append,List.length_take,List.length_drop,List.length_set]
  rw [<-h.len]
  omega
 ·intro r c
  rcases List.mem_or_eq_of_mem_set c with c|c
  ·exact h.hz r c
  ·rw [c];exact hrow
 ·intro u d
  simp only [List.mem_append]at d
  rcases d with(d|d)|d
  ·exact h.one u (List.mem_of_mem_take d)
  ·exact h1 u d
  ·exact h.one u (List.mem_of_mem_drop d)
 ·intro a r j x b hx
  rw [splice_getElem? _ _ _ _ l]
  by_cases e:a=i
  ·subst e
   rw [List.getElem?_set_self hi]at b
   injection b with b
   subst b
   have hj:j < row.length:=(List.getElem?_eq_some_iff.1 hx).1
   rw [if_neg (by omega),if_pos (by omega)]
   have:a * z+j - a * z=j:=by omega
   rw [this]
   have f:pv[j]? =some (pv[j]'(by omega)):=List.getElem?_eq_getElem (by omega)
   exact⟨_,f,hr j x _ hx f⟩
  ·rw [List.getElem?_set_ne (λn=>e n.symm)]at b
   obtain⟨v,m,g⟩:=h.at_ a r j x b hx
   refine⟨v, ?_,g⟩
   have hlt:=zX h.hz b hx
   by_cases k:a < i
   ·have:(a+1)* z<=i * z:=Nat.mul_le_mul_right z k
    rw [Nat.add_mul]at this
    rw [if_pos (by omega)]
    exact m
   ·have:(i+1)* z<=a * z:=Nat.mul_le_mul_right z (by omega)
    rw [Nat.add_mul]at this
    rw [if_neg (by omega),if_neg (by omega)]
    exact m
theorem aXb {w:World}{ρ:Env}(z:Nat): ∀(parts:List (Nat×SV)) (pv:List (Nat×Value)) (rows:List (List D)) (vs:Array Value) (r:List (List D)),
  Flat w ρ.S z rows vs.toList->pv.length=parts.length->(∀(j:Nat) (i:Nat) (s:SV) (k:Nat) (v:Value),parts[j]? =some (i,s)->pv[j]? =some (k,v)->i=k/\Rep w ρ s v)->aTv z rows parts=some r->
  ∃rs,Instr.fill (λi=>some (i * z,z)) vs pv=some rs/\Flat w ρ.S z r rs.toList/\r.length=rows.length:=by
 intro parts
 induction parts with
 |nil=>
  intro pv rows vs r g hl _ h
  have:pv=[]:=List.eq_nil_of_length_eq_zero (by simpa using hl)
  subst this
  simp [aTv]at h
  subst h
  exact⟨vs,rfl,g,rfl⟩
 |cons p rest ih=>
  obtain⟨i,s⟩:=p
  intro pv rows vs r g hl hp h
  obtain⟨q,pv',rfl⟩: ∃q pv',pv=q::pv':=by
   cases pv with
   |nil=>simp at hl
   |cons q pv'=>exact⟨q,pv',rfl⟩
  obtain⟨k,v⟩:=q
  obtain⟨rfl,C⟩:=hp 0 i s k v rfl rfl
  simp only [aTv]at h
  split at h
  ·rename_i row e
   split at h
   ·rename_i c
    obtain⟨o,E,B⟩:=aS2 e C
    have f:i * z+v.cells.size<=vs.size:=by
     have:=g.len
     rw [Array.length_toList]at this
     rw [this,o,c.1]
     have m:(i+1)* z<=rows.length * z:=Nat.mul_le_mul_right z c.2
     rw [Nat.add_mul]at m
     omega
    have n:=aB3 (i * z) v.cells vs f
    have d:=g.set c.2 c.1 (pv:=v.cells.toList) (by rw [Array.length_toList,o];exact c.1) (λu l=>E u (by simpa using l)) (λj x u hx l=>B j x u hx (by simpa using l))
    rw [<-n]at d
    obtain⟨rs,e1,e2,y⟩:=ih pv' _ _ r d (by simpa using hl) (λj a b a' A t m=>hp (j+1) a b a' A (by simpa using t) (by simpa using m)) h
    refine⟨rs, ?_,e2,by rw [y];simp⟩
    simp only [Instr.fill]
    rw [if_neg]
    ·exact e1
    ·simp;omega
   ·cases h
  ·cases h
def mW (ti:TypeId->Option TI) (t:TypeId) (len id:Nat) (parts:List (Nat×SV)) (pin:Pin) (fr:Fr) (hp:Hp) (K:SV->Hp->Prop):Prop:=
 match ti t with
 |some { td:= .slice e, .. }=>
  (match ti e with
  |some T=>
   0 < T.size/\len * T.size<=16777216/\
   (match aTv T.size (List.replicate len T.zero) parts with
   |some rows=>fE id pin fr hp/\K (.osl id T.size rows) ((id, .own e T.size rows.length)::hp)
   |none=>aH "buildSlice: fill")
  |none=>aH "buildSlice: an element's type")
 |_=>aH "buildSlice: a type"
theorem tR {t:TypeId}{T:TI}{d:TypeDesc}{i:TypeInfo}{z:Value}(hT:TIok P t T d i z) (w:World) (S:Nat->Nat->Prop) (len:Nat) (hpos:0 < T.size):
  Flat w S T.size (List.replicate len T.zero) ((Array.range (len * i.size)).map (z.cells[· % z.cells.size]!)).toList:=by
 have c:T.zero.length=T.size:=by rw [hT.zs,List.length_map,Array.length_toList,hT.cells,hT.size]
 have f:z.cells.size=T.size:=by rw [hT.cells,hT.size]
 refine⟨by simp [hT.size], ?_, ?_, ?_⟩
 ·intro g h
  rw [List.eq_of_mem_replicate h]
  exact c
 ·intro v l
  simp only [Array.toList_map,List.mem_map]at l
  obtain⟨k,_,rfl⟩:=l
  have b:k % z.cells.size < z.cells.size:=Nat.mod_lt _ (by omega)
  rw [getElem!_pos z.cells _ b]
  exact hT.one _ (Array.getElem_mem b)
 ·intro a g j x m e
  have h:=List.eq_of_mem_replicate (List.mem_of_getElem? m)
  subst h
  have p:a < len:=by simpa using (List.getElem?_eq_some_iff.1 m).1
  have q:j < T.size:=by rw [<-c];exact(List.getElem?_eq_some_iff.1 e).1
  have b:a * T.size+j < len * i.size:=by
   have:(a+1)* T.size<=len * T.size:=Nat.mul_le_mul_right _ p
   rw [Nat.add_mul]at this
   rw [hT.size];omega
  refine⟨z.cells[(a * T.size+j) % z.cells.size]!, ?_, ?_⟩
  ·simp [b]
  ·have n:(a * T.size+j) % z.cells.size=j:=by rw [f,Nat.mul_comm,Nat.mul_add_mod,Nat.mod_eq_of_lt q]
   rw [n,getElem!_pos z.cells j (by omega)]
   rw [hT.zs]at e
   simp only [List.getElem?_map,Option.map_eq_some_iff]at e
   obtain⟨u,o,rfl⟩:=e
   have:z.cells[j]? =some u:=by simpa using o
   rw [Array.getElem?_eq_getElem (by omega)]at this
   injection this with this
   rw [this]
   exact uL w S u
theorem Env.grown_kb (ρ:Env) {id n z i:Nat}{v:Value}{x:HObj}(h:i≠id):(ρ.grown id n z v).kb i x=ρ.kb i x:=by
 cases x<;>simp [Env.kb,Env.grown,h]
theorem Env.kb_at {ρ:Env}{i g:Nat}{x:HObj}(h:ρ.kb i x=some g):ρ.at i x=some g\/ρ.blk i=some g/\x.Rd:=by
 cases x with
 |cells t cs=>exact .inl h
 |ro t cs=>exact .inr ⟨h,trivial⟩
 |rox X=>exact .inr ⟨h,trivial⟩
 |own=>cases h
 |mrow=>exact .inl h
 |loop=>exact .inl h
 |ext=>exact .inl h
 |glob=>cases h
theorem aP8 {w:World}{e z cap:Nat}{cur:Array Value}{rows:List (List D)}{vs:List Value}{S:Nat->Nat->Prop}(hfl:Flat w S z rows vs) (hcur:cur.toList.take (rows.length * z)=vs) (hc:cur.size=cap * z) (hle:rows.length<=cap) (hm:cap<=maxLen):
  (w.alloc (.cells cur e)).ownsRow 0 e z (.slice (some ⟨w.heap.size,0,none⟩) rows.length cap) rows.length vs:=
 ⟨hfl.len, .inr ⟨w.heap.size,cap,cur,rfl,Nat.zero_le _,heap_alloc_new w _,hle,hm,hc,hcur⟩⟩
theorem uX {ti:TypeId->Option TI}(hti:fH P ti) {o:Oper}{t:TypeId}{len id:Nat}{parts:Array (Nat×Operand)}(ho:o.op= .buildSlice t len parts) {pin:Pin}{fr:Fr}{hp:Hp}{K:SV->Hp->Prop}
  (h:match evP fr parts.toList with|some l=>mW ti t len id l pin fr hp K|none=>aH "buildSlice: a part"):aBu P o pin fr hp K:=by
 intro E ρ a w hp' I L next Q hn
 split at h
 ·rename_i l hl
  obtain⟨O,Y⟩:=aYn L _ _ hl
  unfold mW at h
  split at h
  ·rename_i e _ _ _ u
   obtain⟨d,i,z,u⟩:=aO (hti _ _ u)
   have hd:=cK u.td
   subst hd
   split at h
   ·rename_i T b
    obtain⟨d2,G,M,b⟩:=aO (hti _ _ b)
    obtain⟨j,hsm,h⟩:=h
    split at h
    ·rename_i rows n
     obtain⟨C,R⟩:=h
     obtain⟨rs,D,y,W⟩:=aXb (ρ:=ρ) T.size l _ _ _ rows (tR b w ρ.S len j) O Y n
     have f:rows.length=len:=by rw [W];simp
     have q:(execOp a.eval o).run P w= .ok (.value (.slice (some ⟨w.heap.size,0,none⟩) rows.length rows.length)) (w.alloc (.cells rs e)):=by
      have e2:(parts.map λ(x:Nat×Operand)=>match x with|(i,x)=>(i,a.eval x))=parts.map λp=>(p.1,a.eval p.2):=rfl
      have c:G.size=T.size:=b.size
      by_cases J:len=0
      ·subst J
       have r:rs= #[]:=by
        have:=y.len
        rw [f]at this
        simp at this
        exact this
       have F:rows.length=0:=f
       rw [F,r]
       rw [r]at D
       simp only [execOp,ho,Sem.run_bind,Instr.buildSlice,run_underlying u.und,Result.andThen_ok,b.run_size]
       have v:Array.range 0= #[]:=by apply Array.eq_empty_of_size_eq_zero;simp
       have k:Instr.fill (λi=>some (i * T.size,T.size)) #[] (List.map (λp=>(p.fst,a.eval p.snd)) parts.toList)=some #[]:=by simpa [v]using D
       simp [k,newRow,v]
      ·have:=Go.run_buildSlice (P:=P) w t e len (parts.map λp=>(p.1,a.eval p.2)) rs G M u.und b.info b.zero (by rw [c];omega) (by rw [c];exact λh=>J (by rcases Nat.mul_eq_zero.1 h with h|h;exact h;omega)) (by rw [c];simpa [c]using D)
       simp only [execOp,ho,Sem.run_bind,this,Result.andThen_ok,Sem.run_pure,f]
     obtain⟨V,Z,H⟩:=C
     have m:=y.len
     rw [Array.length_toList]at m
     have A:rows.length<=maxLen:=by
      rw [f];simp only [maxLen]
      have:len * 1<=len * T.size:=Nat.mul_le_mul_left _ j
      omega
     obtain⟨U,N,m3⟩:=I.newOwn (id:=id) (e:=e) (z:=T.size) (rows:=rows) (vs:=rs.toList) (Grew.alloc w (.cells rs e)) (aP8 y (List.take_of_length_le (by rw [Array.length_toList,m];exact Nat.le_refl _)) m (Nat.le_refl _) A)
      (by intro g B;simp [Value.ownBlock]at B;omega) y H (by rw [hp'];exact V)
     refine bW q (hn _ _ _ _ _ R U (N fr _ Z L) m3 (KInfo.mk_ (I.kept_grew (Grew.alloc w _)) (λ_ _ x=> .inl x) λi x g hx B=> ?_))
     have s:i≠id:= λe=>H (e ▸ bR hx (.inl rfl))
     exact⟨by rw [cQ (Ne.symm s)];exact hx,by rw [ρ.grown_kb s];exact B⟩
    ·exact h.elim
   ·exact h.elim
  ·exact h.elim
 ·exact h.elim
def wO (ti:TypeId->Option TI) (tx:TypeId) (z:Nat) (x:SV):Option (List (List D)):=
 match ti tx with
 |some { td:= .string, .. }=>(match x with| .d (.str l)=>if z=1 then some (l.map aN)else none|_=>none)
 |some { td:= .slice _, .. }=>(match x with| .d .nil=>some []|x=>match xJ x with|some (z',rows)=>if z=z' then some rows else none|none=>none)
 |_=>none
theorem rM {ti:TypeId->Option TI}(hti:fH P ti) {tx:TypeId}{z:Nat}{x:SV}{rows:List (List D)}(h:wO ti tx z x=some rows) {w:World}{ρ:Env}{v:Value}(hr:Rep w ρ x v):
  ∃dx vs,P.underlying tx=some dx/\(dx= .string\/ ∃e',dx= .slice e')/\Flat w ρ.S z rows vs/\(∀u:World,(Builtin.lenOf v).run P u= .ok rows.length u)/\
   ∀u:World,u.heap=w.heap->(Builtin.firstCells z rows.length v).run P u= .ok vs.toArray u:=by
 unfold wO at h
 split at h
 ·rename_i f
  obtain⟨d,i,H,f⟩:=aO (hti _ _ f)
  have t:=iB f.td
  subst t
  split at h
  ·rename_i l
   split at h
   ·rename_i hz
    subst hz
    simp at h
    subst h
    obtain⟨e,hle⟩:=hr.str_inv
    subst e
    refine⟨.string,l.map λc=> .int .u8 c.toNat,f.und, .inl rfl,⟨by simp, ?_, ?_, ?_⟩, ?_, ?_⟩
    ·intro q m
     obtain⟨c,_,rfl⟩:=List.mem_map.1 m
     rfl
    ·intro u p
     obtain⟨c,_,rfl⟩:=List.mem_map.1 p
     rfl
    ·intro a q j x y s
     simp only [List.getElem?_map,Option.map_eq_some_iff]at y
     obtain⟨c,C,rfl⟩:=y
     have F:j=0/\x= .int .u8 c.toNat:=by
      cases j with
      |zero=>simp [aN]at s;exact⟨rfl,s.symm⟩
      |succ j=>simp [aN]at s
     obtain⟨rfl,rfl⟩:=F
     exact⟨.int .u8 c.toNat,by simp [C], .int _ _⟩
    ·intro u
     simp [Builtin.lenOf];rfl
    ·intro u _
     have e2:((⟨l.toArray⟩:ByteArray).extract 0 (l.map aN).length).data=l.toArray:=by
      rw [ByteArray.data_extract]
      simp
     simp only [Builtin.firstCells,e2,Sem.run_pure]
     simp
   ·cases h
  ·cases h
 ·rename_i e _ _ _ f
  obtain⟨d,i,H,f⟩:=aO (hti _ _ f)
  have t:=cK f.td
  subst t
  split at h
  ·simp at h
   subst h
   have e:=hr.nil_inv
   subst e
   exact⟨_,[],f.und, .inr ⟨_,rfl⟩,Flat.nil _ _ _,λu=>by simp [Builtin.lenOf],λu _=>by simp [Builtin.firstCells]⟩
  ·split at h
   ·rename_i z' rows' k
    split at h
    ·rename_i hz
     subst hz
     simp at h
     subst h
     obtain⟨A,cap,b,off,e1,hnc,hcm,G,g⟩:=(mA k hr).of_sl
     obtain⟨vs,B,I,f3⟩:=g.flat
     subst e1
     refine⟨_,vs,f.und, .inr ⟨_,rfl⟩,B,λu=>by simp [Builtin.lenOf],λu p=> ?_⟩
     have o:=B.len
     by_cases n:rows'=[]
     ·subst n
      have r:vs=[]:=List.eq_nil_of_length_eq_zero (by simpa using o)
      subst r
      cases A<;>simp [Builtin.firstCells,loadCells,loadCellsFrom]
     ·rw [G n]
      refine run_firstCells_some u z rows'.length ⟨b,off,none⟩ _ _ vs o λj v E=> ?_
      rw [cW]
      have:=I j v E
      rw [<-this]
      simp [World.cell?,p]
    ·cases h
   ·cases h
 ·cases h
def aJl (ti:TypeId->Option TI) (t tx:TypeId) (s x:SV) (hp:Hp) (K:SV->Hp->Prop):Prop:=
 match ti t with
 |some { td:= .slice e, .. }=>
  (match ti e with
  |some T=>
   (match wO ti tx T.size x with
   |some new=>
    (match s with
    | .osl i z rows=>T.size=z/\aP hp i=some (.own e z rows.length)/\rows.length+new.length<=9223372036854775807/\(rows.length+new.length)* T.bytes<=140737488355328/\
     iY hp i (.own e z (rows.length+new.length)) λhp'=>K (.osl i z (rows++new)) hp'
    |_=>aH "append: onto what is not its own")
   |none=>aH "append: what is appended")
  |none=>aH "append: an element's type")
 |_=>aH "append: a type"
theorem aSy {ti:TypeId->Option TI}(hti:fH P ti) {o:Oper}{t tx:TypeId}{x y:Operand}(ho:o.op= .call { callee:= .builtin .append,args:= #[x,y],argTypes:= #[t,tx] }) {pin:Pin}{fr:Fr}{hp:Hp}{K:SV->Hp->Prop}
  (h:ev fr x λs=>ev fr y λr=>aJl ti t tx s r hp K):aBu P o pin fr hp K:=by
 intro E ρ a w hpin V B next Q hn
 obtain⟨s,Z,n⟩:=dB h
 obtain⟨r,hr,f⟩:=dB n
 clear n
 have L:=aV B Z
 have Y:=aV B hr
 have m: ∀v w',(Builtin.append_ #[t,tx] o.type #[a.eval x,a.eval y]).run P w= .ok v w'->(execOp a.eval o).run P w= .ok (.value v) w':=by
  intro v w' e
  rw [aU ho]
  simp only [builtin,List.map_toArray,List.map_cons,List.map_nil,Sem.run_bind,e,Result.andThen_ok,Sem.run_pure]
 unfold aJl at f
 split at f
 ·rename_i e _ _ _ q
  obtain⟨d,i,z,q⟩:=aO (hti _ _ q)
  have hd:=cK q.td
  subst hd
  split at f
  ·rename_i T b
   obtain⟨d2,J,I,b⟩:=aO (hti _ _ b)
   split at f
   ·rename_i new p
    split at f
    ·rename_i j z' rows
     obtain⟨hz,k,h63,u,C⟩:=f
     rw [eJ]at C
     subst hz
     obtain⟨dx,vs,O,W,N,F,R⟩:=rM hti p Y
     obtain⟨v',w',ρ',U,D,a3,S,M,a6,a7,A,G⟩:=V.append (P:=P) k L N t tx o.type J I dx q.und O W b.info b.zero b.cells b.size (a.eval y) F (by rw [b.size];exact R)
      (by simp only [maxLen];omega) (by rw [b.bytes];exact u)
     have c: ∀i x g,aP hp i=some x->ρ.kb i x=some g->i≠j:= λi x g hx H e=>by
      subst e;rw [k]at hx;injection hx with hx;subst hx;cases H
     refine bW (m _ _ U) (hn _ _ _ _ _ C D (a3 fr _ B) S (KInfo.mk_ ⟨M,λi x g hx l=> ?_⟩ a6 λi x g hx l=> ?_))
     ·exact G i x g (c i x g hx l) hx (Env.kb_at l)
     ·refine⟨?_,by rw [A i x (c i x g hx l)];exact l⟩
      rw [bN _ k]
      rw [if_neg (c i x g hx l)]
      exact hx
    ·exact f.elim
   ·exact f.elim
  ·exact f.elim
 ·exact f.elim
end
section
variable {P:Program}
theorem jR {a i z j:Nat}(hj:j < z) (h:a < i):a * z+j < i * z:=by
 have:(a+1)* z<=i * z:=Nat.mul_le_mul_right z h
 rw [Nat.add_mul]at this
 omega
theorem Flat.setPart {w:World}{S:Nat->Nat->Prop}{z:Nat}{rows:List (List D)}{vs:List Value}(h:Flat w S z rows vs) {i off:Nat}{row:List D}(hi:rows[i]? =some row) {ns:List D}{nv:List Value}(hl:nv.length=ns.length) (hoff:off+ns.length<=z)
  (h1: ∀u∈nv,u.oneCell'=true) (hr: ∀(j:Nat) (x:D) (u:Value),ns[j]? =some x->nv[j]? =some u->RepD w S x u):
  Flat w S z (rows.set i (row.take off++ns++row.drop (off+ns.length))) (vs.take (i * z+off)++nv++vs.drop (i * z+off+nv.length)):=by
 have l:i < rows.length:=(List.getElem?_eq_some_iff.1 hi).1
 have hrl:=h.hz row (List.mem_of_getElem? hi)
 have m:i * z+off+nv.length<=vs.length:=by
  rw [h.len,hl]
  have:(i+1)* z<=rows.length * z:=Nat.mul_le_mul_right z l
  rw [Nat.add_mul]at this
  omega
 refine⟨?_, ?_, ?_, ?_⟩
 ·simp only [List.length_append,List.length_take,List.length_drop,List.length_set]
  rw [<-h.len]
  omega
 ·intro r c
  rcases List.mem_or_eq_of_mem_set c with c|c
  ·exact h.hz r c
  ·rw [c]
   simp only [List.length_append,List.length_take,List.length_drop]
   omega
 ·intro u d
  simp only [List.mem_append]at d
  rcases d with(d|d)|d
  ·exact h.one u (List.mem_of_mem_take d)
  ·exact h1 u d
  ·exact h.one u (List.mem_of_mem_drop d)
 ·intro a r j x b hx
  rw [splice_getElem? _ _ _ _ m]
  by_cases e:a=i
  ·subst e
   rw [List.getElem?_set_self (by omega)]at b
   injection b with b
   subst b
   rw [splice_getElem? _ _ _ _ (by omega)]at hx
   split at hx
   ·rename_i n
    obtain⟨v,f,g⟩:=h.at_ a row j x hi hx
    exact⟨v,by rw [if_pos (by omega)];exact f,g⟩
   ·rename_i n
    split at hx
    ·rename_i o
     have k:j - off < nv.length:=by omega
     refine⟨nv[j - off], ?_,hr (j - off) x _ hx (List.getElem?_eq_getElem k)⟩
     rw [if_neg (by omega),if_pos (by omega),show a * z+j - (a * z+off)=j - off from by omega]
     exact List.getElem?_eq_getElem k
    ·rename_i o
     obtain⟨v,f,g⟩:=h.at_ a row j x hi hx
     exact⟨v,by rw [if_neg (by omega),if_neg (by omega)];exact f,g⟩
  ·rw [List.getElem?_set_ne (λq=>e q.symm)]at b
   obtain⟨v,f,g⟩:=h.at_ a r j x b hx
   have n:j < z:=by rw [<-h.hz r (List.mem_of_getElem? b)];exact(List.getElem?_eq_some_iff.1 hx).1
   refine⟨v, ?_,g⟩
   rcases Nat.lt_or_ge a i with p|hge
   ·have:=jR n p
    rw [if_pos (by omega)];exact f
   ·have:(i+1)* z<=a * z:=Nat.mul_le_mul_right z (by omega)
    rw [Nat.add_mul]at this
    rw [if_neg (by omega),if_neg (by omega)];exact f
theorem gX.set {w:World}{S:Nat->Nat->Prop}{e z cap:Nat}{rows:List (List D)}{v:Value}(h:gX w S e z cap rows v) {i off:Nat}{row:List D}(hi:rows[i]? =some row) {ns:List D}{nv:List Value}(hl:nv.length=ns.length) (hoff:off+ns.length<=z)
  (h1: ∀u∈nv,u.oneCell'=true) (hr: ∀(j:Nat) (x:D) (u:Value),ns[j]? =some x->nv[j]? =some u->RepD w S x u):
  ∃g cur,gB v=some g/\w.heap[g]? =some (.cells cur e (0,0))/\i * z+off+nv.length<=cur.size/\
   gX (w.setRow g (cur.toList.take (i * z+off)++nv++cur.toList.drop (i * z+off+nv.length)).toArray) S e z cap (rows.set i (row.take off++ns++row.drop (off+ns.length))) v:=by
 rcases h with⟨rfl,_⟩|⟨o,g,cur,rfl,n,l,s,f,A,m⟩
 ·simp at hi
 ·have d:i < rows.length:=(List.getElem?_eq_some_iff.1 hi).1
  have hle:i * z+off+nv.length<=rows.length * z:=by
   have:(i+1)* z<=rows.length * z:=Nat.mul_le_mul_right z d
   rw [Nat.add_mul]at this
   omega
  have c:rows.length * z<=cur.size:=by rw [f];exact Nat.mul_le_mul_right z l
  refine⟨g,cur,(by have:cap≠0:=(by omega);simp [gB,this]),n,by omega, ?_⟩
  generalize hw':w.setRow g (cur.toList.take (i * z+off)++nv++cur.toList.drop (i * z+off+nv.length)).toArray=w'
  have y:cF S w w':= λb k r=>by
   rw [<-hw']
   exact World.cell?_of_block (w:=w) (setRow_other w g b _ λe=>m k (e ▸ r))
  refine .inr ⟨o,g,_,by rw [List.length_set],by rw [<-hw'];exact setRow_heap w g cur _ e _ n,by rw [List.length_set];exact l,s, ?_, ?_,m⟩
  ·rw [List.size_toArray,List.length_append,List.length_append,List.length_take,List.length_drop,Array.length_toList,<-f]
   omega
  ·have:=(A.setPart hi hl hoff h1 hr).mono y (λ_ _ x=>x)
   rw [List.length_set]
   have t:(cur.toList.take (i * z+off)++nv++cur.toList.drop (i * z+off+nv.length)).toArray.toList.take (rows.length * z)=(cur.toList.take (rows.length * z)).take (i * z+off)++nv++(cur.toList.take (rows.length * z)).drop (i * z+off+nv.length):=by
    apply List.ext_getElem?
    intro k
    have a:cur.toList.length=cur.size:=Array.length_toList
    have p:=splice_getElem? cur.toList nv (i * z+off) k (by rw [a];omega)
    have q:=splice_getElem? (cur.toList.take (rows.length * z)) nv (i * z+off) k (by rw [List.length_take,a,Nat.min_eq_left c];omega)
    rw [List.getElem?_take,q]
    simp only [p,List.getElem?_take]
    by_cases c0:k < rows.length * z
    ·simp only [c0,if_true]
    ·simp only [c0,if_false]
     rw [if_neg (by omega),if_neg (by omega)]
   rw [t]
   exact this
def bFg (x:SV):Option (List D):=match vS x with|some cs=>bAt cs|none=>none
def aJk (ti:TypeId->Option TI) (t:TypeId) (id z i off ver:Nat) (x:SV) (hp:Hp) (K:Hp->Prop):Prop:=
 match ti t with
 |some T=>
  (match aP hp id with
  |some (.mrow e z' cap rows)=>z=z'/\ver=rows.length/\ ∃row,rows[i]? =some row/\
   if T.td.isAgg then
    (match bFg x with
    |some ns=>ns.length=T.size/\off+T.size<=z/\(∀n∈ns,aKk n=true)/\(if off=0/\T.size=z then iY hp id (.mrow e z cap (rows.set i ns)) K else iY hp id (.mrow e z cap (rows.set i (row.take off++ns++row.drop (off+ns.length)))) K)
    |none=>aH "store: no struct")
   else (match asD x with
    |some y=>T.size=1/\aKk y=true/\off < z/\(if z=1 then iY hp id (.mrow e z cap (rows.set i [y])) K else iY hp id (.mrow e z cap (rows.set i (row.set off y))) K)
    |none=>aH "store: no datum")
  |_=>aH "store: no such rows")
 |none=>aH "store: a type"
theorem aSu {ti:TypeId->Option TI}(hti:fH P ti) {o:Oper}{t:TypeId}{x y:Operand}(ho:o.op= .store t x y) {pin:Pin}{fr:Fr}{hp:Hp}{K:SV->Hp->Prop}{id z i off ver:Nat}{r:SV}(hs:evO fr x=some (.mp id z i off ver)) (hr:evO fr y=some r)
  (l:aJk ti t id z i off ver r hp λhp'=>K (.d (.lit undef)) hp'):aEb P o pin fr hp K:=by
 intro E ρ a w _ hm U next Q hn
 have h1:=aV U hs
 have h2:=aV U hr
 unfold aJk at l
 split at l
 ·rename_i T Z
  obtain⟨d,i0,z0,Z⟩:=aO (hti _ _ Z)
  split at l
  ·rename_i e z' cap rows J
   obtain⟨rfl,hver,c,B,l⟩:=l
   obtain⟨n0,m0⟩:=hm.sat id _ J
   obtain⟨ad,e1,_,O⟩:=h1.mp_inv
   obtain⟨g,N,rfl⟩:=O (by omega)
   have p:c.length=z:=by obtain⟨_,_,_,_,q,_⟩:=m0.row B;exact q
   have L: ∀(h:List D) (v:Value),a.eval y=v->v.cells.toList.length=h.length->v.cells.size=T.size->off+h.length<=z->(∀u∈v.cells.toList,u.oneCell'=true)->
     (∀(j:Nat) (s:D) (u:Value),h[j]? =some s->v.cells.toList[j]? =some u->RepD w ρ.S s u)->K (.d (.lit undef)) (eY hp id (.mrow e z cap (rows.set i (c.take off++h++c.drop (off+h.length)))))->o.wp P a w next Q:=by
    intro h v F V q2 q3 q4 q5 m
    obtain⟨g',cur,M,c2,c3,c4⟩:=m0.set B V q3 q4 q5
    rw [N]at M;injection M with M;subst M
    have I:(rows.set i (c.take off++h++c.drop (off+h.length))).length=rows.length:=List.length_set
    obtain⟨s1,s2,s3⟩:=hm.setMrow J (w':=w.setRow g (cur.toList.take (i * z+off)++v.cells.toList++cur.toList.drop (i * z+off+v.cells.toList.length)).toArray) (v':=ρ.tv id) rfl rfl ⟨rfl,Nat.le_refl _⟩ (by simp [World.setRow]) (λb _ hb=>setRow_other w g b _ (λe=>hb (e ▸ N))) c4 (λg N=> .inl N) (.inl ⟨I,rfl⟩)
    refine aEc ?_ (hn undef _ _ _ _ m s1 (U.mono s2 (λ_ _ x=>x) λi _=>s3 i) (.d _ _ (.lit _)))
    simp [execOp,ho,Instr.storeAt,e1,F,Instr.sureAddr,xI Z w g (i * z+off) v q2 cur e c2 c3 q4]
   split at l
   ·split at l
    ·rename_i h A
     obtain⟨k1,k2,k3,m⟩:=l
     unfold bFg at A
     split at A
     ·rename_i cs Y
      obtain⟨vs,F,hl,hh⟩:=tP Y h2
      obtain⟨l1,l2⟩:=aL8 A
      have C: ∀(j:Nat) (s:D) (u:Value),h[j]? =some s->vs[j]? =some u->RepD w ρ.S s u:=by
       intro j s u k n
       obtain⟨s0,V,q2⟩:=l2 j s k
       exact aNm q2 (hh j s0 u V n)
      refine L h (.agg vs) F (by simp [Value.cells];omega) (by simp [Value.cells];omega) (by omega) ?_ ?_ ?_
      ·intro u n
       obtain⟨j,hj,rfl⟩:=List.getElem_of_mem n
       simp only [Value.cells]at hj |-
       have a1:j < vs.size:=by simpa using hj
       have H:j < h.length:=by omega
       exact yX (C j h[j] _ (List.getElem?_eq_getElem H) (by simp [Array.getElem?_eq_getElem a1])) (k3 _ (List.getElem_mem H))
      ·intro j s u k n
       exact C j s u k (by simpa [Value.cells]using n)
      ·split at m
       ·rename_i hc
        rw [eJ]at m
        have e2:c.take off++h++c.drop (off+h.length)=h:=by
         rw [hc.1,List.take_zero,List.nil_append,List.drop_eq_nil_of_le (by omega),List.append_nil]
        rw [e2];exact m
       ·rw [eJ]at m;exact m
     ·cases A
    ·exact l.elim
   ·split at l
    ·rename_i G W
     obtain⟨k1,k2,k3,m⟩:=l
     have hd:=aNm W h2
     have R:=yX hd k2
     have f:(a.eval y).cells= #[a.eval y]:=by
      generalize a.eval y=u at *
      cases u<;>simp_all [Value.oneCell',Value.cells]
     refine L [G] (a.eval y) rfl (by simp [f]) (by simp [f,k1]) (by simp only [List.length_singleton];omega) ?_ ?_ ?_
     ·intro u n
      simp [f]at n
      subst n
      exact R
     ·intro j s u k n
      simp only [f]at n
      cases j with
      |zero=>simp at k n;subst k;subst n;exact hd
      |succ j=>simp at k
     ·have e2:c.take off++[G]++c.drop (off+[G].length)=c.set off G:=by
       rw [List.set_eq_take_append_cons_drop,if_pos (by omega)]
       simp
      rw [e2]
      split at m
      ·rename_i hz1
       rw [eJ]at m
       have e3:c.set off G=[G]:=by
        match c,p with
        | [q],_=>
         have:off=0:=by omega
         subst this;rfl
        | [],p=>simp at p;omega
        |_::_::_,p=>simp at p;omega
       rw [e3];exact m
      ·rw [eJ]at m;exact m
    ·exact l.elim
  ·exact l.elim
 ·exact l.elim
def aV3 (ti:TypeId->Option TI) (t:TypeId) (id:Nat) (l c:SV) (pin:Pin) (fr:Fr) (hp:Hp) (K:SV->Hp->Prop):Prop:=
 match ti t with
 |some { td:= .slice e, .. }=>
  (match ti e with
  |some T=>
   (match l, c with
   | .d (.int _ n), .d (.int _ m)=>
    0 < T.size/\0<=n/\n<=m/\m<=9223372036854775807/\(T.bytes:Int)* m<=281474976710656/\fE id pin fr hp/\
     K (.mw id T.size n.toNat) ((id, .mrow e T.size m.toNat (List.replicate n.toNat T.zero))::hp)
   |_,_=>aH "make: no ints")
  |none=>aH "make: an element's type")
 |_=>aH "make: a type"
theorem Env.retop_kb (ρ:Env) {id n i:Nat}{v:Value}{x:HObj}(h:i≠id):(ρ.retop id n v).kb i x=ρ.kb i x:=by
 cases x<;>simp [Env.kb,Env.retop,h]
theorem aSw {ti:TypeId->Option TI}(hti:fH P ti) {o:Oper}{t:TypeId}{x y:Operand}{id:Nat}(ho:o.op= .makeSlice t x y) {pin:Pin}{fr:Fr}{hp:Hp}{K:SV->Hp->Prop}
  (h:ev fr x λl=>ev fr y λc=>aV3 ti t id l c pin fr hp K):aBu P o pin fr hp K:=by
 intro E ρ a w B O Z next Q hn
 obtain⟨l,hl,J⟩:=dB h
 obtain⟨c,hc,s⟩:=dB J
 clear J
 have h1:=aV Z hl
 have h2:=aV Z hc
 unfold aV3 at s
 split at s
 ·rename_i e _ _ _ N
  obtain⟨d,i,z,N⟩:=aO (hti _ _ N)
  have hd:=cK N.td
  subst hd
  split at s
  ·rename_i T b
   obtain⟨d2,q,p,b⟩:=aO (hti _ _ b)
   split at s
   ·rename_i k1 n k2 m
    obtain⟨M,Y,R,C,W,⟨f1,f2,f3⟩,hk⟩:=s
    have e1:=h1.int_inv
    have e2:=h2.int_inv
    have D:=run_make (P:=P) w t e q p N.und b.info b.zero k1 k2 n m Y R (by rw [b.bytes];exact W) C
    have u:(execOp a.eval o).run P w= .ok (.value (.slice (some ⟨w.heap.size,0,none⟩) n.toNat m.toNat)) (w.alloc (.cells (madeCells p.cells (m.toNat * q.size)) e)):=by
     simp only [execOp,ho,e1,e2,Sem.run_bind,D,Result.andThen_ok,Sem.run_pure]
    have v:=Grew.alloc w (.cells (madeCells p.cells (m.toNat * q.size)) e)
    have f:(List.replicate n.toNat T.zero).length=n.toNat:=List.length_replicate
    have F:q.size=T.size:=b.size
    have V:Flat w ρ.S T.size (List.replicate n.toNat T.zero) ((madeCells p.cells (m.toNat * q.size)).toList.take ((List.replicate n.toNat T.zero).length * T.size)):=by
     have h0:=tR b w ρ.S n.toNat M
     have e3:(madeCells p.cells (m.toNat * q.size)).toList.take ((List.replicate n.toNat T.zero).length * T.size)=((Array.range (n.toNat * q.size)).map λk=>p.cells[k % p.cells.size]!).toList:=by
      have hle:n.toNat * T.size<=m.toNat * T.size:=Nat.mul_le_mul_right _ (by omega)
      apply List.ext_getElem?
      intro k
      rw [f,List.getElem?_take,F]
      simp only [madeCells,Array.toList_map,Array.toList_range,List.getElem?_map]
      by_cases r:k < n.toNat * T.size
      ·rw [if_pos r,List.getElem?_range (by omega),List.getElem?_range r]
      ·rw [if_neg r,List.getElem?_eq_none (by simpa using r)];rfl
     rw [e3]
     exact h0
    have L:gX (w.alloc (.cells (madeCells p.cells (m.toNat * q.size)) e)) ρ.S e T.size m.toNat (List.replicate n.toNat T.zero) (.slice (some ⟨w.heap.size,0,none⟩) n.toNat m.toNat):=by
     by_cases a1:m.toNat=0
     ·have G:n.toNat=0:=by omega
      rw [G,a1]
      exact .inl ⟨rfl,rfl,_,rfl⟩
     ·refine .inr ⟨by omega,w.heap.size,_,by rw [f],heap_alloc_new w _,by rw [f];omega,by simp only [maxLen];omega,by rw [size_madeCells,F],V.mono (v.keeps O.slt) (λ_ _ x=>x),λj U=> ?_⟩
      have:=O.slt _ j U;omega
    obtain ⟨s1, s2, s3⟩ := O.newMrow (id := id) f3 (by rw [B]; exact f1) v L (by
     intro g A
     simp only [gB]at A
     split at A
     ·cases A
     ·injection A with A;omega)
    have H:Rep (w.alloc (.cells (madeCells p.cells (m.toNat * q.size)) e)) (ρ.retop id (List.replicate n.toNat T.zero).length (.slice (some ⟨w.heap.size,0,none⟩) n.toNat m.toNat)) (.mw id T.size n.toNat) (.slice (some ⟨w.heap.size,0,none⟩) n.toNat m.toNat):=
     .mw id T.size n.toNat m.toNat _ (by omega) (by simp only [maxLen];omega) (λ_=>⟨_,rfl⟩) (by simp [Env.retop]) (by simp [Env.retop])
    refine bW u (hn _ _ _ _ _ hk s1 (Z.mono s2 (λ_ _ x=>x) λj U=>s3 j λe=>f2 (e ▸ U)) H (KInfo.mk_ (O.kept_grew v) (λ_ _ x=>x) λj x g hx A=> ?_))
    have I:j≠id:= λe=>f3 (e ▸ bR hx (.inl rfl))
    exact⟨by rw [cQ (Ne.symm I)];exact hx,by rw [ρ.retop_kb I];exact A⟩
   ·exact s.elim
  ·exact s.elim
 ·exact s.elim
def yN (ti:TypeId->Option TI) (tx:TypeId) (z:Nat) (x:SV) (hp:Hp):Option (List (List D)):=
 match x with
 | .mw id z' n => (match ti tx with
  |some { td:= .slice _, .. }=>(match aP hp id with|some (.mrow _ _ _ rows)=>if z=z' then some (rows.take n)else none|_=>none)
  |_=>none)
 | .zc=>(match ti tx with|some { td:= .slice _, .. }=>some []|_=>none)
 |x=>wO ti tx z x
theorem oJ (w:World) (t tx ty e:TypeId) (i:TypeInfo) (z:Value) (dx:TypeDesc) (ht:P.underlying t=some (.slice e)) (htx:P.underlying tx=some dx) (hdx:dx= .string\/ ∃k,dx= .slice k)
  (hi:P.info? e=some i) (hz:i.zero=some z) (hzs:z.cells.size=i.size) (A:Option Addr)
  (x:Value) (m:Nat) (news:List Value) (hl:news.length=m * i.size) (hlen: ∀u:World,(Builtin.lenOf x).run P u= .ok m u)
  (hfc: ∀u:World,u.heap=w.heap->(Builtin.firstCells i.size m x).run P u= .ok news.toArray u)
  (h63:m<=maxLen) (hbytes:m * i.bytes<=140737488355328):
  ∃v' w',(Builtin.append_ #[t,tx] ty #[.slice A 0 0,x]).run P w= .ok v' w'/\((m=0/\v'= .slice A 0 0/\w'=w)\/(0 < m/\w'.ownsRow 0 e i.size v' m news/\v'.ownBlock=some w.heap.size/\Grew w w')):=by
 have hsmall:m<=9223372036854775807:=by simp only [maxLen]at h63;omega
 have a:news.length=m * i.size:=hl
 have b: ∀o,Grew w (w.drew.alloc o):= λo=>(Grew.drew w).trans (Grew.alloc _ _)
 by_cases n:m=0
 ·subst n
  have p:news=[]:=List.eq_nil_of_length_eq_zero (by simpa using hl)
  subst p
  refine⟨.slice A 0 0,w, ?_, .inl ⟨rfl,rfl,rfl⟩⟩
  have j:=hfc w rfl
  rcases hdx with rfl|⟨k,rfl⟩<;>cases A<;>simp [Builtin.append_,run_underlying ht,run_underlying htx,sizeOf,typeInfo,hi,hlen,j,storeCells]
 ·have g:=grownCap_ge w m 0 e
  have h:grownCap w m 0 e<=maxLen:=grownCap_le_maxLen w m 0 e h63
  have d:¬ (9223372036854775807 < (m:Int)):=by omega
  have c:¬ (281474976710656 < Builtin.nextslicecap m 0 * i.bytes):=by
   have:=growslice_fits (need:=m) (old:=0) (bytes:=i.bytes) (by omega) (by simpa using hbytes)
   omega
  have j:=hfc w.drew rfl
  have l:(w.drew.alloc (.cells (news.toArray++Builtin.zeroCells z.cells (grownCap w m 0 e - m)) e)).ownsRow 0 e i.size
    (.slice (some ⟨w.heap.size,0,none⟩) m (grownCap w m 0 e)) m news:=by
   refine⟨a, .inr ⟨w.heap.size,_,_,rfl,Nat.zero_le _,heap_alloc_new w.drew _,g,h, ?_, ?_⟩⟩
   ·simp only [Array.size_append,List.size_toArray,size_zeroCells,hzs,hl,<-Nat.add_mul]
    congr 1
    omega
   ·simp only [Array.toList_append]
    rw [<-a]
    exact List.take_left
  have f:(Builtin.firstCells i.size 0 (.slice A 0 0)).run P w.drew= .ok #[] w.drew:=by cases A<;>simp [Builtin.firstCells,loadCells,loadCellsFrom]
  refine⟨.slice (some ⟨w.heap.size,0,none⟩) m (grownCap w m 0 e),_, ?_, .inr ⟨by omega,l,rfl,b _⟩⟩
  rcases hdx with rfl|⟨k,rfl⟩<;>simp [Builtin.append_,run_underlying ht,run_underlying htx,sizeOf,typeInfo,zeroValue,hi,hz,hlen,n,d,c,Question.forced,j,f,newRow,grownCap]
theorem wS {w':World}{S:Nat->Nat->Prop}{e z:Nat}{v':Value}{rows:List (List D)}{vs:List Value}(hown:w'.ownsRow 0 e z v' rows.length vs) (hfl:Flat w' S z rows vs) (hne: ∃g,v'.ownBlock=some g) (hpos:0 < rows.length)
  (hS: ∀g,v'.ownBlock=some g-> ∀k,¬ S g k): ∃cap,gX w' S e z cap rows v'/\rows.length<=cap/\gB v'=v'.ownBlock:=by
 rcases hown.2 with⟨rfl,h0⟩|⟨g,cap,cur,rfl,_,f,b,c,d,a⟩
 ·omega
 ·refine⟨cap, .inr ⟨by omega,g,cur,rfl,f,b,c,d, ?_,hS g rfl⟩,b, ?_⟩
  ·rw [a];exact hfl
  ·have:cap≠0:=by omega
   simp [gB,Value.ownBlock,this]
theorem gX.owns {w:World}{S:Nat->Nat->Prop}{e z cap:Nat}{rows:List (List D)}{v:Value}(h:gX w S e z cap rows v) (hc:0 < cap):
  ∃xs,w.ownsRow 0 e z v rows.length xs/\Flat w S z rows xs/\gB v=v.ownBlock/\ ∃g,v= .slice (some ⟨g,0,none⟩) rows.length cap:=by
 rcases h with⟨_,h0,_⟩|⟨_,g,cur,rfl,f,c,d,b,a,q7⟩
 ·omega
 ·refine⟨cur.toList.take (rows.length * z),⟨a.len, .inr ⟨g,cap,cur,rfl,Nat.zero_le _,f,c,d,b,rfl⟩⟩,a, ?_,g,rfl⟩
  have:cap≠0:=by omega
  simp [gB,Value.ownBlock,this]
theorem zQ {ti:TypeId->Option TI}(hti:fH P ti) {tx:TypeId}{z:Nat}{x:SV}{hp:Hp}{rows:List (List D)}(h:yN ti tx z x hp=some rows) {E:Entry}{w:World}{ρ:Env}{v:Value}(hm:Mem E ρ hp w) (hr:Rep w ρ x v)
  (hver: ∀id s n,x= .mw id s n-> ∀e b c rs,aP hp id=some (.mrow e b c rs)->n=rs.length/\s=b):
  ∃dx vs,P.underlying tx=some dx/\(dx= .string\/ ∃k,dx= .slice k)/\Flat w ρ.S z rows vs/\(∀u:World,(Builtin.lenOf v).run P u= .ok rows.length u)/\
   ∀u:World,u.heap=w.heap->(Builtin.firstCells z rows.length v).run P u= .ok vs.toArray u:=by
 unfold yN at h
 split at h
 ·rename_i id s n
  split at h
  ·rename_i e _ _ _ a
   obtain⟨d,i,F,a⟩:=aO (hti _ _ a)
   have r:=cK a.td
   subst r
   split at h
   ·rename_i k b cap rs f
    split at h
    ·rename_i hz
     subst hz
     injection h with h
     obtain⟨G,q⟩:=hver id z n rfl k b cap rs f
     subst G q
     rw [List.take_length]at h
     subst h
     obtain⟨H,C⟩:=hm.sat id _ f
     obtain⟨A,c,e1,_,_,_,_,e2⟩:=hr.mw_inv
     have m:=e2 H.symm
     rcases C with⟨p,_,A',o⟩|⟨hc,g,cur,o,B,p2,p3,p4,t,p7⟩
     ·subst p
      rw [o]at m
      subst m
      refine⟨_,[],a.und, .inr ⟨_,rfl⟩,Flat.nil _ _ _,λu=>by simp [Builtin.lenOf],λu _=> ?_⟩
      cases A'<;>simp [Builtin.firstCells,loadCells,loadCellsFrom]
     ·rw [o]at m
      subst m
      refine⟨_,cur.toList.take (rs.length * z),a.und, .inr ⟨_,rfl⟩,t,λu=>by simp [Builtin.lenOf],λu y=> ?_⟩
      refine run_firstCells_some u z rs.length ⟨g,0,none⟩ _ _ _ t.len λj v l=> ?_
      rw [dU,cell_of_row u g j cur k (0,0) (by rw [y];exact B)]
      rw [List.getElem?_take]at l
      split at l
      ·simpa using l
      ·cases l
    ·cases h
   ·cases h
  ·cases h
 ·split at h
  ·rename_i e _ _ _ a
   obtain⟨d,i,F,a⟩:=aO (hti _ _ a)
   have r:=cK a.td
   subst r
   injection h with h
   subst h
   obtain⟨A,e1⟩:=hr.zc_inv
   subst e1
   refine⟨_,[],a.und, .inr ⟨_,rfl⟩,Flat.nil _ _ _,λu=>by simp [Builtin.lenOf],λu _=> ?_⟩
   cases A<;>simp [Builtin.firstCells,loadCells,loadCellsFrom]
  ·cases h
 ·exact rM hti h hr
def aY1 (hp:Hp):SV->Prop
 | .mw id z n=>(match aP hp id with|some (.mrow _ z' _ rs)=>n=rs.length/\z=z'|_=>aH "no such rows")
 |_=>True
theorem aNl {hp:Hp}{x:SV}(h:aY1 hp x): ∀id b n,x= .mw id b n-> ∀e a c rs,aP hp id=some (.mrow e a c rs)->n=rs.length/\b=a:=by
 rintro id b n rfl e a c rs d
 simp only [aY1,d]at h
 exact h
def aEi (ti:TypeId->Option TI) (t tx:TypeId) (id z n:Nat) (x:SV) (hp:Hp) (K:SV->Hp->Prop):Prop:=
 match ti t with
 |some { td:= .slice e, .. }=>
  (match ti e with
  |some T=>
   (match yN ti tx T.size x hp with
   |some new=>
    aY1 hp x/\
    (match aP hp id with
    |some (.mrow e' z' _ rows)=>e'=e/\T.size=z/\z=z'/\n=rows.length/\rows.length+new.length<=9223372036854775807/\(rows.length+new.length)* T.bytes<=140737488355328/\
     ∀cap':Nat,rows.length+new.length<=cap'->iY hp id (.mrow e z cap' (rows++new)) λhp'=>K (.mw id z (rows.length+new.length)) hp'
    |_=>aH "append: no such rows")
   |none=>aH "append: what is appended")
  |none=>aH "append: an element's type")
 |_=>aH "append: a type"
def yG (ti:TypeId->Option TI) (t tx:TypeId) (id:Nat) (x:SV) (pin:Pin) (fr:Fr) (hp:Hp) (K:SV->Hp->Prop):Prop:=
 match ti t with
 |some { td:= .slice e, .. }=>
  (match ti e with
  |some T=>
   (match yN ti tx T.size x hp with
   |some new=>
    aY1 hp x/\fE id pin fr hp/\new.length<=9223372036854775807/\new.length * T.bytes<=140737488355328/\ ∀cap':Nat,new.length<=cap'->K (.mw id T.size new.length) ((id, .mrow e T.size cap' new)::hp)
   |none=>aH "append: what is appended")
  |none=>aH "append: an element's type")
 |_=>aH "append: a type"
theorem gO {o:Oper}{t tx:TypeId}{x y:Operand}(ho:o.op= .call { callee:= .builtin .append,args:= #[x,y],argTypes:= #[t,tx] }) {a:Act}{w w':World}{v:Value}
  (e:(Builtin.append_ #[t,tx] o.type #[a.eval x,a.eval y]).run P w= .ok v w'):(execOp a.eval o).run P w= .ok (.value v) w':=by
 rw [aU ho]
 simp only [builtin,List.map_toArray,List.map_cons,List.map_nil,Sem.run_bind,e,Result.andThen_ok,Sem.run_pure]
theorem aP2 {ti:TypeId->Option TI}(hti:fH P ti) {o:Oper}{t tx:TypeId}{x y:Operand}(ho:o.op= .call { callee:= .builtin .append,args:= #[x,y],argTypes:= #[t,tx] }) {pin:Pin}{fr:Fr}{hp:Hp}{K:SV->Hp->Prop}{id z n:Nat}{r:SV}
  (hs:evO fr x=some (.mw id z n)) (hr:evO fr y=some r) (G:aEi ti t tx id z n r hp K):aEb P o pin fr hp K:=by
 intro E ρ a w hpin O hf next Q hn
 have h1:=aV hf hs
 have h2:=aV hf hr
 unfold aEi at G
 split at G
 ·rename_i e _ _ _ hT
  obtain⟨d,i,z0,hT⟩:=aO (hti _ _ hT)
  have hd:=cK hT.td
  subst hd
  split at G
  ·rename_i T f
   obtain⟨d2,i2,z2,f⟩:=aO (hti _ _ f)
   split at G
   ·rename_i new a5
    obtain⟨b2,G⟩:=G
    split at G
    ·rename_i e' z' cap rows a6
     obtain⟨rfl,rfl,rfl,hver,a9,a7,hk⟩:=G
     obtain⟨dx,vs,q1,q2,Z,q4,q5⟩:=zQ hti a5 O h2 (aNl b2)
     obtain⟨n0,m0⟩:=O.sat id _ a6
     obtain⟨A,c,e1,_,_,_,_,e2⟩:=h1.mw_inv
     have e3:=e2 (by omega)
     have D: ∀(v':Value) (w':World) (cap':Nat),(Builtin.append_ #[t,tx] o.type #[a.eval x,a.eval y]).run P w= .ok v' w'->w'.os=w.os->w'.tape=w.tape->aQ8 w' w->w.heap.size<=w'.heap.size->
       (∀b,b < w.heap.size->gB (ρ.tv id)≠some b->w'.heap[b]? =w.heap[b]?)->gX w' ρ.S e' T.size cap' (rows++new) v'->(∀g,gB v'=some g->gB (ρ.tv id)=some g\/w.heap.size<=g)->
       (((rows++new).length=rows.length/\v'=ρ.tv id)\/rows.length < (rows++new).length)->o.wp P a w next Q:=by
      intro v' w' cap' H r2 r3 r4 r5 r6 r7 r8 r9
      obtain⟨s1,s2,s3⟩:=O.setMrow a6 r2 r3 r4 r5 r6 r7 r8 r9
      obtain⟨A',B,p,p3,p4⟩:=r7.shape
      have u:=hk cap' (by rw [<-List.length_append];exact p)
      rw [eJ]at u
      have a3:Rep w' (ρ.retop id (rows++new).length v') (.mw id T.size (rows.length+new.length)) v':=by
       rw [B,<-List.length_append]
       exact .mw id T.size _ cap' A' p p3 (λh0=>p4 (by omega)) (by simp [Env.retop]) (by simp [Env.retop])
      exact bW (gO ho H) (hn _ _ _ _ _ u s1 (hf.mono s2 (λ_ _ x=>x) λj _=>s3 j) a3)
     by_cases hc:cap=0
     ·subst hc
      obtain⟨rfl,_,A0,e4⟩:rows=[]/\0=0/\ ∃A,ρ.tv id= .slice A 0 0:=by
       rcases m0 with h|⟨h,_⟩
       ·exact h
       ·omega
      have R:a.eval x= .slice A0 0 0:=e3.trans e4
      obtain⟨v',w',H,r2⟩:=oJ (P:=P) w t tx o.type e' i2 z2 dx hT.und q1 q2 f.info f.zero f.cells A0 (a.eval y) new.length vs (by rw [f.size];exact Z.len) q4 (by rw [f.size];exact q5) (by simp only [maxLen];simpa using a9) (by rw [f.bytes];simpa using a7)
      rw [<-R]at H
      rcases r2 with⟨F,rfl,rfl⟩|⟨F,m,Y,C⟩
      ·have q:new=[]:=List.eq_nil_of_length_eq_zero F
       subst q
       exact D _ _ 0 H rfl rfl (.refl _) (Nat.le_refl _) (λ_ _ _=>rfl) (.inl ⟨rfl,rfl,A0,rfl⟩) (λg l=> .inl (by rw [e4];exact l)) (.inl ⟨rfl,e4.symm⟩)
      ·rw [f.size]at m
       obtain ⟨cap', c1, c2, c3⟩ := wS (S := ρ.S) m (Z.mono (C.keeps O.slt) (λ_ _ x => x)) ⟨_, Y⟩ F (λg l k u => by
        rw [Y]at l;injection l with l;have:=O.slt g k u;omega)
       exact D v' w' cap' H C.os C.tape C.output C.size (λb hb _=>C.block b hb) (by simpa using c1) (λg l=> .inr (by rw [c3,Y]at l;injection l with l;omega)) (.inr (by simpa using F))
     ·obtain⟨xs,o1,o2,o3,g,I⟩:=m0.owns (by omega)
      have R:a.eval x=ρ.tv id:=e3
      obtain⟨v',w',H,m,U⟩:=sV (P:=P) w t tx o.type e' i2 z2 dx hT.und q1 q2 f.info f.zero f.cells (ρ.tv id) rows.length xs (by rw [f.size];exact o1) (a.eval y) new.length vs (by rw [f.size];exact Z.len) q4 (by rw [f.size];exact q5) Z.one
       (by simp only [maxLen];omega) (by rw [f.bytes];exact a7)
      rw [<-R]at H
      rw [f.size]at m
      have V:gB (ρ.tv id)=some g:=by rw [o3,I];rfl
      have L: ∀k,¬ ρ.S g k:=by
       rcases m0 with⟨_,h0,_⟩|⟨_,W,cur,N,_,_,_,_,_,h7⟩
       ·exact absurd h0 hc
       ·rw [I]at N
        injection N with N
        injection N with N
        injection N with N
        subst N;exact h7
      rw [<-List.length_append]at m
      rcases U with⟨B,p,rfl⟩|⟨W,cap',cs,B,p,rfl⟩|⟨B,p,p3⟩
      ·have q:new=[]:=List.eq_nil_of_length_eq_zero p
       subst q
       rw [B]at H
       exact D _ _ cap H rfl rfl (.refl _) (Nat.le_refl _) (λ_ _ _=>rfl) (by simpa using m0) (λg l=> .inl l) (.inl ⟨by simp,rfl⟩)
      ·have b4:W=g:=by rw [B]at I;injection I with I;injection I with I;injection I with I
       subst b4
       have M: ∀b,b < w.heap.size->gB (ρ.tv id)≠some b->(w.setRow W cs).heap[b]? =w.heap[b]? := λb _ hb=>setRow_other w W b _ (λe=>hb (by rw [e];exact V))
       have a8:cF ρ.S w (w.setRow W cs):= λb k hs=>World.cell?_of_block (w:=w) (M b (O.slt b k hs) λhb=>by rw [V]at hb;injection hb with hb;subst hb;exact L k hs)
       by_cases s:0 < (rows++new).length
       ·obtain ⟨v, c1, c2, c3⟩ := wS (S := ρ.S) m ((o2.append Z).mono a8 (λ_ _ x => x)) ⟨W, by rw [p]; rfl⟩ s (λg l k u => by
         rw [p]at l;simp only [Value.ownBlock,Option.some.injEq]at l;subst l;exact L k u)
        refine D _ _ v H rfl rfl (.refl _) (by simp [World.setRow]) M c1 (λg l=> .inl (by rw [c3,p]at l;rw [V];exact l)) ?_
        by_cases F:new.length=0
        ·left
         have q:new=[]:=List.eq_nil_of_length_eq_zero F
         subst q
         exact⟨by simp,by rw [p,B];simp⟩
        ·right;rw [List.length_append];omega
       ·have b3:rows=[]:=List.eq_nil_of_length_eq_zero (by rw [List.length_append]at s;omega)
        have a2:new=[]:=List.eq_nil_of_length_eq_zero (by rw [List.length_append]at s;omega)
        subst b3 a2
        refine D _ _ cap H rfl rfl (.refl _) (by simp [World.setRow]) M ?_ (λg l=> .inl (by rw [p]at l;rw [B];exact l)) (.inl ⟨rfl,by rw [p,B];rfl⟩)
        have a1:cap'=cap:=by rw [B]at I;injection I with _ _ I
        rcases m.2 with⟨J,_⟩|⟨g2,cap2,a4,J,_,b0,hnc,hcm,b1,htake⟩
        ·rw [p]at J;cases J
        ·rw [p]at J
         injection J with J h10 h11
         injection J with J
         injection J with J
         subst J
         refine .inr ⟨by omega,W,a4,by rw [p,a1];rfl,b0,by simp,by omega,by rw [b1];congr 1;omega, ?_,L⟩
         simpa using Flat.nil _ _ _
      ·have s:0 < (rows++new).length:=by rw [List.length_append];omega
       obtain ⟨v, c1, c2, c3⟩ := wS (S := ρ.S) m ((o2.append Z).mono (p.keeps O.slt) (λ_ _ x => x)) ⟨_, B⟩ s (λg l k u => by
        rw [B]at l;injection l with l;have:=O.slt g k u;omega)
       exact D v' w' v H p.os p.tape p.output p.size (λb hb _=>p.block b hb) c1 (λg l=> .inr (by rw [c3,B]at l;injection l with l;omega)) (.inr (by rw [List.length_append];omega))
    ·exact G.elim
   ·exact G.elim
  ·exact G.elim
 ·exact G.elim
theorem aDg {ti:TypeId->Option TI}(hti:fH P ti) {o:Oper}{t tx:TypeId}{x y:Operand}{id:Nat}(ho:o.op= .call { callee:= .builtin .append,args:= #[x,y],argTypes:= #[t,tx] }) {pin:Pin}{fr:Fr}{hp:Hp}{K:SV->Hp->Prop}{s r:SV}
  (hs:evO fr x=some s) (hs0:s= .d .nil\/s= .zc) (hr:evO fr y=some r) (hv:yG ti t tx id r pin fr hp K):aBu P o pin fr hp K:=by
 intro E ρ a w q B G next Q hn
 have M:=aV G hs
 have h2:=aV G hr
 unfold yG at hv
 split at hv
 ·rename_i e _ _ _ D
  obtain⟨d,i,z0,D⟩:=aO (hti _ _ D)
  have hd:=cK D.td
  subst hd
  split at hv
  ·rename_i T b
   obtain⟨d2,W,z2,b⟩:=aO (hti _ _ b)
   split at hv
   ·rename_i new z
    obtain⟨J,⟨f1,f2,N⟩,F,I,hk⟩:=hv
    obtain⟨dx,vs,q1,q2,O,V,q5⟩:=zQ hti z B h2 (aNl J)
    obtain⟨A0,hev⟩: ∃A0,a.eval x= .slice A0 0 0:=by
     rcases hs0 with rfl|rfl
     ·exact⟨none,M.nil_inv⟩
     ·exact M.zc_inv
    obtain⟨v',w',L,r2⟩:=oJ (P:=P) w t tx o.type e W z2 dx D.und q1 q2 b.info b.zero b.cells A0 (a.eval y) new.length vs (by rw [b.size];exact O.len) V (by rw [b.size];exact q5) (by simp only [maxLen];simpa using F) (by rw [b.bytes];simpa using I)
    rw [<-hev]at L
    have C: ∀cap',Grew w w'->gX w' ρ.S e T.size cap' new v'->(∀g,gB v'=some g->w.heap.size<=g)->o.wp P a w next Q:=by
     intro cap' c l m
     obtain⟨s1,s2,U⟩:=B.newMrow (id:=id) N (by rw [q];exact f1) c l m
     obtain⟨A',Y,R,p3,p4⟩:=l.shape
     have u:Rep w' (ρ.retop id new.length v') (.mw id T.size new.length) v':=by
      rw [Y]
      exact .mw id T.size _ cap' A' R p3 (λh0=>p4 (by omega)) (by simp [Env.retop]) (by simp [Env.retop])
     refine bW (gO ho L) (hn _ _ _ _ _ (hk cap' R) s1 (G.mono s2 (λ_ _ x=>x) λj hj=>U j λe=>f2 (e ▸ hj)) u (KInfo.mk_ (B.kept_grew c) (λ_ _ x=>x) λj x g hx f=> ?_))
     have A:j≠id:= λe=>N (e ▸ bR hx (.inl rfl))
     exact⟨by rw [cQ (Ne.symm A)];exact hx,by rw [ρ.retop_kb A];exact f⟩
    rcases r2 with⟨p,rfl,rfl⟩|⟨p,h,n,c⟩
    ·have v:new=[]:=List.eq_nil_of_length_eq_zero p
     subst v
     exact C 0 (Grew.refl _) (.inl ⟨rfl,rfl,A0,rfl⟩) (λg f=>by cases A0<;>simp [gB]at f)
    ·rw [b.size]at h
     obtain ⟨cap', Z, c2, c3⟩ := wS (S := ρ.S) h (O.mono (c.keeps B.slt) (λ_ _ x => x)) ⟨_, n⟩ p (λg f k H => by
      rw [n]at f;injection f with f;have:=B.slt g k H;omega)
     exact C cap' c Z (λg f=>by rw [c3,n]at f;injection f with f;omega)
   ·exact hv.elim
  ·exact hv.elim
 ·exact hv.elim
end
end
end Go.Proofs.YtbobcfjlbcgchaaGreatDoor
