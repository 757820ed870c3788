/-
  Symbolic operations, one by one: struct and slice literals, make, append. Symbolic operations, one by one: slice literals, make, append.
  Conditions: none.
-/
import Derived.Test.YtdjfkmkdkclahaaGreatDoorWSi
import Derived.Great.BuildSlice
set_option linter.unusedSectionVars false
set_option linter.unusedSimpArgs false
set_option linter.unusedVariables false
namespace Go.Proofs.YtdjfkmkdkclahaaGreatDoor
open Go.RowKit
section
variable {P:Program}
theorem aEs (off:Nat): ∀(l:List Value) (k:Nat) (cs:Array Value),
  ((l.zipIdx k).foldl (λ(cs:Array Value) (p:Value×Nat)=>cs.setIfInBounds (off+p.2) p.1) cs).size=cs.size/\
  ∀j,((l.zipIdx k).foldl (λ(cs:Array Value) (p:Value×Nat)=>cs.setIfInBounds (off+p.2) p.1) cs)[j]? =if off+k<=j/\j < off+k+l.length/\j < cs.size then l[j - (off+k)]? else cs[j]? :=by
 intro l
 induction l with
 |nil=>intro k cs;simp;intro j h1 h2;omega
 |cons v r ih=>
  intro k cs
  simp only [List.zipIdx_cons,List.foldl_cons]
  obtain⟨h1,h2⟩:=ih (k+1) (cs.setIfInBounds (off+k) v)
  refine⟨by rw [h1];simp,λj=> ?_⟩
  rw [h2 j]
  simp only [Array.size_setIfInBounds,List.length_cons]
  by_cases hj:j < cs.size
  ·by_cases e:j=off+k
   ·subst e
    rw [if_neg (by omega),if_pos ⟨by omega,by omega,hj⟩]
    simp [hj]
   ·by_cases hin:off+(k+1)<=j/\j < off+(k+1)+r.length/\j < cs.size
    ·rw [if_pos hin,if_pos ⟨by omega,by omega,hj⟩]
     obtain⟨q,hq⟩: ∃q,j - (off+k)=q+1:=⟨j - (off+(k+1)),by omega⟩
     rw [hq]
     simp only [List.getElem?_cons_succ]
     congr 1
     omega
    ·rw [if_neg hin,if_neg (by omega),Array.getElem?_setIfInBounds_ne (by omega)]
  ·rw [if_neg (by omega),if_neg (by omega)]
   rw [Array.getElem?_eq_none (by simpa using hj),Array.getElem?_eq_none (by omega)]
theorem rJ (off:Nat) (vc cs:Array Value) (h:off+vc.size<=cs.size):
  (vc.zipIdx.foldl (λcs (c,j)=>cs.setIfInBounds (off+j) c) cs).toList=cs.toList.take off++vc.toList++cs.toList.drop (off+vc.toList.length):=by
 rw [<-Array.foldl_toList]
 have e:vc.zipIdx.toList=vc.toList.zipIdx:=by simp
 rw [e]
 obtain⟨h1,h2⟩:=aEs off vc.toList 0 cs
 apply List.ext_getElem?
 intro j
 rw [splice_getElem? _ _ _ _ (by simpa using h)]
 have:=h2 j
 rw [Array.getElem?_toList]
 refine Eq.trans this ?_
 simp only [Nat.add_zero,Array.length_toList,Array.getElem?_toList]
 by_cases a:j < off
 ·rw [if_pos a,if_neg (by omega)]
 ·rw [if_neg a]
  by_cases b:j < off+vc.size
  ·rw [if_pos b,if_pos ⟨by omega,b,by omega⟩]
  ·rw [if_neg b,if_neg (by omega)]
def aCx (place:Nat->Option (Nat×Nat)):List SV->List (Nat×SV)->Option (List SV)
 |cs,[]=>some cs
 |cs,(i,s)::r=>
  match place i with
  |some (off,size)=>
   match eZ s with
   |some ns=>if ns.length=size/\off+size<=cs.length then aCx place (gQ cs off ns) r else none
   |none=>none
  |none=>none
def pA (w:World) (ρ:Env) (cs:List SV) (vs:Array Value):Prop:=
 vs.size=cs.length/\(∀v∈vs,v.oneCell'=true)/\ ∀(j:Nat) (s:SV) (v:Value),cs[j]? =some s->vs[j]? =some v->Rep w ρ s v
theorem aBn {w:World}{ρ:Env}(place:Nat->Option (Nat×Nat)): ∀(parts:List (Nat×SV)) (pv:List (Nat×Value)) (cs:List SV) (vs:Array Value) (r:List SV),
  pA w ρ cs vs->pv.length=parts.length->(∀(j:Nat) (i:Nat) (s:SV) (i':Nat) (v:Value),parts[j]? =some (i,s)->pv[j]? =some (i',v)->i=i'/\Rep w ρ s v)->aCx place cs parts=some r->
  ∃rs,Instr.fill place vs pv=some rs/\pA w ρ r rs:=by
 intro parts
 induction parts with
 |nil=>
  intro pv cs vs r hc hl _ h
  have:pv=[]:=List.eq_nil_of_length_eq_zero (by simpa using hl)
  subst this
  simp [aCx]at h
  subst h
  exact⟨vs,rfl,hc⟩
 |cons p rest ih=>
  obtain⟨i,s⟩:=p
  intro pv cs vs r hc hl hp h
  obtain⟨q,pv',rfl⟩: ∃q pv',pv=q::pv':=by
   cases pv with
   |nil=>simp at hl
   |cons q pv'=>exact⟨q,pv',rfl⟩
  obtain⟨i',v⟩:=q
  obtain⟨rfl,hr⟩:=hp 0 i s i' v rfl rfl
  simp only [aCx]at h
  split at h
  ·rename_i off size hpl
   split at h
   ·rename_i ns hns
    split at h
    ·rename_i hcond
     obtain⟨k1,k2,k3⟩:=iA hns hr
     obtain⟨c1,c2,c3⟩:=hc
     have hfit:off+v.cells.size<=vs.size:=by omega
     have hnew:pA w ρ (gQ cs off ns) (v.cells.zipIdx.foldl (λcs (c,j)=>cs.setIfInBounds (off+j) c) vs):=by
      have hfc:=rJ off v.cells vs hfit
      generalize v.cells.zipIdx.foldl (λcs (c,j)=>cs.setIfInBounds (off+j) c) vs=us at hfc |-
      have hus:us=(vs.toList.take off++v.cells.toList++vs.toList.drop (off+v.cells.toList.length)).toArray:=by rw [<-hfc]
      refine⟨?_, ?_, ?_⟩
      ·rw [hus]
       simp only [List.size_toArray,List.length_append,List.length_take,List.length_drop,gQ,Array.length_toList]
       omega
      ·intro u hu
       rw [hus]at hu
       simp only [List.mem_toArray,List.mem_append]at hu
       rcases hu with(hu|hu)|hu
       ·exact c2 u (by simpa using List.mem_of_mem_take hu)
       ·exact k2 u (by simpa using hu)
       ·exact c2 u (by simpa using List.mem_of_mem_drop hu)
      ·intro j s' u hs hu
       rw [hus]at hu
       have hu':(vs.toList.take off++v.cells.toList++vs.toList.drop (off+v.cells.toList.length))[j]? =some u:=by rw [<-hu];simp
       rw [splice_getElem? _ _ _ _ (by simpa using hfit)]at hu'
       unfold gQ at hs
       rw [splice_getElem? _ _ _ _ (by omega)]at hs
       have hvl:v.cells.toList.length=ns.length:=by rw [Array.length_toList];exact k1
       rw [hvl]at hu'
       split at hs
       ·rename_i hlt;rw [if_pos hlt]at hu';exact c3 j s' u hs (by simpa using hu')
       ·rename_i hlt
        rw [if_neg hlt]at hu'
        split at hs
        ·rename_i hlt2;rw [if_pos hlt2]at hu';exact k3 _ s' u hs (by simpa using hu')
        ·rename_i hlt2;rw [if_neg hlt2]at hu';exact c3 j s' u hs (by simpa using hu')
     obtain⟨rs,e1,e2⟩:=ih pv' _ _ r hnew (by simpa using hl) (λj a b a' b' h1 h2=>hp (j+1) a b a' b' (by simpa using h1) (by simpa using h2)) h
     refine⟨rs, ?_,e2⟩
     simp only [Instr.fill,hpl]
     rw [if_neg]
     ·exact e1
     ·simp;omega
    ·cases h
   ·cases h
  ·cases h
def pO (ti:TypeId->Option TI):List (TypeId×Nat)->Option (List (Nat×Nat))
 | []=>some []
 |(ft,off)::r=>
  match ti ft with
  |some T=>match pO ti r with|some l=>some ((off,T.size)::l)|none=>none
  |none=>none
theorem aCi {ti:TypeId->Option TI}(hti:cI P ti): ∀(fs:List Field) (l:List (Nat×Nat)),pO ti (fs.map λf=>(f.type,f.offset))=some l->fs.mapM (λf=>(P.info? f.type).map λi=>(f.offset,i.size))=some l:=by
 intro fs
 induction fs with
 |nil=>intro l h;simp [pO]at h;subst h;simp
 |cons f r ih=>
  intro l h
  simp only [List.map_cons,pO]at h
  split at h
  ·rename_i T hT
   obtain⟨d,i,z,hT⟩:=aK (hti _ _ hT)
   split at h
   ·rename_i l' hl'
    simp at h
    subst h
    simp [ih l' hl',hT.info,hT.size]
   ·cases h
  ·cases h
def evP (fr:Fr):List (Nat×Operand)->Option (List (Nat×SV))
 | []=>some []
 |(i,x)::r=>match evO fr x with
  |some s=>match evP fr r with|some l=>some ((i,s)::l)|none=>none
  |none=>none
theorem aEx {ρ:Env}{w:World}{fr:Fr}{a:Act}(hf:bW ρ w fr a.tmps): ∀(xs:List (Nat×Operand)) (l:List (Nat×SV)),evP fr xs=some l->
  (xs.map λp=>(p.1,a.eval p.2)).length=l.length/\ ∀(j:Nat) (i:Nat) (s:SV) (i':Nat) (v:Value),l[j]? =some (i,s)->(xs.map λp=>(p.1,a.eval p.2))[j]? =some (i',v)->i=i'/\Rep w ρ s v:=by
 intro xs
 induction xs with
 |nil=>intro l h;simp [evP]at h;subst h;simp
 |cons p r ih=>
  obtain⟨i0,x⟩:=p
  intro l h
  simp only [evP]at h
  split at h
  ·rename_i s hs
   split at h
   ·rename_i l' hl'
    simp at h
    subst h
    obtain⟨a1,a2⟩:=ih l' hl'
    refine⟨by simpa using a1,λj i s' i' v h1 h2=> ?_⟩
    cases j with
    |zero=>simp at h1 h2;obtain⟨rfl,rfl⟩:=h1;obtain⟨rfl,rfl⟩:=h2;exact⟨rfl,aS hf hs⟩
    |succ j=>exact a2 j i s' i' v (by simpa using h1) (by simpa using h2)
   ·cases h
  ·cases h
def aDh (ti:TypeId->Option TI) (t:TypeId) (parts:List (Nat×SV)) (K:SV->Prop):Prop:=
 match ti t with
 |some T=>
  (match T.td with
  | .struct fs=>
   (match pO ti fs with
   |some pl=>(match aCx (λi=>pl[i]?) (T.zero.map .d) parts with|some cs=>K (vM cs)|none=>aF "build: fill")
   |none=>aF "build: places")
  | .array _ e=>
   (match ti e with
   |some T2=>(match aCx (λi=>some (i * T2.size,T2.size)) (T.zero.map .d) parts with|some cs=>K (vM cs)|none=>aF "build: fill")
   |none=>aF "build: an element's type")
  |_=>aF "build: a type")
 |none=>aF "build: a type"
theorem aC0 {t:TypeId}{T:TI}{d:TypeDesc}{i:TypeInfo}{z:Value}(hT:TIok P t T d i z) (w:World) (ρ:Env):pA w ρ (T.zero.map .d) z.cells:=by
 refine⟨by simp [hT.zs],hT.one, ?_⟩
 intro j s v hs hv
 rw [hT.zs]at hs
 simp only [List.map_map,List.getElem?_map,Option.map_eq_some_iff]at hs
 obtain⟨u,hu,rfl⟩:=hs
 have:u=v:=by
  have hu':z.cells[j]? =some u:=by simpa using hu
  rw [hu']at hv;injection hv
 subst this
 exact .d _ _ (lG w ρ.S u)
theorem aH3 {ti:TypeId->Option TI}(hti:cI P ti) {o:Oper}{t:TypeId}{parts:Array (Nat×Operand)}(ho:o.op= .build t parts) {fr:Fr}{hp:Hp}{K:SV->Prop}
  (h:match evP fr parts.toList with|some l=>aDh ti t l K|none=>aF "build: a part"):cL P o fr hp K:=by
 intro E ρ a w hm hf
 split at h
 ·rename_i l hl
  obtain⟨p1,p2⟩:=aEx hf _ _ hl
  have hrun: ∀cells:Array Value,P.built t (parts.toList.map λp=>(p.1,a.eval p.2))=some cells-> ∀w',Kept ρ hp w w'->(execOp a.eval o).run P w'= .ok (.value (.agg cells)) w':=by
   intro cells e w' _
   have:=run_build (P:=P) w' t (parts.map λp=>(p.1,a.eval p.2)) cells (by simpa using e)
   have e2:(parts.map λ(x:Nat×Operand)=>match x with|(i,x)=>(i,a.eval x))=parts.map λp=>(p.1,a.eval p.2):=rfl
   simp only [execOp,ho,Sem.run_bind,this,Result.andThen_ok,Sem.run_pure]
  unfold aDh at h
  split at h
  ·rename_i T hT
   obtain⟨d,i,z,hT⟩:=aK (hti _ _ hT)
   have hz0:=aC0 hT w ρ
   have htd:=hT.td
   split at h
   ·rename_i fs hfs
    rw [hfs]at htd
    obtain⟨gs,rfl,hfs'⟩:=iU htd
    subst hfs'
    split at h
    ·rename_i pl hpl
     have hpl':=aCi hti _ _ hpl
     split at h
     ·rename_i cs hcs
      obtain⟨rs,r1,r2⟩:=aBn _ l _ _ _ cs hz0 p1 p2 hcs
      refine⟨_,_,hrun rs ?_,hU r2.1 r2.2.2,h⟩
      simp only [Program.built,hT.info,hT.und,hT.zero,hpl',List.getElem?_toArray]
      exact r1
     ·exact h.elim
    ·exact h.elim
   ·rename_i n e he
    rw [he]at htd
    have hd:=iP htd
    subst hd
    split at h
    ·rename_i T2 hT2
     obtain⟨d2,i2,z2,hT2⟩:=aK (hti _ _ hT2)
     split at h
     ·rename_i cs hcs
      obtain⟨rs,r1,r2⟩:=aBn _ l _ _ _ cs hz0 p1 p2 hcs
      refine⟨_,_,hrun rs ?_,hU r2.1 r2.2.2,h⟩
      simp only [Program.built,hT.info,hT.und,hT.zero,hT2.info,hT2.size]
      exact r1
     ·exact h.elim
    ·exact h.elim
   ·exact h.elim
  ·exact h.elim
 ·exact h.elim
end
end Go.Proofs.YtdjfkmkdkclahaaGreatDoor
namespace Go.Proofs.YtdjfkmkdkclahaaGreatDoor
open Go.RowKit
section
variable {P:Program}
def asD:SV->Option D
 | .d x=>some x
 | .osl _ z rows=>some (.sl z rows)
 |_=>none
theorem aFl {w:World}{ρ:Env}{s:SV}{v:Value}{x:D}(h:asD s=some x) (hr:Rep w ρ s v):RepD w ρ.S x v:=by
 unfold asD at h
 split at h
 ·injection h with h;subst h;cases hr with|d _ _ h=>exact h
 ·injection h with h;subst h;exact hr.osl_inv.1
 ·cases h
def aKv:List SV->Option (List D)
 | []=>some []
 |s::r=>match asD s with|some x=>(match aKv r with|some l=>some (x::l)|none=>none)|none=>none
theorem aFm: ∀{cs:List SV}{l:List D},aKv cs=some l->l.length=cs.length/\ ∀(j:Nat) (x:D),l[j]? =some x-> ∃s,cs[j]? =some s/\asD s=some x:=by
 intro cs
 induction cs with
 |nil=>intro l h;simp [aKv]at h;subst h;exact⟨rfl,by simp⟩
 |cons s r ih=>
  intro l h
  simp only [aKv]at h
  split at h
  ·rename_i x hx
   split at h
   ·rename_i l' hl'
    injection h with h
    subst h
    obtain⟨i1,i2⟩:=ih hl'
    refine⟨by simp [i1],λj y hy=> ?_⟩
    cases j with
    |zero=>simp at hy;subst hy;exact⟨s,by simp,hx⟩
    |succ j=>simp at hy;simpa using i2 j y hy
   ·cases h
  ·cases h
def aDz (s:SV):Option (List D):=match eZ s with|some cs=>aKv cs|none=>none
def aCy (z:Nat):List (List D)->List (Nat×SV)->Option (List (List D))
 |rows,[]=>some rows
 |rows,(i,s)::r=>
  match aDz s with
  |some row=>if row.length=z/\i < rows.length then aCy z (rows.set i row) r else none
  |none=>none
theorem aDy {w:World}{ρ:Env}{s:SV}{v:Value}{row:List D}(h:aDz s=some row) (hr:Rep w ρ s v):
  v.cells.size=row.length/\(∀u∈v.cells,u.oneCell'=true)/\ ∀(j:Nat) (x:D) (u:Value),row[j]? =some x->v.cells[j]? =some u->RepD w ρ.S x u:=by
 unfold aDz at h
 split at h
 ·rename_i cs hcs
  obtain⟨k1,k2,k3⟩:=iA hcs hr
  obtain⟨e1,e2⟩:=aFm h
  refine⟨by omega,k2,λj x u hx hu=> ?_⟩
  obtain⟨s',hs',hx'⟩:=e2 j x hx
  exact aFl hx' (k3 j s' u hs' hu)
 ·cases h
theorem Flat.set {w:World}{S:Nat->Nat->Prop}{z:Nat}{rows:List (List D)}{vs:List Value}(h:Flat w S z rows vs) {i:Nat}(hi:i < rows.length) {row:List D}(hrow:row.length=z) {pv:List Value}(hpl:pv.length=z)
  (h1: ∀u∈pv,u.oneCell'=true) (hr: ∀(j:Nat) (x:D) (u:Value),row[j]? =some x->pv[j]? =some u->RepD w S x u):
  Flat w S z (rows.set i row) (vs.take (i * z)++pv++vs.drop (i * z+pv.length)):=by
 have hle:i * z+pv.length<=vs.length:=by
  rw [h.len,hpl]
  have:(i+1)* z<=rows.length * z:=Nat.mul_le_mul_right z hi
  rw [Nat.add_mul]at this
  omega
 refine⟨?_, ?_, ?_, ?_⟩
 ·simp only [List.length_append,List.length_take,List.length_drop,List.length_set]
  rw [<-h.len]
  omega
 ·intro r hr'
  rcases List.mem_or_eq_of_mem_set hr' with hr'|hr'
  ·exact h.hz r hr'
  ·rw [hr'];exact hrow
 ·intro u hu
  simp only [List.mem_append]at hu
  rcases hu with(hu|hu)|hu
  ·exact h.one u (List.mem_of_mem_take hu)
  ·exact h1 u hu
  ·exact h.one u (List.mem_of_mem_drop hu)
 ·intro a r j x hra hx
  rw [splice_getElem? _ _ _ _ hle]
  by_cases e:a=i
  ·subst e
   rw [List.getElem?_set_self hi]at hra
   injection hra with hra
   subst hra
   have hj:j < row.length:=(List.getElem?_eq_some_iff.1 hx).1
   rw [if_neg (by omega),if_pos (by omega)]
   have:a * z+j - a * z=j:=by omega
   rw [this]
   have hpj:pv[j]? =some (pv[j]'(by omega)):=List.getElem?_eq_getElem (by omega)
   exact⟨_,hpj,hr j x _ hx hpj⟩
  ·rw [List.getElem?_set_ne (λe'=>e e'.symm)]at hra
   obtain⟨v,hv,hrep⟩:=h.at_ a r j x hra hx
   refine⟨v, ?_,hrep⟩
   have hlt:=tR h.hz hra hx
   by_cases hlt2:a < i
   ·have:(a+1)* z<=i * z:=Nat.mul_le_mul_right z hlt2
    rw [Nat.add_mul]at this
    rw [if_pos (by omega)]
    exact hv
   ·have:(i+1)* z<=a * z:=Nat.mul_le_mul_right z (by omega)
    rw [Nat.add_mul]at this
    rw [if_neg (by omega),if_neg (by omega)]
    exact hv
theorem aBo {w:World}{ρ:Env}(z:Nat): ∀(parts:List (Nat×SV)) (pv:List (Nat×Value)) (rows:List (List D)) (vs:Array Value) (r:List (List D)),
  Flat w ρ.S z rows vs.toList->pv.length=parts.length->(∀(j:Nat) (i:Nat) (s:SV) (i':Nat) (v:Value),parts[j]? =some (i,s)->pv[j]? =some (i',v)->i=i'/\Rep w ρ s v)->aCy z rows parts=some r->
  ∃rs,Instr.fill (λi=>some (i * z,z)) vs pv=some rs/\Flat w ρ.S z r rs.toList/\r.length=rows.length:=by
 intro parts
 induction parts with
 |nil=>
  intro pv rows vs r hc hl _ h
  have:pv=[]:=List.eq_nil_of_length_eq_zero (by simpa using hl)
  subst this
  simp [aCy]at h
  subst h
  exact⟨vs,rfl,hc,rfl⟩
 |cons p rest ih=>
  obtain⟨i,s⟩:=p
  intro pv rows vs r hc hl hp h
  obtain⟨q,pv',rfl⟩: ∃q pv',pv=q::pv':=by
   cases pv with
   |nil=>simp at hl
   |cons q pv'=>exact⟨q,pv',rfl⟩
  obtain⟨i',v⟩:=q
  obtain⟨rfl,hr⟩:=hp 0 i s i' v rfl rfl
  simp only [aCy]at h
  split at h
  ·rename_i row hrow
   split at h
   ·rename_i hcond
    obtain⟨k1,k2,k3⟩:=aDy hrow hr
    have hfit:i * z+v.cells.size<=vs.size:=by
     have:=hc.len
     rw [Array.length_toList]at this
     rw [this,k1,hcond.1]
     have h2:(i+1)* z<=rows.length * z:=Nat.mul_le_mul_right z hcond.2
     rw [Nat.add_mul]at h2
     omega
    have hfc:=rJ (i * z) v.cells vs hfit
    have hset:=hc.set hcond.2 hcond.1 (pv:=v.cells.toList) (by rw [Array.length_toList,k1];exact hcond.1) (λu hu=>k2 u (by simpa using hu)) (λj x u hx hu=>k3 j x u hx (by simpa using hu))
    rw [<-hfc]at hset
    obtain⟨rs,e1,e2,e3⟩:=ih pv' _ _ r hset (by simpa using hl) (λj a b a' b' h1 h2=>hp (j+1) a b a' b' (by simpa using h1) (by simpa using h2)) h
    refine⟨rs, ?_,e2,by rw [e3];simp⟩
    simp only [Instr.fill]
    rw [if_neg]
    ·exact e1
    ·simp;omega
   ·cases h
  ·cases h
def gA (ti:TypeId->Option TI) (t:TypeId) (len id:Nat) (parts:List (Nat×SV)) (pin:Pin) (fr:Fr) (hp:Hp) (K:SV->Hp->Prop):Prop:=
 match ti t with
 |some { td:= .slice e, .. }=>
  (match ti e with
  |some T=>
   0 < T.size/\len * T.size<=16777216/\
   (match aCy T.size (List.replicate len T.zero) parts with
   |some rows=>eN id pin fr hp/\K (.osl id T.size rows) ((id, .own e T.size rows.length)::hp)
   |none=>aF "buildSlice: fill")
  |none=>aF "buildSlice: an element's type")
 |_=>aF "buildSlice: a type"
theorem kZ {t:TypeId}{T:TI}{d:TypeDesc}{i:TypeInfo}{z:Value}(hT:TIok P t T d i z) (w:World) (S:Nat->Nat->Prop) (len:Nat) (hpos:0 < T.size):
  Flat w S T.size (List.replicate len T.zero) ((Array.range (len * i.size)).map (z.cells[· % z.cells.size]!)).toList:=by
 have hzl:T.zero.length=T.size:=by rw [hT.zs,List.length_map,Array.length_toList,hT.cells,hT.size]
 have hzc:z.cells.size=T.size:=by rw [hT.cells,hT.size]
 refine⟨by simp [hT.size], ?_, ?_, ?_⟩
 ·intro row hr
  rw [List.eq_of_mem_replicate hr]
  exact hzl
 ·intro v hv
  simp only [Array.toList_map,List.mem_map]at hv
  obtain⟨k,_,rfl⟩:=hv
  have hlt:k % z.cells.size < z.cells.size:=Nat.mod_lt _ (by omega)
  rw [getElem!_pos z.cells _ hlt]
  exact hT.one _ (Array.getElem_mem hlt)
 ·intro a row j x h1 h2
  have hr:=List.eq_of_mem_replicate (List.mem_of_getElem? h1)
  subst hr
  have ha:a < len:=by simpa using (List.getElem?_eq_some_iff.1 h1).1
  have hj:j < T.size:=by rw [<-hzl];exact(List.getElem?_eq_some_iff.1 h2).1
  have hlt:a * T.size+j < len * i.size:=by
   have:(a+1)* T.size<=len * T.size:=Nat.mul_le_mul_right _ ha
   rw [Nat.add_mul]at this
   rw [hT.size];omega
  refine⟨z.cells[(a * T.size+j) % z.cells.size]!, ?_, ?_⟩
  ·simp [hlt]
  ·have hm:(a * T.size+j) % z.cells.size=j:=by rw [hzc,Nat.mul_comm,Nat.mul_add_mod,Nat.mod_eq_of_lt hj]
   rw [hm,getElem!_pos z.cells j (by omega)]
   rw [hT.zs]at h2
   simp only [List.getElem?_map,Option.map_eq_some_iff]at h2
   obtain⟨u,hu,rfl⟩:=h2
   have:z.cells[j]? =some u:=by simpa using hu
   rw [Array.getElem?_eq_getElem (by omega)]at this
   injection this with this
   rw [this]
   exact lG w S u
theorem Env.grown_kb (ρ:Env) {id n z i:Nat}{v:Value}{x:HObj}(h:i≠id):(ρ.grown id n z v).kb i x=ρ.kb i x:=by
 cases x<;>simp [Env.kb,Env.grown,h]
theorem Env.kb_at {ρ:Env}{i g:Nat}{x:HObj}(h:ρ.kb i x=some g):ρ.at i x=some g\/ρ.blk i=some g/\x.Rd:=by
 cases x with
 |cells t cs=>exact .inl h
 |ro t cs=>exact .inr ⟨h,trivial⟩
 |rox X=>exact .inr ⟨h,trivial⟩
 |own=>cases h
 |mrow=>exact .inl h
 |loop=>exact .inl h
 |ext=>exact .inl h
 |glob=>cases h
theorem aCn {w:World}{e z cap:Nat}{cur:Array Value}{rows:List (List D)}{vs:List Value}{S:Nat->Nat->Prop}(hfl:Flat w S z rows vs) (hcur:cur.toList.take (rows.length * z)=vs) (hc:cur.size=cap * z) (hle:rows.length<=cap) (hm:cap<=maxLen):
  (w.alloc (.cells cur e)).ownsRow 0 e z (.slice (some ⟨w.heap.size,0,none⟩) rows.length cap) rows.length vs:=
 ⟨hfl.len, .inr ⟨w.heap.size,cap,cur,rfl,Nat.zero_le _,heap_alloc_new w _,hle,hm,hc,hcur⟩⟩
theorem lL {ti:TypeId->Option TI}(hti:cI P ti) {o:Oper}{t:TypeId}{len id:Nat}{parts:Array (Nat×Operand)}(ho:o.op= .buildSlice t len parts) {pin:Pin}{fr:Fr}{hp:Hp}{K:SV->Hp->Prop}
  (h:match evP fr parts.toList with|some l=>gA ti t len id l pin fr hp K|none=>aF "buildSlice: a part"):sA P o pin fr hp K:=by
 intro E ρ a w hp' hm hf next Q hn
 split at h
 ·rename_i l hl
  obtain⟨p1,p2⟩:=aEx hf _ _ hl
  unfold gA at h
  split at h
  ·rename_i e _ _ _ hT
   obtain⟨d,i,z,hT⟩:=aK (hti _ _ hT)
   have hd:=bI hT.td
   subst hd
   split at h
   ·rename_i T hT2
    obtain⟨d2,i2,z2,hT2⟩:=aK (hti _ _ hT2)
    obtain⟨hpos,hsm,h⟩:=h
    split at h
    ·rename_i rows hrows
     obtain⟨hfr,hk⟩:=h
     obtain⟨rs,r1,r2,r3⟩:=aBo (ρ:=ρ) T.size l _ _ _ rows (kZ hT2 w ρ.S len hpos) p1 p2 hrows
     have hlen:rows.length=len:=by rw [r3];simp
     have hrun:(execOp a.eval o).run P w= .ok (.value (.slice (some ⟨w.heap.size,0,none⟩) rows.length rows.length)) (w.alloc (.cells rs e)):=by
      have e2:(parts.map λ(x:Nat×Operand)=>match x with|(i,x)=>(i,a.eval x))=parts.map λp=>(p.1,a.eval p.2):=rfl
      have hsz2:i2.size=T.size:=hT2.size
      by_cases h0:len=0
      ·subst h0
       have hrs:rs= #[]:=by
        have:=r2.len
        rw [hlen]at this
        simp at this
        exact this
       have hl0:rows.length=0:=hlen
       rw [hl0,hrs]
       rw [hrs]at r1
       simp only [execOp,ho,Sem.run_bind,Instr.buildSlice,run_underlying hT.und,Result.andThen_ok,hT2.run_size]
       have hr0:Array.range 0= #[]:=by apply Array.eq_empty_of_size_eq_zero;simp
       have hfill:Instr.fill (λi=>some (i * T.size,T.size)) #[] (List.map (λp=>(p.fst,a.eval p.snd)) parts.toList)=some #[]:=by simpa [hr0]using r1
       simp [hfill,newRow,hr0]
      ·have:=Go.run_buildSlice (P:=P) w t e len (parts.map λp=>(p.1,a.eval p.2)) rs i2 z2 hT.und hT2.info hT2.zero (by rw [hsz2];omega) (by rw [hsz2];exact λh=>h0 (by rcases Nat.mul_eq_zero.1 h with h|h;exact h;omega)) (by rw [hsz2];simpa [hsz2]using r1)
       simp only [execOp,ho,Sem.run_bind,this,Result.andThen_ok,Sem.run_pure,hlen]
     obtain⟨f1,f2,f3⟩:=hfr
     have hrl:=r2.len
     rw [Array.length_toList]at hrl
     have hml:rows.length<=maxLen:=by
      rw [hlen];simp only [maxLen]
      have:len * 1<=len * T.size:=Nat.mul_le_mul_left _ hpos
      omega
     obtain⟨m1,m2,m3⟩:=hm.newOwn (id:=id) (e:=e) (z:=T.size) (rows:=rows) (vs:=rs.toList) (Grew.alloc w (.cells rs e)) (aCn r2 (List.take_of_length_le (by rw [Array.length_toList,hrl];exact Nat.le_refl _)) hrl (Nat.le_refl _) hml)
      (by intro g hg;simp [Value.ownBlock]at hg;omega) r2 f3 (by rw [hp'];exact f1)
     refine bO hrun (hn _ _ _ _ _ hk m1 (m2 fr _ f2 hf) m3 (KInfo.mk_ (hm.kept_grew (Grew.alloc w _)) (λ_ _ x=> .inl x) λi x g hx hg=> ?_))
     have hne:i≠id:= λe=>f3 (e ▸ bE hx (.inl rfl))
     exact⟨by rw [cB (Ne.symm hne)];exact hx,by rw [ρ.grown_kb hne];exact hg⟩
    ·exact h.elim
   ·exact h.elim
  ·exact h.elim
 ·exact h.elim
def uW (ti:TypeId->Option TI) (tx:TypeId) (z:Nat) (x:SV):Option (List (List D)):=
 match ti tx with
 |some { td:= .string, .. }=>(match x with| .d (.str l)=>if z=1 then some (l.map bG)else none|_=>none)
 |some { td:= .slice _, .. }=>(match x with| .d .nil=>some []|x=>match nN x with|some (z',rows)=>if z=z' then some rows else none|none=>none)
 |_=>none
theorem tN {ti:TypeId->Option TI}(hti:cI P ti) {tx:TypeId}{z:Nat}{x:SV}{rows:List (List D)}(h:uW ti tx z x=some rows) {w:World}{ρ:Env}{v:Value}(hr:Rep w ρ x v):
  ∃dx vs,P.underlying tx=some dx/\(dx= .string\/ ∃e',dx= .slice e')/\Flat w ρ.S z rows vs/\(∀u:World,(Builtin.lenOf v).run P u= .ok rows.length u)/\
   ∀u:World,u.heap=w.heap->(Builtin.firstCells z rows.length v).run P u= .ok vs.toArray u:=by
 unfold uW at h
 split at h
 ·rename_i hT
  obtain⟨d,i,zz,hT⟩:=aK (hti _ _ hT)
  have hd:=dK hT.td
  subst hd
  split at h
  ·rename_i l
   split at h
   ·rename_i hz
    subst hz
    simp at h
    subst h
    obtain⟨e,hle⟩:=hr.str_inv
    subst e
    refine⟨.string,l.map λc=> .int .u8 c.toNat,hT.und, .inl rfl,⟨by simp, ?_, ?_, ?_⟩, ?_, ?_⟩
    ·intro row hrow
     obtain⟨c,_,rfl⟩:=List.mem_map.1 hrow
     rfl
    ·intro u hu
     obtain⟨c,_,rfl⟩:=List.mem_map.1 hu
     rfl
    ·intro a row j x h1 h2
     simp only [List.getElem?_map,Option.map_eq_some_iff]at h1
     obtain⟨c,hc,rfl⟩:=h1
     have hj:j=0/\x= .int .u8 c.toNat:=by
      cases j with
      |zero=>simp [bG]at h2;exact⟨rfl,h2.symm⟩
      |succ j=>simp [bG]at h2
     obtain⟨rfl,rfl⟩:=hj
     exact⟨.int .u8 c.toNat,by simp [hc], .int _ _⟩
    ·intro u
     simp [Builtin.lenOf];rfl
    ·intro u _
     have e2:((⟨l.toArray⟩:ByteArray).extract 0 (l.map bG).length).data=l.toArray:=by
      rw [ByteArray.data_extract]
      simp
     simp only [Builtin.firstCells,e2,Sem.run_pure]
     simp
   ·cases h
  ·cases h
 ·rename_i e _ _ _ hT
  obtain⟨d,i,zz,hT⟩:=aK (hti _ _ hT)
  have hd:=bI hT.td
  subst hd
  split at h
  ·simp at h
   subst h
   have e:=hr.nil_inv
   subst e
   exact⟨_,[],hT.und, .inr ⟨_,rfl⟩,Flat.nil _ _ _,λu=>by simp [Builtin.lenOf],λu _=>by simp [Builtin.firstCells]⟩
  ·split at h
   ·rename_i z' rows' hrows
    split at h
    ·rename_i hz
     subst hz
     simp at h
     subst h
     obtain⟨A,cap,b,off,e1,hnc,hcm,hA,hview⟩:=(fS hrows hr).of_sl
     obtain⟨vs,f1,f2,f3⟩:=hview.flat
     subst e1
     refine⟨_,vs,hT.und, .inr ⟨_,rfl⟩,f1,λu=>by simp [Builtin.lenOf],λu hu=> ?_⟩
     have hvl:=f1.len
     by_cases hne:rows'=[]
     ·subst hne
      have hvs:vs=[]:=List.eq_nil_of_length_eq_zero (by simpa using hvl)
      subst hvs
      cases A<;>simp [Builtin.firstCells,loadCells,loadCellsFrom]
     ·rw [hA hne]
      refine run_firstCells_some u z rows'.length ⟨b,off,none⟩ _ _ vs hvl λj v hv=> ?_
      rw [bU]
      have:=f2 j v hv
      rw [<-this]
      simp [World.cell?,hu]
    ·cases h
   ·cases h
 ·cases h
def zG (ti:TypeId->Option TI) (t tx:TypeId) (s x:SV) (hp:Hp) (K:SV->Hp->Prop):Prop:=
 match ti t with
 |some { td:= .slice e, .. }=>
  (match ti e with
  |some T=>
   (match uW ti tx T.size x with
   |some new=>
    (match s with
    | .osl i z rows=>T.size=z/\aN hp i=some (.own e z rows.length)/\rows.length+new.length<=9223372036854775807/\(rows.length+new.length)* T.bytes<=140737488355328/\
     gC hp i (.own e z (rows.length+new.length)) λhp'=>K (.osl i z (rows++new)) hp'
    |_=>aF "append: onto what is not its own")
   |none=>aF "append: what is appended")
  |none=>aF "append: an element's type")
 |_=>aF "append: a type"
theorem aEc {ti:TypeId->Option TI}(hti:cI P ti) {o:Oper}{t tx:TypeId}{x y:Operand}(ho:o.op= .call { callee:= .builtin .append,args:= #[x,y],argTypes:= #[t,tx] }) {pin:Pin}{fr:Fr}{hp:Hp}{K:SV->Hp->Prop}
  (h:ev fr x λs=>ev fr y λr=>zG ti t tx s r hp K):sA P o pin fr hp K:=by
 intro E ρ a w hpin hm hf next Q hn
 obtain⟨s,hs,hv0⟩:=bR h
 obtain⟨r,hr,hv⟩:=bR hv0
 clear hv0
 have h1:=aS hf hs
 have h2:=aS hf hr
 have hrun: ∀v w',(Builtin.append_ #[t,tx] o.type #[a.eval x,a.eval y]).run P w= .ok v w'->(execOp a.eval o).run P w= .ok (.value v) w':=by
  intro v w' e
  rw [aO ho]
  simp only [builtin,List.map_toArray,List.map_cons,List.map_nil,Sem.run_bind,e,Result.andThen_ok,Sem.run_pure]
 unfold zG at hv
 split at hv
 ·rename_i e _ _ _ hT
  obtain⟨d,i,z,hT⟩:=aK (hti _ _ hT)
  have hd:=bI hT.td
  subst hd
  split at hv
  ·rename_i T hT2
   obtain⟨d2,i2,z2,hT2⟩:=aK (hti _ _ hT2)
   split at hv
   ·rename_i new hnew
    split at hv
    ·rename_i j z' rows
     obtain⟨hz,hoo,h63,hby,hk⟩:=hv
     rw [cQ]at hk
     subst hz
     obtain⟨dx,vs,q1,q2,q3,q4,q5⟩:=tN hti hnew h2
     obtain⟨v',w',ρ',a1,a2,a3,a4,a5,a6,a7,a7',a8⟩:=hm.append (P:=P) hoo h1 q3 t tx o.type i2 z2 dx hT.und q1 q2 hT2.info hT2.zero hT2.cells hT2.size (a.eval y) q4 (by rw [hT2.size];exact q5)
      (by simp only [maxLen];omega) (by rw [hT2.bytes];exact hby)
     have hnid: ∀i x g,aN hp i=some x->ρ.kb i x=some g->i≠j:= λi x g hx hc e=>by
      subst e;rw [hoo]at hx;injection hx with hx;subst hx;cases hc
     refine bO (hrun _ _ a1) (hn _ _ _ _ _ hk a2 (a3 fr _ hf) a4 (KInfo.mk_ ⟨a5,λi x g hx hg=> ?_⟩ a6 λi x g hx hg=> ?_))
     ·exact a8 i x g (hnid i x g hx hg) hx (Env.kb_at hg)
     ·refine⟨?_,by rw [a7' i x (hnid i x g hx hg)];exact hg⟩
      rw [aX _ hoo]
      rw [if_neg (hnid i x g hx hg)]
      exact hx
    ·exact hv.elim
   ·exact hv.elim
  ·exact hv.elim
 ·exact hv.elim
end
end Go.Proofs.YtdjfkmkdkclahaaGreatDoor
