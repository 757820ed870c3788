/-
  Symbolic operations, one by one: struct and slice literals, make, append. Symbolic operations, one by one: slice literals, make, append. Symbolic operations on rows that may be written: stores, make, append.
  Conditions: none.
-/
import Derived.Test.YtdjfkmkdkclahaaGreatDoorWSi
import Derived.Great.BuildSlice
import Derived.Laws.MakeOwn
set_option linter.unusedSectionVars false
set_option linter.unusedSimpArgs false
set_option linter.unusedVariables false
set_option maxHeartbeats 1000000
namespace Go.Proofs.YtdjfkmkdkclahaaGreatDoor
section
open Go.RowKit
section
variable {P:Program}
theorem aG7 (off:Nat): ∀(l:List Value) (k:Nat) (cs:Array Value),
  ((l.zipIdx k).foldl (λ(cs:Array Value) (p:Value×Nat)=>cs.setIfInBounds (off+p.2) p.1) cs).size=cs.size/\
  ∀j,((l.zipIdx k).foldl (λ(cs:Array Value) (p:Value×Nat)=>cs.setIfInBounds (off+p.2) p.1) cs)[j]? =if off+k<=j/\j < off+k+l.length/\j < cs.size then l[j - (off+k)]? else cs[j]? :=by
 intro l
 induction l with
 |nil=>intro k cs;simp;intro j h1 h2;omega
 |cons v r ih=>
  intro k cs
  simp only [List.zipIdx_cons,List.foldl_cons]
  obtain⟨h1,h2⟩:=ih (k+1) (cs.setIfInBounds (off+k) v)
  refine⟨by rw [h1];simp,λj=> ?_⟩
  rw [h2 j]
  simp only [Array.size_setIfInBounds,List.length_cons]
  by_cases hj:j < cs.size
  ·by_cases e:j=off+k
   ·subst e
    rw [if_neg (by omega),if_pos ⟨by omega,by omega,hj⟩]
    simp [hj]
   ·by_cases hin:off+(k+1)<=j/\j < off+(k+1)+r.length/\j < cs.size
    ·rw [if_pos hin,if_pos ⟨by omega,by omega,hj⟩]
     obtain⟨q,hq⟩: ∃q,j - (off+k)=q+1:=⟨j - (off+(k+1)),by omega⟩
     rw [hq]
     simp only [List.getElem?_cons_succ]
     congr 1
     omega
    ·rw [if_neg hin,if_neg (by omega),Array.getElem?_setIfInBounds_ne (by omega)]
  ·rw [if_neg (by omega),if_neg (by omega)]
   rw [Array.getElem?_eq_none (by simpa using hj),Array.getElem?_eq_none (by omega)]
theorem rE (off:Nat) (vc cs:Array Value) (h:off+vc.size<=cs.size):
  (vc.zipIdx.foldl (λcs (c,j)=>cs.setIfInBounds (off+j) c) cs).toList=cs.toList.take off++vc.toList++cs.toList.drop (off+vc.toList.length):=by
 rw [<-Array.foldl_toList]
 have e:vc.zipIdx.toList=vc.toList.zipIdx:=by simp
 rw [e]
 obtain⟨h1,h2⟩:=aG7 off vc.toList 0 cs
 apply List.ext_getElem?
 intro j
 rw [splice_getElem? _ _ _ _ (by simpa using h)]
 have:=h2 j
 rw [Array.getElem?_toList]
 refine Eq.trans this ?_
 simp only [Nat.add_zero,Array.length_toList,Array.getElem?_toList]
 by_cases a:j < off
 ·rw [if_pos a,if_neg (by omega)]
 ·rw [if_neg a]
  by_cases b:j < off+vc.size
  ·rw [if_pos b,if_pos ⟨by omega,b,by omega⟩]
  ·rw [if_neg b,if_neg (by omega)]
def aDk (place:Nat->Option (Nat×Nat)):List SV->List (Nat×SV)->Option (List SV)
 |cs,[]=>some cs
 |cs,(i,s)::r=>
  match place i with
  |some (off,size)=>
   match fQ s with
   |some ns=>if ns.length=size/\off+size<=cs.length then aDk place (iH cs off ns) r else none
   |none=>none
  |none=>none
def oM (w:World) (ρ:Env) (cs:List SV) (vs:Array Value):Prop:=
 vs.size=cs.length/\(∀v∈vs,v.oneCell'=true)/\ ∀(j:Nat) (s:SV) (v:Value),cs[j]? =some s->vs[j]? =some v->Rep w ρ s v
theorem aC2 {w:World}{ρ:Env}(place:Nat->Option (Nat×Nat)): ∀(parts:List (Nat×SV)) (pv:List (Nat×Value)) (cs:List SV) (vs:Array Value) (r:List SV),
  oM w ρ cs vs->pv.length=parts.length->(∀(j:Nat) (i:Nat) (s:SV) (i':Nat) (v:Value),parts[j]? =some (i,s)->pv[j]? =some (i',v)->i=i'/\Rep w ρ s v)->aDk place cs parts=some r->
  ∃rs,Instr.fill place vs pv=some rs/\oM w ρ r rs:=by
 intro parts
 induction parts with
 |nil=>
  intro pv cs vs r hc hl _ h
  have:pv=[]:=List.eq_nil_of_length_eq_zero (by simpa using hl)
  subst this
  simp [aDk]at h
  subst h
  exact⟨vs,rfl,hc⟩
 |cons p rest ih=>
  obtain⟨i,s⟩:=p
  intro pv cs vs r hc hl hp h
  obtain⟨q,pv',rfl⟩: ∃q pv',pv=q::pv':=by
   cases pv with
   |nil=>simp at hl
   |cons q pv'=>exact⟨q,pv',rfl⟩
  obtain⟨i',v⟩:=q
  obtain⟨rfl,hr⟩:=hp 0 i s i' v rfl rfl
  simp only [aDk]at h
  split at h
  ·rename_i off size hpl
   split at h
   ·rename_i ns hns
    split at h
    ·rename_i hcond
     obtain⟨k1,k2,k3⟩:=iV hns hr
     obtain⟨c1,c2,c3⟩:=hc
     have hfit:off+v.cells.size<=vs.size:=by omega
     have hnew:oM w ρ (iH cs off ns) (v.cells.zipIdx.foldl (λcs (c,j)=>cs.setIfInBounds (off+j) c) vs):=by
      have hfc:=rE off v.cells vs hfit
      generalize v.cells.zipIdx.foldl (λcs (c,j)=>cs.setIfInBounds (off+j) c) vs=us at hfc |-
      have hus:us=(vs.toList.take off++v.cells.toList++vs.toList.drop (off+v.cells.toList.length)).toArray:=by rw [<-hfc]
      refine⟨?_, ?_, ?_⟩
      ·rw [hus]
       simp only [List.size_toArray,List.length_append,List.length_take,List.length_drop,iH,Array.length_toList]
       omega
      ·intro u hu
       rw [hus]at hu
       simp only [List.mem_toArray,List.mem_append]at hu
       rcases hu with(hu|hu)|hu
       ·exact c2 u (by simpa using List.mem_of_mem_take hu)
       ·exact k2 u (by simpa using hu)
       ·exact c2 u (by simpa using List.mem_of_mem_drop hu)
      ·intro j s' u hs hu
       rw [hus]at hu
       have hu':(vs.toList.take off++v.cells.toList++vs.toList.drop (off+v.cells.toList.length))[j]? =some u:=by rw [<-hu];simp
       rw [splice_getElem? _ _ _ _ (by simpa using hfit)]at hu'
       unfold iH at hs
       rw [splice_getElem? _ _ _ _ (by omega)]at hs
       have hvl:v.cells.toList.length=ns.length:=by rw [Array.length_toList];exact k1
       rw [hvl]at hu'
       split at hs
       ·rename_i hlt;rw [if_pos hlt]at hu';exact c3 j s' u hs (by simpa using hu')
       ·rename_i hlt
        rw [if_neg hlt]at hu'
        split at hs
        ·rename_i hlt2;rw [if_pos hlt2]at hu';exact k3 _ s' u hs (by simpa using hu')
        ·rename_i hlt2;rw [if_neg hlt2]at hu';exact c3 j s' u hs (by simpa using hu')
     obtain⟨rs,e1,e2⟩:=ih pv' _ _ r hnew (by simpa using hl) (λj a b a' b' h1 h2=>hp (j+1) a b a' b' (by simpa using h1) (by simpa using h2)) h
     refine⟨rs, ?_,e2⟩
     simp only [Instr.fill,hpl]
     rw [if_neg]
     ·exact e1
     ·simp;omega
    ·cases h
   ·cases h
  ·cases h
def pG (ti:TypeId->Option TI):List (TypeId×Nat)->Option (List (Nat×Nat))
 | []=>some []
 |(ft,off)::r=>
  match ti ft with
  |some T=>match pG ti r with|some l=>some ((off,T.size)::l)|none=>none
  |none=>none
theorem aD5 {ti:TypeId->Option TI}(hti:cG P ti): ∀(fs:List Field) (l:List (Nat×Nat)),pG ti (fs.map λf=>(f.type,f.offset))=some l->fs.mapM (λf=>(P.info? f.type).map λi=>(f.offset,i.size))=some l:=by
 intro fs
 induction fs with
 |nil=>intro l h;simp [pG]at h;subst h;simp
 |cons f r ih=>
  intro l h
  simp only [List.map_cons,pG]at h
  split at h
  ·rename_i T hT
   obtain⟨d,i,z,hT⟩:=aL (hti _ _ hT)
   split at h
   ·rename_i l' hl'
    simp at h
    subst h
    simp [ih l' hl',hT.info,hT.size]
   ·cases h
  ·cases h
def evP (fr:Fr):List (Nat×Operand)->Option (List (Nat×SV))
 | []=>some []
 |(i,x)::r=>match evO fr x with
  |some s=>match evP fr r with|some l=>some ((i,s)::l)|none=>none
  |none=>none
theorem aGa {ρ:Env}{w:World}{fr:Fr}{a:Act}(hf:bW ρ w fr a.tmps): ∀(xs:List (Nat×Operand)) (l:List (Nat×SV)),evP fr xs=some l->
  (xs.map λp=>(p.1,a.eval p.2)).length=l.length/\ ∀(j:Nat) (i:Nat) (s:SV) (i':Nat) (v:Value),l[j]? =some (i,s)->(xs.map λp=>(p.1,a.eval p.2))[j]? =some (i',v)->i=i'/\Rep w ρ s v:=by
 intro xs
 induction xs with
 |nil=>intro l h;simp [evP]at h;subst h;simp
 |cons p r ih=>
  obtain⟨i0,x⟩:=p
  intro l h
  simp only [evP]at h
  split at h
  ·rename_i s hs
   split at h
   ·rename_i l' hl'
    simp at h
    subst h
    obtain⟨a1,a2⟩:=ih l' hl'
    refine⟨by simpa using a1,λj i s' i' v h1 h2=> ?_⟩
    cases j with
    |zero=>simp at h1 h2;obtain⟨rfl,rfl⟩:=h1;obtain⟨rfl,rfl⟩:=h2;exact⟨rfl,aR hf hs⟩
    |succ j=>exact a2 j i s' i' v (by simpa using h1) (by simpa using h2)
   ·cases h
  ·cases h
def aEb (ti:TypeId->Option TI) (t:TypeId) (parts:List (Nat×SV)) (K:SV->Prop):Prop:=
 match ti t with
 |some T=>
  (match T.td with
  | .struct fs=>
   (match pG ti fs with
   |some pl=>(match aDk (λi=>pl[i]?) (T.zero.map .d) parts with|some cs=>K (vN cs)|none=>aD "build: fill")
   |none=>aD "build: places")
  | .array _ e=>
   (match ti e with
   |some T2=>(match aDk (λi=>some (i * T2.size,T2.size)) (T.zero.map .d) parts with|some cs=>K (vN cs)|none=>aD "build: fill")
   |none=>aD "build: an element's type")
  |_=>aD "build: a type")
 |none=>aD "build: a type"
theorem aCj {t:TypeId}{T:TI}{d:TypeDesc}{i:TypeInfo}{z:Value}(hT:TIok P t T d i z) (w:World) (ρ:Env):oM w ρ (T.zero.map .d) z.cells:=by
 refine⟨by simp [hT.zs],hT.one, ?_⟩
 intro j s v hs hv
 rw [hT.zs]at hs
 simp only [List.map_map,List.getElem?_map,Option.map_eq_some_iff]at hs
 obtain⟨u,hu,rfl⟩:=hs
 have:u=v:=by
  have hu':z.cells[j]? =some u:=by simpa using hu
  rw [hu']at hv;injection hv
 subst this
 exact .d _ _ (kW w ρ.S u)
theorem aIm {ti:TypeId->Option TI}(hti:cG P ti) {o:Oper}{t:TypeId}{parts:Array (Nat×Operand)}(ho:o.op= .build t parts) {fr:Fr}{hp:Hp}{K:SV->Prop}
  (h:match evP fr parts.toList with|some l=>aEb ti t l K|none=>aD "build: a part"):cP P o fr hp K:=by
 intro E ρ a w hm hf
 split at h
 ·rename_i l hl
  obtain⟨p1,p2⟩:=aGa hf _ _ hl
  have hrun: ∀cells:Array Value,P.built t (parts.toList.map λp=>(p.1,a.eval p.2))=some cells-> ∀w',Kept ρ hp w w'->(execOp a.eval o).run P w'= .ok (.value (.agg cells)) w':=by
   intro cells e w' _
   have:=run_build (P:=P) w' t (parts.map λp=>(p.1,a.eval p.2)) cells (by simpa using e)
   have e2:(parts.map λ(x:Nat×Operand)=>match x with|(i,x)=>(i,a.eval x))=parts.map λp=>(p.1,a.eval p.2):=rfl
   simp only [execOp,ho,Sem.run_bind,this,Result.andThen_ok,Sem.run_pure]
  unfold aEb at h
  split at h
  ·rename_i T hT
   obtain⟨d,i,z,hT⟩:=aL (hti _ _ hT)
   have hz0:=aCj hT w ρ
   have htd:=hT.td
   split at h
   ·rename_i fs hfs
    rw [hfs]at htd
    obtain⟨gs,rfl,hfs'⟩:=jI htd
    subst hfs'
    split at h
    ·rename_i pl hpl
     have hpl':=aD5 hti _ _ hpl
     split at h
     ·rename_i cs hcs
      obtain⟨rs,r1,r2⟩:=aC2 _ l _ _ _ cs hz0 p1 p2 hcs
      refine⟨_,_,hrun rs ?_,iS r2.1 r2.2.2,h⟩
      simp only [Program.built,hT.info,hT.und,hT.zero,hpl',List.getElem?_toArray]
      exact r1
     ·exact h.elim
    ·exact h.elim
   ·rename_i n e he
    rw [he]at htd
    have hd:=jC htd
    subst hd
    split at h
    ·rename_i T2 hT2
     obtain⟨d2,i2,z2,hT2⟩:=aL (hti _ _ hT2)
     split at h
     ·rename_i cs hcs
      obtain⟨rs,r1,r2⟩:=aC2 _ l _ _ _ cs hz0 p1 p2 hcs
      refine⟨_,_,hrun rs ?_,iS r2.1 r2.2.2,h⟩
      simp only [Program.built,hT.info,hT.und,hT.zero,hT2.info,hT2.size]
      exact r1
     ·exact h.elim
    ·exact h.elim
   ·exact h.elim
  ·exact h.elim
 ·exact h.elim
end
end
section
open Go.RowKit
section
variable {P:Program}
def asD:SV->Option D
 | .d x=>some x
 | .osl _ z rows=>some (.sl z rows)
 |_=>none
theorem aCf {w:World}{ρ:Env}{s:SV}{v:Value}{x:D}(h:asD s=some x) (hr:Rep w ρ s v):RepD w ρ.S x v:=by
 unfold asD at h
 split at h
 ·injection h with h;subst h;cases hr with|d _ _ h=>exact h
 ·injection h with h;subst h;exact hr.osl_inv.1
 ·cases h
def aMn:List SV->Option (List D)
 | []=>some []
 |s::r=>match asD s with|some x=>(match aMn r with|some l=>some (x::l)|none=>none)|none=>none
theorem aGy: ∀{cs:List SV}{l:List D},aMn cs=some l->l.length=cs.length/\ ∀(j:Nat) (x:D),l[j]? =some x-> ∃s,cs[j]? =some s/\asD s=some x:=by
 intro cs
 induction cs with
 |nil=>intro l h;simp [aMn]at h;subst h;exact⟨rfl,by simp⟩
 |cons s r ih=>
  intro l h
  simp only [aMn]at h
  split at h
  ·rename_i x hx
   split at h
   ·rename_i l' hl'
    injection h with h
    subst h
    obtain⟨i1,i2⟩:=ih hl'
    refine⟨by simp [i1],λj y hy=> ?_⟩
    cases j with
    |zero=>simp at hy;subst hy;exact⟨s,by simp,hx⟩
    |succ j=>simp at hy;simpa using i2 j y hy
   ·cases h
  ·cases h
def aEy (s:SV):Option (List D):=match fQ s with|some cs=>aMn cs|none=>none
def aDl (z:Nat):List (List D)->List (Nat×SV)->Option (List (List D))
 |rows,[]=>some rows
 |rows,(i,s)::r=>
  match aEy s with
  |some row=>if row.length=z/\i < rows.length then aDl z (rows.set i row) r else none
  |none=>none
theorem aEx {w:World}{ρ:Env}{s:SV}{v:Value}{row:List D}(h:aEy s=some row) (hr:Rep w ρ s v):
  v.cells.size=row.length/\(∀u∈v.cells,u.oneCell'=true)/\ ∀(j:Nat) (x:D) (u:Value),row[j]? =some x->v.cells[j]? =some u->RepD w ρ.S x u:=by
 unfold aEy at h
 split at h
 ·rename_i cs hcs
  obtain⟨k1,k2,k3⟩:=iV hcs hr
  obtain⟨e1,e2⟩:=aGy h
  refine⟨by omega,k2,λj x u hx hu=> ?_⟩
  obtain⟨s',hs',hx'⟩:=e2 j x hx
  exact aCf hx' (k3 j s' u hs' hu)
 ·cases h
theorem Flat.set {w:World}{S:Nat->Nat->Prop}{z:Nat}{rows:List (List D)}{vs:List Value}(h:Flat w S z rows vs) {i:Nat}(hi:i < rows.length) {row:List D}(hrow:row.length=z) {pv:List Value}(hpl:pv.length=z)
  (h1: ∀u∈pv,u.oneCell'=true) (hr: ∀(j:Nat) (x:D) (u:Value),row[j]? =some x->pv[j]? =some u->RepD w S x u):
  Flat w S z (rows.set i row) (vs.take (i * z)++pv++vs.drop (i * z+pv.length)):=by
 have hle:i * z+pv.length<=vs.length:=by
  rw [h.len,hpl]
  have:(i+1)* z<=rows.length * z:=Nat.mul_le_mul_right z hi
  rw [Nat.add_mul]at this
  omega
 refine⟨?_, ?_, ?_, ?_⟩
 ·simp only [List.length_append,List.length_take,List.length_drop,List.length_set]
  rw [<-h.len]
  omega
 ·intro r hr'
  rcases List.mem_or_eq_of_mem_set hr' with hr'|hr'
  ·exact h.hz r hr'
  ·rw [hr'];exact hrow
 ·intro u hu
  simp only [List.mem_append]at hu
  rcases hu with(hu|hu)|hu
  ·exact h.one u (List.mem_of_mem_take hu)
  ·exact h1 u hu
  ·exact h.one u (List.mem_of_mem_drop hu)
 ·intro a r j x hra hx
  rw [splice_getElem? _ _ _ _ hle]
  by_cases e:a=i
  ·subst e
   rw [List.getElem?_set_self hi]at hra
   injection hra with hra
   subst hra
   have hj:j < row.length:=(List.getElem?_eq_some_iff.1 hx).1
   rw [if_neg (by omega),if_pos (by omega)]
   have:a * z+j - a * z=j:=by omega
   rw [this]
   have hpj:pv[j]? =some (pv[j]'(by omega)):=List.getElem?_eq_getElem (by omega)
   exact⟨_,hpj,hr j x _ hx hpj⟩
  ·rw [List.getElem?_set_ne (λe'=>e e'.symm)]at hra
   obtain⟨v,hv,hrep⟩:=h.at_ a r j x hra hx
   refine⟨v, ?_,hrep⟩
   have hlt:=tQ h.hz hra hx
   by_cases hlt2:a < i
   ·have:(a+1)* z<=i * z:=Nat.mul_le_mul_right z hlt2
    rw [Nat.add_mul]at this
    rw [if_pos (by omega)]
    exact hv
   ·have:(i+1)* z<=a * z:=Nat.mul_le_mul_right z (by omega)
    rw [Nat.add_mul]at this
    rw [if_neg (by omega),if_neg (by omega)]
    exact hv
theorem aC3 {w:World}{ρ:Env}(z:Nat): ∀(parts:List (Nat×SV)) (pv:List (Nat×Value)) (rows:List (List D)) (vs:Array Value) (r:List (List D)),
  Flat w ρ.S z rows vs.toList->pv.length=parts.length->(∀(j:Nat) (i:Nat) (s:SV) (i':Nat) (v:Value),parts[j]? =some (i,s)->pv[j]? =some (i',v)->i=i'/\Rep w ρ s v)->aDl z rows parts=some r->
  ∃rs,Instr.fill (λi=>some (i * z,z)) vs pv=some rs/\Flat w ρ.S z r rs.toList/\r.length=rows.length:=by
 intro parts
 induction parts with
 |nil=>
  intro pv rows vs r hc hl _ h
  have:pv=[]:=List.eq_nil_of_length_eq_zero (by simpa using hl)
  subst this
  simp [aDl]at h
  subst h
  exact⟨vs,rfl,hc,rfl⟩
 |cons p rest ih=>
  obtain⟨i,s⟩:=p
  intro pv rows vs r hc hl hp h
  obtain⟨q,pv',rfl⟩: ∃q pv',pv=q::pv':=by
   cases pv with
   |nil=>simp at hl
   |cons q pv'=>exact⟨q,pv',rfl⟩
  obtain⟨i',v⟩:=q
  obtain⟨rfl,hr⟩:=hp 0 i s i' v rfl rfl
  simp only [aDl]at h
  split at h
  ·rename_i row hrow
   split at h
   ·rename_i hcond
    obtain⟨k1,k2,k3⟩:=aEx hrow hr
    have hfit:i * z+v.cells.size<=vs.size:=by
     have:=hc.len
     rw [Array.length_toList]at this
     rw [this,k1,hcond.1]
     have h2:(i+1)* z<=rows.length * z:=Nat.mul_le_mul_right z hcond.2
     rw [Nat.add_mul]at h2
     omega
    have hfc:=rE (i * z) v.cells vs hfit
    have hset:=hc.set hcond.2 hcond.1 (pv:=v.cells.toList) (by rw [Array.length_toList,k1];exact hcond.1) (λu hu=>k2 u (by simpa using hu)) (λj x u hx hu=>k3 j x u hx (by simpa using hu))
    rw [<-hfc]at hset
    obtain⟨rs,e1,e2,e3⟩:=ih pv' _ _ r hset (by simpa using hl) (λj a b a' b' h1 h2=>hp (j+1) a b a' b' (by simpa using h1) (by simpa using h2)) h
    refine⟨rs, ?_,e2,by rw [e3];simp⟩
    simp only [Instr.fill]
    rw [if_neg]
    ·exact e1
    ·simp;omega
   ·cases h
  ·cases h
def gU (ti:TypeId->Option TI) (t:TypeId) (len id:Nat) (parts:List (Nat×SV)) (pin:Pin) (fr:Fr) (hp:Hp) (K:SV->Hp->Prop):Prop:=
 match ti t with
 |some { td:= .slice e, .. }=>
  (match ti e with
  |some T=>
   0 < T.size/\len * T.size<=16777216/\
   (match aDl T.size (List.replicate len T.zero) parts with
   |some rows=>fA id pin fr hp/\K (.osl id T.size rows) ((id, .own e T.size rows.length)::hp)
   |none=>aD "buildSlice: fill")
  |none=>aD "buildSlice: an element's type")
 |_=>aD "buildSlice: a type"
theorem kO {t:TypeId}{T:TI}{d:TypeDesc}{i:TypeInfo}{z:Value}(hT:TIok P t T d i z) (w:World) (S:Nat->Nat->Prop) (len:Nat) (hpos:0 < T.size):
  Flat w S T.size (List.replicate len T.zero) ((Array.range (len * i.size)).map (z.cells[· % z.cells.size]!)).toList:=by
 have hzl:T.zero.length=T.size:=by rw [hT.zs,List.length_map,Array.length_toList,hT.cells,hT.size]
 have hzc:z.cells.size=T.size:=by rw [hT.cells,hT.size]
 refine⟨by simp [hT.size], ?_, ?_, ?_⟩
 ·intro row hr
  rw [List.eq_of_mem_replicate hr]
  exact hzl
 ·intro v hv
  simp only [Array.toList_map,List.mem_map]at hv
  obtain⟨k,_,rfl⟩:=hv
  have hlt:k % z.cells.size < z.cells.size:=Nat.mod_lt _ (by omega)
  rw [getElem!_pos z.cells _ hlt]
  exact hT.one _ (Array.getElem_mem hlt)
 ·intro a row j x h1 h2
  have hr:=List.eq_of_mem_replicate (List.mem_of_getElem? h1)
  subst hr
  have ha:a < len:=by simpa using (List.getElem?_eq_some_iff.1 h1).1
  have hj:j < T.size:=by rw [<-hzl];exact(List.getElem?_eq_some_iff.1 h2).1
  have hlt:a * T.size+j < len * i.size:=by
   have:(a+1)* T.size<=len * T.size:=Nat.mul_le_mul_right _ ha
   rw [Nat.add_mul]at this
   rw [hT.size];omega
  refine⟨z.cells[(a * T.size+j) % z.cells.size]!, ?_, ?_⟩
  ·simp [hlt]
  ·have hm:(a * T.size+j) % z.cells.size=j:=by rw [hzc,Nat.mul_comm,Nat.mul_add_mod,Nat.mod_eq_of_lt hj]
   rw [hm,getElem!_pos z.cells j (by omega)]
   rw [hT.zs]at h2
   simp only [List.getElem?_map,Option.map_eq_some_iff]at h2
   obtain⟨u,hu,rfl⟩:=h2
   have:z.cells[j]? =some u:=by simpa using hu
   rw [Array.getElem?_eq_getElem (by omega)]at this
   injection this with this
   rw [this]
   exact kW w S u
theorem Env.grown_kb (ρ:Env) {id n z i:Nat}{v:Value}{x:HObj}(h:i≠id):(ρ.grown id n z v).kb i x=ρ.kb i x:=by
 cases x<;>simp [Env.kb,Env.grown,h]
theorem Env.kb_at {ρ:Env}{i g:Nat}{x:HObj}(h:ρ.kb i x=some g):ρ.at i x=some g\/ρ.blk i=some g/\x.Rd:=by
 cases x with
 |cells t cs=>exact .inl h
 |ro t cs=>exact .inr ⟨h,trivial⟩
 |rox X=>exact .inr ⟨h,trivial⟩
 |own=>cases h
 |mrow=>exact .inl h
 |loop=>exact .inl h
 |ext=>exact .inl h
 |glob=>cases h
theorem aDa {w:World}{e z cap:Nat}{cur:Array Value}{rows:List (List D)}{vs:List Value}{S:Nat->Nat->Prop}(hfl:Flat w S z rows vs) (hcur:cur.toList.take (rows.length * z)=vs) (hc:cur.size=cap * z) (hle:rows.length<=cap) (hm:cap<=maxLen):
  (w.alloc (.cells cur e)).ownsRow 0 e z (.slice (some ⟨w.heap.size,0,none⟩) rows.length cap) rows.length vs:=
 ⟨hfl.len, .inr ⟨w.heap.size,cap,cur,rfl,Nat.zero_le _,heap_alloc_new w _,hle,hm,hc,hcur⟩⟩
theorem lD {ti:TypeId->Option TI}(hti:cG P ti) {o:Oper}{t:TypeId}{len id:Nat}{parts:Array (Nat×Operand)}(ho:o.op= .buildSlice t len parts) {pin:Pin}{fr:Fr}{hp:Hp}{K:SV->Hp->Prop}
  (h:match evP fr parts.toList with|some l=>gU ti t len id l pin fr hp K|none=>aD "buildSlice: a part"):rX P o pin fr hp K:=by
 intro E ρ a w hp' hm hf next Q hn
 split at h
 ·rename_i l hl
  obtain⟨p1,p2⟩:=aGa hf _ _ hl
  unfold gU at h
  split at h
  ·rename_i e _ _ _ hT
   obtain⟨d,i,z,hT⟩:=aL (hti _ _ hT)
   have hd:=bK hT.td
   subst hd
   split at h
   ·rename_i T hT2
    obtain⟨d2,i2,z2,hT2⟩:=aL (hti _ _ hT2)
    obtain⟨hpos,hsm,h⟩:=h
    split at h
    ·rename_i rows hrows
     obtain⟨hfr,hk⟩:=h
     obtain⟨rs,r1,r2,r3⟩:=aC3 (ρ:=ρ) T.size l _ _ _ rows (kO hT2 w ρ.S len hpos) p1 p2 hrows
     have hlen:rows.length=len:=by rw [r3];simp
     have hrun:(execOp a.eval o).run P w= .ok (.value (.slice (some ⟨w.heap.size,0,none⟩) rows.length rows.length)) (w.alloc (.cells rs e)):=by
      have e2:(parts.map λ(x:Nat×Operand)=>match x with|(i,x)=>(i,a.eval x))=parts.map λp=>(p.1,a.eval p.2):=rfl
      have hsz2:i2.size=T.size:=hT2.size
      by_cases h0:len=0
      ·subst h0
       have hrs:rs= #[]:=by
        have:=r2.len
        rw [hlen]at this
        simp at this
        exact this
       have hl0:rows.length=0:=hlen
       rw [hl0,hrs]
       rw [hrs]at r1
       simp only [execOp,ho,Sem.run_bind,Instr.buildSlice,run_underlying hT.und,Result.andThen_ok,hT2.run_size]
       have hr0:Array.range 0= #[]:=by apply Array.eq_empty_of_size_eq_zero;simp
       have hfill:Instr.fill (λi=>some (i * T.size,T.size)) #[] (List.map (λp=>(p.fst,a.eval p.snd)) parts.toList)=some #[]:=by simpa [hr0]using r1
       simp [hfill,newRow,hr0]
      ·have:=Go.run_buildSlice (P:=P) w t e len (parts.map λp=>(p.1,a.eval p.2)) rs i2 z2 hT.und hT2.info hT2.zero (by rw [hsz2];omega) (by rw [hsz2];exact λh=>h0 (by rcases Nat.mul_eq_zero.1 h with h|h;exact h;omega)) (by rw [hsz2];simpa [hsz2]using r1)
       simp only [execOp,ho,Sem.run_bind,this,Result.andThen_ok,Sem.run_pure,hlen]
     obtain⟨f1,f2,f3⟩:=hfr
     have hrl:=r2.len
     rw [Array.length_toList]at hrl
     have hml:rows.length<=maxLen:=by
      rw [hlen];simp only [maxLen]
      have:len * 1<=len * T.size:=Nat.mul_le_mul_left _ hpos
      omega
     obtain⟨m1,m2,m3⟩:=hm.newOwn (id:=id) (e:=e) (z:=T.size) (rows:=rows) (vs:=rs.toList) (Grew.alloc w (.cells rs e)) (aDa r2 (List.take_of_length_le (by rw [Array.length_toList,hrl];exact Nat.le_refl _)) hrl (Nat.le_refl _) hml)
      (by intro g hg;simp [Value.ownBlock]at hg;omega) r2 f3 (by rw [hp'];exact f1)
     refine bN hrun (hn _ _ _ _ _ hk m1 (m2 fr _ f2 hf) m3 (KInfo.mk_ (hm.kept_grew (Grew.alloc w _)) (λ_ _ x=> .inl x) λi x g hx hg=> ?_))
     have hne:i≠id:= λe=>f3 (e ▸ bA hx (.inl rfl))
     exact⟨by rw [cF (Ne.symm hne)];exact hx,by rw [ρ.grown_kb hne];exact hg⟩
    ·exact h.elim
   ·exact h.elim
  ·exact h.elim
 ·exact h.elim
def uX (ti:TypeId->Option TI) (tx:TypeId) (z:Nat) (x:SV):Option (List (List D)):=
 match ti tx with
 |some { td:= .string, .. }=>(match x with| .d (.str l)=>if z=1 then some (l.map bB)else none|_=>none)
 |some { td:= .slice _, .. }=>(match x with| .d .nil=>some []|x=>match mT x with|some (z',rows)=>if z=z' then some rows else none|none=>none)
 |_=>none
theorem tM {ti:TypeId->Option TI}(hti:cG P ti) {tx:TypeId}{z:Nat}{x:SV}{rows:List (List D)}(h:uX ti tx z x=some rows) {w:World}{ρ:Env}{v:Value}(hr:Rep w ρ x v):
  ∃dx vs,P.underlying tx=some dx/\(dx= .string\/ ∃e',dx= .slice e')/\Flat w ρ.S z rows vs/\(∀u:World,(Builtin.lenOf v).run P u= .ok rows.length u)/\
   ∀u:World,u.heap=w.heap->(Builtin.firstCells z rows.length v).run P u= .ok vs.toArray u:=by
 unfold uX at h
 split at h
 ·rename_i hT
  obtain⟨d,i,zz,hT⟩:=aL (hti _ _ hT)
  have hd:=dZ hT.td
  subst hd
  split at h
  ·rename_i l
   split at h
   ·rename_i hz
    subst hz
    simp at h
    subst h
    obtain⟨e,hle⟩:=hr.str_inv
    subst e
    refine⟨.string,l.map λc=> .int .u8 c.toNat,hT.und, .inl rfl,⟨by simp, ?_, ?_, ?_⟩, ?_, ?_⟩
    ·intro row hrow
     obtain⟨c,_,rfl⟩:=List.mem_map.1 hrow
     rfl
    ·intro u hu
     obtain⟨c,_,rfl⟩:=List.mem_map.1 hu
     rfl
    ·intro a row j x h1 h2
     simp only [List.getElem?_map,Option.map_eq_some_iff]at h1
     obtain⟨c,hc,rfl⟩:=h1
     have hj:j=0/\x= .int .u8 c.toNat:=by
      cases j with
      |zero=>simp [bB]at h2;exact⟨rfl,h2.symm⟩
      |succ j=>simp [bB]at h2
     obtain⟨rfl,rfl⟩:=hj
     exact⟨.int .u8 c.toNat,by simp [hc], .int _ _⟩
    ·intro u
     simp [Builtin.lenOf];rfl
    ·intro u _
     have e2:((⟨l.toArray⟩:ByteArray).extract 0 (l.map bB).length).data=l.toArray:=by
      rw [ByteArray.data_extract]
      simp
     simp only [Builtin.firstCells,e2,Sem.run_pure]
     simp
   ·cases h
  ·cases h
 ·rename_i e _ _ _ hT
  obtain⟨d,i,zz,hT⟩:=aL (hti _ _ hT)
  have hd:=bK hT.td
  subst hd
  split at h
  ·simp at h
   subst h
   have e:=hr.nil_inv
   subst e
   exact⟨_,[],hT.und, .inr ⟨_,rfl⟩,Flat.nil _ _ _,λu=>by simp [Builtin.lenOf],λu _=>by simp [Builtin.firstCells]⟩
  ·split at h
   ·rename_i z' rows' hrows
    split at h
    ·rename_i hz
     subst hz
     simp at h
     subst h
     obtain⟨A,cap,b,off,e1,hnc,hcm,hA,hview⟩:=(gL hrows hr).of_sl
     obtain⟨vs,f1,f2,f3⟩:=hview.flat
     subst e1
     refine⟨_,vs,hT.und, .inr ⟨_,rfl⟩,f1,λu=>by simp [Builtin.lenOf],λu hu=> ?_⟩
     have hvl:=f1.len
     by_cases hne:rows'=[]
     ·subst hne
      have hvs:vs=[]:=List.eq_nil_of_length_eq_zero (by simpa using hvl)
      subst hvs
      cases A<;>simp [Builtin.firstCells,loadCells,loadCellsFrom]
     ·rw [hA hne]
      refine run_firstCells_some u z rows'.length ⟨b,off,none⟩ _ _ vs hvl λj v hv=> ?_
      rw [bV]
      have:=f2 j v hv
      rw [<-this]
      simp [World.cell?,hu]
    ·cases h
   ·cases h
 ·cases h
def zS (ti:TypeId->Option TI) (t tx:TypeId) (s x:SV) (hp:Hp) (K:SV->Hp->Prop):Prop:=
 match ti t with
 |some { td:= .slice e, .. }=>
  (match ti e with
  |some T=>
   (match uX ti tx T.size x with
   |some new=>
    (match s with
    | .osl i z rows=>T.size=z/\aM hp i=some (.own e z rows.length)/\rows.length+new.length<=9223372036854775807/\(rows.length+new.length)* T.bytes<=140737488355328/\
     gB hp i (.own e z (rows.length+new.length)) λhp'=>K (.osl i z (rows++new)) hp'
    |_=>aD "append: onto what is not its own")
   |none=>aD "append: what is appended")
  |none=>aD "append: an element's type")
 |_=>aD "append: a type"
theorem aFj {ti:TypeId->Option TI}(hti:cG P ti) {o:Oper}{t tx:TypeId}{x y:Operand}(ho:o.op= .call { callee:= .builtin .append,args:= #[x,y],argTypes:= #[t,tx] }) {pin:Pin}{fr:Fr}{hp:Hp}{K:SV->Hp->Prop}
  (h:ev fr x λs=>ev fr y λr=>zS ti t tx s r hp K):rX P o pin fr hp K:=by
 intro E ρ a w hpin hm hf next Q hn
 obtain⟨s,hs,hv0⟩:=bR h
 obtain⟨r,hr,hv⟩:=bR hv0
 clear hv0
 have h1:=aR hf hs
 have h2:=aR hf hr
 have hrun: ∀v w',(Builtin.append_ #[t,tx] o.type #[a.eval x,a.eval y]).run P w= .ok v w'->(execOp a.eval o).run P w= .ok (.value v) w':=by
  intro v w' e
  rw [aO ho]
  simp only [builtin,List.map_toArray,List.map_cons,List.map_nil,Sem.run_bind,e,Result.andThen_ok,Sem.run_pure]
 unfold zS at hv
 split at hv
 ·rename_i e _ _ _ hT
  obtain⟨d,i,z,hT⟩:=aL (hti _ _ hT)
  have hd:=bK hT.td
  subst hd
  split at hv
  ·rename_i T hT2
   obtain⟨d2,i2,z2,hT2⟩:=aL (hti _ _ hT2)
   split at hv
   ·rename_i new hnew
    split at hv
    ·rename_i j z' rows
     obtain⟨hz,hoo,h63,hby,hk⟩:=hv
     rw [cM]at hk
     subst hz
     obtain⟨dx,vs,q1,q2,q3,q4,q5⟩:=tM hti hnew h2
     obtain⟨v',w',ρ',a1,a2,a3,a4,a5,a6,a7,a7',a8⟩:=hm.append (P:=P) hoo h1 q3 t tx o.type i2 z2 dx hT.und q1 q2 hT2.info hT2.zero hT2.cells hT2.size (a.eval y) q4 (by rw [hT2.size];exact q5)
      (by simp only [maxLen];omega) (by rw [hT2.bytes];exact hby)
     have hnid: ∀i x g,aM hp i=some x->ρ.kb i x=some g->i≠j:= λi x g hx hc e=>by
      subst e;rw [hoo]at hx;injection hx with hx;subst hx;cases hc
     refine bN (hrun _ _ a1) (hn _ _ _ _ _ hk a2 (a3 fr _ hf) a4 (KInfo.mk_ ⟨a5,λi x g hx hg=> ?_⟩ a6 λi x g hx hg=> ?_))
     ·exact a8 i x g (hnid i x g hx hg) hx (Env.kb_at hg)
     ·refine⟨?_,by rw [a7' i x (hnid i x g hx hg)];exact hg⟩
      rw [aX _ hoo]
      rw [if_neg (hnid i x g hx hg)]
      exact hx
    ·exact hv.elim
   ·exact hv.elim
  ·exact hv.elim
 ·exact hv.elim
end
end
section
open Go.RowKit
section
variable {P:Program}
theorem fG {a i z j:Nat}(hj:j < z) (h:a < i):a * z+j < i * z:=by
 have:(a+1)* z<=i * z:=Nat.mul_le_mul_right z h
 rw [Nat.add_mul]at this
 omega
theorem Flat.setPart {w:World}{S:Nat->Nat->Prop}{z:Nat}{rows:List (List D)}{vs:List Value}(h:Flat w S z rows vs) {i off:Nat}{row:List D}(hi:rows[i]? =some row) {ns:List D}{nv:List Value}(hl:nv.length=ns.length) (hoff:off+ns.length<=z)
  (h1: ∀u∈nv,u.oneCell'=true) (hr: ∀(j:Nat) (x:D) (u:Value),ns[j]? =some x->nv[j]? =some u->RepD w S x u):
  Flat w S z (rows.set i (row.take off++ns++row.drop (off+ns.length))) (vs.take (i * z+off)++nv++vs.drop (i * z+off+nv.length)):=by
 have hil:i < rows.length:=(List.getElem?_eq_some_iff.1 hi).1
 have hrl:=h.hz row (List.mem_of_getElem? hi)
 have hle:i * z+off+nv.length<=vs.length:=by
  rw [h.len,hl]
  have:(i+1)* z<=rows.length * z:=Nat.mul_le_mul_right z hil
  rw [Nat.add_mul]at this
  omega
 refine⟨?_, ?_, ?_, ?_⟩
 ·simp only [List.length_append,List.length_take,List.length_drop,List.length_set]
  rw [<-h.len]
  omega
 ·intro r hr'
  rcases List.mem_or_eq_of_mem_set hr' with hr'|hr'
  ·exact h.hz r hr'
  ·rw [hr']
   simp only [List.length_append,List.length_take,List.length_drop]
   omega
 ·intro u hu
  simp only [List.mem_append]at hu
  rcases hu with(hu|hu)|hu
  ·exact h.one u (List.mem_of_mem_take hu)
  ·exact h1 u hu
  ·exact h.one u (List.mem_of_mem_drop hu)
 ·intro a r j x hra hx
  rw [splice_getElem? _ _ _ _ hle]
  by_cases e:a=i
  ·subst e
   rw [List.getElem?_set_self (by omega)]at hra
   injection hra with hra
   subst hra
   rw [splice_getElem? _ _ _ _ (by omega)]at hx
   split at hx
   ·rename_i hj
    obtain⟨v,v1,v2⟩:=h.at_ a row j x hi hx
    exact⟨v,by rw [if_pos (by omega)];exact v1,v2⟩
   ·rename_i hj
    split at hx
    ·rename_i hj2
     have hj3:j - off < nv.length:=by omega
     refine⟨nv[j - off], ?_,hr (j - off) x _ hx (List.getElem?_eq_getElem hj3)⟩
     rw [if_neg (by omega),if_pos (by omega),show a * z+j - (a * z+off)=j - off from by omega]
     exact List.getElem?_eq_getElem hj3
    ·rename_i hj2
     obtain⟨v,v1,v2⟩:=h.at_ a row j x hi hx
     exact⟨v,by rw [if_neg (by omega),if_neg (by omega)];exact v1,v2⟩
  ·rw [List.getElem?_set_ne (λe'=>e e'.symm)]at hra
   obtain⟨v,v1,v2⟩:=h.at_ a r j x hra hx
   have hj:j < z:=by rw [<-h.hz r (List.mem_of_getElem? hra)];exact(List.getElem?_eq_some_iff.1 hx).1
   refine⟨v, ?_,v2⟩
   rcases Nat.lt_or_ge a i with hlt|hge
   ·have:=fG hj hlt
    rw [if_pos (by omega)];exact v1
   ·have:(i+1)* z<=a * z:=Nat.mul_le_mul_right z (by omega)
    rw [Nat.add_mul]at this
    rw [if_neg (by omega),if_neg (by omega)];exact v1
theorem dY.set {w:World}{S:Nat->Nat->Prop}{e z cap:Nat}{rows:List (List D)}{v:Value}(h:dY w S e z cap rows v) {i off:Nat}{row:List D}(hi:rows[i]? =some row) {ns:List D}{nv:List Value}(hl:nv.length=ns.length) (hoff:off+ns.length<=z)
  (h1: ∀u∈nv,u.oneCell'=true) (hr: ∀(j:Nat) (x:D) (u:Value),ns[j]? =some x->nv[j]? =some u->RepD w S x u):
  ∃g cur,dM v=some g/\w.heap[g]? =some (.cells cur e (0,0))/\i * z+off+nv.length<=cur.size/\
   dY (w.setRow g (cur.toList.take (i * z+off)++nv++cur.toList.drop (i * z+off+nv.length)).toArray) S e z cap (rows.set i (row.take off++ns++row.drop (off+ns.length))) v:=by
 rcases h with⟨rfl,_⟩|⟨hc,g,cur,rfl,q1,q2,q3,q4,q6,q7⟩
 ·simp at hi
 ·have hil:i < rows.length:=(List.getElem?_eq_some_iff.1 hi).1
  have hle:i * z+off+nv.length<=rows.length * z:=by
   have:(i+1)* z<=rows.length * z:=Nat.mul_le_mul_right z hil
   rw [Nat.add_mul]at this
   omega
  have hle2:rows.length * z<=cur.size:=by rw [q4];exact Nat.mul_le_mul_right z q2
  refine⟨g,cur,(by have:cap≠0:=(by omega);simp [dM,this]),q1,by omega, ?_⟩
  generalize hw':w.setRow g (cur.toList.take (i * z+off)++nv++cur.toList.drop (i * z+off+nv.length)).toArray=w'
  have hk:bL S w w':= λb k hs=>by
   rw [<-hw']
   exact World.cell?_of_block (w:=w) (setRow_other w g b _ λe=>q7 k (e ▸ hs))
  refine .inr ⟨hc,g,_,by rw [List.length_set],by rw [<-hw'];exact setRow_heap w g cur _ e _ q1,by rw [List.length_set];exact q2,q3, ?_, ?_,q7⟩
  ·rw [List.size_toArray,List.length_append,List.length_append,List.length_take,List.length_drop,Array.length_toList,<-q4]
   omega
  ·have:=(q6.setPart hi hl hoff h1 hr).mono hk (λ_ _ x=>x)
   rw [List.length_set]
   have el:(cur.toList.take (i * z+off)++nv++cur.toList.drop (i * z+off+nv.length)).toArray.toList.take (rows.length * z)=(cur.toList.take (rows.length * z)).take (i * z+off)++nv++(cur.toList.take (rows.length * z)).drop (i * z+off+nv.length):=by
    apply List.ext_getElem?
    intro k
    have hcl:cur.toList.length=cur.size:=Array.length_toList
    have eL:=splice_getElem? cur.toList nv (i * z+off) k (by rw [hcl];omega)
    have eR:=splice_getElem? (cur.toList.take (rows.length * z)) nv (i * z+off) k (by rw [List.length_take,hcl,Nat.min_eq_left hle2];omega)
    rw [List.getElem?_take,eR]
    simp only [eL,List.getElem?_take]
    by_cases c0:k < rows.length * z
    ·simp only [c0,if_true]
    ·simp only [c0,if_false]
     rw [if_neg (by omega),if_neg (by omega)]
   rw [el]
   exact this
def aPo (x:SV):Option (List D):=match lR x with|some cs=>aMn cs|none=>none
def zQ (ti:TypeId->Option TI) (t:TypeId) (id z i off ver:Nat) (x:SV) (hp:Hp) (K:Hp->Prop):Prop:=
 match ti t with
 |some T=>
  (match aM hp id with
  |some (.mrow e z' cap rows)=>z=z'/\ver=rows.length/\ ∃row,rows[i]? =some row/\
   if T.td.isAgg then
    (match aPo x with
    |some ns=>ns.length=T.size/\off+T.size<=z/\(∀n∈ns,yF n=true)/\(if off=0/\T.size=z then gB hp id (.mrow e z cap (rows.set i ns)) K else gB hp id (.mrow e z cap (rows.set i (row.take off++ns++row.drop (off+ns.length)))) K)
    |none=>aD "store: no struct")
   else (match asD x with
    |some y=>T.size=1/\yF y=true/\off < z/\(if z=1 then gB hp id (.mrow e z cap (rows.set i [y])) K else gB hp id (.mrow e z cap (rows.set i (row.set off y))) K)
    |none=>aD "store: no datum")
  |_=>aD "store: no such rows")
 |none=>aD "store: a type"
theorem aFd {ti:TypeId->Option TI}(hti:cG P ti) {o:Oper}{t:TypeId}{x y:Operand}(ho:o.op= .store t x y) {pin:Pin}{fr:Fr}{hp:Hp}{K:SV->Hp->Prop}{id z i off ver:Nat}{r:SV}(hs:evO fr x=some (.mp id z i off ver)) (hr:evO fr y=some r)
  (hv:zQ ti t id z i off ver r hp λhp'=>K (.d (.lit undef)) hp'):oL P o pin fr hp K:=by
 intro E ρ a w _ hm hf next Q hn
 have h1:=aR hf hs
 have h2:=aR hf hr
 unfold zQ at hv
 split at hv
 ·rename_i T hT
  obtain⟨d,i0,z0,hT⟩:=aL (hti _ _ hT)
  split at hv
  ·rename_i e z' cap rows hoo
   obtain⟨rfl,hver,row,hrow,hv⟩:=hv
   obtain⟨n0,m0⟩:=hm.sat id _ hoo
   obtain⟨ad,e1,_,hg0⟩:=h1.mp_inv
   obtain⟨g,hg,rfl⟩:=hg0 (by omega)
   have hrl:row.length=z:=by obtain⟨_,_,_,_,q,_⟩:=m0.row hrow;exact q
   have fin: ∀(ns:List D) (v:Value),a.eval y=v->v.cells.toList.length=ns.length->v.cells.size=T.size->off+ns.length<=z->(∀u∈v.cells.toList,u.oneCell'=true)->
     (∀(j:Nat) (s:D) (u:Value),ns[j]? =some s->v.cells.toList[j]? =some u->RepD w ρ.S s u)->K (.d (.lit undef)) (dQ hp id (.mrow e z cap (rows.set i (row.take off++ns++row.drop (off+ns.length)))))->o.wp P a w next Q:=by
    intro ns v ev1 q1 q2 q3 q4 q5 hk
    obtain⟨g',cur,c1,c2,c3,c4⟩:=m0.set hrow q1 q3 q4 q5
    rw [hg]at c1;injection c1 with c1;subst c1
    have hlen:(rows.set i (row.take off++ns++row.drop (off+ns.length))).length=rows.length:=List.length_set
    obtain⟨s1,s2,s3⟩:=hm.setMrow hoo (w':=w.setRow g (cur.toList.take (i * z+off)++v.cells.toList++cur.toList.drop (i * z+off+v.cells.toList.length)).toArray) (v':=ρ.tv id) rfl rfl ⟨rfl,Nat.le_refl _⟩ (by simp [World.setRow]) (λb _ hb=>setRow_other w g b _ (λe=>hb (e ▸ hg))) c4 (λg hg=> .inl hg) (.inl ⟨hlen,rfl⟩)
    refine nU ?_ (hn undef _ _ _ _ hk s1 (hf.mono s2 (λ_ _ x=>x) λi _=>s3 i) (.d _ _ (.lit _)))
    simp [execOp,ho,Instr.storeAt,e1,ev1,Instr.sureAddr,iP hT w g (i * z+off) v q2 cur e c2 c3 q4]
   split at hv
   ·split at hv
    ·rename_i ns hns
     obtain⟨k1,k2,k3,hk⟩:=hv
     unfold aPo at hns
     split at hns
     ·rename_i cs hcs
      obtain⟨vs,ev1,hl,hh⟩:=kM hcs h2
      obtain⟨l1,l2⟩:=aGy hns
      have hrep: ∀(j:Nat) (s:D) (u:Value),ns[j]? =some s->vs[j]? =some u->RepD w ρ.S s u:=by
       intro j s u hs' hu
       obtain⟨s0,q1,q2⟩:=l2 j s hs'
       exact aCf q2 (hh j s0 u q1 hu)
      refine fin ns (.agg vs) ev1 (by simp [Value.cells];omega) (by simp [Value.cells];omega) (by omega) ?_ ?_ ?_
      ·intro u hu
       obtain⟨j,hj,rfl⟩:=List.getElem_of_mem hu
       simp only [Value.cells]at hj |-
       have hj':j < vs.size:=by simpa using hj
       have hjl:j < ns.length:=by omega
       exact lH (hrep j ns[j] _ (List.getElem?_eq_getElem hjl) (by simp [Array.getElem?_eq_getElem hj'])) (k3 _ (List.getElem_mem hjl))
      ·intro j s u hs' hu
       exact hrep j s u hs' (by simpa [Value.cells]using hu)
      ·split at hk
       ·rename_i hc
        rw [cM]at hk
        have e2:row.take off++ns++row.drop (off+ns.length)=ns:=by
         rw [hc.1,List.take_zero,List.nil_append,List.drop_eq_nil_of_le (by omega),List.append_nil]
        rw [e2];exact hk
       ·rw [cM]at hk;exact hk
     ·cases hns
    ·exact hv.elim
   ·split at hv
    ·rename_i y' hy'
     obtain⟨k1,k2,k3,hk⟩:=hv
     have hd:=aCf hy' h2
     have ho1:=lH hd k2
     have hcells:(a.eval y).cells= #[a.eval y]:=by
      generalize a.eval y=u at *
      cases u<;>simp_all [Value.oneCell',Value.cells]
     refine fin [y'] (a.eval y) rfl (by simp [hcells]) (by simp [hcells,k1]) (by simp only [List.length_singleton];omega) ?_ ?_ ?_
     ·intro u hu
      simp [hcells]at hu
      subst hu
      exact ho1
     ·intro j s u hs' hu
      simp only [hcells]at hu
      cases j with
      |zero=>simp at hs' hu;subst hs';subst hu;exact hd
      |succ j=>simp at hs'
     ·have e2:row.take off++[y']++row.drop (off+[y'].length)=row.set off y':=by
       rw [List.set_eq_take_append_cons_drop,if_pos (by omega)]
       simp
      rw [e2]
      split at hk
      ·rename_i hz1
       rw [cM]at hk
       have e3:row.set off y'=[y']:=by
        match row,hrl with
        | [q],_=>
         have:off=0:=by omega
         subst this;rfl
        | [],hrl=>simp at hrl;omega
        |_::_::_,hrl=>simp at hrl;omega
       rw [e3];exact hk
      ·rw [cM]at hk;exact hk
    ·exact hv.elim
  ·exact hv.elim
 ·exact hv.elim
def aHq (ti:TypeId->Option TI) (t:TypeId) (id:Nat) (l c:SV) (pin:Pin) (fr:Fr) (hp:Hp) (K:SV->Hp->Prop):Prop:=
 match ti t with
 |some { td:= .slice e, .. }=>
  (match ti e with
  |some T=>
   (match l, c with
   | .d (.int _ n), .d (.int _ m)=>
    0 < T.size/\0<=n/\n<=m/\m<=9223372036854775807/\(T.bytes:Int)* m<=281474976710656/\fA id pin fr hp/\
     K (.mw id T.size n.toNat) ((id, .mrow e T.size m.toNat (List.replicate n.toNat T.zero))::hp)
   |_,_=>aD "make: no ints")
  |none=>aD "make: an element's type")
 |_=>aD "make: a type"
theorem Env.retop_kb (ρ:Env) {id n i:Nat}{v:Value}{x:HObj}(h:i≠id):(ρ.retop id n v).kb i x=ρ.kb i x:=by
 cases x<;>simp [Env.kb,Env.retop,h]
theorem aFg {ti:TypeId->Option TI}(hti:cG P ti) {o:Oper}{t:TypeId}{x y:Operand}{id:Nat}(ho:o.op= .makeSlice t x y) {pin:Pin}{fr:Fr}{hp:Hp}{K:SV->Hp->Prop}
  (h:ev fr x λl=>ev fr y λc=>aHq ti t id l c pin fr hp K):rX P o pin fr hp K:=by
 intro E ρ a w hpin hm hf next Q hn
 obtain⟨l,hl,hv0⟩:=bR h
 obtain⟨c,hc,hv⟩:=bR hv0
 clear hv0
 have h1:=aR hf hl
 have h2:=aR hf hc
 unfold aHq at hv
 split at hv
 ·rename_i e _ _ _ hT
  obtain⟨d,i,z,hT⟩:=aL (hti _ _ hT)
  have hd:=bK hT.td
  subst hd
  split at hv
  ·rename_i T hT2
   obtain⟨d2,i2,z2,hT2⟩:=aL (hti _ _ hT2)
   split at hv
   ·rename_i k1 n k2 m
    obtain⟨hpos,hn0,hnm,hm63,hby,⟨f1,f2,f3⟩,hk⟩:=hv
    have e1:=h1.int_inv
    have e2:=h2.int_inv
    have hrun:=run_make (P:=P) w t e i2 z2 hT.und hT2.info hT2.zero k1 k2 n m hn0 hnm (by rw [hT2.bytes];exact hby) hm63
    have hrun':(execOp a.eval o).run P w= .ok (.value (.slice (some ⟨w.heap.size,0,none⟩) n.toNat m.toNat)) (w.alloc (.cells (madeCells z2.cells (m.toNat * i2.size)) e)):=by
     simp only [execOp,ho,e1,e2,Sem.run_bind,hrun,Result.andThen_ok,Sem.run_pure]
    have hgr:=Grew.alloc w (.cells (madeCells z2.cells (m.toNat * i2.size)) e)
    have hlen:(List.replicate n.toNat T.zero).length=n.toNat:=List.length_replicate
    have hsz:i2.size=T.size:=hT2.size
    have hfl:Flat w ρ.S T.size (List.replicate n.toNat T.zero) ((madeCells z2.cells (m.toNat * i2.size)).toList.take ((List.replicate n.toNat T.zero).length * T.size)):=by
     have h0:=kO hT2 w ρ.S n.toNat hpos
     have e3:(madeCells z2.cells (m.toNat * i2.size)).toList.take ((List.replicate n.toNat T.zero).length * T.size)=((Array.range (n.toNat * i2.size)).map λk=>z2.cells[k % z2.cells.size]!).toList:=by
      have hle:n.toNat * T.size<=m.toNat * T.size:=Nat.mul_le_mul_right _ (by omega)
      apply List.ext_getElem?
      intro k
      rw [hlen,List.getElem?_take,hsz]
      simp only [madeCells,Array.toList_map,Array.toList_range,List.getElem?_map]
      by_cases hk':k < n.toNat * T.size
      ·rw [if_pos hk',List.getElem?_range (by omega),List.getElem?_range hk']
      ·rw [if_neg hk',List.getElem?_eq_none (by simpa using hk')];rfl
     rw [e3]
     exact h0
    have hmut:dY (w.alloc (.cells (madeCells z2.cells (m.toNat * i2.size)) e)) ρ.S e T.size m.toNat (List.replicate n.toNat T.zero) (.slice (some ⟨w.heap.size,0,none⟩) n.toNat m.toNat):=by
     by_cases hm0:m.toNat=0
     ·have hn0':n.toNat=0:=by omega
      rw [hn0',hm0]
      exact .inl ⟨rfl,rfl,_,rfl⟩
     ·refine .inr ⟨by omega,w.heap.size,_,by rw [hlen],heap_alloc_new w _,by rw [hlen];omega,by simp only [maxLen];omega,by rw [size_madeCells,hsz],hfl.mono (hgr.keeps hm.slt) (λ_ _ x=>x),λj hj=> ?_⟩
      have:=hm.slt _ j hj;omega
    obtain ⟨s1, s2, s3⟩ := hm.newMrow (id := id) f3 (by rw [hpin]; exact f1) hgr hmut (by
     intro g hg
     simp only [dM]at hg
     split at hg
     ·cases hg
     ·injection hg with hg;omega)
    have hrep:Rep (w.alloc (.cells (madeCells z2.cells (m.toNat * i2.size)) e)) (ρ.retop id (List.replicate n.toNat T.zero).length (.slice (some ⟨w.heap.size,0,none⟩) n.toNat m.toNat)) (.mw id T.size n.toNat) (.slice (some ⟨w.heap.size,0,none⟩) n.toNat m.toNat):=
     .mw id T.size n.toNat m.toNat _ (by omega) (by simp only [maxLen];omega) (λ_=>⟨_,rfl⟩) (by simp [Env.retop]) (by simp [Env.retop])
    refine bN hrun' (hn _ _ _ _ _ hk s1 (hf.mono s2 (λ_ _ x=>x) λj hj=>s3 j λe=>f2 (e ▸ hj)) hrep (KInfo.mk_ (hm.kept_grew hgr) (λ_ _ x=>x) λj x g hx hg=> ?_))
    have hne:j≠id:= λe=>f3 (e ▸ bA hx (.inl rfl))
    exact⟨by rw [cF (Ne.symm hne)];exact hx,by rw [ρ.retop_kb hne];exact hg⟩
   ·exact hv.elim
  ·exact hv.elim
 ·exact hv.elim
def nZ (ti:TypeId->Option TI) (tx:TypeId) (z:Nat) (x:SV) (hp:Hp):Option (List (List D)):=
 match x with
 | .mw id z' n => (match ti tx with
  |some { td:= .slice _, .. }=>(match aM hp id with|some (.mrow _ _ _ rows)=>if z=z' then some (rows.take n)else none|_=>none)
  |_=>none)
 | .zc=>(match ti tx with|some { td:= .slice _, .. }=>some []|_=>none)
 |x=>uX ti tx z x
theorem iQ (w:World) (t tx ty e:TypeId) (i:TypeInfo) (z:Value) (dx:TypeDesc) (ht:P.underlying t=some (.slice e)) (htx:P.underlying tx=some dx) (hdx:dx= .string\/ ∃e',dx= .slice e')
  (hi:P.info? e=some i) (hz:i.zero=some z) (hzs:z.cells.size=i.size) (A:Option Addr)
  (x:Value) (m:Nat) (news:List Value) (hl:news.length=m * i.size) (hlen: ∀u:World,(Builtin.lenOf x).run P u= .ok m u)
  (hfc: ∀u:World,u.heap=w.heap->(Builtin.firstCells i.size m x).run P u= .ok news.toArray u)
  (h63:m<=maxLen) (hbytes:m * i.bytes<=140737488355328):
  ∃v' w',(Builtin.append_ #[t,tx] ty #[.slice A 0 0,x]).run P w= .ok v' w'/\((m=0/\v'= .slice A 0 0/\w'=w)\/(0 < m/\w'.ownsRow 0 e i.size v' m news/\v'.ownBlock=some w.heap.size/\Grew w w')):=by
 have hsmall:m<=9223372036854775807:=by simp only [maxLen]at h63;omega
 have hlen':news.length=m * i.size:=hl
 have hgrew: ∀o,Grew w (w.drew.alloc o):= λo=>(Grew.drew w).trans (Grew.alloc _ _)
 by_cases hm:m=0
 ·subst hm
  have hn:news=[]:=List.eq_nil_of_length_eq_zero (by simpa using hl)
  subst hn
  refine⟨.slice A 0 0,w, ?_, .inl ⟨rfl,rfl,rfl⟩⟩
  have hf:=hfc w rfl
  rcases hdx with rfl|⟨e',rfl⟩<;>cases A<;>simp [Builtin.append_,run_underlying ht,run_underlying htx,sizeOf,typeInfo,hi,hlen,hf,storeCells]
 ·have hge:=grownCap_ge w m 0 e
  have hcm:grownCap w m 0 e<=maxLen:=grownCap_le_maxLen w m 0 e h63
  have h63':¬ (9223372036854775807 < (m:Int)):=by omega
  have h48':¬ (281474976710656 < Builtin.nextslicecap m 0 * i.bytes):=by
   have:=growslice_fits (need:=m) (old:=0) (bytes:=i.bytes) (by omega) (by simpa using hbytes)
   omega
  have hf:=hfc w.drew rfl
  have hgr:(w.drew.alloc (.cells (news.toArray++Builtin.zeroCells z.cells (grownCap w m 0 e - m)) e)).ownsRow 0 e i.size
    (.slice (some ⟨w.heap.size,0,none⟩) m (grownCap w m 0 e)) m news:=by
   refine⟨hlen', .inr ⟨w.heap.size,_,_,rfl,Nat.zero_le _,heap_alloc_new w.drew _,hge,hcm, ?_, ?_⟩⟩
   ·simp only [Array.size_append,List.size_toArray,size_zeroCells,hzs,hl,<-Nat.add_mul]
    congr 1
    omega
   ·simp only [Array.toList_append]
    rw [<-hlen']
    exact List.take_left
  have hfo:(Builtin.firstCells i.size 0 (.slice A 0 0)).run P w.drew= .ok #[] w.drew:=by cases A<;>simp [Builtin.firstCells,loadCells,loadCellsFrom]
  refine⟨.slice (some ⟨w.heap.size,0,none⟩) m (grownCap w m 0 e),_, ?_, .inr ⟨by omega,hgr,rfl,hgrew _⟩⟩
  rcases hdx with rfl|⟨e',rfl⟩<;>simp [Builtin.append_,run_underlying ht,run_underlying htx,sizeOf,typeInfo,zeroValue,hi,hz,hlen,hm,h63',h48',Question.forced,hf,hfo,newRow,grownCap]
theorem vK {w':World}{S:Nat->Nat->Prop}{e z:Nat}{v':Value}{rows:List (List D)}{vs:List Value}(hown:w'.ownsRow 0 e z v' rows.length vs) (hfl:Flat w' S z rows vs) (hne: ∃g,v'.ownBlock=some g) (hpos:0 < rows.length)
  (hS: ∀g,v'.ownBlock=some g-> ∀k,¬ S g k): ∃cap,dY w' S e z cap rows v'/\rows.length<=cap/\dM v'=v'.ownBlock:=by
 rcases hown.2 with⟨rfl,h0⟩|⟨g,cap,cur,rfl,_,hg,hnc,hcm,hcs,htake⟩
 ·omega
 ·refine⟨cap, .inr ⟨by omega,g,cur,rfl,hg,hnc,hcm,hcs, ?_,hS g rfl⟩,hnc, ?_⟩
  ·rw [htake];exact hfl
  ·have:cap≠0:=by omega
   simp [dM,Value.ownBlock,this]
theorem dY.owns {w:World}{S:Nat->Nat->Prop}{e z cap:Nat}{rows:List (List D)}{v:Value}(h:dY w S e z cap rows v) (hc:0 < cap):
  ∃xs,w.ownsRow 0 e z v rows.length xs/\Flat w S z rows xs/\dM v=v.ownBlock/\ ∃g,v= .slice (some ⟨g,0,none⟩) rows.length cap:=by
 rcases h with⟨_,h0,_⟩|⟨_,g,cur,rfl,q1,q2,q3,q4,q6,q7⟩
 ·omega
 ·refine⟨cur.toList.take (rows.length * z),⟨q6.len, .inr ⟨g,cap,cur,rfl,Nat.zero_le _,q1,q2,q3,q4,rfl⟩⟩,q6, ?_,g,rfl⟩
  have:cap≠0:=by omega
  simp [dM,Value.ownBlock,this]
theorem oS {ti:TypeId->Option TI}(hti:cG P ti) {tx:TypeId}{z:Nat}{x:SV}{hp:Hp}{rows:List (List D)}(h:nZ ti tx z x hp=some rows) {E:Entry}{w:World}{ρ:Env}{v:Value}(hm:Mem E ρ hp w) (hr:Rep w ρ x v)
  (hver: ∀id z' n,x= .mw id z' n-> ∀e z'' c rs,aM hp id=some (.mrow e z'' c rs)->n=rs.length/\z'=z''):
  ∃dx vs,P.underlying tx=some dx/\(dx= .string\/ ∃e',dx= .slice e')/\Flat w ρ.S z rows vs/\(∀u:World,(Builtin.lenOf v).run P u= .ok rows.length u)/\
   ∀u:World,u.heap=w.heap->(Builtin.firstCells z rows.length v).run P u= .ok vs.toArray u:=by
 unfold nZ at h
 split at h
 ·rename_i id z' n
  split at h
  ·rename_i e _ _ _ hT
   obtain⟨d,i,zz,hT⟩:=aL (hti _ _ hT)
   have hd:=bK hT.td
   subst hd
   split at h
   ·rename_i e' z'' cap rs hoo
    split at h
    ·rename_i hz
     subst hz
     injection h with h
     obtain⟨hn,hz2⟩:=hver id z n rfl e' z'' cap rs hoo
     subst hn hz2
     rw [List.take_length]at h
     subst h
     obtain⟨q1,q2⟩:=hm.sat id _ hoo
     obtain⟨A,c,e1,_,_,_,_,e2⟩:=hr.mw_inv
     have e3:=e2 q1.symm
     rcases q2 with⟨hr0,_,A',e4⟩|⟨hc,g,cur,e4,p1,p2,p3,p4,p6,p7⟩
     ·subst hr0
      rw [e4]at e3
      subst e3
      refine⟨_,[],hT.und, .inr ⟨_,rfl⟩,Flat.nil _ _ _,λu=>by simp [Builtin.lenOf],λu _=> ?_⟩
      cases A'<;>simp [Builtin.firstCells,loadCells,loadCellsFrom]
     ·rw [e4]at e3
      subst e3
      refine⟨_,cur.toList.take (rs.length * z),hT.und, .inr ⟨_,rfl⟩,p6,λu=>by simp [Builtin.lenOf],λu hu=> ?_⟩
      refine run_firstCells_some u z rs.length ⟨g,0,none⟩ _ _ _ p6.len λj v hv=> ?_
      rw [cL,cell_of_row u g j cur e' (0,0) (by rw [hu];exact p1)]
      rw [List.getElem?_take]at hv
      split at hv
      ·simpa using hv
      ·cases hv
    ·cases h
   ·cases h
  ·cases h
 ·split at h
  ·rename_i e _ _ _ hT
   obtain⟨d,i,zz,hT⟩:=aL (hti _ _ hT)
   have hd:=bK hT.td
   subst hd
   injection h with h
   subst h
   obtain⟨A,e1⟩:=hr.zc_inv
   subst e1
   refine⟨_,[],hT.und, .inr ⟨_,rfl⟩,Flat.nil _ _ _,λu=>by simp [Builtin.lenOf],λu _=> ?_⟩
   cases A<;>simp [Builtin.firstCells,loadCells,loadCellsFrom]
  ·cases h
 ·exact tM hti h hr
def aJd (hp:Hp):SV->Prop
 | .mw id z n=>(match aM hp id with|some (.mrow _ z' _ rs)=>n=rs.length/\z=z'|_=>aD "no such rows")
 |_=>True
theorem aCd {hp:Hp}{x:SV}(h:aJd hp x): ∀id z' n,x= .mw id z' n-> ∀e z'' c rs,aM hp id=some (.mrow e z'' c rs)->n=rs.length/\z'=z'':=by
 rintro id z' n rfl e z'' c rs hg
 simp only [aJd,hg]at h
 exact h
def uQ (ti:TypeId->Option TI) (t tx:TypeId) (id z n:Nat) (x:SV) (hp:Hp) (K:SV->Hp->Prop):Prop:=
 match ti t with
 |some { td:= .slice e, .. }=>
  (match ti e with
  |some T=>
   (match nZ ti tx T.size x hp with
   |some new=>
    aJd hp x/\
    (match aM hp id with
    |some (.mrow e' z' _ rows)=>e'=e/\T.size=z/\z=z'/\n=rows.length/\rows.length+new.length<=9223372036854775807/\(rows.length+new.length)* T.bytes<=140737488355328/\
     ∀cap':Nat,rows.length+new.length<=cap'->gB hp id (.mrow e z cap' (rows++new)) λhp'=>K (.mw id z (rows.length+new.length)) hp'
    |_=>aD "append: no such rows")
   |none=>aD "append: what is appended")
  |none=>aD "append: an element's type")
 |_=>aD "append: a type"
def nX (ti:TypeId->Option TI) (t tx:TypeId) (id:Nat) (x:SV) (pin:Pin) (fr:Fr) (hp:Hp) (K:SV->Hp->Prop):Prop:=
 match ti t with
 |some { td:= .slice e, .. }=>
  (match ti e with
  |some T=>
   (match nZ ti tx T.size x hp with
   |some new=>
    aJd hp x/\fA id pin fr hp/\new.length<=9223372036854775807/\new.length * T.bytes<=140737488355328/\ ∀cap':Nat,new.length<=cap'->K (.mw id T.size new.length) ((id, .mrow e T.size cap' new)::hp)
   |none=>aD "append: what is appended")
  |none=>aD "append: an element's type")
 |_=>aD "append: a type"
theorem kS {o:Oper}{t tx:TypeId}{x y:Operand}(ho:o.op= .call { callee:= .builtin .append,args:= #[x,y],argTypes:= #[t,tx] }) {a:Act}{w w':World}{v:Value}
  (e:(Builtin.append_ #[t,tx] o.type #[a.eval x,a.eval y]).run P w= .ok v w'):(execOp a.eval o).run P w= .ok (.value v) w':=by
 rw [aO ho]
 simp only [builtin,List.map_toArray,List.map_cons,List.map_nil,Sem.run_bind,e,Result.andThen_ok,Sem.run_pure]
theorem aD8 {ti:TypeId->Option TI}(hti:cG P ti) {o:Oper}{t tx:TypeId}{x y:Operand}(ho:o.op= .call { callee:= .builtin .append,args:= #[x,y],argTypes:= #[t,tx] }) {pin:Pin}{fr:Fr}{hp:Hp}{K:SV->Hp->Prop}{id z n:Nat}{r:SV}
  (hs:evO fr x=some (.mw id z n)) (hr:evO fr y=some r) (hv:uQ ti t tx id z n r hp K):oL P o pin fr hp K:=by
 intro E ρ a w hpin hm hf next Q hn
 have h1:=aR hf hs
 have h2:=aR hf hr
 unfold uQ at hv
 split at hv
 ·rename_i e _ _ _ hT
  obtain⟨d,i,z0,hT⟩:=aL (hti _ _ hT)
  have hd:=bK hT.td
  subst hd
  split at hv
  ·rename_i T hT2
   obtain⟨d2,i2,z2,hT2⟩:=aL (hti _ _ hT2)
   split at hv
   ·rename_i new hnew
    obtain⟨hat,hv⟩:=hv
    split at hv
    ·rename_i e' z' cap rows hoo
     obtain⟨rfl,rfl,rfl,hver,h63,hby,hk⟩:=hv
     obtain⟨dx,vs,q1,q2,q3,q4,q5⟩:=oS hti hnew hm h2 (aCd hat)
     obtain⟨n0,m0⟩:=hm.sat id _ hoo
     obtain⟨A,c,e1,_,_,_,_,e2⟩:=h1.mw_inv
     have e3:=e2 (by omega)
     have fin: ∀(v':Value) (w':World) (cap':Nat),(Builtin.append_ #[t,tx] o.type #[a.eval x,a.eval y]).run P w= .ok v' w'->w'.os=w.os->w'.tape=w.tape->aH8 w' w->w.heap.size<=w'.heap.size->
       (∀b,b < w.heap.size->dM (ρ.tv id)≠some b->w'.heap[b]? =w.heap[b]?)->dY w' ρ.S e' T.size cap' (rows++new) v'->(∀g,dM v'=some g->dM (ρ.tv id)=some g\/w.heap.size<=g)->
       (((rows++new).length=rows.length/\v'=ρ.tv id)\/rows.length < (rows++new).length)->o.wp P a w next Q:=by
      intro v' w' cap' r1 r2 r3 r4 r5 r6 r7 r8 r9
      obtain⟨s1,s2,s3⟩:=hm.setMrow hoo r2 r3 r4 r5 r6 r7 r8 r9
      obtain⟨A',p1,p2,p3,p4⟩:=r7.shape
      have hk':=hk cap' (by rw [<-List.length_append];exact p2)
      rw [cM]at hk'
      have hrep:Rep w' (ρ.retop id (rows++new).length v') (.mw id T.size (rows.length+new.length)) v':=by
       rw [p1,<-List.length_append]
       exact .mw id T.size _ cap' A' p2 p3 (λh0=>p4 (by omega)) (by simp [Env.retop]) (by simp [Env.retop])
      exact bN (kS ho r1) (hn _ _ _ _ _ hk' s1 (hf.mono s2 (λ_ _ x=>x) λj _=>s3 j) hrep)
     by_cases hc:cap=0
     ·subst hc
      obtain⟨rfl,_,A0,e4⟩:rows=[]/\0=0/\ ∃A,ρ.tv id= .slice A 0 0:=by
       rcases m0 with h|⟨h,_⟩
       ·exact h
       ·omega
      have hev:a.eval x= .slice A0 0 0:=e3.trans e4
      obtain⟨v',w',r1,r2⟩:=iQ (P:=P) w t tx o.type e' i2 z2 dx hT.und q1 q2 hT2.info hT2.zero hT2.cells A0 (a.eval y) new.length vs (by rw [hT2.size];exact q3.len) q4 (by rw [hT2.size];exact q5) (by simp only [maxLen];simpa using h63) (by rw [hT2.bytes];simpa using hby)
      rw [<-hev]at r1
      rcases r2 with⟨hm0,rfl,rfl⟩|⟨hm0,hown,hob,hgr⟩
      ·have hnil:new=[]:=List.eq_nil_of_length_eq_zero hm0
       subst hnil
       exact fin _ _ 0 r1 rfl rfl (.refl _) (Nat.le_refl _) (λ_ _ _=>rfl) (.inl ⟨rfl,rfl,A0,rfl⟩) (λg hg=> .inl (by rw [e4];exact hg)) (.inl ⟨rfl,e4.symm⟩)
      ·rw [hT2.size]at hown
       obtain ⟨cap', c1, c2, c3⟩ := vK (S := ρ.S) hown (q3.mono (hgr.keeps hm.slt) (λ_ _ x => x)) ⟨_, hob⟩ hm0 (λg hg k hk' => by
        rw [hob]at hg;injection hg with hg;have:=hm.slt g k hk';omega)
       exact fin v' w' cap' r1 hgr.os hgr.tape hgr.output hgr.size (λb hb _=>hgr.block b hb) (by simpa using c1) (λg hg=> .inr (by rw [c3,hob]at hg;injection hg with hg;omega)) (.inr (by simpa using hm0))
     ·obtain⟨xs,o1,o2,o3,g,o4⟩:=m0.owns (by omega)
      have hev:a.eval x=ρ.tv id:=e3
      obtain⟨v',w',r1,hown,hcase⟩:=jX (P:=P) w t tx o.type e' i2 z2 dx hT.und q1 q2 hT2.info hT2.zero hT2.cells (ρ.tv id) rows.length xs (by rw [hT2.size];exact o1) (a.eval y) new.length vs (by rw [hT2.size];exact q3.len) q4 (by rw [hT2.size];exact q5) q3.one
       (by simp only [maxLen];omega) (by rw [hT2.bytes];exact hby)
      rw [<-hev]at r1
      rw [hT2.size]at hown
      have hmb:dM (ρ.tv id)=some g:=by rw [o3,o4];rfl
      have hnoS: ∀k,¬ ρ.S g k:=by
       rcases m0 with⟨_,h0,_⟩|⟨_,g',cur,e5,_,_,_,_,_,h7⟩
       ·exact absurd h0 hc
       ·rw [o4]at e5
        injection e5 with e5
        injection e5 with e5
        injection e5 with e5
        subst e5;exact h7
      rw [<-List.length_append]at hown
      rcases hcase with⟨p1,p2,rfl⟩|⟨g',cap',cs,p1,p2,rfl⟩|⟨p1,p2,p3⟩
      ·have hnil:new=[]:=List.eq_nil_of_length_eq_zero p2
       subst hnil
       rw [p1]at r1
       exact fin _ _ cap r1 rfl rfl (.refl _) (Nat.le_refl _) (λ_ _ _=>rfl) (by simpa using m0) (λg hg=> .inl hg) (.inl ⟨by simp,rfl⟩)
      ·have hg':g'=g:=by rw [p1]at o4;injection o4 with o4;injection o4 with o4;injection o4 with o4
       subst hg'
       have hoth: ∀b,b < w.heap.size->dM (ρ.tv id)≠some b->(w.setRow g' cs).heap[b]? =w.heap[b]? := λb _ hb=>setRow_other w g' b _ (λe=>hb (by rw [e];exact hmb))
       have hkp:bL ρ.S w (w.setRow g' cs):= λb k hs=>World.cell?_of_block (w:=w) (hoth b (hm.slt b k hs) λhb=>by rw [hmb]at hb;injection hb with hb;subst hb;exact hnoS k hs)
       by_cases hpos:0 < (rows++new).length
       ·obtain ⟨cap'', c1, c2, c3⟩ := vK (S := ρ.S) hown ((o2.append q3).mono hkp (λ_ _ x => x)) ⟨g', by rw [p2]; rfl⟩ hpos (λg hg k hk' => by
         rw [p2]at hg;simp only [Value.ownBlock,Option.some.injEq]at hg;subst hg;exact hnoS k hk')
        refine fin _ _ cap'' r1 rfl rfl (.refl _) (by simp [World.setRow]) hoth c1 (λg hg=> .inl (by rw [c3,p2]at hg;rw [hmb];exact hg)) ?_
        by_cases hm0:new.length=0
        ·left
         have hnil:new=[]:=List.eq_nil_of_length_eq_zero hm0
         subst hnil
         exact⟨by simp,by rw [p2,p1];simp⟩
        ·right;rw [List.length_append];omega
       ·have hr0:rows=[]:=List.eq_nil_of_length_eq_zero (by rw [List.length_append]at hpos;omega)
        have hn0':new=[]:=List.eq_nil_of_length_eq_zero (by rw [List.length_append]at hpos;omega)
        subst hr0 hn0'
        refine fin _ _ cap r1 rfl rfl (.refl _) (by simp [World.setRow]) hoth ?_ (λg hg=> .inl (by rw [p2]at hg;rw [p1];exact hg)) (.inl ⟨rfl,by rw [p2,p1];rfl⟩)
        have hcap:cap'=cap:=by rw [p1]at o4;injection o4 with _ _ o4
        rcases hown.2 with⟨h9,_⟩|⟨g2,cap2,cur2,h9,_,hg2,hnc,hcm,hcs,htake⟩
        ·rw [p2]at h9;cases h9
        ·rw [p2]at h9
         injection h9 with h9 h10 h11
         injection h9 with h9
         injection h9 with h9
         subst h9
         refine .inr ⟨by omega,g',cur2,by rw [p2,hcap];rfl,hg2,by simp,by omega,by rw [hcs];congr 1;omega, ?_,hnoS⟩
         simpa using Flat.nil _ _ _
      ·have hpos:0 < (rows++new).length:=by rw [List.length_append];omega
       obtain ⟨cap'', c1, c2, c3⟩ := vK (S := ρ.S) hown ((o2.append q3).mono (p2.keeps hm.slt) (λ_ _ x => x)) ⟨_, p1⟩ hpos (λg hg k hk' => by
        rw [p1]at hg;injection hg with hg;have:=hm.slt g k hk';omega)
       exact fin v' w' cap'' r1 p2.os p2.tape p2.output p2.size (λb hb _=>p2.block b hb) c1 (λg hg=> .inr (by rw [c3,p1]at hg;injection hg with hg;omega)) (.inr (by rw [List.length_append];omega))
    ·exact hv.elim
   ·exact hv.elim
  ·exact hv.elim
 ·exact hv.elim
theorem tV {ti:TypeId->Option TI}(hti:cG P ti) {o:Oper}{t tx:TypeId}{x y:Operand}{id:Nat}(ho:o.op= .call { callee:= .builtin .append,args:= #[x,y],argTypes:= #[t,tx] }) {pin:Pin}{fr:Fr}{hp:Hp}{K:SV->Hp->Prop}{s r:SV}
  (hs:evO fr x=some s) (hs0:s= .d .nil\/s= .zc) (hr:evO fr y=some r) (hv:nX ti t tx id r pin fr hp K):rX P o pin fr hp K:=by
 intro E ρ a w hpin hm hf next Q hn
 have h1:=aR hf hs
 have h2:=aR hf hr
 unfold nX at hv
 split at hv
 ·rename_i e _ _ _ hT
  obtain⟨d,i,z0,hT⟩:=aL (hti _ _ hT)
  have hd:=bK hT.td
  subst hd
  split at hv
  ·rename_i T hT2
   obtain⟨d2,i2,z2,hT2⟩:=aL (hti _ _ hT2)
   split at hv
   ·rename_i new hnew
    obtain⟨hat,⟨f1,f2,f3⟩,h63,hby,hk⟩:=hv
    obtain⟨dx,vs,q1,q2,q3,q4,q5⟩:=oS hti hnew hm h2 (aCd hat)
    obtain⟨A0,hev⟩: ∃A0,a.eval x= .slice A0 0 0:=by
     rcases hs0 with rfl|rfl
     ·exact⟨none,h1.nil_inv⟩
     ·exact h1.zc_inv
    obtain⟨v',w',r1,r2⟩:=iQ (P:=P) w t tx o.type e i2 z2 dx hT.und q1 q2 hT2.info hT2.zero hT2.cells A0 (a.eval y) new.length vs (by rw [hT2.size];exact q3.len) q4 (by rw [hT2.size];exact q5) (by simp only [maxLen];simpa using h63) (by rw [hT2.bytes];simpa using hby)
    rw [<-hev]at r1
    have fin: ∀cap',Grew w w'->dY w' ρ.S e T.size cap' new v'->(∀g,dM v'=some g->w.heap.size<=g)->o.wp P a w next Q:=by
     intro cap' hgr hmut hnewb
     obtain⟨s1,s2,s3⟩:=hm.newMrow (id:=id) f3 (by rw [hpin];exact f1) hgr hmut hnewb
     obtain⟨A',p1,p2,p3,p4⟩:=hmut.shape
     have hrep:Rep w' (ρ.retop id new.length v') (.mw id T.size new.length) v':=by
      rw [p1]
      exact .mw id T.size _ cap' A' p2 p3 (λh0=>p4 (by omega)) (by simp [Env.retop]) (by simp [Env.retop])
     refine bN (kS ho r1) (hn _ _ _ _ _ (hk cap' p2) s1 (hf.mono s2 (λ_ _ x=>x) λj hj=>s3 j λe=>f2 (e ▸ hj)) hrep (KInfo.mk_ (hm.kept_grew hgr) (λ_ _ x=>x) λj x g hx hg=> ?_))
     have hne:j≠id:= λe=>f3 (e ▸ bA hx (.inl rfl))
     exact⟨by rw [cF (Ne.symm hne)];exact hx,by rw [ρ.retop_kb hne];exact hg⟩
    rcases r2 with⟨hm0,rfl,rfl⟩|⟨hm0,hown,hob,hgr⟩
    ·have hnil:new=[]:=List.eq_nil_of_length_eq_zero hm0
     subst hnil
     exact fin 0 (Grew.refl _) (.inl ⟨rfl,rfl,A0,rfl⟩) (λg hg=>by cases A0<;>simp [dM]at hg)
    ·rw [hT2.size]at hown
     obtain ⟨cap', c1, c2, c3⟩ := vK (S := ρ.S) hown (q3.mono (hgr.keeps hm.slt) (λ_ _ x => x)) ⟨_, hob⟩ hm0 (λg hg k hk' => by
      rw [hob]at hg;injection hg with hg;have:=hm.slt g k hk';omega)
     exact fin cap' hgr c1 (λg hg=>by rw [c3,hob]at hg;injection hg with hg;omega)
   ·exact hv.elim
  ·exact hv.elim
 ·exact hv.elim
end
end
end Go.Proofs.YtdjfkmkdkclahaaGreatDoor
