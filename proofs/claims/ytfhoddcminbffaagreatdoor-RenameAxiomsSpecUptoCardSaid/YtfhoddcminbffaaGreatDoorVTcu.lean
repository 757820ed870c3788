/-
  What came in, opened, and how much it holds: the bulk of the data is at most that of the reading. The closing of a law whose input's bulk is bounded: a contract over data of such a bulk proves it. Terms: the canonical form of a concept, as a plain function; it is not greater. What a bounded bulk says of axioms: their concepts are small.
  Conditions: none.
-/
import Derived.Test.YtfhoddcminbffaaGreatDoorVSs
import Derived.Test.YtfhoddcminbffaaGreatDoorRows
import Derived.Test.YtfhoddcminbffaaGreatDoorVLd
import Derived.Test.YtfhoddcminbffaaGreatDoorVTcr
set_option linter.unnecessarySimpa false
set_option linter.unusedSectionVars false
set_option linter.unusedSimpArgs false
set_option linter.unusedVariables false
namespace Go.Proofs.YtfhoddcminbffaaGreatDoor
open Go.RowKit Go.ChangeShapes
mutual
def wC:D->Nat
 | .str l=>l.length+1
 | .sl _ rows=>kJ rows+1
 | .agg cs=>dX cs+1
 |_=>1
def dX:List D->Nat
 | []=>0
 |d::r=>wC d+dX r
def kJ:List (List D)->Nat
 | []=>0
 |l::r=>dX l+kJ r
end
theorem rW: ∀a b:List D,dX (a++b)=dX a+dX b
 | [],b=>by simp [dX]
 |d::r,b=>by rw [List.cons_append,dX,dX,rW r b];omega
theorem yJ: ∀a b:List (List D),kJ (a++b)=kJ a+kJ b
 | [],b=>by simp [kJ]
 |d::r,b=>by rw [List.cons_append,kJ,kJ,yJ r b];omega
theorem uT {H:Type}: ∀a b:List (DataW H),Rows.uptoBulkAll (a++b)=Rows.uptoBulkAll a+Rows.uptoBulkAll b
 | [],b=>by simp [Rows.uptoBulkAll]
 |d::r,b=>by rw [List.cons_append,Rows.uptoBulkAll,Rows.uptoBulkAll,uT r b];omega
theorem aE1 {H:Type}{l:List (DataW H)}{m:Nat}(h:m < l.length):Rows.uptoBulkAll (l.take (m+1))=Rows.uptoBulkAll (l.take m)+Rows.uptoBulk l[m]:=by
 rw [List.take_succ_eq_append_getElem h,uT]
 simp [Rows.uptoBulkAll]
section
variable {H:Type} {enc:TypeId×Value->H} {P:Program} {w:World} {spare:Nat->Bool} {held:Bool}
theorem wX {T:TypeId->Prop}(hT:Cl P T): ∀(fuel:Nat) (t:TypeId) (cs:List Value) (x:DataW H×List MemPlace),T t->DataW.trod enc P w 0 spare held fuel t cs=some x->aAg P t x.1->
  ∃ds,TyD P fuel t ds/\aBn w (below w) ds cs/\dX ds<=Rows.uptoBulk x.1:=by
 intro fuel
 induction fuel with
 |zero=>intro t cs x _ h _;simp [DataW.trod]at h
 |succ n ih=>
  intro t cs x ht h hw0
  have hc:=hT t ht
  cases hu:P.underlying t with
  |none=>rw [hu]at hc;exact hc.elim
  |some d=>
   rw [hu]at hc
   cases d with
   |bool=>
    obtain⟨b,rfl,hx⟩:=DataW.trod_bool hu h
    exact⟨[.bool b],by simp [TyD,hu], .one (.bool b) rfl,by rw [hx];simp [dX,wC,Rows.uptoBulk]⟩
   |int k=>
    obtain⟨z,rfl,hx,hw⟩:=DataW.trod_int hu h
    exact⟨[.int k z],by simp [TyD,hu,hw], .one (.int k z) rfl,by rw [hx];simp [dX,wC,Rows.uptoBulk]⟩
   |string=>
    obtain⟨s,rfl,hx,hl⟩:=DataW.trod_string hu h
    have hl':s.data.toList.length<=maxLen:=by rw [Array.length_toList];exact hl
    have hr':s.data.toList.length<=reachBytes:=by
     rw [hx]at hw0
     exact hw0 _ (by simp only [DataW.weights];exact List.mem_singleton.2 rfl)
    refine⟨[.str s.data.toList],by simp only [TyD,hu];exact⟨_,rfl,hr'⟩, .one ?_ rfl,by rw [hx];simp [dX,wC,Rows.uptoBulk]⟩
    exact RepD.str (w:=w) (S:=below w) s.data.toList hl'
   |slice e=>
    simp only at hc
    obtain⟨⟨hpos,hby⟩,he⟩:=hc
    rcases DataW.trod_slice hu h with⟨rfl,hx⟩|⟨a,len,cap,elems,rest,m,hm,rfl,hx,_,hlc,hcm,hlen,hel,_,_⟩
    ·refine⟨[.sl (P.cellsOf e) []],by simp [TyD,hu], .one ?_ rfl,by rw [hx];simp [dX,wC,kJ,Rows.uptoBulk]⟩
     exact RepD.mk_sl (b:=0) (off:=0) (by simp) (by simp) (λhne=>absurd rfl hne) ⟨by simp,by simp⟩ (by simp)
    ·obtain rfl:n=m:=by omega
     have hws: ∀k∈(elems.length+rest.length)* P.bytesOf e::(DataW.weightsAll P e (elems.map (·.1))++DataW.weightsAll P e (rest.map (·.1))),k<=reachBytes:=by
      intro k hk
      refine hw0 k ?_
      rw [hx]
      simp only [DataW.weights,hu,List.length_map]
      exact hk
     have hreach: ∀y∈elems,aAg P e y.1:= λy hy=>vM _ (λk hk=>hws k (List.mem_cons_of_mem _ (List.mem_append_left _ hk))) _ (List.mem_map_of_mem hy)
     have hlr:len<=reachBytes:=by
      have h1:=hws _ (List.mem_cons_self ..)
      have h2:(elems.length+rest.length)* 1<=(elems.length+rest.length)* P.bytesOf e:=Nat.mul_le_mul_left _ hby
      omega
     -- each element
     have hex: ∀i (hi:i < len),∃ds cs',w.cells? 0 (a.add (i * P.cellsOf e)) (P.cellsOf e)=some cs'/\TyD P n e ds/\aBn w (below w) ds cs'/\dX ds<=Rows.uptoBulk (elems[i]'(by omega)).1:=by
      intro i hi
      have h1:=hel i hi
      have h2:elems[i]? =some elems[i]:=List.getElem?_eq_getElem (by omega)
      rw [h2,Option.bind_eq_some_iff]at h1
      obtain⟨cs',q1,q2⟩:=h1
      obtain⟨ds,q3,q4,q5⟩:=ih e cs' _ he q2 (hreach _ (List.getElem_mem _))
      exact⟨ds,cs',q1,q3,q4,q5⟩
     have hrows: ∀m,m<=len-> ∃rows:List (List D),rows.length=m/\kJ rows<=Rows.uptoBulkAll ((elems.map (·.1)).take m)/\ ∀i,i < m-> ∃ds cs',rows[i]? =some ds/\w.cells? 0 (a.add (i * P.cellsOf e)) (P.cellsOf e)=some cs'/\TyD P n e ds/\aBn w (below w) ds cs':=by
      intro m
      induction m with
      |zero=>intro _;exact⟨[],rfl,by simp [kJ],λi hi=>absurd hi (by omega)⟩
      |succ m ihm=>
       intro hm
       obtain⟨rows,r1,r3,r2⟩:=ihm (by omega)
       obtain⟨ds,cs',q1,q2,q3,q4⟩:=hex m (by omega)
       have hml:m < (elems.map (·.1)).length:=by rw [List.length_map];omega
       refine⟨rows++[ds],by simp [r1], ?_,λi hi=> ?_⟩
       ·rw [yJ,aE1 hml,List.getElem_map]
        have e0:kJ [ds]=dX ds:=by simp [kJ]
        rw [e0];omega
       by_cases him:i < m
       ·obtain⟨ds',cs'',p1,p2,p3⟩:=r2 i him
        exact⟨ds',cs'',by rw [List.getElem?_append_left (by omega)];exact p1,p2,p3⟩
       ·obtain rfl:i=m:=by omega
        exact⟨ds,cs',by rw [List.getElem?_append_right (by omega),r1];simp,q1,q2,q3⟩
     obtain⟨rows,r1,r3,r2⟩:=hrows len (Nat.le_refl _)
     refine⟨[.sl (P.cellsOf e) rows], ?_, .one ?_ rfl, ?_⟩
     ·simp only [TyD,hu]
      refine⟨rows,rfl,by omega,λr hr=> ?_⟩
      obtain⟨i,hi⟩:=List.getElem?_of_mem hr
      have hil:=(List.getElem?_eq_some_iff.1 hi).1
      obtain⟨ds,cs',p1,_,p3,_⟩:=r2 i (by omega)
      rw [hi]at p1
      injection p1 with p1
      rw [p1];exact p3
     ·have hspot:rows≠[]->a.spot=none:=by
       intro hne
       have hlpos:0 < len:=by rw [<-r1];exact List.length_pos_iff.2 hne
       obtain⟨ds,cs',_,p2,_⟩:=r2 0 hlpos
       obtain⟨c1,c2⟩:=cells?_get p2
       have c3:=c2 0 hpos
       rw [List.getElem?_eq_getElem (by omega)]at c3
       simp only [Nat.zero_mul]at c3
       have e0:(a.add 0).add 0=a:=by simp [Addr.add]
       rw [e0]at c3
       unfold World.cell? at c3
       split at c3
       ·split at c3
        ·cases c3
        ·rename_i hs
         cases hq:a.spot with
         |none=>rfl
         |some _=>rw [hq]at hs;exact absurd rfl hs
       ·cases c3
      refine RepD.mk_sl (b:=a.block) (off:=a.off) (by omega) hcm (λhne=> ?_) ⟨?_, ?_⟩ r1.symm
      ·have:=hspot hne
       obtain⟨b,o,s⟩:=a
       simp only at this
       rw [this]
      ·intro row hr
       obtain⟨i,hi⟩:=List.getElem?_of_mem hr
       have hil:=(List.getElem?_eq_some_iff.1 hi).1
       obtain⟨ds,cs',p1,p2,_,p4⟩:=r2 i (by omega)
       rw [hi]at p1
       injection p1 with p1
       rw [p1,p4.1];exact(cells?_get p2).1
      ·intro i row j d hi hj
       have hil:=(List.getElem?_eq_some_iff.1 hi).1
       have hsp:=hspot (List.ne_nil_of_length_pos (by omega))
       obtain⟨ds,cs',p1,p2,_,p4⟩:=r2 i (by omega)
       rw [hi]at p1
       injection p1 with p1
       subst p1
       obtain⟨c1,c2⟩:=cells?_get p2
       have hjl:=(List.getElem?_eq_some_iff.1 hj).1
       rw [p4.1,c1]at hjl
       have hv:cs'[j]? =some (cs'[j]'(by omega)):=List.getElem?_eq_getElem (by omega)
       have c3:=c2 j hjl
       rw [hv,aBm hsp,aBm rfl]at c3
       obtain⟨q1,q2⟩:=p4.2 j d _ hj hv
       refine⟨cs'[j]'(by omega), ?_, ?_,q2,q1⟩
       ·rw [<-Nat.add_assoc];exact c3
       ·exact tY (a:=⟨a.block,a.off+i * P.cellsOf e+j,none⟩) c3
     ·rw [List.take_of_length_le (by rw [List.length_map];omega)]at r3
      have hx1:x.1= .slice (elems.map (·.1)) (rest.map (·.1)):=by rw [hx]
      rw [hx1]
      simp only [dX,wC,Rows.uptoBulk]
      omega
   |struct fs=>
    simp only at hc
    obtain⟨htile,hfs⟩:=hc
    obtain⟨xs,m,hm,hx,hlen,hxl,hf⟩:=DataW.trod_struct hu h
    obtain rfl:n=m:=by omega
    have hws: ∀k∈DataW.weightsEach P (fs.toList.map (·.type)) (xs.map (·.1)),k<=reachBytes:=by
     intro k hk
     refine hw0 k ?_
     rw [hx]
     simp only [DataW.weights,hu]
     exact hk
    have key: ∀(l:List Field) (ys:List (DataW H×List MemPlace)) (off:Nat),jM P off l (P.cellsOf t)->off<=P.cellsOf t->(∀f∈l,T f.type)->ys.length=l.length->(∀(i:Nat) f y,l[i]? =some f->ys[i]? =some y->DataW.trod enc P w 0 spare held n f.type ((cs.drop f.offset).take (P.cellsOf f.type))=some y/\aAg P f.type y.1)->
      ∃ds,aK2 (TyD P n) l ds/\aBn w (below w) ds (cs.drop off)/\dX ds<=Rows.uptoBulkAll (ys.map (·.1)):=by
     intro l
     induction l with
     |nil=>
      intro ys off ht _ _ _ _
      simp only [jM]at ht
      refine⟨[],rfl, ?_,by simp [dX]⟩
      rw [List.drop_eq_nil_of_le (by omega)]
      exact⟨rfl,by simp⟩
     |cons f r ihl=>
      intro ys off ht hle hTl hyl hy
      obtain⟨y,ys,rfl⟩: ∃y r,ys=y::r:=by
       cases ys with
       |nil=>simp at hyl
       |cons y r=>exact⟨y,r,rfl⟩
      simp only [jM]at ht
      obtain⟨ho,htr⟩:=ht
      have hle2: ∀(l:List Field) (o n:Nat),jM P o l n->o<=n:=by
       intro l
       induction l with
       |nil=>intro o n h;simp only [jM]at h;omega
       |cons g s ihs=>intro o n h;simp only [jM]at h;have:=ihs _ _ h.2;omega
      have hle3:=hle2 _ _ _ htr
      obtain⟨hy1,hy2⟩:=hy 0 f y rfl rfl
      obtain⟨a,a1,a2,a3⟩:=ih f.type _ y (hTl f (List.mem_cons_self ..)) hy1 hy2
      obtain⟨b,b1,b2,b3⟩:=ihl ys _ htr hle3 (λg hg=>hTl g (List.mem_cons_of_mem _ hg)) (by simpa using hyl) (λi g y h1 h2=>hy (i+1) g y (by simpa using h1) (by simpa using h2))
      refine⟨a++b,⟨a,b,rfl,a1,b1⟩, ?_,by rw [rW,List.map_cons,Rows.uptoBulkAll];omega⟩
      rw [ho]at a2
      have e:cs.drop off=(cs.drop off).take (P.cellsOf f.type)++cs.drop (off+P.cellsOf f.type):=by
       rw [<-List.drop_drop,List.take_append_drop]
      rw [e]
      exact a2.append b2
    obtain ⟨ds, d1, d2, d3⟩ := key fs.toList xs 0 htile (Nat.zero_le _) hfs (by simpa using hxl) (λi f y h1 h2 => by
     have hi':fs[i]? =some f:=by simpa using h1
     exact⟨by rw [hf i f hi'];exact h2,xA _ _ hws i _ _ (by rw [List.getElem?_map,h1];rfl) (by rw [List.getElem?_map,h2];rfl)⟩)
    have hx1:x.1= .agg (xs.map (·.1)):=by rw [hx]
    refine⟨ds,by simp only [TyD,hu];exact d1,by simpa using d2,by rw [hx1,Rows.uptoBulk];omega⟩
   |array m e=>
    simp only at hc
    obtain⟨hsz,he⟩:=hc
    unfold DataW.trod at h
    rw [hu]at h
    simp only at h
    split at h
    ·rename_i hlen
     obtain⟨xs,hxs,hx⟩:=Option.map_eq_some_iff.1 h
     have hreach : ∀ y ∈ xs, aAg P e y.1 := λy hy => vM (xs.map (·.1)) (λk hk => hw0 k (by
      rw [<-hx]
      simp only [DataW.weights,hu]
      exact hk)) _ (List.mem_map_of_mem hy)
     have hl:xs.length=m:=by simpa using mapM_some_length hxs
     have hget: ∀i (hi:i < m),DataW.trod enc P w 0 spare held n e ((cs.drop (i * P.cellsOf e)).take (P.cellsOf e))=some (xs[i]'(by omega))/\aAg P e (xs[i]'(by omega)).1:=by
      intro i hi
      have:=mapM_some_get hxs i i (by simp [hi])
      exact⟨by rw [this,List.getElem?_eq_getElem (by omega)],hreach _ (List.getElem_mem _)⟩
     have key: ∀k,k<=m-> ∃ds,aMi (TyD P n e) k ds/\aBn w (below w) ds (cs.drop ((m - k)* P.cellsOf e))/\dX ds<=Rows.uptoBulkAll ((xs.map (·.1)).drop (m - k)):=by
      intro k
      induction k with
      |zero=>
       intro _
       refine⟨[],rfl, ?_,by simp [dX]⟩
       rw [List.drop_eq_nil_of_le (by rw [hlen,hsz];simp)]
       exact⟨rfl,by simp⟩
      |succ k ihk=>
       intro hk
       obtain⟨hy,hy2⟩:=hget (m - (k+1)) (by omega)
       obtain⟨a,a1,a2,a3⟩:=ih e _ _ he hy hy2
       obtain⟨b,b1,b2,b3⟩:=ihk (by omega)
       have hdr:(xs.map (·.1)).drop (m - (k+1))=(xs[m - (k+1)]'(by omega)).1::(xs.map (·.1)).drop (m - k):=by
        rw [List.drop_eq_getElem_cons (by rw [List.length_map];omega),List.getElem_map,show m - (k+1)+1=m - k by omega]
       refine⟨a++b,⟨a,b,rfl,a1,b1⟩, ?_,by rw [rW,hdr,Rows.uptoBulkAll];omega⟩
       have e1:(m - k)* P.cellsOf e=(m - (k+1))* P.cellsOf e+P.cellsOf e:=by
        rw [show m - k=(m - (k+1))+1 from by omega,Nat.add_mul,Nat.one_mul]
       rw [e1,<-List.drop_drop]at b2
       have e2:cs.drop ((m - (k+1))* P.cellsOf e)=(cs.drop ((m - (k+1))* P.cellsOf e)).take (P.cellsOf e)++(cs.drop ((m - (k+1))* P.cellsOf e)).drop (P.cellsOf e):=by
        rw [List.take_append_drop]
       rw [e2]
       exact a2.append b2
     obtain⟨ds,d1,d2,d3⟩:=key m (Nat.le_refl _)
     have hx1:x.1= .agg (xs.map (·.1)):=by rw [<-hx]
     refine⟨ds,by simp only [TyD,hu];exact d1,by simpa using d2, ?_⟩
     rw [hx1,Rows.uptoBulk]
     rw [Nat.sub_self,List.drop_zero]at d3
     omega
    ·cases h
   |_=>exact hc.elim
end
end Go.Proofs.YtfhoddcminbffaaGreatDoor
namespace Go.Proofs.YtfhoddcminbffaaGreatDoor
open Go.RowKit Go.ChangeShapes
section
variable {H:Type} {enc:TypeId×Value->H} {P:Program}
inductive ArgsB (P:Program) (B:Nat):List TypeId->List SV->Prop
 |nil:ArgsB P B [] []
 |cons {t:TypeId} {ts:List TypeId} {ds:List D} {n:Nat} {aw:List SV} (h:TyD P n t ds) (hb:dX ds<=B) (r:ArgsB P B ts aw):ArgsB P B (t::ts) (rZ P t ds::aw)
theorem pG {B:Nat}{T:TypeId->Prop}(hT:Cl P T) {W:World}{base:Nat}: ∀(ts:List TypeId) (vs:List Value) (ds:List (DataW H)) (ps:List MemPlace),(∀t∈ts,T t)->
  DataW.TrodAll enc P W 0 (λ_=>true) true ts vs ds ps->Rows.uptoBulkAll ds<=B->(∀n∈DataW.weightsEach P ts ds,n<=reachBytes)->(∀(j:Nat) t v,ts[j]? =some t->vs[j]? =some v->Value.okWide P W .any base t v)->
  ∃aw,ArgsB P B ts aw/\aw.length=vs.length/\ ∀(ρ:Env),ρ.S=below W-> ∀(j:Nat) (s:SV) (v:Value),aw[j]? =some s->vs[j]? =some v->Rep W ρ s v:=by
 intro ts
 induction ts with
 |nil=>
  intro vs ds ps _ h _ _ _
  obtain⟨rfl,rfl,rfl⟩:=trodAll_nil h
  exact⟨[], .nil,rfl,by simp⟩
 |cons t r ih=>
  intro vs ds ps hTs h hB hws hok
  obtain⟨v,vs1,d,ds1,a,b,rfl,rfl,rfl,h1,h2⟩:=trodAll_cons h
  rw [Rows.uptoBulkAll]at hB
  obtain⟨aw,a1,a2,a3⟩:=ih vs1 ds1 b (λu hu=>hTs u (List.mem_cons_of_mem _ hu)) h2 (by omega) (λn hn=>hws n (by rw [DataW.weightsEach];exact List.mem_append_right _ hn)) (λj t v x y=>hok (j+1) t v (by simpa using x) (by simpa using y))
  obtain⟨fuel,hf⟩:=h1
  obtain⟨cs,c1,c2,c3⟩:=wX hT fuel t _ _ (hTs t (List.mem_cons_self ..)) hf (λn hn=>hws n (by rw [DataW.weightsEach];exact List.mem_append_left _ hn))
  have hv:=hok 0 t v rfl rfl
  refine⟨rZ P t cs::aw, .cons c1 (by simp only at c3;omega) a1,by simp [a2],λρ hS j s u hs hu=> ?_⟩
  cases j with
  |succ j=>exact a3 ρ hS j s u (by simpa using hs) (by simpa using hu)
  |zero=>
   simp at hs hu
   subst hs hu
   have hagg: ∀vs:Array Value,v= .agg vs->Rep W ρ (.d (.agg cs)) v:=by
    rintro vs rfl
    refine .d _ _ (.agg cs vs ?_ ?_)
    ·simpa [Value.cells]using c2.1.symm
    ·intro j x u hx hu
     rw [hS]
     exact(c2.2 j x u hx (by simpa [Value.cells]using hu)).1
   unfold rZ
   split
   ·rename_i fs hu
    simp only [Value.okWide,hu]at hv
    obtain⟨vs,rfl,_⟩:=hv
    exact hagg vs rfl
   ·rename_i n e hu
    simp only [Value.okWide,hu]at hv
    obtain⟨vs,rfl,_⟩:=hv
    exact hagg vs rfl
   ·rename_i hn1 hn2
    split
    ·rename_i d'
     have hl:=c2.1
     have hcell:v.cells= #[v]:=by
      cases v with
      |agg cs=>
       exfalso
       have hc:=hT t (hTs t (List.mem_cons_self ..))
       cases hu:P.underlying t with
       |none=>rw [hu]at hc;exact hc
       |some ud=>
        rw [hu]at hc
        simp only [Value.okWide,hu]at hv
        cases ud with
        |struct fs=>exact hn1 fs hu
        |array n e=>exact hn2 n e hu
        |_=>first|exact hc.elim|simp [Cell.okWide,hu,Cell.ok]at hv
      |_=>rfl
     rw [hcell]at c2
     have:=c2.2 0 d' v rfl rfl
     exact .d _ _ (by rw [hS];exact this.1)
    ·rename_i hno
     exfalso
     have hc:=hT t (hTs t (List.mem_cons_self ..))
     cases fuel with
     |zero=>simp [TyD]at c1
     |succ fuel=>
      simp only [TyD]at c1
      cases hu:P.underlying t with
      |none=>rw [hu]at hc;exact hc
      |some ud=>
       rw [hu]at hc c1
       cases ud with
       |bool=>obtain⟨_,rfl⟩:=c1;exact hno _ rfl
       |int k=>obtain⟨_,rfl,_⟩:=c1;exact hno _ rfl
       |string=>obtain⟨_,rfl,_⟩:=c1;exact hno _ rfl
       |slice e=>obtain⟨_,rfl,_⟩:=c1;exact hno _ rfl
       |struct fs=>exact hn1 fs hu
       |array n e=>exact hn2 n e hu
       |_=>exact hc.elim
theorem vV {B:Nat}{T:TypeId->Prop}(hT:Cl P T) (hl:laidOutB P=true) {f:FuncId}{fn:Func}{s:ChangeSpec}{tb:TypeId}(hr:fn.resultTypes= #[tb]) (hb:P.underlying tb=some .bool)
  (hTs: ∀t∈fn.params.toList,T t) (hrd: ∀t∈fn.params.toList,P.readableRec t=true/\t < P.types.size) (hvars:s.vars=[])
  (hs: ∀ds:List (DataW H),ds.length=fn.params.size->s.fn H ds={ results:=[.lit (.bool true)],args:=ds })
  {hp:Hp} (tri: ∀aw,ArgsB P B fn.params.toList aw->Tri P f aw hp (λr=>r= .d (.bool true)))
  (W:World) (base:Nat) (args:Array Value) (ds gs:List (DataW H)) (before:List MemPlace)
  (hval: ∀(j:Nat) t v,fn.params[j]? =some t->args[j]? =some v->Value.okWide P W .any base t v)
  (hW:DataW.Whole enc P fn.params.toList s.vars false W args.toList ds gs before)
  (hbk:Rows.uptoBulkAll (ds++gs)<=B)
  (hws:(DataW.weightsEach P (fn.params.toList++s.plain.varTypes P) (ds++gs)).all (· <=reachBytes)=true)
  (hgl: ∀ρ:Env,ρ.S=below W-> ∀id o,bB hp id=some o->RO W ρ id o):
  Calls P f args W λe W'=> ∃v,e= .returned v/\s.post enc P fn false true false false W args v W':=by
 have hlt:=hW.lt
 have hW0:=hW
 obtain⟨p,q,hA,hV,rfl,_,_⟩:=hW
 rw [hvars]at hV
 obtain⟨rfl,rfl⟩:=trodVars_none hV
 have hvt:s.plain.varTypes P=[]:=by
  unfold ChangeSpec.plain DataSpec.varTypes
  simp [hvars]
 have hws1: ∀n∈DataW.weightsEach P fn.params.toList ds,n<=reachBytes:=by
  rw [hvt,List.append_nil,List.append_nil]at hws
  exact λn hn=>of_decide_eq_true (List.all_eq_true.1 hws n hn)
 obtain⟨aw,a1,a2,a3⟩:=pG (B:=B) (base:=base) hT _ _ _ _ hTs hA (by rw [uT]at hbk;omega) hws1 (λj t v x y=>hval j t v (by simpa using x) (by simpa using y))
 let ρ:Env:=⟨below W,λ_=>none,λ_=>0,λ_=>undef⟩
 refine(tri aw a1 W ρ args (λb i h=>h) ⟨by simpa using a2.symm,λj x v h1 h2=>a3 ρ rfl j x v h1 (by simpa using h2)⟩ (hgl ρ rfl)).mono ?_
 rintro e W' ⟨v,S',r,rfl,rfl,hg,_,_,_,hrep⟩
 have hv:=hrep.bool_inv
 subst hv
 have hlen:ds.length=fn.params.size:=by
  have: ∀(ts:List TypeId) (vs:List Value) (ds:List (DataW H)) (ps:List MemPlace),DataW.TrodAll enc P W 0 (λ_=>true) true ts vs ds ps->ds.length=ts.length:=by
   intro ts
   induction ts with
   |nil=>intro vs ds ps h;obtain⟨rfl,rfl,rfl⟩:=trodAll_nil h;rfl
   |cons t r ih=>
    intro vs ds ps h
    obtain⟨v,vs1,d,ds1,a,b,rfl,rfl,rfl,h1,h2⟩:=trodAll_cons h
    simp [ih _ _ _ h2]
  simpa using this _ _ _ _ hA
 refine⟨_,rfl,ds,[],_,[],p,[],hW0, ?_, ?_, ?_,hg.kept _,λh=>by cases h⟩
 ·rw [List.append_nil,hs ds hlen,hr]
  exact⟨[],[],shut_bool hb _,rfl,rfl⟩
 ·rw [List.append_nil,hs ds hlen]
  exact uU hl hg.below0 _ _ _ _ hrd hA (λx hx=>hlt x (List.mem_append_left _ hx))
 ·rw [List.append_nil,hs ds hlen,hvars];rfl
end
end Go.Proofs.YtfhoddcminbffaaGreatDoor
namespace Go.Proofs.YtfhoddcminbffaaGreatDoor
open Go.Proofs
def c0:Cn:= .mk 0 [] 0 0 []
def aGf:Cn:= .mk 1 [] 0 0 []
def dJ (c:Cn):List Cn:=if c.kind=1 then []else if c.kind=5 then c.parts else [c]
def hZ (s:List Cn):Cn×Int:=match s.find? (λt=>decide (t.kind=2))with
 |some t=>(t,0)
 |none=>if s.length=0 then (aGf,0)else if s.length=1 then (s.headD c0,0)else if 8 < s.length then (c0,2)else (.mk 5 [] 0 0 s,0)
def aM8 (l:List Cn):Cn×Int:=hZ (sM l)
def hY (l:List (Cn×Int)):Cn×Int:=match l.find? (λr=>decide (r.2≠0))with
 |some r=>(c0,r.2)
 |none=>aM8 (l.flatMap λr=>dJ r.1)
def pA (n:List UInt8) (l:List (Cn×Int)):Cn×Int:=match l with
 | []=>(c0,0)
 |r::_=>if r.2≠0\/r.1.kind=2 then r else (.mk 6 n 0 0 [r.1],0)
mutual
def aL:Cn->Cn×Int
 | .mk k n lo hi ps=>if k=6 then pA n (sL ps)else if k=5 then hY (sL ps)else (.mk k n lo hi ps,0)
def sL:List Cn->List (Cn×Int)
 | []=>[]
 |c::r=>aL c::sL r
end
theorem mA: ∀l,sL l=l.map aL
 | []=>rfl
 |c::r=>by rw [sL,mA r];rfl
theorem fZ (c:Cn):aL c=if c.kind=6 then pA c.name (c.parts.map aL)else if c.kind=5 then hY (c.parts.map aL)else (c,0):=by
 cases c;rw [aL,mA];rfl
def fS (l:List Cn):Nat:=(bC l).length
theorem gB:fS []=0:=rfl
theorem bH (c:Cn) (l:List Cn):fS (c::l)=aQ c+fS l:=by simp [fS,bC,aQ]
theorem iX (l m:List Cn):fS (l++m)=fS l+fS m:=by simp [fS,cW]
theorem bY (c:Cn):aQ c=fS c.parts+1:=kO c
theorem kM {c:Cn}{l:List Cn}(h:c∈l):aQ c<=fS l:=tT h
theorem uY (c:Cn): ∀l,fS (pT c l)<=aQ c+fS l
 | []=>by rw [pT,bH,gB];omega
 |d::r=>by
  have:=uY c r
  rw [pT]
  split
  ·rw [bH,bH];omega
  ·split
   ·rw [bH];omega
   ·rw [bH,bH];omega
theorem aAk: ∀l,fS (sM l)<=fS l
 | []=>by simp [sM]
 |c::r=>by
  have:=aAk r
  have:=uY c (sM r)
  rw [sM,bH];omega
theorem vF:aQ c0=1:=rfl
theorem aH3:aQ aGf=1:=rfl
theorem aBw (c:Cn):fS (dJ c)<=aQ c:=by
 unfold dJ
 split
 ·rw [gB];omega
 ·split
  ·have:=bY c;omega
  ·rw [bH,gB];omega
theorem aD7 (s:List Cn):aQ (hZ s).1<=fS s+1:=by
 unfold hZ
 split
 ·rename_i t h
  have:=kM (List.mem_of_find?_eq_some h)
  show aQ t<=_
  omega
 ·split
  ·show aQ aGf<=_;rw [aH3];omega
  ·split
   ·rename_i h0 h1
    match s,h1 with
    | [x],_=>show aQ x<=_;rw [bH];omega
   ·split
    ·show aQ c0<=_;rw [vF];omega
    ·show aQ (.mk 5 [] 0 0 s)<=_
     rw [bY];exact Nat.le_refl _
theorem qG: ∀(l:List (Cn×Int)),fS (l.flatMap λr=>dJ r.1)<=fS (l.map (·.1))
 | []=>by simp
 |r::l=>by
  have:=qG l
  have:=aBw r.1
  rw [List.flatMap_cons,List.map_cons,iX,bH];omega
theorem aCp (l:List (Cn×Int)):aQ (hY l).1<=fS (l.map (·.1))+1:=by
 unfold hY
 split
 ·show aQ c0<=_;rw [vF];omega
 ·have h1:=aD7 (sM (l.flatMap λr=>dJ r.1))
  have h2:=aAk (l.flatMap λr=>dJ r.1)
  have h3:=qG l
  show aQ (hZ (sM (l.flatMap λr=>dJ r.1))).1<=_
  omega
theorem aBy (n:List UInt8) (l:List (Cn×Int)):aQ (pA n l).1<=fS (l.map (·.1))+1:=by
 unfold pA
 split
 ·show aQ c0<=_;rw [vF];omega
 ·rename_i r l
  rw [List.map_cons,bH]
  split
  ·omega
  ·show aQ (.mk 6 n 0 0 [r.1])<=_
   rw [bY]
   show fS [r.1]+1<=_
   rw [bH,gB];omega
mutual
theorem fE: ∀c,aQ (aL c).1<=aQ c
 | .mk k n lo hi ps=>by
  have:=nS ps
  have h1:aQ (.mk k n lo hi ps)=fS ps+1:=bY _
  rw [aL]
  split
  ·have:=aBy n (sL ps);omega
  ·split
   ·have:=aCp (sL ps);omega
   ·exact Nat.le_refl _
theorem nS: ∀l,fS ((sL l).map (·.1))<=fS l
 | []=>by simp [sL]
 |c::r=>by
  have:=fE c
  have:=nS r
  rw [sL,List.map_cons,bH,bH];omega
end
end Go.Proofs.YtfhoddcminbffaaGreatDoor
namespace Go.Proofs.YtfhoddcminbffaaGreatDoor
open Go.Proofs Go.RowKit
set_option maxRecDepth 100000
theorem aFz: ∀c:Cn,5 * aQ c<=dX (cnR c):=by
 refine Cn.ind ?_
 intro c ih
 rw [aJ,bY]
 have h: ∀l:List Cn,(∀q∈l,5 * aQ q<=dX (cnR q))->5 * fS l<=kJ (l.map cnR):=by
  intro l
  induction l with
  |nil=>intro _;simp [gB]
  |cons a r ihr=>
   intro hq
   have h1:=hq a (List.mem_cons_self ..)
   have h2:=ihr (λq h=>hq q (List.mem_cons_of_mem _ h))
   rw [bH,List.map_cons,kJ]
   omega
 have h2:=h c.parts ih
 simp only [dX,wC]
 omega
theorem aJy (x:Ax):5 * aQ x.left<=dX (axR x)/\5 * aQ x.right<=dX (axR x):=by
 have h1:=aFz x.left
 have h2:=aFz x.right
 rw [aJ]at h1 h2
 simp only [dX,wC,axR,cnl]at h1 h2 |-
 omega
theorem yI {r:List D}: ∀rows:List (List D),r∈rows->dX r<=kJ rows
 | [],h=>by simp at h
 |q::rest,h=>by
  rw [kJ]
  rcases List.mem_cons.1 h with e|e
  ·rw [e];omega
  ·have:=yI rest e;omega
theorem aIn {n:Nat}{ds:List D}(h:TyD Tryz.prog n 23 ds) (hb:dX ds<=1048576): ∃l:List Ax,rZ Tryz.prog 23 ds= .d (.sl 16 (l.map axR))/\ ∀x∈l,aQ x.left<=1000000/\aQ x.right<=1000000:=by
 obtain⟨m,rfl,rows,rfl,hn,hr⟩:=lZ aE0 h
 obtain⟨l,rfl,hl⟩:=pL (f:=axR) (Q:=SzAx) (λr hr=>aMb hr) rows hr
 refine⟨l,by simp only [rZ,aE0,aL4],λx hx=> ?_⟩
 have h1:=aJy x
 have h2:=yI _ (List.mem_map_of_mem (f:=axR) hx)
 simp only [dX,wC]at hb
 omega
end Go.Proofs.YtfhoddcminbffaaGreatDoor
