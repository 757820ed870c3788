/-
  The library's sorts at rows that may be written.
  Conditions: none.
-/
import Derived.Test.YtfhoddcminbffaaGreatDoorVAm
import Derived.Shelf.SlSortCmp.NoneTotal
import Derived.Shelf.Sort.Plain
import Derived.Shelf.Slices.In.SortNone
import Derived.Sort.OwnSorted
set_option linter.unnecessarySimpa false
set_option linter.unusedSectionVars false
set_option linter.unusedSimpArgs false
set_option linter.unusedVariables false
namespace Go.Proofs.YtfhoddcminbffaaGreatDoor
open Go.RowKit Go.Shelf Go.Lib Go.Sort Go.Proofs
section
variable {P:Program}
theorem aJt {w w':World}(h:Grew w w'): ∃q os,w'=grow (w.drewN q) os:=by
 refine⟨w'.drawn - w.drawn,w'.heap.extract w.heap.size w'.heap.size, ?_⟩
 have h1:w'.heap=w.heap++w'.heap.extract w.heap.size w'.heap.size:=by
  apply Array.ext'
  apply List.ext_getElem?
  intro i
  rw [Array.toList_append]
  rcases Nat.lt_or_ge i w.heap.size with hi|hi
  ·rw [List.getElem?_append_left (by simpa using hi),Array.getElem?_toList,Array.getElem?_toList]
   exact h.block i hi
  ·rw [List.getElem?_append_right (by simpa using hi),Array.getElem?_toList,Array.getElem?_toList,Array.getElem?_extract]
   simp only [Array.length_toList]
   rcases Nat.lt_or_ge i w'.heap.size with h2|h2
   ·rw [if_pos (by omega)]
    congr 1;omega
   ·rw [if_neg (by omega),Array.getElem?_eq_none h2]
 obtain⟨a1,a2,a3,a4,a5⟩:=h
 cases w with
 |mk hp tp dr os ou=>
  cases w' with
  |mk hp' tp' dr' os' ou'=>
   dsimp only at *
   subst a1;subst a2
   obtain⟨b1,b2⟩:=a3
   dsimp only at b1 b2
   subst b1
   simp only [grow,World.drewN,World.mk.injEq,true_and,and_true]
   exact⟨h1,by omega⟩
theorem xS {w:World}{g n:Nat}{os:Array Obj}{cur:Array Value}{e:TypeId}{fr:Nat×Nat}(F:Array Value) (hb:w.heap[g]? =some (.cells cur e fr)):
  (grow (putRow _root_.id (Sort.ahead w n) g 0 F) os).heap[g]? =some (.cells (putCells _root_.id 0 F cur) e fr):=by
 have hg:g < w.heap.size:=(Array.getElem?_eq_some_iff.1 hb).1
 rw [Go.Sort.heap_grow_old _ _ (by simpa using hg)]
 simp [putRow,mapBlock,Sort.ahead,Array.getElem?_modify,hb,onCells]
theorem oH {w:World}{g n b:Nat}{os:Array Obj}(F:Array Value) (hb:b < w.heap.size) (hne:b≠g):(grow (putRow _root_.id (Sort.ahead w n) g 0 F) os).heap[b]? =w.heap[b]? :=by
 rw [Go.Sort.heap_grow_old _ _ (by simpa using hb)]
 simp [putRow,mapBlock,Sort.ahead,Array.getElem?_modify,Ne.symm hne]
def gC (cur:Array Value) (z i:Nat):List Value:=(cur.toList.drop (i * z)).take z
theorem gQ {cur:Array Value}{z i j:Nat}(hj:j < z):(gC cur z i)[j]? =cur[i * z+j]? :=by
 rw [gC,List.getElem?_take,if_pos hj,List.getElem?_drop,Array.getElem?_toList]
theorem wS {cur:Array Value}{z i cap:Nat}(hc:cur.size=cap * z) (hi:i < cap):(gC cur z i).length=z:=by
 rw [gC,List.length_take,List.length_drop,Array.length_toList,hc]
 have:(i+1)* z<=cap * z:=Nat.mul_le_mul_right _ hi
 rw [Nat.add_mul,Nat.one_mul]at this
 omega
theorem aFf {w W:World}{S:Nat->Nat->Prop}{z n cap:Nat} [Inhabited (Fin n)] {cur:Array Value}{α:Type}{l:List α}{f:α->List D}(hl:l.length=n) (hz:0 < z) (hnc:n<=cap) (hc:cur.size=cap * z) (hF:Flat w S z (l.map f) (cur.toList.take (n * z))) (hk:bV S w W)
  (dk:Array (Fin n)) (hs:dk.size=n):Flat W S z ((dk.toList.map λi=>l[i.1]'(hl ▸ i.2)).map f) ((putCells _root_.id 0 (Go.Sort.flatK (λi:Fin n=>gC cur z i.1) z dk) cur).toList.take (n * z)):=by
 have hle:n * z<=cap * z:=Nat.mul_le_mul_right _ hnc
 have hget: ∀i j,i < n->j < z->((putCells _root_.id 0 (Go.Sort.flatK (λi:Fin n=>gC cur z i.1) z dk) cur).toList.take (n * z))[i * z+j]? =(cur.toList.take (n * z))[(dk[i]!).1 * z+j]? :=by
  intro i j hi hj
  have h1:=gF hj hi
  have h2:=gF hj (dk[i]!).2
  rw [List.getElem?_take,if_pos h1,List.getElem?_take,if_pos h2,Array.getElem?_toList,Array.getElem?_toList]
  have h3:i * z+j < cur.size:=by omega
  have h4:i * z+j < dk.size * z:=by rw [hs];exact h1
  simp only [putCells,Array.getElem?_mapIdx,Array.getElem?_eq_getElem h3,Option.map_some,Nat.zero_le,true_and,Nat.zero_add,size_flatK,h4,if_true,Nat.sub_zero,_root_.id]
  rw [get_flatK _ _ _ _ h4]
  have e1:(i * z+j) / z=i:=by rw [Nat.mul_comm,Nat.mul_add_div hz,Nat.div_eq_of_lt hj,Nat.add_zero]
  have e2:(i * z+j) % z=j:=by rw [Nat.mul_comm,Nat.mul_add_mod,Nat.mod_eq_of_lt hj]
  rw [e1,e2]
  have h5:=gQ (cur:=cur) (i:=(dk[i]!).1) hj
  have h6:(dk[i]!).1 * z+j < cur.size:=by omega
  rw [Array.getElem?_eq_getElem h6]at h5
  rw [Array.getElem?_eq_getElem h6]
  congr 1
  exact List.getElem!_of_getElem? h5
 have hlen:((putCells _root_.id 0 (Go.Sort.flatK (λi:Fin n=>gC cur z i.1) z dk) cur).toList.take (n * z)).length=n * z:=by
  rw [List.length_take,Array.length_toList,putCells,Array.size_mapIdx];omega
 have hlen2:(cur.toList.take (n * z)).length=n * z:=by rw [List.length_take,Array.length_toList];omega
 refine⟨?_, ?_, ?_, ?_⟩
 ·rw [hlen];simp [hs]
 ·intro row hr
  rw [List.mem_map]at hr
  obtain⟨x,hx,rfl⟩:=hr
  rw [List.mem_map]at hx
  obtain⟨i,_,rfl⟩:=hx
  exact hF.hz _ (List.mem_map_of_mem (List.getElem_mem _))
 ·intro v hv
  obtain⟨k,hk1,rfl⟩:=List.getElem_of_mem hv
  have hk2:k < n * z:=by rw [hlen]at hk1;exact hk1
  have hkz:k / z < n:=Nat.div_lt_of_lt_mul (by rw [Nat.mul_comm];exact hk2)
  have hkm:k % z < z:=Nat.mod_lt _ hz
  have hke:k / z * z+k % z=k:=by rw [Nat.mul_comm];exact Nat.div_add_mod k z
  have h1:=hget (k / z) (k % z) hkz hkm
  rw [hke,List.getElem?_eq_getElem hk1]at h1
  exact hF.one _ (List.mem_of_getElem? h1.symm)
 ·intro i row j x h1 h2
  simp only [List.getElem?_map,Option.map_eq_some_iff]at h1
  obtain⟨_,⟨q,h1,rfl⟩,rfl⟩:=h1
  have hi:i < n:=by
   have:=(List.getElem?_eq_some_iff.1 h1).1
   simpa [hs]using this
  have hq:dk[i]! =q:=by
   rw [Array.getElem?_toList]at h1
   obtain⟨h3,h4⟩:=Array.getElem?_eq_some_iff.1 h1
   rw [getElem!_pos dk i h3,h4]
  have hrow:(l.map f)[q.1]? =some (f (l[q.1]'(hl ▸ q.2))):=by rw [List.getElem?_map,List.getElem?_eq_getElem (hl ▸ q.2)];rfl
  have hj:=(tL hF.hz hrow h2).2.1
  obtain⟨v,v1,v2⟩:=hF.at_ _ _ j x hrow h2
  refine⟨v, ?_,v2.mono hk λ_ _ x=>x⟩
  rw [hget i j hi hj,hq]
  exact v1
theorem vD {r:Ren}(L:SlLaysF0.n6 P r) {z:Nat}(hz:0 < z) (aE: ∀w,(isAgg (r.t 24)).run P w= .ok true w) (zE: ∀w,(Go.sizeOf (r.t 24)).run P w= .ok z w) {g:FuncId}(eg: ∀args w,(callFunc g args).run P w= .ok (.enter g args) w)
  {α:Type} (l:List α) (f:α->List D) (cf:α->α->Int) (hO:SWO (ltOf cf)) (hc: ∀x∈l,∀y∈l,Tri P g [.d (.agg (f x)), .d (.agg (f y))] [] (λq=>q= .d (.int .i64 (cf x y))))
  {pin:List Nat} {fr:Fr} {hp:Hp} {K:SV->Hp->Prop} {id e cap n:Nat} (ho:bB hp id=some (.mrow e z cap (l.map f))) (hn:n=l.length) (hsz:l.length < 4611686018427387904)
  (hk: ∀l':List α,l'.Perm l->l'.Pairwise (λa b=>¬ cf b a < 0)->K (.tup []) (nT hp id (.mrow e z cap (l'.map f)))):aM P pin fr hp (r.f 6) [.mw id z n, .fn g [] []] K:=by
 intro E ρ w tm hpin hm hf vs hargs
 obtain⟨ha1,ha2⟩:=hargs
 have hv0: ∃v0 v1,vs= #[v0,v1]:=by
  rcases vs with⟨l⟩
  match l,ha1 with
  | [a,b],_=>exact⟨a,b,rfl⟩
 obtain⟨v0,v1,rfl⟩:=hv0
 have hr0:=ha2 0 _ v0 rfl rfl
 have hr1:=ha2 1 _ v1 rfl rfl
 obtain⟨fv,cv,e1,f1,f2,_,_⟩:=hr1.fn_inv
 have hfv:fv= #[]:=Array.size_eq_zero_iff.1 (by simpa using f1)
 have hcv:cv= #[]:=Array.size_eq_zero_iff.1 (by simpa using f2)
 subst hfv;subst hcv;subst e1
 obtain⟨A,c,e2,q1,q2,q3,q4,q5⟩:=hr0.mw_inv
 obtain⟨n0,m0⟩:=hm.sat id _ ho
 rcases Nat.eq_zero_or_pos l.length with h0|h0
 · -- no element
  have hl:l=[]:=List.length_eq_zero_iff.1 h0
  subst hl
  have hn0:n=0:=by simpa using hn
  subst hn0
  subst e2
  have hnone:Calls P (r.f 6) #[.slice A 0 c, .func (.func g) #[] #[]] w λe w'=>e= .returned (.tuple #[])/\w'=w:=AnyF.slices_SortFunc_none L A c _ w
  refine hnone.mono ?_
  rintro e' w' ⟨rfl,rfl⟩
  obtain⟨s1,s2,s3⟩:=hm.setMrow ho (w':=w') (cap':=cap) (rows':=([]:List α).map f) (v':=ρ.tv id) rfl rfl (.refl _) (Nat.le_refl _) (λ_ _ _=>rfl) m0 (λg hg=> .inl hg) (.inl ⟨rfl,rfl⟩)
  exact⟨_,_,_,_,rfl,hk [] (.refl _) .nil,s1,hf.mono s2 (λ_ _ x=>x) λi _=>s3 i, .tup [] _ rfl (by simp)⟩
 ·rcases m0 with⟨hr0',_,_⟩|⟨hc0,g0,cur,p1,p2,p3,p4,p5,p6,p7⟩
  ·simp at hr0';subst hr0';simp at h0
  ·have hvt:v0=ρ.tv id:=q5 (by rw [n0,List.length_map];exact hn)
   rw [p1,List.length_map]at hvt
   subst hvt
   clear e2
   rw [List.length_map]at p3 p6
   obtain⟨m,hm0⟩: ∃m,m=l.length:=⟨_,rfl⟩
   have hm1:l.length=m:=hm0.symm
   rw [hm1]at p3 p6 h0 hsz |-
   haveI:Inhabited (Fin m):=⟨⟨0,h0⟩⟩
   let enc:Fin m->List Value:= λi=>gC cur z i.1
   let d:Array (Fin m):=Array.ofFn λi:Fin m=>i
   have hds:d.size=m:=by simp [d]
   have henc: ∀x,(enc x).length=z:= λx=>wS p5 (by have:=x.2;omega)
   have hle:m * z<=cap * z:=Nat.mul_le_mul_right _ p3
   have hcell: ∀k,k < m * z-> ∃v,cur[k]? =some v/\v.oneCell'=true:= λk hk=>by
    have hks:k < cur.size:=by omega
    refine⟨cur[k],Array.getElem?_eq_getElem hks,p6.one _ ?_⟩
    have:(cur.toList.take (m * z))[k]? =some cur[k]:=by
     rw [List.getElem?_take,if_pos hk,Array.getElem?_toList,Array.getElem?_eq_getElem hks]
    exact List.mem_of_getElem? this
   have h1: ∀x,∀v∈enc x,v.oneCell'=true:=by
    intro x v hv
    obtain⟨j,hj,rfl⟩:=List.getElem_of_mem hv
    have hj':j < z:=by rw [henc]at hj;exact hj
    obtain⟨v,v1,v2⟩:=hcell (x.1 * z+j) (gF hj' x.2)
    have h2:=gQ (cur:=cur) (i:=x.1) hj'
    rw [v1]at h2
    have h3:(enc x)[j]? =some v:=h2
    rw [List.getElem?_eq_getElem hj]at h3
    injection h3 with h3
    rw [h3];exact v2
   have hdget: ∀i,i < m->(d[i]!).1=i:=by
    intro i hi
    have hid:i < d.size:=by rw [hds];exact hi
    rw [getElem!_pos d i hid]
    simp [d]
   have hH:HoldsK enc z w g0 0 d:=by
    intro j hj
    rw [size_flatK,hds]at hj
    refine⟨?_,by simp [World.frozen?,p2]⟩
    rw [get_flatK _ _ _ _ (by rw [hds];exact hj)]
    have hjz:j / z < m:=Nat.div_lt_of_lt_mul (by rw [Nat.mul_comm];exact hj)
    have hjm:j % z < z:=Nat.mod_lt _ hz
    have hje:j / z * z+j % z=j:=by rw [Nat.mul_comm];exact Nat.div_add_mod j z
    obtain⟨v,v1,_⟩:=hcell j hj
    have h2:=gQ (cur:=cur) (i:=(d[j / z]!).1) hjm
    rw [hdget _ hjz,hje,v1]at h2
    have h3:(enc d[j / z]!)[j % z]? =some v:=by show (gC cur z (d[j / z]!).1)[j % z]? =_;rw [hdget _ hjz];exact h2
    rw [List.getElem!_of_getElem? h3]
    simp only [World.cell?,p2,Nat.zero_add,Option.isSome_none,Bool.false_eq_true,if_false,v1,_root_.id]
   have hgl:g0 < w.heap.size:=aW p2
   let cfI:Fin m->Fin m->Int:= λx y=>cf (l[x.1]'(hm1 ▸ x.2)) (l[y.1]'(hm1 ▸ y.2))
   have hOI:SWO (ltOf cfI):=⟨λx=>hO.irrefl _,λx y z=>hO.trans _ _ _,λx y z=>hO.ntrans _ _ _⟩
   have hkeep: ∀k os (dk:Array (Fin m)),bV ρ.S w (sortWorldK enc z w g0 0 k dk os):= λk os dk b i hb=>
    World.cell?_of_block (w:=w) (oH _ (hm.slt b i hb) λe=>p7 i (e ▸ hb))
   have hsz2: ∀k os (dk:Array (Fin m)),w.heap.size<=(sortWorldK enc z w g0 0 k dk os).heap.size:= λk os dk=>by
    simp [sortWorldK,putRowK]
   have hcmp:CmpLays P g #[] enc z cfI g0 0 d.size w:=by
    intro k os dk hdk x y
    have rep: ∀x:Fin m,RepD (sortWorldK enc z w g0 0 k dk os) ρ.S (.agg (f (l[x.1]'(hm1 ▸ x.2)))) (.agg (enc x).toArray):=by
     intro x
     have hrow:(l.map f)[x.1]? =some (f (l[x.1]'(hm1 ▸ x.2))):=by rw [List.getElem?_map,List.getElem?_eq_getElem (hm1 ▸ x.2)];rfl
     have hrl:=p6.hz _ (List.mem_of_getElem? hrow)
     refine .agg _ _ (by rw [List.size_toArray,henc,hrl]) λj q v hq hv=> ?_
     have hj:j < z:=by rw [<-hrl];exact(List.getElem?_eq_some_iff.1 hq).1
     obtain⟨v',v1,v2⟩:=p6.at_ _ _ j q hrow hq
     rw [List.getElem?_take,if_pos (gF hj x.2),Array.getElem?_toList]at v1
     rw [List.getElem?_toArray]at hv
     have h2:=gQ (cur:=cur) (i:=x.1) hj
     rw [v1]at h2
     have h3:some v=some v':=hv.symm.trans h2
     injection h3 with h3
     subst h3
     exact v2.mono (hkeep k os dk) λ_ _ x=>x
    have ht:=hc _ (List.getElem_mem (show x.1 < l.length by rw [hm1];exact x.2)) _ (List.getElem_mem (show y.1 < l.length by rw [hm1];exact y.2))
    unfold Tri at ht
    refine(ht (sortWorldK enc z w g0 0 k dk os) ρ #[.agg (enc x).toArray, .agg (enc y).toArray] (λb i hb=>Nat.lt_of_lt_of_le (hm.slt b i hb) (hsz2 k os dk)) ⟨rfl, ?_⟩ (by intro id o ho;cases ho)).mono ?_
    ·intro j s v hs hv
     match j,hs,hv with
     | 0,hs,hv=>simp at hs hv;subst hs;subst hv;exact .d _ _ (rep x)
     | 1,hs,hv=>simp at hs hv;subst hs;subst hv;exact .d _ _ (rep y)
     |j+2,hs,_=>simp at hs
    ·rintro e' w' ⟨v,S',s,rfl,rfl,hg,_,_,_,hr⟩
     have:=hr.int_inv
     subst this
     exact⟨rfl,aJt hg⟩
   have hgo:=AnyQ.slices_SortFunc L z aE zE enc henc h1 cfI hOI g #[] g0 0 cap d w eg hcmp hH hgl (by rw [hds];exact hsz)
   rw [hds]at hgo
   refine hgo.mono ?_
   rintro e' w' ⟨rfl,d',k,os,hP,hS,rfl⟩
   have hd's:d'.size=m:=by have:=hP.1;rw [hds]at this;exact this
   have hfl:=aFf hm1 hz p3 p5 p6 (hkeep k os d') d' hd's
   obtain⟨l',hl'⟩: ∃l':List α,l'=d'.toList.map λi=>l[i.1]'(hm1 ▸ i.2):=⟨_,rfl⟩
   rw [<-hl']at hfl
   have hd:d.toList.map (λi=>l[i.1]'(hm1 ▸ i.2))=l:=by
    apply List.ext_getElem
    ·simp [d,hm1]
    ·intro i h1 h2
     simp [d]
   have hperm:l'.Perm l:=by
    have h3:=hP.2.2
    have e1:d'.extract 0 m=d':=Array.extract_eq_self_of_le (by omega)
    have e2:d.extract 0 m=d:=Array.extract_eq_self_of_le (by omega)
    rw [e1,e2]at h3
    have:=h3.map (λi:Fin m=>l[i.1]'(hm1 ▸ i.2))
    rw [hd,<-hl']at this
    exact this
   have hpair:l'.Pairwise (λa b=>¬ cf b a < 0):=by
    rw [hl',List.pairwise_map,List.pairwise_iff_getElem]
    intro i j hi hj hij
    have hi':i < d'.size:=by simpa using hi
    have hj':j < d'.size:=by simpa using hj
    have:=hS i j (Nat.zero_le _) hij (by omega)
    rw [getElem!_pos d' i hi',getElem!_pos d' j hj']at this
    have h4:=of_decide_eq_false this
    simpa using h4
   have hlen:(l'.map f).length=(l.map f).length:=by rw [List.length_map,List.length_map,hperm.length_eq]
   have hlm:(l'.map f).length=m:=by rw [hlen,List.length_map,hm1]
   have hmut:fG (sortWorldK enc z w g0 0 k d' os) ρ.S e z cap (l'.map f) (ρ.tv id):=by
    refine .inr ⟨hc0,g0,_, ?_,xS _ p2,by omega,p4, ?_,by rw [hlm];exact hfl,p7⟩
    ·rw [p1,hlen]
    ·rw [putCells,Array.size_mapIdx];exact p5
   have hmb: ∀{b:Nat},b=g0->eP (ρ.tv id)=some b:= λe=>by
    have:cap≠0:=by omega
    rw [p1,e];simp [eP,this]
   obtain⟨s1,s2,s3⟩:=hm.setMrow ho (w':=sortWorldK enc z w g0 0 k d' os) (cap':=cap) (v':=ρ.tv id) rfl rfl ⟨rfl,Nat.le_add_right w.drawn k⟩ (hsz2 k os d') (λb hb hne=>oH _ hb λe=>hne (hmb e)) hmut (λg hg=> .inl hg) (.inl ⟨hlen,rfl⟩)
   exact⟨_,_,_,_,rfl,hk l' hperm hpair,s1,hf.mono s2 (λ_ _ x=>x) λi _=>s3 i, .tup [] _ rfl (by simp)⟩
end
end Go.Proofs.YtfhoddcminbffaaGreatDoor
