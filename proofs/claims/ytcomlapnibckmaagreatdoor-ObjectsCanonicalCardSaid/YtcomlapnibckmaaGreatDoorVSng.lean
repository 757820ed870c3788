/-
  The library's sorts at rows that may be written.
  Conditions: none.
-/
import Derived.Test.YtcomlapnibckmaaGreatDoorVAm
import Derived.Shelf.SlSortCmp.NoneTotal
import Derived.Shelf.Sort.Plain
import Derived.Shelf.Slices.In.SortNone
import Derived.Sort.OwnSorted
set_option linter.unnecessarySimpa false
set_option linter.unusedSectionVars false
set_option linter.unusedSimpArgs false
set_option linter.unusedVariables false
namespace Go.Proofs.YtcomlapnibckmaaGreatDoor
open Go.RowKit Go.Shelf Go.Lib Go.Sort Go.Proofs
section
variable {P:Program}
theorem tQ {r:Ren}(L:Lays.n190 P r) (l:List (List UInt8)) {pin:Pin}{fr:Fr}{hp:Hp}{K:SV->Hp->Prop}{id e cap n:Nat}(ho:aO hp id=some (.mrow e 1 cap (l.map λs=>[D.str s]))) (hn:n=l.length) (hsz:l.length < 4611686018427387904)
  (hk:K (.tup []) (fI hp id (.mrow e 1 cap ((l.mergeSort λx y=>decide (x<=y)).map λs=>[D.str s])))):aH P pin fr hp (r.f 190) [.mw id 1 n] K:=by
 intro E ρ w tm hpin hm hf vs hargs
 obtain⟨ha1,ha2⟩:=hargs
 have hv0: ∃v0,vs= #[v0]:=by
  rcases vs with⟨l⟩
  match l,ha1 with
  | [a],_=>exact⟨a,rfl⟩
 obtain⟨v0,rfl⟩:=hv0
 have hr0:=ha2 0 _ v0 rfl rfl
 obtain⟨A,c,e2,q1,q2,q3,q4,q5⟩:=hr0.mw_inv
 obtain⟨n0,m0⟩:=hm.sat id _ ho
 rcases Nat.eq_zero_or_pos l.length with h0|h0
 ·have hl:l=[]:=List.length_eq_zero_iff.1 h0
  subst hl
  have hn0:n=0:=by simpa using hn
  subst hn0
  subst e2
  have hnone:=Any.slices_Sort_string_none L A c w
  refine hnone.mono ?_
  rintro e' w' ⟨rfl,rfl⟩
  obtain⟨s1,s2,s3⟩:=hm.setMrow ho (w':=w') (cap':=cap) (rows':=([]:List (List UInt8)).map λs=>[D.str s]) (v':=ρ.tv id) rfl rfl (.refl _) (Nat.le_refl _) (λ_ _ _=>rfl) m0 (λg hg=> .inl hg) (.inl ⟨rfl,rfl⟩)
  exact .inl ⟨_,_,_,_,rfl,by simpa using hk,s1,hf.mono s2 (λ_ _ x=>x) λi _=>s3 i, .tup [] _ rfl (by simp)⟩
 ·rcases m0 with⟨hr0',_,_⟩|⟨hc0,g0,cur,p1,p2,p3,p4,p5,p6,p7⟩
  ·simp at hr0';subst hr0';simp at h0
  ·have hvt:v0=ρ.tv id:=q5 (by rw [n0,List.length_map];exact hn)
   rw [p1,List.length_map]at hvt
   subst hvt
   rw [List.length_map,Nat.mul_one]at p6
   rw [List.length_map]at p3
   have hle:l.length<=cur.size:=by omega
   have htake:cur.toList.take l.length=l.map encStr:=by
    apply List.ext_getElem?
    intro j
    rcases Nat.lt_or_ge j l.length with hj|hj
    ·have hrow:(l.map λs=>[D.str s])[j]? =some [D.str l[j]]:=by rw [List.getElem?_map,List.getElem?_eq_getElem hj];rfl
     obtain⟨v,v1,v2⟩:=p6.at_ j _ 0 _ hrow rfl
     rw [Nat.mul_one,Nat.add_zero]at v1
     rw [v1,List.getElem?_map,List.getElem?_eq_getElem hj]
     cases v2
     rfl
    ·rw [List.getElem?_eq_none (by rw [List.length_take];omega),List.getElem?_eq_none (by rw [List.length_map];exact hj)]
   have hstr: ∀s∈l,s.length<=maxLen:=by
    intro s hs
    obtain⟨j,hj,rfl⟩:=List.getElem_of_mem hs
    have hrow:(l.map λs=>[D.str s])[j]? =some [D.str l[j]]:=by rw [List.getElem?_map,List.getElem?_eq_getElem hj];rfl
    obtain⟨v,v1,v2⟩:=p6.at_ j _ 0 _ hrow rfl
    cases v2
    assumption
   obtain⟨l',hl'⟩: ∃l',l'=l.mergeSort λx y=>decide (x<=y):=⟨_,rfl⟩
   rw [<-hl']at hk
   have hperm:l'.Perm l:=by rw [hl'];exact List.mergeSort_perm _ _
   have hll:l'.length=l.length:=hperm.length_eq
   refine(Any.slices_Sort_string L g0 0 cap l w (holds_of_block p2 htake) (aS p2) hsz).mono ?_
   rintro e' w' ⟨rfl,k,os,rfl⟩
   rw [<-hl']
   have hkeep:bM ρ.S w (grow (putRow encStr (Sort.ahead w k) g0 0 l'.toArray) os):= λb i hb=>
    World.cell?_of_block (w:=w) ((grownBy_sorted l'.toArray).block b (hm.slt b i hb) λe=>p7 i (by injection e with e;exact e ▸ hb))
   have hmut:eD (grow (putRow encStr (Sort.ahead w k) g0 0 l'.toArray) os) ρ.S e 1 cap (l'.map λs=>[D.str s]) (ρ.tv id):=by
    refine .inr ⟨hc0,g0,_, ?_,heap_sorted _ p2,by rw [List.length_map];omega,p4,by rw [putCells,Array.size_mapIdx];exact p5, ?_,p7⟩
    ·rw [p1,List.length_map,List.length_map,hll]
    ·rw [List.length_map,Nat.mul_one,take_putCells cur l' (by omega)]
     refine⟨by simp, ?_, ?_, ?_⟩
     ·intro row hr
      rw [List.mem_map]at hr
      obtain⟨_,_,rfl⟩:=hr
      rfl
     ·intro v hv
      rw [List.mem_map]at hv
      obtain⟨_,_,rfl⟩:=hv
      rfl
     ·intro i row j x h1 h2
      rw [List.getElem?_map,Option.map_eq_some_iff]at h1
      obtain⟨s,h1,rfl⟩:=h1
      cases j with
      |succ j=>simp at h2
      |zero=>
       simp at h2
       subst h2
       refine⟨encStr s,by rw [Nat.mul_one,Nat.add_zero,List.getElem?_map,h1];rfl, ?_⟩
       exact .str s (hstr s (hperm.mem_iff.1 (List.mem_of_getElem? h1)))
   have hmb: ∀{b:Nat},b=g0->dS (ρ.tv id)=some b:= λe=>by
    have:cap≠0:=by omega
    rw [p1,e];simp [dS,this]
   obtain⟨s1,s2,s3⟩:=hm.setMrow ho (w':=grow (putRow encStr (Sort.ahead w k) g0 0 l'.toArray) os) (cap':=cap) (rows':=l'.map λs=>[D.str s]) (v':=ρ.tv id) rfl rfl ⟨rfl,Nat.le_add_right w.drawn k⟩ (grownBy_sorted (os:=os) l'.toArray).size
    (λb hb hne=>(grownBy_sorted l'.toArray).block b hb λe=>hne (hmb (Option.some.inj e))) hmut (λg hg=> .inl hg) (.inl ⟨by rw [List.length_map,List.length_map,hll],rfl⟩)
   exact .inl ⟨_,_,_,_,rfl,hk,s1,hf.mono s2 (λ_ _ x=>x) λi _=>s3 i, .tup [] _ rfl (by simp)⟩
end
end Go.Proofs.YtcomlapnibckmaaGreatDoor
