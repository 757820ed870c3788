/-
  The keys of a set of strings, collected and sorted: maps.Keys, slices.AppendSeq, slices.Collect, slices.Sorted.
  Conditions: none.
-/
import Derived.Test.YtbobcfjlbcgchaaGreatDoorVOe
import Derived.Test.YtbobcfjlbcgchaaGreatDoorVA1
import Derived.Test.YtbobcfjlbcgchaaGreatDoorVSna
import Derived.Sort.KeysCollected
set_option linter.unnecessarySimpa false
set_option linter.unusedSectionVars false
set_option linter.unusedSimpArgs false
set_option linter.unusedVariables false
namespace Go.Proofs.YtbobcfjlbcgchaaGreatDoor
open Go.Proofs
set_option maxRecDepth 10000
attribute [local irreducible] aJ aF Tri aG YVC bS aQ
theorem aZ:eQ []=[]:=rfl
theorem aU (k:Nat) (s:SV) (r:Fr):eQ ((k,s)::r)=s.ids++eQ r:=rfl
theorem fD:fG []=[]:=rfl
theorem bO (k:Nat) (o:HObj) (r:Hp):fG ((k,o)::r)=(k::o.ids)++fG r:=rfl
theorem cV (t:TypeId) (cs:List SV):(HObj.cells t cs).ids=SV.idsL cs:=rfl
theorem fW (e z cap:Nat) (rows:List (List D)):(HObj.mrow e z cap rows).ids=[]:=rfl
theorem fN (e z n:Nat):(HObj.own e z n).ids=[]:=rfl
theorem fX (L:LoopI) (s:LoopAt):(HObj.loop L s).ids=eQ L.fr:=rfl
theorem fY (m:Nat) (bs:List Nat) (c:Nat) (v:List Nat):(HObj.ext (aBh m bs c v)).ids=[m]:=rfl
theorem bX (v:Value):(ofV v).ids=[]:=by
 unfold ofV
 split<;>(try split)<;>rfl
theorem fA {id:Nat}{o:HObj}: ∀{hp' hp:Hp},jK hp' hp->(∀p∈hp',p.1≠id)->jK hp' ((id,o)::hp)
 | [],_,_,_=>trivial
 |(k,x)::r,hp,h,hn=>by
  refine⟨?_,fA h.2 λp hp=>hn p (List.mem_cons_of_mem _ hp)⟩
  have:k≠id:=hn (k,x) (by simp)
  show aN ((id,o)::hp) k=some x
  rw [cK (Ne.symm this)]
  exact h.1
theorem mM {hp:Hp}{p:Nat×HObj}(h:p∈hp):p.1∈fG hp:=by
 simp only [fG,List.mem_flatMap,List.mem_cons]
 exact⟨p,h, .inl rfl⟩
theorem aBm {t:Nat}: ∀{hp0:Hp}{K:Hp->Prop},t∉fG hp0->K hp0->xN hp0 t K
 | [],_,_,h=>h
 |(k,o)::r,K,hn,h=>by
  have h1:k≠t:= λe=>hn (by rw [bO];simp [e])
  have h2:t∉fG r:= λe=>hn (by rw [bO];simp [e])
  rw [xN,if_neg h1]
  exact aBm h2 h
theorem xH {x:Nat×HObj}{hp:Hp}{K:Hp->Prop}(h:jK hp (x::hp)) (hk:K hp): ∃hp'',jK hp'' (x::hp)/\K hp'':=⟨hp,h,hk⟩
theorem wX {id:Nat}: ∀{hp:Hp},id∉fG hp->aN hp id=none
 | [],_=>rfl
 |(k,o)::r,h=>by
  have h1:k≠id:= λe=>h (by rw [bO];simp [e])
  have h2:id∉fG r:= λe=>h (by rw [bO];simp [e])
  rw [cK h1]
  exact wX h2
def jG (ks:List (List UInt8)):List (List UInt8):=ks.mergeSort λx y=>decide (x<=y)
theorem aGt {α:Type}{l:List α}{vis:List Nat}(hn:vis.Nodup) (hv: ∀i∈vis,i < l.length) (ha: ∀i,i < l.length->i∈vis) (f:Nat->α) (hf: ∀i (h:i < l.length),f i=l[i]):(vis.map f).Perm l:=by
 have h1:vis.Perm (List.range l.length):=(List.perm_ext_iff_of_nodup hn List.nodup_range).2 λi=>by rw [List.mem_range];exact⟨hv i,ha i⟩
 have h2:=h1.map f
 have h3:(List.range l.length).map f=l:=by
  apply List.ext_getElem
  ·simp
  ·intro i h1 h2
   simp [hf i h2]
 rwa [h3]at h2
theorem aAi {vis:List Nat}{n:Nat}(hn:vis.Nodup) (hv: ∀i∈vis,i < n):vis.length<=n:=by
 have h:=List.Nodup.length_le_of_subset hn (λi hi=>List.mem_range.2 (hv i hi))
 simpa using h
end Go.Proofs.YtbobcfjlbcgchaaGreatDoor
