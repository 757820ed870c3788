/-
  The keys of a set of strings, collected and sorted: maps.Keys, slices.AppendSeq, slices.Collect, slices.Sorted.
  Conditions: none.
-/
import Derived.Test.YtbobcfjlbcgchaaGreatDoorWOe
import Derived.Test.YtbobcfjlbcgchaaGreatDoorWA8
import Derived.Test.YtbobcfjlbcgchaaGreatDoorWSna
import Derived.Sort.KeysCollected
set_option linter.unnecessarySimpa false
set_option linter.unusedSectionVars false
set_option linter.unusedSimpArgs false
set_option linter.unusedVariables false
namespace Go.Proofs.YtbobcfjlbcgchaaGreatDoor
section
attribute [local irreducible] aK aF Tri aH YVC cG aT
set_option maxRecDepth 10000
theorem bL:gD []=[]:=rfl
theorem bB (k:Nat) (s:SV) (r:Fr):gD ((k,s)::r)=s.ids++gD r:=rfl
theorem gT:gH []=[]:=rfl
theorem bU (k:Nat) (o:HObj) (r:Hp):gH ((k,o)::r)=(k::o.ids)++gH r:=rfl
theorem dH (t:TypeId) (cs:List SV):(HObj.cells t cs).ids=SV.idsL cs:=rfl
theorem iL (e z cap:Nat) (rows:List (List D)):(HObj.mrow e z cap rows).ids=[]:=rfl
theorem iD (e z n:Nat):(HObj.own e z n).ids=[]:=rfl
theorem iM (L:LoopI) (s:LoopAt):(HObj.loop L s).ids=gD L.fr:=rfl
theorem iN (m:Nat) (bs:List Nat) (c:Nat) (v:List Nat):(HObj.ext (aFx m bs c v)).ids=[m]:=rfl
theorem cD (v:Value):(ofV v).ids=[]:=by
 unfold ofV
 split<;>(try split)<;>rfl
theorem gM {id:Nat}{o:HObj}: ∀{hp' hp:Hp},lU hp' hp->(∀p∈hp',p.1≠id)->lU hp' ((id,o)::hp)
 | [],_,_,_=>trivial
 |(k,x)::r,hp,h,hn=>by
  refine⟨?_,gM h.2 λp hp=>hn p (List.mem_cons_of_mem _ hp)⟩
  have:k≠id:=hn (k,x) (by simp)
  show aP ((id,o)::hp) k=some x
  rw [cQ (Ne.symm this)]
  exact h.1
theorem qE {hp:Hp}{p:Nat×HObj}(h:p∈hp):p.1∈gH hp:=by
 simp only [gH,List.mem_flatMap,List.mem_cons]
 exact⟨p,h, .inl rfl⟩
theorem aG6 {t:Nat}: ∀{hp0:Hp}{K:Hp->Prop},t∉gH hp0->K hp0->aBg hp0 t K
 | [],_,_,h=>h
 |(k,o)::r,K,hn,h=>by
  have a:k≠t:= λe=>hn (by rw [bU];simp [e])
  have b:t∉gH r:= λe=>hn (by rw [bU];simp [e])
  rw [aBg,if_neg a]
  exact aG6 b h
theorem aB9 {x:Nat×HObj}{hp:Hp}{K:Hp->Prop}(h:lU hp (x::hp)) (hk:K hp): ∃hp'',lU hp'' (x::hp)/\K hp'':=⟨hp,h,hk⟩
theorem aB1 {id:Nat}: ∀{hp:Hp},id∉gH hp->aP hp id=none
 | [],_=>rfl
 |(k,o)::r,h=>by
  have a:k≠id:= λe=>h (by rw [bU];simp [e])
  have b:id∉gH r:= λe=>h (by rw [bU];simp [e])
  rw [cQ a]
  exact aB1 b
def lN (ks:List (List UInt8)):List (List UInt8):=ks.mergeSort λx y=>decide (x<=y)
theorem aMb {α:Type}{l:List α}{vis:List Nat}(hn:vis.Nodup) (hv: ∀i∈vis,i < l.length) (ha: ∀i,i < l.length->i∈vis) (f:Nat->α) (hf: ∀i (h:i < l.length),f i=l[i]):(vis.map f).Perm l:=by
 have b:vis.Perm (List.range l.length):=(List.perm_ext_iff_of_nodup hn List.nodup_range).2 λi=>by rw [List.mem_range];exact⟨hv i,ha i⟩
 have a:=b.map f
 have c:(List.range l.length).map f=l:=by
  apply List.ext_getElem
  ·simp
  ·intro i b a
   simp [hf i a]
 rwa [c]at a
theorem aEg {vis:List Nat}{n:Nat}(hn:vis.Nodup) (hv: ∀i∈vis,i < n):vis.length<=n:=by
 have h:=List.Nodup.length_le_of_subset hn (λi hi=>List.mem_range.2 (hv i hi))
 simpa using h
end
end Go.Proofs.YtbobcfjlbcgchaaGreatDoor
