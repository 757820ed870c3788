/-
  slices.Grow of nil: rows of the call's own with room.
  Conditions: none.
-/
import Derived.Test.YtfhoddcminbffaaGreatDoorMSna
import Derived.Shelf.Spec.SlicesGrow
set_option linter.unnecessarySimpa false
set_option linter.unusedSectionVars false
set_option linter.unusedSimpArgs false
set_option linter.unusedVariables false
namespace Go.Proofs.YtfhoddcminbffaaGreatDoor
open Go.RowKit Go.Shelf Go.Proofs
section
variable {P:Program}
theorem aJ.growNil {r:Ren}(L:Lays8.n4 P r) {T:TI}{dd:TypeDesc}{i:TypeInfo}{zv:Value}(hT:TIok P (r.t 25) T dd i zv) (hpos:0 < T.size) {pin:List Nat}{fr:Fr}{hp:Hp}{K:SV->Hp->Prop}(id n:Nat) (hn:n * T.bytes<=140737488355328) (h63:n<=4611686018427387904) (hfr:fX id pin fr hp)
  (hk: ∀cap,K (.mw id T.size 0) ((id, .mrow (r.t 25) T.size cap [])::hp)):aJ P pin fr hp (r.f 4) [.d .nil, .d (.int .i64 n)] K:=by
 intro E ρ w tm hpin hm hf vs hargs
 obtain⟨ha1,ha2⟩:=hargs
 obtain⟨f1,f2,f3⟩:=hfr
 have hv: ∃v0 v1,vs= #[v0,v1]:=by
  rcases vs with⟨l⟩
  match l,ha1 with
  | [a,b],_=>exact⟨a,b,rfl⟩
 obtain⟨v0,v1,rfl⟩:=hv
 have e0:=(ha2 0 _ v0 rfl rfl).nil_inv
 have e1:=(ha2 1 _ v1 rfl rfl).int_inv
 subst e0 e1
 rcases Nat.eq_zero_or_pos n with h0|h0
 ·subst h0
  refine(Any8.slices_Grow_room L none 0 0 0 w (by omega) (by omega) (by omega) (by omega)).mono ?_
  rintro e w' ⟨rfl,rfl⟩
  obtain⟨m1,m2,m3⟩:=hm.newMrow (id:=id) (e:=r.t 25) (z:=T.size) (cap:=0) (rows:=[]) (v:= .slice none 0 0) f3 (by rw [hpin];exact f1) (Grew.refl w') (.inl ⟨rfl,rfl,none,rfl⟩) (λg hg=>by simp [fM]at hg)
  exact⟨_,_,_,_,rfl,hk 0,m1,hf.mono m2 (λ_ _ x=>x) λj hi=>m3 j λe=>f2 (e ▸ hi), .mw id _ 0 0 none (by simp) (by simp) (λh=>absurd rfl h) (by simp [Env.retop]) (by simp [Env.retop])⟩
 ·refine(Any8.slices_Grow_grow L i zv hT.info hT.zero (by rw [hT.size];exact hpos) none 0 0 n [] w (by omega) (by omega) (by rw [hT.bytes,Nat.zero_add];exact hn) (by omega) (by simp) (λ_=>rfl) (λa h=>by cases h)).mono ?_
  rintro e w' ⟨rfl,hw⟩
  simp only [Nat.zero_add,Nat.sub_zero]at hw |-
  have hge:=grownCap_ge w n 0 (r.t 25)
  have hle:grownCap w n 0 (r.t 25)<=maxLen:=grownCap_le_maxLen w n 0 (r.t 25) (by simp only [maxLen];omega)
  obtain⟨G,hG⟩: ∃G,G=grownCap w n 0 (r.t 25):=⟨_,rfl⟩
  rw [<-hG]at hge hle hw |-
  have h1:zv.cells.size=T.size:=by rw [hT.cells,hT.size]
  obtain⟨cur,hc⟩: ∃cur,cur=(([]:List Value).toArray++Builtin.zeroCells zv.cells n++Builtin.zeroCells zv.cells (G - n)):=⟨_,rfl⟩
  rw [<-hc]at hw
  subst hw
  have hsz:cur.size=G * T.size:=by
   rw [hc,Array.size_append,Array.size_append,size_zeroCells,size_zeroCells,h1,List.size_toArray,List.length_nil,Nat.zero_add,<-Nat.add_mul]
   congr 1;omega
  have hmut:fZ (w.drew.alloc (.cells cur (r.t 25))) ρ.S (r.t 25) T.size G [] (.slice (some ⟨w.heap.size,0,none⟩) 0 G):=
   .inr ⟨by omega,w.heap.size,cur,rfl,heap_alloc_new w.drew _,by simp,hle,hsz,⟨by simp,by simp,by simp,by simp⟩,λj hj=>by have:=hm.slt _ j hj;omega⟩
  obtain ⟨m1, m2, m3⟩ := hm.newMrow (id := id) f3 (by rw [hpin]; exact f1) ((Grew.drew w).trans (Grew.alloc w.drew _)) hmut (λg hg => by
    simp [fM]at hg
    omega)
  exact⟨_,_,_,_,rfl,hk G,m1,hf.mono m2 (λ_ _ x=>x) λj hi=>m3 j λe=>f2 (e ▸ hi), .mw id _ 0 G _ (by simp) hle (λ_=>⟨_,rfl⟩) (by simp [Env.retop]) (by simp [Env.retop])⟩
end
end Go.Proofs.YtfhoddcminbffaaGreatDoor
