/-
  Symbolic operations, one by one: conversions, slices, stores, new variables, structs.
  Conditions: none.
-/
import Derived.Test.YtljlhoekpjkgoaaSg
namespace Go.Proofs.Ytljlhoekpjkgoaa
open Go.RowKit

def brow (c : UInt8) : List D := [.int .u8 c.toNat]
def unb1 : List D → UInt8
  | [.int .u8 n] => UInt8.ofNat n.toNat
  | _ => 0
def unb (rows : List (List D)) : List UInt8 := rows.map unb1
theorem unb_map (l : List UInt8) : unb (l.map brow) = l := by
  unfold unb
  rw [List.map_map]
  conv => rhs; rw [← List.map_id l]
  apply List.map_congr_left
  intro c _
  simp [unb1, brow]

section
variable {P : Program}

/-! ### conversions -/

def conv (k0 k : IntKind) (n : Int) (K : SV → Prop) : Prop :=
  match k0 with
  | .u64 => K (.d (.int k (k.wrap n)))
  | _ => arith k n K

theorem conv_ok {k0 k : IntKind} {n : Int} {K : SV → Prop} (h : conv k0 k n K) : K (.d (.int k (k.wrap n))) := by
  cases k0 <;> simp only [conv] at h <;> first | exact arith_ok h | exact h

def vConv (ti : TypeId → Option TI) (src dst : TypeId) (s : SV) (hp : Hp) (K : SV → Hp → Prop) : Prop :=
  match ti dst with
  | some { td := .int k, .. } => (match s with | .d (.int k0 n) => (ti src).isSome = true ∧ conv k0 k n fun r => K r hp | _ => Stuck "convert: to an int")
  | some { td := .string, .. } =>
    (match s with
    | .d (.str l) => (ti src).isSome = true ∧ K (.d (.str l)) hp
    | s =>
      match ti src with
      | some { td := .slice e, .. } =>
        match ti e with
        | some { td := .int .u8, .. } =>
          match s with
          | .d .nil => K (.d (.str [])) hp
          | s => match rowsOf s with
            | some (1, rows) => rows = (unb rows).map brow ∧ K (.d (.str (unb rows))) hp
            | _ => Stuck "convert: to a string"
        | _ => Stuck "convert: to a string"
      | _ => Stuck "convert: to a string")
  | some { td := .slice e, .. } =>
    match ti e with
    | some { td := .int .u8, .. } =>
      (match s with
      | .d (.str l) => (ti src).isSome = true ∧ K (.d (.sl 1 (l.map brow))) hp
      | .osl id 1 rows => src = dst ∧ rows ≠ [] ∧ getH hp id = some (.own e 1 rows.length) ∧ delHK hp id fun hp' => K (.d (.sl 1 rows)) hp'
      | _ => Stuck "convert: to bytes")
    | _ => Stuck "convert: to a slice"
  | _ => Stuck "convert"

theorem tiOf_und {ti : TypeId → Option TI} (hti : TyOK P ti) {t : TypeId} (h : (ti t).isSome = true) : ∃ d, P.underlying t = some d := by
  obtain ⟨T, hT⟩ := Option.isSome_iff_exists.1 h
  obtain ⟨d, i, z, hT⟩ := tiOf_ok (hti _ _ hT)
  exact ⟨d, hT.und⟩

theorem freeze_grew {w : World} {g n k : Nat} : ∀ b i, (w.freeze ⟨g, n, none⟩ k).cell? ⟨b, i, none⟩ = w.cell? ⟨b, i, none⟩ := by
  intro b i
  unfold World.freeze
  split
  · rfl
  · unfold World.cell?
    simp only [Array.getElem?_modify]
    by_cases e : g = b
    · subst e
      simp only [if_true]
      cases w.heap[g]? with
      | none => rfl
      | some o => cases o <;> rfl
    · simp [e]

theorem freeze_other {w : World} {g n k b : Nat} (h : b ≠ g) : (w.freeze ⟨g, n, none⟩ k).heap[b]? = w.heap[b]? := by
  unfold World.freeze
  split
  · rfl
  · simp [Array.getElem?_modify, Ne.symm h]

theorem freeze_size {w : World} {g n k : Nat} : (w.freeze ⟨g, n, none⟩ k).heap.size = w.heap.size := by
  unfold World.freeze
  split <;> simp

/-- A row of the call's own is marked: it is one no more. -/
theorem Mem.freezeOwn {E : Entry} {ρ : Env} {hp : Hp} {w : World} (h : Mem E ρ hp w) {id e z n g : Nat} (ho : getH hp id = some (.own e z n)) (hg : (ρ.tv id).ownBlock = some g) (m k : Nat) :
    Mem E ρ (delH hp id) (w.freeze ⟨g, m, none⟩ k) ∧ (∀ fr tm, FSat ρ w fr tm → FSat ρ (w.freeze ⟨g, m, none⟩ k) fr tm) ∧ ∀ s v, Rep w ρ s v → Rep (w.freeze ⟨g, m, none⟩ k) ρ s v := by
  have hk : Keeps ρ.S w (w.freeze ⟨g, m, none⟩ k) := fun b i _ => freeze_grew b i
  have hrf : ∀ i, ρ.moved ρ i := ρ.moved_refl
  have hat : ρ.at id (.own e z n) = some g := hg
  have hd := h.del id
  refine ⟨⟨?_, ?_, ?_, by rw [freeze_size]; exact h.size, ?_, h.sold, h.snew, by rw [freeze_size]; exact h.slt, h.kp.trans h.sold hk, ?_, hd.inj, hd.hb, h.mv, hd.ro, fun b hb => (freeze_other (fun e' => by obtain ⟨_, xs, h1, _⟩ := h.sat id _ ho; subst e'; exact ownsRow_notD h1 hg (h.md _ hb))).trans (h.md b hb)⟩, ?_, ?_⟩
  · unfold World.freeze; split <;> exact h.os
  · unfold World.freeze; split <;> exact h.tape
  · unfold World.freeze; split <;> exact h.output
  · intro b hb hB
    rw [freeze_other ?_]
    · exact h.old b hb hB
    · rintro rfl
      rcases h.hb id _ b ho hat with hge | hB'
      · omega
      · exact hB hB'
  · intro i o hi
    rw [getH_delH] at hi
    split at hi
    · cases hi
    · rename_i hne
      refine (h.sat i o hi).keep hk (fun _ _ x => x) (fun j _ => hrf j) ⟨rfl, rfl⟩ ?_ (fun _ _ _ x => x)
      rintro b (hb' | ⟨hb', t', cs', rfl⟩)
      · exact freeze_other fun e' => hne (h.inj i o id _ b hi ho hb' (by rw [e']; exact hat))
      · exact freeze_other fun e' => h.ro i t' cs' b hi hb' id _ ho (by rw [e']; exact hat)
  · exact fun fr tm hf => hf.mono hk (fun _ _ x => x) fun i _ => hrf i
  · exact fun s v hr => hr.mono hk (fun _ _ x => x) fun i _ => hrf i

theorem ok_conv {ti : TypeId → Option TI} (hti : TyOK P ti) {o : Oper} {src dst : TypeId} {x : Operand} (ho : o.op = .convert src dst x) {pin : List Nat} {fr : Fr} {hp : Hp} {K : SV → Hp → Prop}
    (h : ev fr x fun s => vConv ti src dst s hp K) : OpOK P o pin fr hp K := by
  intro E ρ a w _ hm hf next Q hn
  obtain ⟨s, hs, hv⟩ := ev_ok h
  have hr := evO_ok hf hs
  have hrun : ∀ v w', (convert src dst (a.eval x)).run P w = .ok v w' → (execOp a.eval o).run P w = .ok (.value v) w' := by
    intro v w' e
    simp [execOp, ho, e]
  have same : ∀ v r, (convert src dst (a.eval x)).run P w = .ok v w → Rep w ρ r v → K r hp → o.wp P a w next Q := fun v r e1 e2 e3 =>
    wp_value (hrun _ _ e1) (hn v w ρ r hp e3 hm hf e2)
  unfold vConv at hv
  split at hv
  · rename_i k _ _ _ hT
    obtain ⟨d, i, z, hT⟩ := tiOf_ok (hti _ _ hT)
    have hd := tint_inv hT.td
    subst hd
    split at hv
    · rename_i k0 n
      obtain ⟨d', hd'⟩ := tiOf_und hti hv.1
      refine same _ _ ?_ (.d _ _ (.int _ _)) (conv_ok hv.2)
      simp [convert, run_underlying hd', run_underlying hT.und, hr.int_inv, Conv.intToInt]
    · exact hv.elim
  · rename_i hT
    obtain ⟨d, i, z, hT⟩ := tiOf_ok (hti _ _ hT)
    have hd := string_inv hT.td
    subst hd
    split at hv
    · rename_i l
      obtain ⟨d', hd'⟩ := tiOf_und hti hv.1
      refine same _ _ ?_ hr hv.2
      have e := hr.str_inv.1
      simp [convert, run_underlying hd', run_underlying hT.und, e]
    · split at hv
      · rename_i e _ _ _ hT2
        obtain ⟨d2, i2, z2, hT2⟩ := tiOf_ok (hti _ _ hT2)
        have hd := slice_inv hT2.td
        subst hd
        split at hv
        · rename_i hT3
          obtain ⟨d3, i3, z3, hT3⟩ := tiOf_ok (hti _ _ hT3)
          have hd := tint_inv hT3.td
          subst hd
          split at hv
          · refine same (.string ⟨#[]⟩) _ ?_ (.d _ _ (RepD.str [] (by simp))) hv
            rw [hr.nil_inv, run_convert_bytes_string w src dst e none 0 0 hT2.und hT3.und hT.und]
            rfl
          · split at hv
            · rename_i rows hrows
              obtain ⟨he, hk⟩ := hv
              obtain ⟨A, cap, b, off, e1, hnc, hcm, hA, hview⟩ := (rowsOf_ok hrows hr).of_sl
              have hlen : (unb rows).length = rows.length := by simp [unb]
              have hle : (unb rows).length ≤ maxLen := by rw [hlen]; omega
              refine same _ _ ?_ (.d _ _ (RepD.str (unb rows) hle)) hk
              rw [e1]
              by_cases hne : rows = []
              · subst hne
                rcases A with _ | ad
                · rw [run_convert_bytes_string w src dst e _ _ _ hT2.und hT3.und hT.und]
                  rfl
                · have := run_convert_bytes_back (P := P) w src dst e ad cap [] hT2.und hT3.und hT.und (fun j hj => by simp at hj)
                  simpa [unb] using this
              · have hA' := hA hne
                subst hA'
                have := run_convert_bytes_back (P := P) w src dst e ⟨b, off, none⟩ cap (unb rows) hT2.und hT3.und hT.und (fun j hj => by
                  rw [addr_add]
                  have hj' : j < rows.length := by omega
                  have hrow : rows[j]? = some (brow (unb rows)[j]) := by
                    conv => lhs; rw [he]
                    rw [List.getElem?_map, List.getElem?_eq_getElem hj]; rfl
                  obtain ⟨v, c1, _, _, c4⟩ := hview.cell j _ 0 _ hrow (by simp [brow]; rfl)
                  cases c4
                  have ej : j * 1 + 0 = j := by omega
                  rw [ej] at c1
                  exact c1)
                rw [hlen] at this
                exact this
            · exact hv.elim
        · exact hv.elim
      · exact hv.elim
  · rename_i e _ _ _ hT
    obtain ⟨d, i, z, hT⟩ := tiOf_ok (hti _ _ hT)
    have hd := slice_inv hT.td
    subst hd
    split at hv
    · rename_i hT3
      obtain ⟨d3, i3, z3, hT3⟩ := tiOf_ok (hti _ _ hT3)
      have hd := tint_inv hT3.td
      subst hd
      split at hv
      · rename_i l
        obtain ⟨d', hd'⟩ := tiOf_und hti hv.1
        obtain ⟨ex, hl⟩ := hr.str_inv
        have hsz : (⟨l.toArray⟩ : ByteArray).size = l.length := rfl
        have hrun2 := Lib.run_convert_string_bytes (P := P) w src dst e ⟨l.toArray⟩ hd' hT.und hT3.und
        rw [← ex] at hrun2
        have hg : Grew w (Lib.bytesWorld w e ⟨l.toArray⟩) := by
          refine ⟨?_, ?_, ?_, ?_, fun b hb => Lib.bytesWorld_at_old w e _ b hb⟩
          · unfold Lib.bytesWorld World.freeze; split <;> rfl
          · unfold Lib.bytesWorld World.freeze; split <;> rfl
          · unfold Lib.bytesWorld World.freeze; split <;> exact ⟨rfl, Nat.le_succ _⟩
          · rw [Lib.bytesWorld_size]; omega
        have hmg := hm.grow hg (fun b i => ρ.S b i ∨ (b = w.heap.size ∧ i < l.length)) (fun _ _ x => .inl x) (fun b i x => by rcases x with x | ⟨x, _⟩; exact .inl x; right; omega)
          (fun b i x => by rw [Lib.bytesWorld_size]; rcases x with x | ⟨x, _⟩; (have := hm.slt b i x; omega); omega)
        refine wp_value (hrun _ _ hrun2) (hn _ _ _ (.d (.sl 1 (l.map brow))) hp hv.2 hmg.1 (hmg.2 fr _ hf) (.d _ _ ?_))
        have hcap := grownCap_ge w l.length 0 e
        have hcapm : grownCap w l.length 0 e ≤ maxLen := grownCap_le_maxLen w l.length 0 e (by simpa only [maxLen] using hl)
        refine RepD.mk_sl (b := w.heap.size) (off := 0) (by rw [List.length_map]; exact hcap) hcapm (fun _ => rfl) ⟨?_, ?_⟩ (by rw [List.length_map]; exact hsz)
        · intro row hrow
          obtain ⟨c, _, rfl⟩ := List.mem_map.1 hrow
          rfl
        · intro a' row j y h1 h2
          simp only [List.getElem?_map, Option.map_eq_some_iff] at h1
          obtain ⟨c, hc, rfl⟩ := h1
          obtain ⟨hlt, hce⟩ := List.getElem?_eq_some_iff.1 hc
          have hj : j = 0 ∧ y = .int .u8 c.toNat := by
            cases j with
            | zero => simp [brow] at h2; exact ⟨rfl, h2.symm⟩
            | succ j => simp [brow] at h2
          obtain ⟨rfl, rfl⟩ := hj
          refine ⟨.int .u8 c.toNat, ?_, .inr ⟨rfl, by simpa using hlt⟩, rfl, .int _ _⟩
          have := Lib.bytesWorld_cell w e ⟨l.toArray⟩ a' (by rw [hsz]; exact hlt)
          simp only [Nat.mul_one, Nat.add_zero, Nat.zero_add]
          rw [this]
          simp [List.getD, hc]
      · rename_i id rows
        obtain ⟨rfl, hne, hoo, hk⟩ := hv
        rw [delHK_eq] at hk
        obtain ⟨hrd, hnl, htt⟩ := hr.osl_inv
        obtain ⟨hn1, xs, hown, _, _⟩ := hm.sat id _ hoo
        have ev1 := htt hn1.symm
        rcases own_eq hown with ⟨e1, e2⟩ | ⟨g, cap, e1, _, _⟩
        · exact absurd (List.eq_nil_of_length_eq_zero (by omega)) hne
        · obtain ⟨cur, hcur⟩ : ∃ cur, w.heap[g]? = some (.cells cur e (0, 0)) := by
            rcases hown.2 with ⟨hn0, _⟩ | ⟨g', cap', cur, hv', _, hh, _⟩
            · rw [e1] at hn0; cases hn0
            · rw [e1] at hv'
              injection hv' with hv'
              injection hv' with hv'
              injection hv' with hv'
              subst hv'
              exact ⟨cur, hh⟩
          have hfz := hm.freezeOwn hoo (g := g) (by rw [e1]; rfl) cur.size 1
          have hrun2 : (convert src src (a.eval x)).run P w = .ok (a.eval x) (w.freeze ⟨g, cur.size, none⟩ 1) := by
            have hsh : w.shape? g = some (e, cur.size) := by simp [World.shape?, hcur]
            rw [ev1, e1]
            simp [convert, run_underlying hT.und, run_underlying hT3.und, markStringish, hsh]
          exact wp_value (hrun _ _ hrun2) (hn _ _ ρ (.d (.sl 1 rows)) _ hk hfz.1 (hfz.2.1 fr _ hf) (hfz.2.2 _ _ (.d _ _ hrd)))
      · exact hv.elim
    · exact hv.elim
  · exact hv.elim

end
end Go.Proofs.Ytljlhoekpjkgoaa
