/-
  Contracts at other objects. Contracts at arguments of which more is known.
  Conditions: none.
-/
import Derived.Test.YtljlhoekpjkgoaaSr
namespace Go.Proofs.Ytljlhoekpjkgoaa
open Go.RowKit

section
variable {P : Program}

theorem Tri.ro1 {f : FuncId} {args : List SV} {id : Nat} {t : TypeId} {cs : List SV} {post : SV → Prop} (h : Tri P f args [(id, .cells t cs)] post) : Tri P f args [(id, .ro t cs)] post := by
  intro w ρ vs h1 h2 h3
  refine h w ρ vs h1 h2 fun id' o ho => ?_
  simp only [getH] at ho
  split at ho
  · rename_i e; subst e
    injection ho with ho; subst ho
    exact h3 _ (.ro t cs) (by simp [getH])
  · cases ho

theorem Rep.closed {w : World} {ρ ρ' : Env} {s : SV} {v : Value} (h : Rep w ρ s v) (hs : ρ'.S = ρ.S) (hi : s.ids = []) : Rep w ρ' s v :=
  h.mono (fun _ _ _ => rfl) (fun b i x => by rw [hs]; exact x) (fun id hid => by rw [hi] at hid; cases hid)

/-- A contract that was shown for object 0 holds for every object. -/
theorem Tri.at {f : FuncId} {o : Nat} {as : List SV} {t : TypeId} {cs : List SV} {post : SV → Prop} (h : Tri P f (.ptr 0 o :: as) [(0, .cells t cs)] post) (ha : SV.idsL as = []) (hc : SV.idsL cs = []) (hpost : ∀ s, post s → s.ids = [])
    (i : Nat) : Tri P f (.ptr i o :: as) [(i, .cells t cs)] post := by
  intro w ρ vs h1 h2 h3
  let ρ0 : Env := { ρ with blk := fun k => if k = 0 then ρ.blk i else ρ.blk k }
  have hcl : ∀ (l : List SV), SV.idsL l = [] → ∀ (j : Nat) (s : SV), l[j]? = some s → s.ids = [] := by
    intro l hl j s hs
    cases e : s.ids with
    | nil => rfl
    | cons a r =>
      have := SV.mem_idsL hs (id := a) (by rw [e]; exact List.mem_cons_self ..)
      rw [hl] at this
      cases this
  refine (h w ρ0 vs h1 ⟨h2.1, ?_⟩ ?_).mono ?_
  · intro j s v hs hv
    cases j with
    | zero =>
      simp at hs
      subst hs
      have := h2.2 0 _ v rfl hv
      cases this with
      | ptr _ _ g hg => exact .ptr 0 o g hg
    | succ j =>
      exact (h2.2 (j + 1) s v hs hv).closed rfl (hcl as ha j s hs)
  · intro id x hx
    simp only [getH] at hx
    split at hx
    · rename_i e; subst e
      injection hx with hx; subst hx
      obtain ⟨g, g1, cur, c1, c2, c3, c4⟩ := h3 i (.cells t cs) (by simp [getH])
      exact ⟨g, g1, cur, c1, c2, c3, fun j s v hs hv => (c4 j s v hs hv).closed rfl (hcl cs hc j s hs)⟩
    · cases hx
  · rintro e w' ⟨v, S', s, k1, k2, k3, k4, k5, k6, k7⟩
    exact ⟨v, S', s, k1, k2, k3, k4, k5, k6, k7.closed rfl (hpost s k2)⟩

/-- A slice among the arguments is no longer than a slice can be. -/
theorem Tri.len {f : FuncId} {args : List SV} {hp : Hp} {post : SV → Prop} (j : Nat) {z : Nat} {rows : List (List D)} (hj : args[j]? = some (.d (.sl z rows))) (h : rows.length ≤ 9223372036854775807 → Tri P f args hp post) : Tri P f args hp post := by
  intro w ρ vs h1 h2 h3
  have hlt : j < vs.size := by rw [h2.1]; exact (List.getElem?_eq_some_iff.1 hj).1
  have hr := h2.2 j _ _ hj (Array.getElem?_eq_getElem hlt)
  cases hr with
  | d x v hd =>
    obtain ⟨A, cap, b, off, _, hn, hc, _⟩ := hd.of_sl
    exact h (Nat.le_trans hn hc) w ρ vs h1 h2 h3

theorem Tri.lenS {f : FuncId} {args : List SV} {hp : Hp} {post : SV → Prop} (j : Nat) {l : List UInt8} (hj : args[j]? = some (.d (.str l))) (h : l.length ≤ 9223372036854775807 → Tri P f args hp post) : Tri P f args hp post := by
  intro w ρ vs h1 h2 h3
  have hlt : j < vs.size := by rw [h2.1]; exact (List.getElem?_eq_some_iff.1 hj).1
  have hr := h2.2 j _ _ hj (Array.getElem?_eq_getElem hlt)
  generalize vs[j] = v at hr
  cases hr with
  | d x v hd =>
    cases hd with
    | str l hl => exact h hl w ρ vs h1 h2 h3

theorem notMem_of {id : Nat} {l : List Nat} (h : l.elem id = false) : id ∉ l := by
  intro hm
  rw [List.elem_eq_contains, List.contains_eq_mem, decide_eq_false_iff_not] at h
  exact h hm

theorem leaf_of {l : List SV} (h : l.all leafS = true) : ∀ n ∈ l, leafS n = true := fun n hn => List.all_eq_true.1 h n hn

theorem sub_rows (b : List UInt8) (i j : Nat) : List.drop i (List.take j (List.map brow b)) = ((b.take j).drop i).map brow := by rw [List.map_drop, List.map_take]
theorem unb_sub (b : List UInt8) (i j : Nat) : List.drop i (List.take j (List.map brow b)) = (unb (List.drop i (List.take j (List.map brow b)))).map brow := by rw [sub_rows, unb_map]
theorem unb_sub_eq (b : List UInt8) (i j : Nat) : unb (List.drop i (List.take j (List.map brow b))) = (b.take j).drop i := by rw [sub_rows, unb_map]
theorem take_drop' {α : Type} (b : List α) (i n : Nat) : (b.take (i + n)).drop i = (b.drop i).take n := by rw [List.take_drop]

def freshB (id : Nat) (pin : List Nat) (fr : Fr) (hp : Hp) : Bool := !(pin.elem id) && !((idsF fr).elem id) && !((idsH hp).elem id)

theorem fresh_of {id : Nat} {pin : List Nat} {fr : Fr} {hp : Hp} (h : freshB id pin fr hp = true) : fresh id pin fr hp := by
  simp only [freshB, Bool.and_eq_true, Bool.not_eq_true', List.elem_eq_contains, List.contains_eq_mem, decide_eq_false_iff_not] at h
  exact ⟨h.1.1, h.1.2, h.2⟩

end
end Go.Proofs.Ytljlhoekpjkgoaa

namespace Go.Proofs.Ytljlhoekpjkgoaa
open Go.RowKit

section
variable {P : Program}

def WkL : List SV → List SV → Prop
  | [], [] => True
  | a :: l, b :: m => Wk a b ∧ WkL l m
  | _, _ => False

theorem WkL_ok {w : World} {ρ : Env} : ∀ {as bs : List SV} {vs : Array Value}, WkL as bs → ArgsRep w ρ as vs → ArgsRep w ρ bs vs := by
  have key : ∀ (as bs : List SV), WkL as bs → as.length = bs.length ∧ ∀ (j : Nat) (b : SV), bs[j]? = some b → ∃ a, as[j]? = some a ∧ Wk a b := by
    intro as
    induction as with
    | nil =>
      intro bs h
      cases bs with
      | nil => exact ⟨rfl, by simp⟩
      | cons => exact h.elim
    | cons a l ih =>
      intro bs h
      cases bs with
      | nil => exact h.elim
      | cons b m =>
        obtain ⟨h1, h2⟩ := h
        obtain ⟨i1, i2⟩ := ih m h2
        refine ⟨by simp [i1], fun j x hx => ?_⟩
        cases j with
        | zero => simp at hx; subst hx; exact ⟨a, by simp, h1⟩
        | succ j => simp at hx; obtain ⟨y, y1, y2⟩ := i2 j x hx; exact ⟨y, by simpa using y1, y2⟩
  intro as bs vs h hr
  obtain ⟨k1, k2⟩ := key as bs h
  refine ⟨hr.1.trans k1, fun j b v hb hv => ?_⟩
  obtain ⟨a, a1, a2⟩ := k2 j b hb
  exact Wk_ok a2 (hr.2 j a v a1 hv)

theorem Tri.weak {f : FuncId} {as bs : List SV} {hp : Hp} {post : SV → Prop} (h : Tri P f bs hp post) (hw : WkL as bs) : Tri P f as hp post :=
  fun w ρ vs a b c => h w ρ vs a (WkL_ok hw b) c

end
end Go.Proofs.Ytljlhoekpjkgoaa
