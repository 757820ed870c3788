/-
  Data of which more is known: nil for an empty slice, at any depth.
  Conditions: none.
-/
import Derived.Test.YtljlhoekpjkgoaaSw
import Derived.Test.YtljlhoekpjkgoaaSs
namespace Go.Proofs.Ytljlhoekpjkgoaa
open Go.Proofs

mutual
def WkD : D → D → Prop
  | .nil, .sl _ rows => rows = []
  | .sl z rows, .sl z' rows' => z = z' ∧ WkDR rows rows'
  | .agg cs, .agg cs' => WkDL cs cs'
  | a, b => a = b
def WkDL : List D → List D → Prop
  | [], [] => True
  | a :: l, b :: m => WkD a b ∧ WkDL l m
  | _, _ => False
def WkDR : List (List D) → List (List D) → Prop
  | [], [] => True
  | a :: l, b :: m => WkDL a b ∧ WkDR l m
  | _, _ => False
end

theorem WkDL_at : ∀ (l m : List D), WkDL l m → l.length = m.length ∧ ∀ (j : Nat) (x' : D), m[j]? = some x' → ∃ x, l[j]? = some x ∧ WkD x x'
  | [], [], _ => ⟨rfl, by simp⟩
  | a :: l, b :: m, h => by
    simp only [WkDL] at h
    obtain ⟨i1, i2⟩ := WkDL_at l m h.2
    refine ⟨by simp [i1], fun j x' hj => ?_⟩
    cases j with
    | zero => simp at hj; subst hj; exact ⟨a, by simp, h.1⟩
    | succ j => simp at hj; obtain ⟨x, h1, h2⟩ := i2 j x' hj; exact ⟨x, by simpa using h1, h2⟩
  | [], _ :: _, h => by simp [WkDL] at h
  | _ :: _, [], h => by simp [WkDL] at h

theorem WkDR_at : ∀ (l m : List (List D)), WkDR l m → l.length = m.length ∧ ∀ (i : Nat) (row' : List D), m[i]? = some row' → ∃ row, l[i]? = some row ∧ WkDL row row'
  | [], [], _ => ⟨rfl, by simp⟩
  | a :: l, b :: m, h => by
    simp only [WkDR] at h
    obtain ⟨i1, i2⟩ := WkDR_at l m h.2
    refine ⟨by simp [i1], fun j x' hj => ?_⟩
    cases j with
    | zero => simp at hj; subst hj; exact ⟨a, by simp, h.1⟩
    | succ j => simp at hj; obtain ⟨x, h1, h2⟩ := i2 j x' hj; exact ⟨x, by simpa using h1, h2⟩
  | [], _ :: _, h => by simp [WkDR] at h
  | _ :: _, [], h => by simp [WkDR] at h

theorem WkD_ok {w : World} {S : Nat → Nat → Prop} {a : D} {v : Value} (h : RepD w S a v) : ∀ b, WkD a b → RepD w S b v := by
  induction h with
  | int k n => intro b hb; have : D.int k n = b := by cases b <;> first | (simp [WkD] at hb; done) | simpa [WkD] using hb
               subst this; exact .int k n
  | bool x => intro b hb; have : D.bool x = b := by cases b <;> first | (simp [WkD] at hb; done) | simpa [WkD] using hb
              subst this; exact .bool x
  | str l hl => intro b hb; have : D.str l = b := by cases b <;> first | (simp [WkD] at hb; done) | simpa [WkD] using hb
                subst this; exact .str l hl
  | lit u => intro b hb; have : D.lit u = b := by cases b <;> first | (simp [WkD] at hb; done) | simpa [WkD] using hb
             subst this; exact .lit u
  | nil =>
    intro b hb
    cases b with
    | sl z rows =>
      simp only [WkD] at hb
      subst hb
      exact .sl z [] none 0 0 0 (fun _ => undef) (by simp) (by simp) (by simp) (by simp) (by simp) (by simp)
    | nil => exact .nil
    | _ => simp [WkD] at hb
  | sl z rows A cap b off f hz hn hc hA hcell hrep ih =>
    intro b' hb
    cases b' with
    | sl z' rows' =>
      simp only [WkD] at hb
      obtain ⟨rfl, hb⟩ := hb
      obtain ⟨e1, e2⟩ := WkDR_at _ _ hb
      rw [e1]
      have key : ∀ (i : Nat) (row' : List D) (j : Nat) (x' : D), rows'[i]? = some row' → row'[j]? = some x' → ∃ row x, rows[i]? = some row ∧ row[j]? = some x ∧ WkD x x' := by
        intro i row' j x' h1 h2
        obtain ⟨row, r1, r2⟩ := e2 i row' h1
        obtain ⟨_, r3⟩ := WkDL_at _ _ r2
        obtain ⟨x, x1, x2⟩ := r3 j x' h2
        exact ⟨row, x, r1, x1, x2⟩
      refine .sl z rows' A cap b off f ?_ (by omega) hc ?_ ?_ ?_
      · intro row' hr
        obtain ⟨i, hi⟩ := List.mem_iff_getElem?.1 hr
        obtain ⟨row, r1, r2⟩ := e2 i row' hi
        rw [← (WkDL_at _ _ r2).1]
        exact hz row (List.mem_of_getElem? r1)
      · intro hne
        exact hA fun e => hne (by subst e; simp at e1; exact List.eq_nil_of_length_eq_zero e1.symm)
      · intro i row' j x' h1 h2
        obtain ⟨row, x, r1, r2, _⟩ := key i row' j x' h1 h2
        exact hcell i row j x r1 r2
      · intro i row' j x' h1 h2
        obtain ⟨row, x, r1, r2, r3⟩ := key i row' j x' h1 h2
        exact ih i row j x r1 r2 x' r3
    | _ => simp [WkD] at hb
  | agg cs vs hl h ih =>
    intro b hb
    cases b with
    | agg cs' =>
      simp only [WkD] at hb
      obtain ⟨e1, e2⟩ := WkDL_at _ _ hb
      refine .agg cs' vs (by omega) fun j x' v h1 h2 => ?_
      obtain ⟨x, x1, x2⟩ := e2 j x' h1
      exact ih j x v x1 h2 x' x2
    | _ => simp [WkD] at hb

def WkS : SV → SV → Prop
  | .d a, .d b => WkD a b
  | .osl _ z rows, .d b => WkD (.sl z rows) b
  | a, b => a = b

def WkSL : List SV → List SV → Prop
  | [], [] => True
  | a :: l, b :: m => WkS a b ∧ WkSL l m
  | _, _ => False

theorem WkS_ok {w : World} {ρ : Env} {a b : SV} {v : Value} (h : WkS a b) (hr : Rep w ρ a v) : Rep w ρ b v := by
  unfold WkS at h
  split at h
  · cases hr with
    | d x v h' => exact .d _ _ (WkD_ok h' _ h)
  · exact .d _ _ (WkD_ok hr.osl_inv.1 _ h)
  · subst h; exact hr

theorem WkSL_at : ∀ (l m : List SV), WkSL l m → l.length = m.length ∧ ∀ (j : Nat) (x' : SV), m[j]? = some x' → ∃ x, l[j]? = some x ∧ WkS x x'
  | [], [], _ => ⟨rfl, by simp⟩
  | a :: l, b :: m, h => by
    simp only [WkSL] at h
    obtain ⟨i1, i2⟩ := WkSL_at l m h.2
    refine ⟨by simp [i1], fun j x' hj => ?_⟩
    cases j with
    | zero => simp at hj; subst hj; exact ⟨a, by simp, h.1⟩
    | succ j => simp at hj; obtain ⟨x, h1, h2⟩ := i2 j x' hj; exact ⟨x, by simpa using h1, h2⟩
  | [], _ :: _, h => by simp [WkSL] at h
  | _ :: _, [], h => by simp [WkSL] at h

theorem Tri.weakD {P : Program} {f : FuncId} {ps qs : List SV} {hp : Hp} {post : SV → Prop} (h : Tri P f qs hp post) (hw : WkSL ps qs) : Tri P f ps hp post := by
  intro w ρ vs a b c
  refine h w ρ vs a ?_ c
  obtain ⟨e1, e2⟩ := WkSL_at _ _ hw
  refine ⟨b.1.trans e1, fun j s v hs hv => ?_⟩
  obtain ⟨x, x1, x2⟩ := e2 j s hs
  exact WkS_ok x2 (b.2 j x v x1 hv)
/-- A result of which less is said. -/
theorem Tri.res {P : Program} {f : FuncId} {as : List SV} {hp : Hp} {post post' : SV → Prop} (h : Tri P f as hp post) (hw : ∀ s, post s → post' s ∨ ∃ a b, s = .d a ∧ WkD a b ∧ post' (.d b)) : Tri P f as hp post' :=
  fun w ρ vs a b c => (h w ρ vs a b c).mono fun _ _ ⟨v, S', s, h1, h2, h3, h4, h5, h6, h7⟩ => by
    rcases hw s h2 with hp' | ⟨x, y, rfl, q, hp'⟩
    · exact ⟨v, S', s, h1, hp', h3, h4, h5, h6, h7⟩
    · cases h7 with
      | d _ _ h7 => exact ⟨v, S', .d y, h1, hp', h3, h4, h5, h6, .d _ _ (WkD_ok h7 _ q)⟩
end Go.Proofs.Ytljlhoekpjkgoaa
