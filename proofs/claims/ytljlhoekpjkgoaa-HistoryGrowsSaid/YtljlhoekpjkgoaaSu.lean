/-
  The closing: a contract over data without addresses proves a law's call over every input.
  Conditions: none.
-/
import Derived.Test.YtljlhoekpjkgoaaSt
import Derived.Handed
import Derived.ProofKit
namespace Go.Proofs.Ytljlhoekpjkgoaa
open Go.RowKit Go.ChangeShapes

section
variable {H : Type} {enc : TypeId × Value → H} {P : Program}

theorem Grew.below0 {W W' : World} (h : Grew W W') : Below W.heap.size W W' := ⟨h.os, h.tape, h.output.1, h.size, h.block⟩

theorem Grew.kept {W W' : World} (h : Grew W W') (may : MemPlace → Prop) : W.keptBut W' may := by
  refine ⟨h.os, h.output.1, fun i hi => ?_⟩
  rw [h.block i hi]
  split
  · rename_i h1 h2
    rw [h1] at h2
    injection h2 with h2
    injection h2 with e1 e2 e3
    subst e1 e2 e3
    exact ⟨rfl, rfl, rfl, fun _ _ => rfl⟩
  · rename_i h1 h2
    rw [h1] at h2
    injection h2 with h2
    injection h2 with e1 e2
    exact .inr ⟨e1.symm, e2.symm⟩
  · rfl

theorem trodAll_stays (hl : laidOutB P = true) {W W' : World} (hb : Below W.heap.size W W') : ∀ (ts : List TypeId) (vs : List Value) (ds : List (DataW H)) (ps : List MemPlace), (∀ t ∈ ts, P.readableRec t = true ∧ t < P.types.size) →
    DataW.TrodAll enc P W 0 (fun _ => true) true ts vs ds ps → (∀ x ∈ ps, x.block < W.heap.size) → DataW.TrodAll enc P W' 0 (fun b => decide (b < W.heap.size)) true ts vs ds ps := by
  intro ts
  induction ts with
  | nil =>
    intro vs ds ps _ h _
    obtain ⟨rfl, rfl, rfl⟩ := trodAll_nil h
    rfl
  | cons t r ih =>
    intro vs ds ps hr h hlt
    obtain ⟨v, vs1, d, ds1, a, b, rfl, rfl, rfl, h1, h2⟩ := trodAll_cons h
    refine ⟨a, b, Below.trod hl (hr t (List.mem_cons_self ..)).1 (hr t (List.mem_cons_self ..)).2 h1 hb (fun x hx => hlt x (List.mem_append_left _ hx)), ih vs1 ds1 b (fun u hu => hr u (List.mem_cons_of_mem _ hu)) h2 (fun x hx => hlt x (List.mem_append_right _ hx)), rfl⟩

/-- An argument of a type, symbolically: one datum, or a struct's cells. -/
def argOf (P : Program) (t : TypeId) (ds : List D) : SV :=
  match P.underlying t with
  | some (.struct _) => .d (.agg ds)
  | some (.array _ _) => .d (.agg ds)
  | _ => match ds with | [d] => .d d | _ => .d (.lit undef)

/-- The data that come in by the types. -/
inductive ArgsD (P : Program) : List TypeId → List SV → Prop
  | nil : ArgsD P [] []
  | cons {t : TypeId} {ts : List TypeId} {ds : List D} {n : Nat} {as : List SV} (h : TyD P n t ds) (r : ArgsD P ts as) : ArgsD P (t :: ts) (argOf P t ds :: as)

theorem args_of_trodAll {T : TypeId → Prop} (hT : Cl P T) {W : World} {base : Nat} : ∀ (ts : List TypeId) (vs : List Value) (ds : List (DataW H)) (ps : List MemPlace), (∀ t ∈ ts, T t) →
    DataW.TrodAll enc P W 0 (fun _ => true) true ts vs ds ps → (∀ (j : Nat) t v, ts[j]? = some t → vs[j]? = some v → Value.okWide P W .any base t v) →
    ∃ as, ArgsD P ts as ∧ as.length = vs.length ∧ ∀ (ρ : Env), ρ.S = below W → ∀ (j : Nat) (s : SV) (v : Value), as[j]? = some s → vs[j]? = some v → Rep W ρ s v := by
  intro ts
  induction ts with
  | nil =>
    intro vs ds ps _ h _
    obtain ⟨rfl, rfl, rfl⟩ := trodAll_nil h
    exact ⟨[], .nil, rfl, by simp⟩
  | cons t r ih =>
    intro vs ds ps hTs h hok
    obtain ⟨v, vs1, d, ds1, a, b, rfl, rfl, rfl, h1, h2⟩ := trodAll_cons h
    obtain ⟨as, a1, a2, a3⟩ := ih vs1 ds1 b (fun u hu => hTs u (List.mem_cons_of_mem _ hu)) h2 (fun j t v x y => hok (j + 1) t v (by simpa using x) (by simpa using y))
    obtain ⟨fuel, hf⟩ := h1
    obtain ⟨cs, c1, c2⟩ := rep_of_trod hT fuel t _ _ (hTs t (List.mem_cons_self ..)) hf
    have hv := hok 0 t v rfl rfl
    refine ⟨argOf P t cs :: as, .cons c1 a1, by simp [a2], fun ρ hS j s u hs hu => ?_⟩
    cases j with
    | succ j => exact a3 ρ hS j s u (by simpa using hs) (by simpa using hu)
    | zero =>
      simp at hs hu
      subst hs hu
      have hagg : ∀ vs : Array Value, v = .agg vs → Rep W ρ (.d (.agg cs)) v := by
        rintro vs rfl
        refine .d _ _ (.agg cs vs ?_ ?_)
        · simpa [Value.cells] using c2.1.symm
        · intro j x u hx hu
          rw [hS]
          exact (c2.2 j x u hx (by simpa [Value.cells] using hu)).1
      unfold argOf
      split
      · rename_i fs hu
        simp only [Value.okWide, hu] at hv
        obtain ⟨vs, rfl, _⟩ := hv
        exact hagg vs rfl
      · rename_i n e hu
        simp only [Value.okWide, hu] at hv
        obtain ⟨vs, rfl, _⟩ := hv
        exact hagg vs rfl
      · rename_i hn1 hn2
        split
        · rename_i d'
          have hl := c2.1
          have hcell : v.cells = #[v] := by
            cases v with
            | agg cs =>
              exfalso
              have hc := hT t (hTs t (List.mem_cons_self ..))
              cases hu : P.underlying t with
              | none => rw [hu] at hc; exact hc
              | some ud =>
                rw [hu] at hc
                simp only [Value.okWide, hu] at hv
                cases ud with
                | struct fs => exact hn1 fs hu
                | array n e => exact hn2 n e hu
                | _ => first | exact hc.elim | simp [Cell.okWide, hu, Cell.ok] at hv
            | _ => rfl
          rw [hcell] at c2
          have := c2.2 0 d' v rfl rfl
          exact .d _ _ (by rw [hS]; exact this.1)
        · rename_i hno
          exfalso
          have hc := hT t (hTs t (List.mem_cons_self ..))
          cases fuel with
          | zero => simp [TyD] at c1
          | succ fuel =>
            simp only [TyD] at c1
            cases hu : P.underlying t with
            | none => rw [hu] at hc; exact hc
            | some ud =>
              rw [hu] at hc c1
              cases ud with
              | bool => obtain ⟨_, rfl⟩ := c1; exact hno _ rfl
              | int k => obtain ⟨_, rfl, _⟩ := c1; exact hno _ rfl
              | string => obtain ⟨_, rfl, _⟩ := c1; exact hno _ rfl
              | slice e => obtain ⟨_, rfl, _⟩ := c1; exact hno _ rfl
              | struct fs => exact hn1 fs hu
              | array n e => exact hn2 n e hu
              | _ => exact hc.elim

/-- A law whose call comes back true over all data, comes back true over every input, and leaves it as it was. -/
theorem law_contract {T : TypeId → Prop} (hT : Cl P T) (hl : laidOutB P = true) {f : FuncId} {fn : Func} {s : ChangeSpec} {tb : TypeId} (hr : fn.resultTypes = #[tb]) (hb : P.underlying tb = some .bool)
    (hTs : ∀ t ∈ fn.params.toList, T t) (hrd : ∀ t ∈ fn.params.toList, P.readableRec t = true ∧ t < P.types.size) (hvars : s.vars = [])
    (hs : ∀ ds : List (DataW H), ds.length = fn.params.size → s.fn H ds = { results := [.lit (.bool true)], args := ds })
    (tri : ∀ as, ArgsD P fn.params.toList as → Tri P f as [] (fun r => r = .d (.bool true)))
    (W : World) (base : Nat) (args : Array Value) (ds gs : List (DataW H)) (before : List MemPlace)
    (hval : ∀ (j : Nat) t v, fn.params[j]? = some t → args[j]? = some v → Value.okWide P W .any base t v)
    (hW : DataW.Whole enc P fn.params.toList s.vars false W args.toList ds gs before) :
    Calls P f args W fun e W' => ∃ v, e = .returned v ∧ s.post enc P fn false true false false W args v W' := by
  have hlt := hW.lt
  have hW0 := hW
  obtain ⟨p, q, hA, hV, rfl, _, _⟩ := hW
  rw [hvars] at hV
  obtain ⟨rfl, rfl⟩ := trodVars_none hV
  obtain ⟨as, a1, a2, a3⟩ := args_of_trodAll (base := base) hT _ _ _ _ hTs hA (fun j t v x y => hval j t v (by simpa using x) (by simpa using y))
  let ρ : Env := ⟨below W, fun _ => none, fun _ => 0, fun _ => undef⟩
  refine (tri as a1 W ρ args (fun b i h => h) ⟨by simpa using a2.symm, fun j x v h1 h2 => a3 ρ rfl j x v h1 (by simpa using h2)⟩ (fun id o h => by simp [getH] at h)).mono ?_
  rintro e W' ⟨v, S', r, rfl, rfl, hg, _, _, _, hrep⟩
  have hv := hrep.bool_inv
  subst hv
  have hlen : ds.length = fn.params.size := by
    have : ∀ (ts : List TypeId) (vs : List Value) (ds : List (DataW H)) (ps : List MemPlace), DataW.TrodAll enc P W 0 (fun _ => true) true ts vs ds ps → ds.length = ts.length := by
      intro ts
      induction ts with
      | nil => intro vs ds ps h; obtain ⟨rfl, rfl, rfl⟩ := trodAll_nil h; rfl
      | cons t r ih =>
        intro vs ds ps h
        obtain ⟨v, vs1, d, ds1, a, b, rfl, rfl, rfl, h1, h2⟩ := trodAll_cons h
        simp [ih _ _ _ h2]
    simpa using this _ _ _ _ hA
  refine ⟨_, rfl, ds, [], _, [], p, [], hW0, ?_, ?_, ?_, hg.kept _, fun h => by cases h⟩
  · rw [List.append_nil, hs ds hlen, hr]
    exact ⟨[], [], shut_bool hb _, rfl, rfl⟩
  · rw [List.append_nil, hs ds hlen]
    exact trodAll_stays hl hg.below0 _ _ _ _ hrd hA (fun x hx => hlt x (List.mem_append_left _ hx))
  · rw [List.append_nil, hs ds hlen, hvars]; rfl
end
end Go.Proofs.Ytljlhoekpjkgoaa
