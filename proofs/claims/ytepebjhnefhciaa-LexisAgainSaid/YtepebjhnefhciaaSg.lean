/-
  Symbolic memory: new rows of the call's own; fewer objects.
  Conditions: none.
-/
import Derived.Test.YtepebjhnefhciaaSf
namespace Go.Proofs.Ytepebjhnefhciaa
open Go.RowKit

theorem Mem.sub {E : Entry} {ρ : Env} {hp hp' : Hp} {w : World} (h : Mem E ρ hp w) (hs : ∀ id o, getH hp' id = some o → getH hp id = some o) : Mem E ρ hp' w :=
  ⟨h.os, h.tape, h.output, h.size, h.old, h.sold, h.snew, h.slt, h.kp, fun id o ho => h.sat id o (hs id o ho), fun id o id' o' g a b => h.inj id o id' o' g (hs _ _ a) (hs _ _ b),
    fun id o g a => h.hb id o g (hs _ _ a), h.mv, fun id t cs g a b id' o' c => h.ro id t cs g (hs _ _ a) b id' o' (hs _ _ c)⟩

def delH : Hp → Nat → Hp
  | [], _ => []
  | (k, o) :: r, t => if k = t then delH r t else (k, o) :: delH r t

def delHK : Hp → Nat → (Hp → Prop) → Prop
  | [], _, K => K []
  | (k, o) :: r, t, K => if k = t then delHK r t K else delHK r t fun r' => K ((k, o) :: r')
theorem delHK_eq : ∀ (hp : Hp) (t : Nat) (K : Hp → Prop), delHK hp t K = K (delH hp t) := by
  intro hp
  induction hp with
  | nil => intro t K; rfl
  | cons p r ih =>
    obtain ⟨k, o⟩ := p
    intro t K
    simp only [delHK, delH]
    split
    · rw [ih]
    · rw [ih]

theorem getH_delH (hp : Hp) (id i : Nat) : getH (delH hp id) i = if i = id then none else getH hp i := by
  induction hp with
  | nil => simp [delH, getH]
  | cons p r ih =>
    obtain ⟨k, o⟩ := p
    by_cases e : k = id
    · subst e
      simp only [delH, if_true, ih, getH]
      by_cases e' : i = k
      · simp [e']
      · simp [e', Ne.symm e']
    · simp only [delH, e, if_false, getH]
      by_cases e' : k = i
      · subst e'; simp [e]
      · simp [e', ih]

theorem Mem.del {E : Entry} {ρ : Env} {hp : Hp} {w : World} (h : Mem E ρ hp w) (id : Nat) : Mem E ρ (delH hp id) w :=
  h.sub fun i o ho => by
    rw [getH_delH] at ho
    split at ho
    · cases ho
    · exact ho

theorem own_mk_sl {w' : World} {S S' : Nat → Nat → Prop} {w : World} {e z : Nat} {v' : Value} {rows : List (List D)} {vs : List Value} (hown : w'.ownsRow 0 e z v' rows.length vs) (hfl : Flat w S z rows vs)
    (hS : ∀ g, v'.ownBlock = some g → ∀ k, k < rows.length * z → S' g k) (hr : ∀ x v, RepD w S x v → RepD w' S' x v) : RepD w' S' (.sl z rows) v' := by
  rcases own_eq hown with ⟨e1, e2⟩ | ⟨g, cap, e1, hc1, hc2⟩
  · have hnil : rows = [] := List.eq_nil_of_length_eq_zero e2
    rw [hnil, e1]
    exact RepD.mk_sl (b := 0) (off := 0) (by simp) (by simp) (fun hne => absurd rfl hne) ⟨by simp, by simp⟩ (by simp)
  · have hview : View w' S' z rows g 0 := by
      refine hfl.view (fun k u hu => ?_) (fun k hk => ?_) hr
      · rw [Nat.zero_add]; exact own_cells hown (g := g) (by rw [e1]; rfl) k u hu
      · rw [Nat.zero_add]
        refine hS g (by rw [e1]; rfl) k ?_
        rw [hfl.len] at hk
        exact hk
    have hfin : RepD w' S' (.sl z rows) (.slice (some ⟨g, 0, none⟩) rows.length cap) := RepD.mk_sl (b := g) (off := 0) hc1 hc2 (fun _ => rfl) hview rfl
    rw [← e1] at hfin
    exact hfin

theorem Mem.newOwn {E : Entry} {ρ : Env} {hp : Hp} {w w' : World} (h : Mem E ρ hp w) {id e z : Nat} {rows : List (List D)} {vs : List Value} {v' : Value} (hg : Grew w w')
    (hown : w'.ownsRow 0 e z v' rows.length vs) (hnew : ∀ g, v'.ownBlock = some g → w.heap.size ≤ g) (hfl : Flat w ρ.S z rows vs) (hid : id ∉ idsH hp) (hpin : id ∉ E.pin) :
    Mem E (ρ.grown id rows.length z v') ((id, .own e z rows.length) :: hp) w' ∧ (∀ fr tm, id ∉ idsF fr → FSat ρ w fr tm → FSat (ρ.grown id rows.length z v') w' fr tm) ∧
      Rep w' (ρ.grown id rows.length z v') (.osl id z rows) v' := by
  have hk : Keeps ρ.S w w' := hg.keeps h.slt
  have hSS : ∀ b k, ρ.S b k → (ρ.grown id rows.length z v').S b k := fun b k hs => .inl hs
  have hmv : ∀ i, i ≠ id → ρ.moved (ρ.grown id rows.length z v') i := fun i hi => ⟨rfl, .inl (by simp [Env.grown, hi])⟩
  have hat : ∀ i o, i ≠ id → (ρ.grown id rows.length z v').at i o = ρ.at i o := by
    intro i o hi
    cases o <;> simp [Env.at, Env.grown, hi]
  have hatid : (ρ.grown id rows.length z v').at id (.own e z rows.length) = v'.ownBlock := by simp [Env.at, Env.grown]
  have hget : ∀ i o, getH ((id, HObj.own e z rows.length) :: hp) i = some o → (i = id ∧ o = .own e z rows.length) ∨ (i ≠ id ∧ getH hp i = some o) := by
    intro i o ho
    by_cases e : i = id
    · subst e; simp [getH] at ho; exact .inl ⟨rfl, ho.symm⟩
    · rw [getH_cons_ne (fun h => e h.symm)] at ho; exact .inr ⟨e, ho⟩
  have hlt' : ∀ b, v'.ownBlock = some b → b < w'.heap.size := fun b hb => (hown.lt b hb).2
  refine ⟨⟨hg.os.trans h.os, hg.tape.trans h.tape, hg.output.trans h.output, Nat.le_trans h.size hg.size, ?_, ?_, ?_, ?_, h.kp.trans h.sold hk, ?_, ?_, ?_, ?_, ?_⟩, ?_, ?_⟩
  · exact fun b hb hB => (hg.block b (Nat.lt_of_lt_of_le hb h.size)).trans (h.old b hb hB)
  · exact fun b k hs => .inl (h.sold b k hs)
  · rintro b k (hs | ⟨hs, _⟩) hb hB
    · exact h.snew b k hs hb hB
    · have := hnew b hs; have := h.size; omega
  · rintro b k (hs | ⟨hs, _⟩)
    · exact Nat.lt_of_lt_of_le (h.slt b k hs) hg.size
    · exact hlt' b hs
  · intro i o ho
    rcases hget i o ho with ⟨rfl, rfl⟩ | ⟨e1, ho1⟩
    · refine ⟨by simp [Env.grown], vs, by simpa [Env.grown] using hown, ?_, hfl.one⟩
      intro g hgg k hk'
      simp only [Env.grown, if_true] at hgg hk' ⊢
      rcases hk' with hs | ⟨_, hs⟩
      · have := hnew g hgg; have := h.slt g k hs; omega
      · exact hs
    · refine (h.sat i o ho1).keep hk hSS ?_ (by simp [Env.grown, e1]) ?_ ?_
      · rintro j hj
        exact hmv j fun e' => hid (e' ▸ ids_of_getH ho1 hj)
      · rintro g (hg' | ⟨hg', t, cs, rfl⟩)
        · exact hg.block g (h.blk_lt ho1 hg')
        · exact hg.block g (h.ro_lt ho1 hg')
      · rintro g hg' k (hs | ⟨hs, _⟩)
        · exact hs
        · have := hnew g hs; have := h.blk_lt ho1 hg'; omega
  · intro i o i' o' g ho ho' hg1 hg2
    rcases hget i o ho with ⟨e1, rfl⟩ | ⟨e1, ho1⟩
    · rcases hget i' o' ho' with ⟨e2, rfl⟩ | ⟨e2, ho2⟩
      · rw [e1, e2]
      · rw [e1, hatid] at hg1
        rw [hat i' o' e2] at hg2
        have := hnew g hg1; have := h.blk_lt ho2 hg2; omega
    · rw [hat i o e1] at hg1
      rcases hget i' o' ho' with ⟨e2, rfl⟩ | ⟨e2, ho2⟩
      · rw [e2, hatid] at hg2
        have := hnew g hg2; have := h.blk_lt ho1 hg1; omega
      · rw [hat i' o' e2] at hg2
        exact h.inj i o i' o' g ho1 ho2 hg1 hg2
  · intro i o g ho hg1
    rcases hget i o ho with ⟨e1, rfl⟩ | ⟨e1, ho1⟩
    · rw [e1, hatid] at hg1
      have := hnew g hg1; have := h.size; left; omega
    · rw [hat i o e1] at hg1
      exact h.hb i o g ho1 hg1
  · exact fun i hi => Env.moved_trans (h.mv i hi) (hmv i fun e => hpin (e ▸ hi))
  · intro i t' cs' g ho hg1 i' o' ho' hg2
    rcases hget i _ ho with ⟨_, hc⟩ | ⟨e1, ho1⟩
    · cases hc
    · have hg1' : ρ.blk i = some g := hg1
      rcases hget i' o' ho' with ⟨e2, rfl⟩ | ⟨e2, ho2⟩
      · rw [e2, hatid] at hg2
        have := hnew g hg2; have := h.ro_lt ho1 hg1'; omega
      · rw [hat i' o' e2] at hg2
        exact h.ro i t' cs' g ho1 hg1' i' o' ho2 hg2
  · exact fun fr tm hf hfs => hfs.mono hk hSS fun i hi => hmv i fun e => hf (e ▸ hi)
  · refine .osl id z rows v' ?_ (by simp [Env.grown]) (by simp [Env.grown])
    exact own_mk_sl hown hfl (fun g hgg k hk' => .inr ⟨hgg, hk'⟩) fun x v hx => hx.mono hk hSS

/-- A nil slice as a row of the call's own. -/
theorem Mem.newNil {E : Entry} {ρ : Env} {hp : Hp} {w : World} (h : Mem E ρ hp w) {id : Nat} (e z : Nat) (hid : id ∉ idsH hp) (hpin : id ∉ E.pin) :
    Mem E (ρ.grown id 0 z (.slice none 0 0)) ((id, .own e z 0) :: hp) w ∧ (∀ fr tm, id ∉ idsF fr → FSat ρ w fr tm → FSat (ρ.grown id 0 z (.slice none 0 0)) w fr tm) ∧
      Rep w (ρ.grown id 0 z (.slice none 0 0)) (.osl id z []) (.slice none 0 0) :=
  h.newOwn (rows := []) (vs := []) (Grew.refl w) (World.ownsRow_nil w 0 e z) (by simp [Value.ownBlock]) (Flat.nil w ρ.S z) hid hpin

end Go.Proofs.Ytepebjhnefhciaa
