/-
  Rows that the call may write are stable from here on: data. A contract by a walk through the body whose own objects are numbered from a number. Rename: the table of names, concepts and axioms with other names.
  Conditions: none.
-/
import Derived.Test.YtnemengadjimcaaDoorMSyd
import Derived.Test.YtnemengadjimcaaDoorMTcr
import Derived.Test.YtnemengadjimcaaDoorMSyb
import Derived.Test.YtnemengadjimcaaDoorMA7
set_option linter.unnecessarySimpa false
set_option linter.unusedSectionVars false
set_option linter.unusedSimpArgs false
set_option linter.unusedVariables false
namespace Go.Proofs.YtnemengadjimcaaDoor
open Go.Proofs
theorem Mem.froze {E : Entry} {ρ : Env} {hp hp' : Hp} {w : World} (h : Mem E ρ hp w) {id e z cap : Nat} {rows : List (List D)} (ho : getH hp id = some (.mrow e z cap rows)) (hsub : subH hp' hp) (hno : getH hp' id = none) :
    ∃ S' : Nat → Nat → Prop, (∀ b i, ρ.S b i → S' b i) ∧ Mem E (ρ.withS S') hp' w ∧ RepD w S' (.sl z rows) (ρ.tv id) := by
  have hat : ∀ b, mblk (ρ.tv id) = some b → ρ.at id (.mrow e z cap rows) = some b := fun b hb => hb
  have hs0 : ∀ i o, getH hp' i = some o → getH hp i = some o := subH_ok _ _ hsub
  have hne : ∀ i o, getH hp' i = some o → i ≠ id := fun i o hi e => by rw [e, hno] at hi; cases hi
  refine ⟨fun b i => ρ.S b i ∨ (mblk (ρ.tv id) = some b ∧ i < rows.length * z), fun b i hs => .inl hs, ?_, ?_⟩
  · refine ⟨h.os, h.tape, h.output, h.size, h.old, fun b i hs => .inl (h.sold b i hs), ?_, ?_, h.kp, ?_, fun i o i' o' g hi hi' => h.inj i o i' o' g (hs0 i o hi) (hs0 i' o' hi'), fun i o g hi => h.hb i o g (hs0 i o hi), fun i hi => Env.moved_trans (h.mv i hi) (ρ.moved_withS _ i), ?_, h.md⟩
    · rintro b i (hs | ⟨hb, _⟩) hlt hB
      · exact h.snew b i hs hlt hB
      · rcases h.hb id _ b ho (hat b hb) with h1 | h1
        · omega
        · exact absurd h1 hB
    · rintro b i (hs | ⟨hb, _⟩)
      · exact h.slt b i hs
      · exact h.blk_lt ho (hat b hb)
    · intro i o hi
      refine (h.sat i o (hs0 i o hi)).keep (fun _ _ _ => rfl) (fun b i hs => .inl hs) (fun i _ => ρ.moved_withS _ i) ⟨rfl, rfl⟩ (fun g _ => rfl) ?_
      rintro g hg j (hs | ⟨hb, _⟩)
      · exact hs
      · exact absurd (h.inj i o id _ g (hs0 i o hi) ho hg (hat g hb)) (hne i o hi)
    · intro i oR g hi hrd hg i' o' hi'
      exact h.ro i oR g (hs0 _ _ hi) hrd hg i' o' (hs0 _ _ hi')
  · obtain ⟨_, h2⟩ := h.sat id _ ho
    rcases h2 with ⟨rfl, _, A, e1⟩ | ⟨hc, g, cur, e1, q1, q2, q3, q4, q6, q7⟩
    · rw [e1]
      exact RepD.mk_sl (b := 0) (off := 0) (by simp) (by simp) (fun hne => absurd rfl hne) ⟨by simp, by simp⟩ (by simp)
    · have hb : mblk (ρ.tv id) = some g := by
        rw [e1]; have : cap ≠ 0 := by omega
        simp [mblk, this]
      have key : RepD w (fun b i => ρ.S b i ∨ (mblk (ρ.tv id) = some b ∧ i < rows.length * z)) (.sl z rows) (.slice (some ⟨g, 0, none⟩) rows.length cap) := by
        refine RepD.mk_sl (b := g) (off := 0) q2 q3 (fun _ => rfl) ?_ rfl
        refine q6.view (fun k v hv => ?_) (fun k hk => ?_) (fun x v hx => hx.mono (fun _ _ _ => rfl) fun b i hs => .inl hs)
        · rw [Nat.zero_add, cell_of_row w g k cur e (0, 0) q1]
          rw [List.getElem?_take] at hv
          split at hv
          · simpa using hv
          · cases hv
        · rw [Nat.zero_add]
          right
          refine ⟨hb, ?_⟩
          rw [q6.len] at hk; exact hk
      rw [e1] at key ⊢
      exact key
theorem CallVC.froz {P : Program} {pin : List Nat} {fr : Fr} {hp hp' : Hp} {f : FuncId} {asv : List SV} {K : SV → Hp → Prop} (j id : Nat) {e z cap n : Nat} {rows : List (List D)} (ho : getH hp id = some (.mrow e z cap rows)) (hn : n = rows.length) (hj : asv[j]? = some (.mw id z n))
    (hsub : subH hp' hp) (hno : getH hp' id = none) (h : CallVC P pin fr hp' f (asv.set j (.d (.sl z rows))) K) : CallVC P pin fr hp f asv K := by
  intro E ρ w tm hpin h3 h4 vs hargs
  obtain ⟨S', s1, s2, s3⟩ := h3.froze ho hsub hno
  obtain ⟨q1, _⟩ := h3.sat id _ ho
  refine h E _ w tm hpin s2 (h4.mono (fun _ _ _ => rfl) s1 fun i _ => ρ.moved_withS S' i) vs ⟨by simpa using hargs.1, ?_⟩
  intro k s v hs hv
  by_cases e : j = k
  · subst e
    have hjl := (List.getElem?_eq_some_iff.1 hj).1
    rw [List.getElem?_set_self hjl] at hs
    injection hs with hs
    subst hs
    obtain ⟨A, c, _, _, _, _, _, e2⟩ := (hargs.2 j _ v hj hv).mw_inv
    have := e2 (hn.trans q1.symm)
    subst this
    exact .d _ _ s3
  · rw [List.getElem?_set_ne e] at hs
    exact (hargs.2 k s v hs hv).mono (fun _ _ _ => rfl) s1 fun i _ => ρ.moved_withS S' i
theorem SemVC.froz {C : Cfg} {c : Code} {fr : Fr} {hp hp' : Hp} {K : Ex → Fr → Hp → Prop} (t id : Nat) {e z cap n : Nat} {rows : List (List D)} (ht : getF fr t = some (.mw id z n)) (ho : getH hp id = some (.mrow e z cap rows)) (hn : n = rows.length)
    (hsub : subH hp' hp) (hno : getH hp' id = none) (h : SemVC C c ((t, .d (.sl z rows)) :: fr) hp' K) : SemVC C c fr hp K := by
  intro E a w hpin hrd hsat
  obtain ⟨h1, h2, ρ, h3, h4⟩ := hsat
  obtain ⟨S', s1, s2, s3⟩ := h3.froze ho hsub hno
  obtain ⟨q1, _⟩ := h3.sat id _ ho
  refine h E a w hpin hrd ⟨h1, h2, _, s2, ?_⟩
  intro k s hs
  simp only [getF] at hs
  by_cases e : t = k
  · rw [if_pos e] at hs
    injection hs with hs
    subst hs; subst e
    obtain ⟨v, hv, hr⟩ := h4 t _ ht
    obtain ⟨A, c, _, _, _, _, _, e2⟩ := hr.mw_inv
    have := e2 (hn.trans q1.symm)
    subst this
    exact ⟨_, hv, .d _ _ s3⟩
  · rw [if_neg e] at hs
    obtain ⟨v, hv, hr⟩ := h4 k _ hs
    exact ⟨v, hv, hr.mono (fun _ _ _ => rfl) s1 fun i _ => ρ.moved_withS S' i⟩
end Go.Proofs.YtnemengadjimcaaDoor
namespace Go.Proofs.YtnemengadjimcaaDoor
open Go.RowKit
section
variable {P : Program}
theorem tri_of_bodyO (off : Nat) (zc : Bool) (frz : List Nat) {ti : TypeId → Option TI} (hti : TyOK P ti) {f : FuncId} {fn : Func} {c : Code} (hf : P.funcs[f]? = some fn) (hb : fn.body = some c) (keep : Nat → Bool) (pin : List Nat) (args : List SV) (hp : Hp) (post : SV → Prop)
    (hn : args.length ≤ fn.ntmps) (hnd : (hp.map (·.1)).Nodup) (hx : X ⟨P, ti, pin, fn.ntmps, keep, off, none, zc, frz⟩ c (argFr 0 args) (roH hp) (retVC ti fn.results.toList post)) : Tri P f args hp post := by
  intro w ρ vs hslt hargs hro
  refine callsIn_FW (r := none) (n := 0) |>.1 (callsIn_of_wp_marks hf hb trivial ?_)
  have hm : Mem ⟨w, ρ.S, fun _ => False, pin, ρ, none, [], 0⟩ ρ (roH hp) w := by
    have hat : ∀ id o, getH (roH hp) id = some o → ρ.at id o = none := by
      intro id o ho
      rcases getH_roH hp id o hnd ho with ⟨t, cs, rfl, _⟩ | ⟨g, z, rows, rfl, _⟩ | ⟨X, rfl, _⟩
      · rfl
      · rfl
      · rfl
    refine ⟨rfl, rfl, .refl _, Nat.le_refl _, fun _ _ _ => rfl, fun _ _ h => h, fun _ _ h _ _ => h, hslt, fun _ _ _ => rfl, ?_, ?_, ?_, fun id _ => ρ.moved_refl id, ?_, fun b hb => by cases hb⟩
    · intro id o ho
      rcases getH_roH hp id o hnd ho with ⟨t, cs, rfl, h | h⟩ | ⟨g, z, rows, rfl, h⟩ | ⟨X, rfl, h | h⟩
      · exact hro id _ h
      · exact hro id _ h
      · exact hro id _ h
      · exact hro id _ h
      · exact hro id _ h
    · intro id o id' o' g h1 _ h3 _; rw [hat id o h1] at h3; cases h3
    · intro id o g h1 h3; rw [hat id o h1] at h3; cases h3
    · intro id x g _ _ _ id' o' h3 h4; rw [hat id' o' h3] at h4; cases h4
  have hfs : FSat ρ w (argFr 0 args) (vs ++ Array.replicate (fn.ntmps - vs.size) undef) := by
    intro t s ht
    obtain ⟨_, h2⟩ := getF_argFr args 0 t s ht
    simp only [Nat.sub_zero] at h2
    have hlt := (List.getElem?_eq_some_iff.1 h2).1
    have hlt' : t < vs.size := by rw [hargs.1]; exact hlt
    refine ⟨vs[t], ?_, hargs.2 t s _ h2 (Array.getElem?_eq_getElem hlt')⟩
    rw [Array.getElem?_append_left hlt', Array.getElem?_eq_getElem hlt']
  refine wpIn_mono (X_sound (C := ⟨P, ti, pin, fn.ntmps, keep, off, none, zc, frz⟩) hti c _ _ _ hx ⟨w, ρ.S, fun _ => False, pin, ρ, none, [], 0⟩ _ w rfl rfl ⟨?_, rfl, ρ, hm, hfs⟩) ?_
  · simp only [Array.size_append, Array.size_replicate]
    have := hargs.1
    omega
  · rintro e a' w' ⟨x, fr', hp', E', hE, hrel, hk, hnt, hdf, ρ', hm', hf'⟩
    obtain ⟨own, o1, o2, o3, o4, o5⟩ := take_own hE rfl
    have fin : resVC ti fr' hp' fn.results.toList (fun l => thawLK hp' l fun l => (oneOf l).ids = [] ∧ post (oneOf l)) → LeavesInM (FW none) 0 P fn a'.tmps (fun e w' => ∃ v S' s, e = .returned v ∧ post s ∧ Grew w w' ∧ (∀ b i, ρ.S b i → S' b i) ∧ (∀ b i, S' b i → ρ.S b i ∨ w.heap.size ≤ b) ∧ (∀ b i, S' b i → b < w'.heap.size) ∧ Rep w' (ρ.withS S') s v) a'.defers .returning w' := by
      intro hk
      rw [hdf, o2]
      refine shutAll own E' w' hm' ⟨_, o1, o5⟩ o4 o3 ?_
      rintro E'' w'' ⟨q1, q2, q3, q4, q5, q6⟩ hm'' hkp
      have hf'' : FSat ρ' w'' fr' a'.tmps := hf'.mono hkp (fun _ _ x => x) fun i _ => ρ'.moved_refl i
      obtain ⟨us, l, r1, r2, r3, r4⟩ := res_ok hti hm'' hf'' _ _ hk
      obtain ⟨l', ⟨k1, k2⟩, k3, k4⟩ := thawLK_ok hm'' l us _ r2 r3 r4
      have eW : E''.w = w := q1.trans hE.w
      have eS : E''.S = ρ.S := q2.trans hE.S
      have eB : E''.B = fun _ => False := q3.trans hE.B
      refine ⟨_, run_results r1, _, Sfz ρ' hp', oneOf l', rfl, k2, ⟨by rw [hm''.os, eW], by rw [hm''.tape, eW], by have := hm''.output; rw [eW] at this; exact this, by have := hm''.size; rw [eW] at this; exact this, fun b hb => ?_⟩, fun b i hs => .inl (hm''.sold b i (by rw [eS]; exact hs)), ?_, ?_, ?_⟩
      · have := hm''.old b (by rw [eW]; exact hb) (by rw [eB]; exact fun h => h)
        rw [eW] at this; exact this
      · rintro b i (hs | ⟨id, e, z, cap, rows, ho, hb, _⟩)
        · rcases Nat.lt_or_ge b w.heap.size with hlt | hge
          · left
            have := hm''.snew b i hs (by rw [eW]; exact hlt) (by rw [eB]; exact fun h => h)
            rw [eS] at this; exact this
          · exact .inr hge
        · rcases hm''.hb id _ b ho hb with hge | hB
          · rw [eW] at hge; exact .inr hge
          · rw [eB] at hB; exact hB.elim
      · rintro b i (hs | ⟨id, e, z, cap, rows, ho, hb, _⟩)
        · exact hm''.slt b i hs
        · exact hm''.blk_lt ho hb
      · refine (rep_oneOf (w := w'') (ρ := ρ'.withS (Sfz ρ' hp')) (l := l') (by rw [k3]; exact r2) k4).mono (fun _ _ _ => rfl) (fun _ _ h => h) fun id hid => ?_
        rw [k1] at hid
        cases hid
    cases x <;> cases e <;> simp only [Ex.rel] at hrel <;> simp only [retVC] at hk
    · exact fin hk
    · exact hk.elim
    · exact hk.elim
    · exact fin hk
end
end Go.Proofs.YtnemengadjimcaaDoor
namespace Go.Proofs.YtnemengadjimcaaDoor
open Go.Proofs
set_option maxRecDepth 10000
attribute [local irreducible] SemVC CallVC Tri Stuck YVC GenP GenVC
theorem fF_nil : idsF [] = [] := rfl
theorem fF_cons (k : Nat) (s : SV) (r : Fr) : idsF ((k, s) :: r) = s.ids ++ idsF r := rfl
theorem fH_nil : idsH [] = [] := rfl
theorem fH_cons (k : Nat) (o : HObj) (r : Hp) : idsH ((k, o) :: r) = (k :: o.ids) ++ idsH r := rfl
theorem ids_ofV2 (v : Value) : (ofV v).ids = [] := by
  unfold ofV
  split <;> (try split) <;> rfl
theorem idsL_d : ∀ l : List D, SV.idsL (l.map SV.d) = []
  | [] => rfl
  | _ :: r => idsL_d r
theorem wkMw {i z a b : Nat} (h : a = b) : Wk (.mw i z a) (.mw i z b) := by subst h; exact rfl
theorem nmX {t : Nat} {r : Hp} (h : t ∉ idsH r) {B : Prop} (b : B) : t ∉ idsH r ∧ B := ⟨h, b⟩
theorem frX {id : Nat} {pin : List Nat} {fr : Fr} {hp : Hp} (h : fresh id pin fr hp) {B : Prop} (b : B) : fresh id pin fr hp ∧ B := ⟨h, b⟩
theorem pairT : PairT Tryd.prog 55 3 9 := pairT_of hty rfl (by kernel_rfl) rfl rfl
def entR (l : List Rn) : List (Ky × SV) := l.map fun r => (keyO r, SV.d (.str r.new))
theorem idsE_entR (l : List Rn) : idsE (entR l) = [] := by
  induction l with
  | nil => rfl
  | cons k r ih => exact ih
def tblO (l : List Rn) (g : List Nat × Nat) : HObj := .ext (mapX pairD (entR l) g.1 g.2)
def tblX (l : List Rn) (g : List Nat × Nat) : HObj := .rox (mapX pairD (entR l) g.1 g.2)
theorem tblO_ids (l : List Rn) (g : List Nat × Nat) : (tblO l g).ids = [] := idsE_entR l
theorem tblX_ids (l : List Rn) (g : List Nat × Nat) : (tblX l g).ids = [] := idsE_entR l
theorem mget_entR (k : Int) (s : List UInt8) : ∀ l : List Rn, mget (entR l) (k, s) = (l.find? fun r => decide (r.kind = k) && decide (r.old = s)).map fun r => SV.d (.str r.new)
  | [] => rfl
  | x :: r => by
    have ih := mget_entR k s r
    unfold entR at *
    rw [List.map_cons, mget]
    by_cases h : (k, s) = keyO x
    · rw [if_pos h, List.find?_cons_of_pos]
      · rfl
      · unfold keyO at h
        rw [Prod.mk.injEq] at h
        simp [h.1, h.2]
    · rw [if_neg h, ih, List.find?_cons_of_neg]
      intro h2
      simp only [Bool.and_eq_true, decide_eq_true_eq] at h2
      exact h (by unfold keyO; rw [h2.1, h2.2])
theorem mset_entR (x : Rn) : ∀ l : List Rn, (∀ r ∈ l, keyO r ≠ keyO x) → mset (entR l) (keyO x) (SV.d (.str x.new)) = entR (l ++ [x])
  | [], _ => rfl
  | y :: r, h => by
    have ih := mset_entR x r fun z hz => h z (by simp [hz])
    unfold entR at *
    rw [List.map_cons, mset]
    have hx : ¬ keyO x = keyO y := fun e => h y (by simp) e.symm
    rw [if_neg hx, ih]
    rfl
theorem nameR_look (l : List Rn) (k : Int) (s : List UInt8) : (mget (entR l) (k, s) = none ∧ nameR l k s = s) ∨ ∃ t, mget (entR l) (k, s) = some (.d (.str t)) ∧ nameR l k s = t := by
  rw [mget_entR]
  unfold nameR
  cases l.find? fun r => decide (r.kind = k) && decide (r.old = s) with
  | none => exact .inl ⟨rfl, rfl⟩
  | some r => exact .inr ⟨r.new, rfl, rfl⟩
def tabH (b m : Nat) (l : List Rn) (g : List Nat × Nat) : Hp := [(b, .ro 56 [.xv m mapV]), (m, tblX l g)]
def RelO : HObj → HObj → Prop
  | .ro t cs, .cells t' cs' => t = t' ∧ cs = cs'
  | .rox X, .ext Y => X = Y
  | a, b => a = b
def RelH : Hp → Hp → Prop
  | [], [] => True
  | (a, o) :: r, (b, o') :: s => a = b ∧ RelO o o' ∧ RelH r s
  | _, _ => False
theorem relO_ro {w : World} {ρ : Env} {id : Nat} {o o' : HObj} (h : RelO o o') (hr : RO w ρ id o') : RO w ρ id o := by
  cases o <;> cases o' <;> simp only [RelO] at h <;> first | (obtain ⟨rfl, rfl⟩ := h; exact hr) | (subst h; exact hr) | (injection h; done) | (cases h; exact hr) | (cases h)
theorem relH_get {id : Nat} : ∀ {hp hp' : Hp} {o : HObj}, RelH hp hp' → getH hp id = some o → ∃ o', getH hp' id = some o' ∧ RelO o o'
  | [], [], o, _, h => by simp [getH] at h
  | (a, x) :: r, (b, y) :: s, o, hr, h => by
    obtain ⟨rfl, h1, h2⟩ := hr
    simp only [getH] at h ⊢
    by_cases e : a = id
    · rw [if_pos e] at h ⊢
      injection h with h
      subst h
      exact ⟨y, rfl, h1⟩
    · rw [if_neg e] at h ⊢
      exact relH_get h2 h
  | [], _ :: _, _, hr, _ => hr.elim
  | _ :: _, [], _, hr, _ => hr.elim
theorem Tri.rel {P : Program} {f : FuncId} {args : List SV} {hp : Hp} (hp' : Hp) {post : SV → Prop} (h : Tri P f args hp post) (hr : RelH hp hp') : Tri P f args hp' post := by
  unfold Tri at h ⊢
  intro w ρ vs h1 h2 h3
  refine h w ρ vs h1 h2 fun id o ho => ?_
  obtain ⟨o', e1, e2⟩ := relH_get hr ho
  exact relO_ro e2 (h3 id o' e1)
theorem tname_23 (l : List Rn) (g : List Nat × Nat) (k : Int) (s : List UInt8) : Tri Tryd.prog 19 [.d (.int .i64 k), .d (.str s), .ptr 23 0] (tabH 23 33 l g) (fun r => r = .d (.str (nameR l k s))) := by
  have hl := nameR_look l k s
  have hX : (mapX pairD (entR l) g.1 g.2).ids = [] := tblX_ids l g
  unfold tabH tblX
  refine tri_of_bodyO 0 false [] hty Tryd.func19 rfl (kp [0, 1, 2, 5, 6, 7, 16]) [] _ _ _ (by simp [Tryd.f19]) (by simp) ?_
  ((conv => whnf); repeat ((first | (intro hq; try simp only [lnS] at hq) | refine sI ?_ | refine .intro _ (.intro rfl ?_)); (conv => whnf)))
  refine lookup_mapR (k := (k, s)) (z := .string ⟨#[]⟩) rfl rfl (keyT_pair pairT) rfl rfl rfl rfl ?_
  rcases hl with ⟨h1, h2⟩ | ⟨t, h1, h2⟩
  · rw [h1, h2]
    ((conv => whnf); repeat' ((first | (intro hq; (try simp only [lnS] at hq); (try rewrite [List.length_map])) | refine sJ ?_ | refine .intro _ (.intro rfl ?_) | (refine .intro (show (_ : Nat) < List.length _ from by first | omega | (simp only [lnS]; omega) | simp) ?_) | fail | refine draw_rule hty (by kernel_rfl) (by kernel_rfl) ?_ | ((first | refine brB_dec ?_ ?_ | refine brB_ndec ?_ ?_) <;> intro hb <;> (first | contradiction | ((try simp only [lnS] at hb); try (exfalso; omega)))) | (refine brB_split ?_ ?_ <;> intro hb <;> (first | contradiction | exact bT hb (by assumption) | exact bF hb (by assumption) | skip))) <;> (conv => whnf)))
    all_goals rfl
  · rw [h1, h2]
    ((conv => whnf); repeat' ((first | (intro hq; (try simp only [lnS] at hq); (try rewrite [List.length_map])) | refine sJ ?_ | refine .intro _ (.intro rfl ?_) | (refine .intro (show (_ : Nat) < List.length _ from by first | omega | (simp only [lnS]; omega) | simp) ?_) | fail | refine draw_rule hty (by kernel_rfl) (by kernel_rfl) ?_ | ((first | refine brB_dec ?_ ?_ | refine brB_ndec ?_ ?_) <;> intro hb <;> (first | contradiction | ((try simp only [lnS] at hb); try (exfalso; omega)))) | (refine brB_split ?_ ?_ <;> intro hb <;> (first | contradiction | exact bT hb (by assumption) | exact bF hb (by assumption) | skip))) <;> (conv => whnf)))
    all_goals rfl
theorem tname_28 (l : List Rn) (g : List Nat × Nat) (k : Int) (s : List UInt8) : Tri Tryd.prog 19 [.d (.int .i64 k), .d (.str s), .ptr 28 0] (tabH 28 38 l g) (fun r => r = .d (.str (nameR l k s))) := by
  have hl := nameR_look l k s
  have hX : (mapX pairD (entR l) g.1 g.2).ids = [] := tblX_ids l g
  unfold tabH tblX
  refine tri_of_bodyO 0 false [] hty Tryd.func19 rfl (kp [0, 1, 2, 5, 6, 7, 16]) [] _ _ _ (by simp [Tryd.f19]) (by simp) ?_
  ((conv => whnf); repeat ((first | (intro hq; try simp only [lnS] at hq) | refine sI ?_ | refine .intro _ (.intro rfl ?_)); (conv => whnf)))
  refine lookup_mapR (k := (k, s)) (z := .string ⟨#[]⟩) rfl rfl (keyT_pair pairT) rfl rfl rfl rfl ?_
  rcases hl with ⟨h1, h2⟩ | ⟨t, h1, h2⟩
  · rw [h1, h2]
    ((conv => whnf); repeat' ((first | (intro hq; (try simp only [lnS] at hq); (try rewrite [List.length_map])) | refine sJ ?_ | refine .intro _ (.intro rfl ?_) | (refine .intro (show (_ : Nat) < List.length _ from by first | omega | (simp only [lnS]; omega) | simp) ?_) | fail | refine draw_rule hty (by kernel_rfl) (by kernel_rfl) ?_ | ((first | refine brB_dec ?_ ?_ | refine brB_ndec ?_ ?_) <;> intro hb <;> (first | contradiction | ((try simp only [lnS] at hb); try (exfalso; omega)))) | (refine brB_split ?_ ?_ <;> intro hb <;> (first | contradiction | exact bT hb (by assumption) | exact bF hb (by assumption) | skip))) <;> (conv => whnf)))
    all_goals rfl
  · rw [h1, h2]
    ((conv => whnf); repeat' ((first | (intro hq; (try simp only [lnS] at hq); (try rewrite [List.length_map])) | refine sJ ?_ | refine .intro _ (.intro rfl ?_) | (refine .intro (show (_ : Nat) < List.length _ from by first | omega | (simp only [lnS]; omega) | simp) ?_) | fail | refine draw_rule hty (by kernel_rfl) (by kernel_rfl) ?_ | ((first | refine brB_dec ?_ ?_ | refine brB_ndec ?_ ?_) <;> intro hb <;> (first | contradiction | ((try simp only [lnS] at hb); try (exfalso; omega)))) | (refine brB_split ?_ ?_ <;> intro hb <;> (first | contradiction | exact bT hb (by assumption) | exact bF hb (by assumption) | skip))) <;> (conv => whnf)))
    all_goals rfl
def conH (l : List Rn) (g : List Nat × Nat) : Hp := (3, .ro 41 [.fn 19 [] [.ptr 23 0]]) :: (5, .ro 77 [.fn 34 [] [.ptr 3 0, .ptr 5 0]]) :: tabH 23 33 l g
set_option maxHeartbeats 16000000 in
theorem rcon_spec (l : List Rn) (g : List Nat × Nat) : ∀ (c : Cn) (_ : sizeF c ≤ 1000000), Tri Tryd.prog 34 [.d (.agg (cnR c)), .ptr 3 0, .ptr 5 0] (conH l g) (fun r => r = .d (.agg (cnR (renC (nameR l) c)))) := by
  refine Cn.ind ?_
  intro c ih hs
  have hsz := sizeF_eq c
  have hpl := len_nodesL c.parts
  have hX : (mapX pairD (entR l) g.1 g.2).ids = [] := tblX_ids l g
  have e0 := renC_eq (nameR l) c
  rw [cnR_eq c, cnR_eq (renC (nameR l) c), e0]
  have n1 := tname_23 l g 1 c.name
  have n2 := tname_23 l g 2 c.name
  have n3 := tname_23 l g 3 c.name
  have n4 := tname_23 l g 4 c.name
  unfold conH tabH tblX
  unfold conH tabH tblX at ih
  unfold tabH tblX at n1 n2 n3 n4
  generalize mapX pairD (entR l) g.1 g.2 = X at *
  have hkk : (c.kind = 3 ∧ renN (nameR l) c.kind c.name = nameR l 1 c.name) ∨ (c.kind = 6 ∧ renN (nameR l) c.kind c.name = nameR l 2 c.name) ∨ (c.kind = 7 ∧ renN (nameR l) c.kind c.name = nameR l 3 c.name) ∨ (c.kind = 4 ∧ renN (nameR l) c.kind c.name = nameR l 4 c.name) ∨ ((c.kind ≠ 3 ∧ c.kind ≠ 6 ∧ c.kind ≠ 7 ∧ c.kind ≠ 4) ∧ renN (nameR l) c.kind c.name = c.name) := by
    unfold renN
    by_cases k3 : c.kind = 3
    · rw [if_pos k3]; exact .inl ⟨k3, rfl⟩
    by_cases k6 : c.kind = 6
    · rw [if_neg k3, if_pos k6]; exact .inr (.inl ⟨k6, rfl⟩)
    by_cases k7 : c.kind = 7
    · rw [if_neg k3, if_neg k6, if_pos k7]; exact .inr (.inr (.inl ⟨k7, rfl⟩))
    by_cases k4 : c.kind = 4
    · rw [if_neg k3, if_neg k6, if_neg k7, if_pos k4]; exact .inr (.inr (.inr (.inl ⟨k4, rfl⟩)))
    · rw [if_neg k3, if_neg k6, if_neg k7, if_neg k4]; exact .inr (.inr (.inr (.inr ⟨⟨k3, k6, k7, k4⟩, rfl⟩)))
  obtain ⟨nm, hnm⟩ : ∃ nm, nm = renN (nameR l) c.kind c.name := ⟨_, rfl⟩
  rw [← hnm] at hkk e0 ⊢
  have he : (Cn.mk c.kind nm c.lo c.hi (c.parts.map (renC (nameR l)))).parts = c.parts.map (renC (nameR l)) := rfl
  rcases hkk with ⟨hk, hn⟩ | ⟨hk, hn⟩ | ⟨hk, hn⟩ | ⟨hk, hn⟩ | ⟨⟨hk1, hk2, hk3, hk4⟩, hn⟩
  all_goals (
    rw [hn]
    refine tri_of_bodyO 10 false [7] hty Tryd.func34 rfl (kp [0, 1, 2, 3, 4, 5, 7, 9, 10, 17, 24, 31, 39, 40, 41, 42]) [] _ _ _ (by simp [Tryd.f34]) (by simp) ?_
    ((conv => whnf); repeat' ((first | (intro hq; (try simp only [lnS] at hq); (try rewrite [List.length_map])) | refine sJ ?_ | refine .intro _ (.intro rfl ?_) | (refine .intro (show (_ : Nat) < List.length _ from by first | omega | (simp only [lnS]; omega) | simp) ?_) | (refine frX (by refine ⟨?_, ?_, ?_⟩ <;> simp [fF_nil, fF_cons, fH_nil, fH_cons, HObj.ids, SV.ids, SV.idsL, argFr, roH, hX, ids_ofV2]) ?_) | (refine nmX (by simp [fF_nil, fF_cons, fH_nil, fH_cons, HObj.ids, SV.ids, SV.idsL, argFr, roH, hX, ids_ofV2]) ?_) | (refine call_tri [(23, _), (33, .rox X)] n1 ⟨rfl, rfl, trivial⟩ (fun r hs => ?_); subst hs) | (refine call_tri [(23, _), (33, .rox X)] n2 ⟨rfl, rfl, trivial⟩ (fun r hs => ?_); subst hs) | (refine call_tri [(23, _), (33, .rox X)] n3 ⟨rfl, rfl, trivial⟩ (fun r hs => ?_); subst hs) | (refine call_tri [(23, _), (33, .rox X)] n4 ⟨rfl, rfl, trivial⟩ (fun r hs => ?_); subst hs) | refine draw_rule hty (by kernel_rfl) (by kernel_rfl) ?_ | ((first | refine brB_dec ?_ ?_ | refine brB_ndec ?_ ?_) <;> intro hb <;> (first | contradiction | ((try simp only [lnS] at hb); try (exfalso; omega)))) | (refine brB_split ?_ ?_ <;> intro hb <;> (first | contradiction | exact bT hb (by assumption) | exact bF hb (by assumption) | skip))) <;> (conv => whnf)))
    rw [← hn]
    refine SemVC.mown 5 120 33 5 rfl (by refine ⟨?_, ?_, ?_⟩ <;> simp [fF_nil, fF_cons, fH_nil, fH_cons, HObj.ids, SV.ids, SV.idsL, argFr, roH, hX, ids_ofV2]) ?_
    refine loop_rule hty (fun y : Nat × Nat => ([(1, .ptr 3 0), (2, .ptr 5 0), (3, .ptr 13 0), (4, .ptr 14 0), (5, .mw 120 5 y.1), (39, .d (.sl 5 (c.parts.map cnR))), (40, .d (.int .i64 c.parts.length)), (41, .d (.int .i64 y.1))], [(120, .mrow 33 5 y.2 ((c.parts.take y.1).map fun p => cnR (renC (nameR l) p))), (13, .cells 33 [.d (.int .i64 c.kind), .d (.str (nm)), .d (.int .i64 c.lo), .d (.int .i64 c.hi), .d (.sl 5 (c.parts.map cnR))]), (14, .cells 33 [.d (.int .i64 0), .d (.str []), .d (.int .i64 0), .d (.int .i64 0), .d .nil]), (3, .ro 41 [.fn 19 [] [.ptr 23 0]]), (5, .ro 77 [.fn 34 [] [.ptr 3 0, .ptr 5 0]]), (23, .ro 56 [.xv 33 mapV]), (33, .rox X)])) (fun y => y.1 ≤ c.parts.length) (fun y => c.parts.length - y.1) (0, 0) (by dsimp only; omega) ⟨by repeat' (first | exact trivial | exact rfl | (rw [List.length_map]; exact rfl) | refine And.intro ?_ ?_), by repeat' (first | exact trivial | exact rfl | refine And.intro ?_ ?_)⟩ ?_
    rintro ⟨j, cap⟩ hj
    dsimp only at hj
    ((conv => whnf); repeat ((first | (refine frX (by refine ⟨?_, ?_, ?_⟩ <;> simp [fF_nil, fF_cons, fH_nil, fH_cons, HObj.ids, SV.ids, SV.idsL, argFr, roH, hX, ids_ofV2]) ?_) | (refine nmX (by simp [fF_nil, fF_cons, fH_nil, fH_cons, HObj.ids, SV.ids, SV.idsL, argFr, roH, hX, ids_ofV2]) ?_) | (intro hq; try simp only [lnS] at hq) | refine sI ?_ | refine .intro _ (.intro rfl ?_)); (conv => whnf)))
    refine brB_dec (fun h1 => ?_) (fun h1 => ?_)
    · have hjl : j < c.parts.length := by dsimp only at h1; omega
      have hrow' : (c.parts.map cnR)[(j : Int).toNat]? = some (cnR c.parts[j]) := rowC_at hjl
      have hp := sizeF_part (List.getElem_mem (l := c.parts) hjl)
      have hi := ih c.parts[j] (List.getElem_mem hjl) (by omega)
      have hcR := cnR_eq (renC (nameR l) c.parts[j])
      rw [cnR_eq] at hrow' hi
      rw [hcR] at hi
      ((conv => whnf); repeat' ((first | (intro hq; (try simp only [lnS] at hq); (try rewrite [List.length_map])) | refine sJ ?_ | refine .intro _ (.intro rfl ?_) | (refine .intro (show (_ : Nat) < List.length _ from by first | omega | (simp only [lnS]; omega) | simp) ?_) | (refine frX (by refine ⟨?_, ?_, ?_⟩ <;> simp [fF_nil, fF_cons, fH_nil, fH_cons, HObj.ids, SV.ids, SV.idsL, argFr, roH, hX, ids_ofV2]) ?_) | (refine nmX (by simp [fF_nil, fF_cons, fH_nil, fH_cons, HObj.ids, SV.ids, SV.idsL, argFr, roH, hX, ids_ofV2]) ?_) | (refine ⟨_, hrow', ?_⟩) | (refine call_tri [(3, _), (5, _), (23, _), (33, .rox X)] hi ⟨rfl, rfl, rfl, rfl, trivial⟩ (fun r hs => ?_); subst hs) | refine draw_rule hty (by kernel_rfl) (by kernel_rfl) ?_ | ((first | refine brB_dec ?_ ?_ | refine brB_ndec ?_ ?_) <;> intro hb <;> (first | contradiction | ((try simp only [lnS] at hb); try (exfalso; omega)))) | (refine brB_split ?_ ?_ <;> intro hb <;> (first | contradiction | exact bT hb (by assumption) | exact bF hb (by assumption) | skip))) <;> (conv => whnf)))
      have hlt : ((c.parts.take j).map fun p => cnR (renC (nameR l) p)).length = j := by rw [List.length_map, List.length_take]; omega
      have hrows : ((c.parts.take (j + 1)).map fun p => cnR (renC (nameR l) p)) = ((c.parts.take j).map fun p => cnR (renC (nameR l) p)) ++ [cnR (renC (nameR l) c.parts[j])] := by
        rw [List.take_succ_eq_append_getElem hjl, List.map_append, List.map_cons, List.map_nil]
      rw [hcR] at hrows
      have hlj : (c.parts.take j).length = j := by rw [List.length_take]; omega
      rename_i cap'
      refine ⟨(j + 1, cap'), by dsimp only; omega, by dsimp only; omega, (by repeat' (first | exact trivial | exact rfl | exact wkMw (by (try dsimp only); simp only [List.length_set, List.length_map, List.length_take, List.length_replicate, List.length_cons, List.length_nil]; omega) | refine And.intro ?_ ?_)), ?_⟩
      dsimp only
      rw [hrows]
      repeat' (first | exact trivial | exact rfl | refine And.intro ?_ ?_)
    · have hjl : j = c.parts.length := by dsimp only at h1; omega
      subst hjl
      rw [List.take_length]
      ((conv => whnf); repeat' ((first | (intro hq; (try simp only [lnS] at hq); (try rewrite [List.length_map])) | refine sJ ?_ | refine .intro _ (.intro rfl ?_) | (refine .intro (show (_ : Nat) < List.length _ from by first | omega | (simp only [lnS]; omega) | simp) ?_) | (refine frX (by refine ⟨?_, ?_, ?_⟩ <;> simp [fF_nil, fF_cons, fH_nil, fH_cons, HObj.ids, SV.ids, SV.idsL, argFr, roH, hX, ids_ofV2]) ?_) | (refine nmX (by simp [fF_nil, fF_cons, fH_nil, fH_cons, HObj.ids, SV.ids, SV.idsL, argFr, roH, hX, ids_ofV2]) ?_) | (refine frX (by refine ⟨?_, ?_, ?_⟩ <;> simp [fF_nil, fF_cons, fH_nil, fH_cons, HObj.ids, SV.ids, SV.idsL, argFr, roH, hX, ids_ofV2]) ?_) | (refine nmX (by simp [fF_nil, fF_cons, fH_nil, fH_cons, HObj.ids, SV.ids, SV.idsL, argFr, roH, hX, ids_ofV2]) ?_) | refine draw_rule hty (by kernel_rfl) (by kernel_rfl) ?_ | ((first | refine brB_dec ?_ ?_ | refine brB_ndec ?_ ?_) <;> intro hb <;> (first | contradiction | ((try simp only [lnS] at hb); try (exfalso; omega)))) | (refine brB_split ?_ ?_ <;> intro hb <;> (first | contradiction | exact bT hb (by assumption) | exact bF hb (by assumption) | skip))) <;> (conv => whnf)))
      refine ⟨(List.length_map ..).symm, ?_⟩
      ((conv => whnf); repeat ((first | (refine frX (by refine ⟨?_, ?_, ?_⟩ <;> simp [fF_nil, fF_cons, fH_nil, fH_cons, HObj.ids, SV.ids, SV.idsL, argFr, roH, hX, ids_ofV2]) ?_) | (refine nmX (by simp [fF_nil, fF_cons, fH_nil, fH_cons, HObj.ids, SV.ids, SV.idsL, argFr, roH, hX, ids_ofV2]) ?_) | (intro hq; try simp only [lnS] at hq) | refine sI ?_ | refine .intro _ (.intro rfl ?_)); (conv => whnf)))
      exact congrArg (fun z => SV.d (.agg [.int .i64 c.kind, .str nm, .int .i64 c.lo, .int .i64 c.hi, .sl 5 z])) (List.map_map (f := renC (nameR l)) (g := cnR) (l := c.parts)).symm)
end Go.Proofs.YtnemengadjimcaaDoor
