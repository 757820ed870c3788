/-
  Statements whose order is open, and that make memory, append, call or store: the rule.
  Conditions: none.
-/
import Derived.Test.YtnemengadjimcaaDoorMSq
set_option linter.unnecessarySimpa false
set_option linter.unusedSectionVars false
set_option linter.unusedSimpArgs false
set_option linter.unusedVariables false
namespace Go.Proofs.YtnemengadjimcaaDoor
open Go.RowKit
section
variable {P : Program}
def ordB (ops : Array Oper) : List Nat → Array Bool → Bool → Bool
  | [], listed, _ => (Region.ready .any ops listed).isEmpty
  | i :: r, listed, late =>
    (match ops[i]? with
    | none => false
    | some o =>
      (match kd o.op with
      | 0 => (Region.ready .any ops listed).contains i && Region.free .any ops listed i
      | 1 => (!late && (Region.ready .any ops listed).contains i && Region.free .any ops listed i &&
          (List.range ops.size).all fun j => listed.getD j true || (match ops[j]? with | some oj => kd oj.op != 3 || oj.after.any (fun e => Region.binds .any e && e.on == i) | none => true)) ||
          (Region.ready .any ops listed == [i])
      | 2 => !late && (Region.ready .any ops listed == [i])
      | _ => o.guard.isNone && (Region.ready .any ops listed == [i])) &&
      ordB ops r (listed.setIfInBounds i true) (late || kd o.op == 3))
def dcallVC (P : Program) (fr : Fr) (hp : Hp) (f : Operand) (args : List Operand) (K : SV → Prop) : Prop :=
  ev fr f fun s => match fnOf s with
    | some (g, first, cap) => (match evL fr args with
      | some l => callable P g = true ∧ ∃ hpc post, subH hpc hp ∧ Tri P g (first ++ l ++ cap) hpc post ∧ ∀ r, post r → K r
      | none => Stuck "call: an argument")
    | none => Stuck "call: no function"
def addVC (op : BinOp) (fr : Fr) (x y : Operand) (K : SV → Prop) : Prop :=
  ev fr x fun s => ev fr y fun r => match s, r with
    | .d (.int k a), .d (.int k' b) => intBin op k a k' b K
    | .d (.str a), .d (.str b) => strBin op a b K
    | _, _ => Stuck "add"
theorem ok_add {o : Oper} {op : BinOp} {t t' : TypeId} {x y : Operand} (ho : o.op = .binOp op t x y t') {fr : Fr} {K : SV → Prop} (h : addVC op fr x y K) {ρ : Env} {a : Act} {w : World} (hf : FSat ρ w fr a.tmps) :
    ∃ v s, (∀ w', (execOp a.eval o).run P w' = .ok (.value v) w') ∧ Rep w ρ s v ∧ K s := by
  obtain ⟨s, hs, hv0⟩ := ev_ok h
  obtain ⟨r, hr, hv⟩ := ev_ok hv0
  clear hv0
  have h1 := evO_ok hf hs
  have h2 := evO_ok hf hr
  split at hv
  · obtain ⟨v, q, a1, a2, a3⟩ := run_intBin (P := P) t hv
    exact ⟨v, _, fun w' => by simp [execOp, ho, h1.int_inv, h2.int_inv, eqGuard_int, a1], .d _ _ (a3 w ρ.S), a2⟩
  · obtain ⟨v, q, a1, a2, a3⟩ := run_strBin (P := P) t hv
    exact ⟨v, _, fun w' => by simp [execOp, ho, h1.str_inv.1, h2.str_inv.1, eqGuard_str, a1], .d _ _ (a3 w ρ.S), a2⟩
  · exact hv.elim
def dVC (P : Program) (ti : TypeId → Option TI) (pin : List Nat) (fr : Fr) (hp : Hp) (dst : Nat) (o : Oper) (K : SV → Hp → Prop) : Prop :=
  match o.op with
  | .alloc t => (match ti t with
      | some T => fresh dst pin fr hp ∧ K (.ptr dst 0) ((dst, .cells t (T.zero.map .d)) :: hp)
      | none => Stuck "alloc: a type")
  | .box t x => ev fr x fun s => (match partCells s with
      | some cs => fresh dst pin fr hp ∧ dst ∉ SV.idsL cs ∧ K (.ptr dst 0) ((dst, .cells t cs) :: hp)
      | none => Stuck "box: cells")
  | .buildSlice t len parts => (match evP fr parts.toList with | some l => vBuildSlice ti t len dst l pin fr hp K | none => Stuck "buildSlice: a part")
  | .makeSlice t x y => ev fr x fun l => ev fr y fun c => vMake ti t dst l c pin fr hp K
  | .store t x y => ev fr x fun s => ev fr y fun r => storeVC ti t s r hp fun hp' => K (.d (.lit undef)) hp'
  | .call { callee := .builtin .append, args := ⟨[x, y]⟩, argTypes := ⟨[t, tx]⟩ } => ev fr x fun s => ev fr y fun r => appendK ti t tx dst s r pin fr hp K
  | .call { callee := .value f, args := args, argTypes := _ } => dcallVC P fr hp f args.toList fun s => K s hp
  | .call { callee := .builtin .copy, args := _, argTypes := _ } => GenVC P o pin fr hp K
  | .binOp .add _ x y _ => addVC .add fr x y fun s => K s hp
  | .binOp .sub _ x y _ => addVC .sub fr x y fun s => K s hp
  | _ => pureVC P ti fr hp o fun s => K s hp
theorem ok_dcall {o : Oper} {f : Operand} {args : Array Operand} {ts : Array TypeId} (ho : o.op = .call { callee := .value f, args := args, argTypes := ts }) {pin : List Nat} {fr : Fr} {hp : Hp} {K : SV → Hp → Prop}
    (h : dcallVC P fr hp f args.toList fun s => K s hp) : OpOKk P o pin fr hp K := by
  intro E ρ a w hpin hm hf next Q hn
  obtain ⟨s, hs, hv⟩ := ev_ok h
  have hr := evO_ok hf hs
  split at hv
  · rename_i g first cap hfn
    obtain ⟨fv, cv, e, h1, h2⟩ := fnOf_ok hfn hr
    split at hv
    · rename_i l hl
      obtain ⟨hcall, hpc, post, hsub, htri, hk⟩ := hv
      obtain ⟨l1, l2⟩ := evL_ok hf _ _ hl
      have hargs : ArgsRep w ρ (first ++ l ++ cap) (fv ++ args.map a.eval ++ cv) := by
        refine (h1.append ⟨?_, ?_⟩).append h2
        · simpa using l1
        · intro j s' v hs' hv'
          refine l2 j s' v hs' ?_
          rw [← Array.toList_map]; simpa using hv'
      unfold Oper.wp
      rw [run_call_enter ho e hcall]
      simp only [Oper.upon]
      refine (htri w ρ _ hm.slt hargs fun id o ho => (hm.sat id o (subH_ok _ _ hsub id o ho)).ro_).mono ?_
      rintro e' w' ⟨v, S', s', q1, q2, q3, q4, q5, q6, q7⟩
      subst q1
      obtain ⟨m1, m2⟩ := hm.grow q3 S' q4 q5 q6
      exact hn v w' _ s' hp (hk s' q2) m1 (m2 fr _ hf) q7 (KInfo.mk_ (hm.kept_grew q3) q4 fun id x g hx hg => ⟨hx, by cases x <;> exact hg⟩)
    · exact hv.elim
  · exact hv.elim
theorem pure_kd {ti : TypeId → Option TI} {fr : Fr} {hp : Hp} {o : Oper} {K : SV → Prop} (h : pureVC P ti fr hp o K) : kd o.op ≤ 1 := by
  unfold pureVC at h
  split at h <;> first | exact h.elim | (rename_i e; rw [e]; simp [kd]; done) | (rename_i e; rw [e]; unfold kd; split <;> first | exact Nat.zero_le _ | exact Nat.le_refl _ | (rename_i q; cases q))
theorem d_ok {ti : TypeId → Option TI} (hti : TyOK P ti) {o : Oper} {pin : List Nat} {fr : Fr} {hp : Hp} {dst : Nat} {K : SV → Hp → Prop} (h : dVC P ti pin fr hp dst o K) :
    (kd o.op ≤ 1 ∧ PureOK P o fr hp (fun s => K s hp) ∧ (kd o.op = 0 → ∀ (ρ : Env) (a : Act) (w : World) (v : Value), FSat ρ w fr a.tmps → (execOp a.eval o).run P w = .ok (.value v) w → ∀ w', (execOp a.eval o).run P w' = .ok (.value v) w')) ∨ (kd o.op = 2 ∧ OpOKk P o pin fr hp K) ∨ (kd o.op = 3 ∧ OpOK P o pin fr hp K) := by
  unfold dVC at h
  split at h
  · rename_i ho; exact .inr (.inl ⟨by rw [ho]; rfl, ok_alloc hti ho h⟩)
  · rename_i ho; exact .inr (.inl ⟨by rw [ho]; rfl, ok_box ho h⟩)
  · rename_i ho; exact .inr (.inl ⟨by rw [ho]; rfl, ok_buildSlice hti ho h⟩)
  · rename_i ho; exact .inr (.inl ⟨by rw [ho]; rfl, ok_make hti ho h⟩)
  · rename_i ho; exact .inr (.inr ⟨by rw [ho]; rfl, ok_storeVC hti ho h⟩)
  · rename_i ho; exact .inr (.inl ⟨by rw [ho]; rfl, ok_appendK hti ho h⟩)
  · rename_i ho; exact .inr (.inl ⟨by rw [ho]; rfl, ok_dcall ho h⟩)
  · rename_i ho; exact .inr (.inr ⟨by rw [ho]; rfl, h⟩)
  · rename_i ho
    exact .inl ⟨by rw [ho]; simp [kd], fun E ρ a w hm hf => by
      obtain ⟨v, s, q1, q2, q3⟩ := ok_add (P := P) ho h hf
      exact ⟨v, s, fun w' _ => q1 w', q2, q3⟩, fun _ ρ a w v hf hv w' => by
      obtain ⟨u, s, q1, _⟩ := ok_add (P := P) ho h hf
      rw [q1 w] at hv
      injection hv with hv
      rw [q1 w', hv]⟩
  · rename_i ho
    exact .inl ⟨by rw [ho]; simp [kd], fun E ρ a w hm hf => by
      obtain ⟨v, s, q1, q2, q3⟩ := ok_add (P := P) ho h hf
      exact ⟨v, s, fun w' _ => q1 w', q2, q3⟩, fun _ ρ a w v hf hv w' => by
      obtain ⟨u, s, q1, _⟩ := ok_add (P := P) ho h hf
      rw [q1 w] at hv
      injection hv with hv
      rw [q1 w', hv]⟩
  · rename_i n1 n2
    have hp := pure_ok hti (o := o) h
    refine .inl ⟨pure_kd h, hp, fun e0 ρ a w v hf h0 w' => ?_⟩
    have hany : ∀ x, (o.op = .move x ∨ o.op = .assign x) → ∀ w' : World, (execOp a.eval o).run P w' = .ok (.value (a.eval x)) w' := by
      rintro x (e | e) w' <;> simp [execOp, e]
    have hx : ∃ x, o.op = .move x ∨ o.op = .assign x := by
      generalize o.op = p at *
      unfold kd at e0
      split at e0 <;> first | exact ⟨_, .inl rfl⟩ | exact ⟨_, .inr rfl⟩ | (exfalso; exact n1 _ _ _ _ rfl) | (exfalso; exact n2 _ _ _ _ rfl) | cases e0
    obtain ⟨x, hx⟩ := hx
    rw [hany x hx w] at h0
    injection h0 with h0
    rw [hany x hx w', h0]
theorem wpE_Q {ops : Array Oper} {Q Q' : Act → World → Prop} (hQ : ∀ a w, Q a w → Q' a w) : ∀ (fuel : Nat) (Cl : World → Prop) (listed : Array Bool) (a : Act) (w : World), wpE P ops Q fuel Cl listed a w → wpE P ops Q' fuel Cl listed a w := by
  intro fuel
  induction fuel with
  | zero => intro Cl listed a w h; exact ⟨h.1, hQ _ _ h.2⟩
  | succ fuel ih =>
    intro Cl listed a w h
    refine ⟨fun h0 => hQ _ _ (h.1 h0), fun i hi => ?_⟩
    have := h.2 i hi
    split
    · rename_i ho; simp only [ho] at this; exact ih _ _ _ _ this
    · rename_i o ho
      simp only [ho] at this
      split
      · rename_i hw
        simp only [hw, if_true] at this
        refine wp_noX (fun a' w' hk => ?_) this
        split
        · rename_i h3; simp only [h3, if_true] at hk; exact ih _ _ _ _ hk
        · rename_i h3; simp only [h3, if_false] at hk; exact ⟨hk.1, ih _ _ _ _ hk.2⟩
      · rename_i hw; simp only [hw] at this; exact ih _ _ _ _ this
def dstep (C : Cfg) (all : List Oper) (i : Nat) (fr : Fr) (hp : Hp) (k : Fr → Hp → Prop) : Prop :=
  match all[i]? with
  | some o =>
    guarded all fr o.guard
      (fun fr => dVC C.P C.ti C.pin fr hp (C.off + o.dst.getD 0) o fun s hp' => put C o.dst s fr fun fr' => k fr' hp')
      (fun fr => put C o.dst (.d (.lit undef)) fr fun fr' => k fr' hp)
  | none => Stuck "no such operation"
def dopsVC (C : Cfg) (all : List Oper) (K : Fr → Hp → Prop) : List Nat → Fr → Hp → Prop
  | [], fr, hp => pruneK C.keep fr fun fr' => K fr' hp
  | i :: r, fr, hp => dstep C all i fr hp fun fr' hp' => dopsVC C all K r fr' hp'
theorem dops_sound {C : Cfg} (hti : TyOK C.P C.ti) {all : List Oper} {K : Fr → Hp → Prop} {E : Entry} (hpin : E.pin = C.pin) (hsel : Region.noSelect all.toArray = true) :
    ∀ (ord : List Nat) (listed : Array Bool) (late : Bool) (fr : Fr) (hp : Hp) (ρ : Env) (a : Act) (w : World), ordB all.toArray ord listed late = true → dopsVC C all K ord fr hp → Mem E ρ hp w → a.tmps.size = C.nt → a.defers = (E.D.take E.k).map markOf → FSat ρ w fr a.tmps →
    wpE C.P all.toArray (fun a w => ∃ fr hp, K fr hp ∧ Sat E C.nt ⟨fr, hp⟩ a w) ord.length (if late then fun _ => True else Kept ρ hp w) listed a w := by
  intro ord
  induction ord with
  | nil =>
    intro listed late fr hp ρ a w hB h hm h1 h2 h3
    simp only [ordB, List.isEmpty_iff] at hB
    simp only [dopsVC, pruneK_eq] at h
    exact ⟨hB, _, hp, h, h1, h2, ρ, hm, fun t s hts => h3 t s (getF_prune _ _ t s hts)⟩
  | cons i r ih =>
    intro listed late fr hp ρ a w hB h hm h1 h2 h3
    simp only [ordB] at hB
    simp only [dopsVC, dstep] at h
    split at h
    · rename_i o ho
      have ho' : all.toArray[i]? = some o := by simpa using ho
      simp only [ho', Bool.and_eq_true] at hB
      obtain ⟨hBk, hBr⟩ := hB
      obtain ⟨fr0, h3, hh⟩ := guarded_ok h h3
      have hcl : (if late then fun _ => True else Kept ρ hp w) w := by
        cases late
        · exact Kept.refl ρ hp w
        · trivial
      -- an operation that is alone
      have alone : ∀ (hone : Region.ready .any all.toArray listed = [i]) (Cl : World → Prop),
          (if Region.wanted o (yielded all.toArray a.tmps) then
            o.wp C.P a w (fun a' w' => if kd o.op = 3 then wpE C.P all.toArray (fun a w => ∃ fr hp, K fr hp ∧ Sat E C.nt ⟨fr, hp⟩ a w) r.length (fun _ => True) (listed.setIfInBounds i true) a' w' else Cl w' ∧ wpE C.P all.toArray (fun a w => ∃ fr hp, K fr hp ∧ Sat E C.nt ⟨fr, hp⟩ a w) r.length Cl (listed.setIfInBounds i true) a' w') noX
          else wpE C.P all.toArray (fun a w => ∃ fr hp, K fr hp ∧ Sat E C.nt ⟨fr, hp⟩ a w) r.length Cl (listed.setIfInBounds i true) (a.put o.dst undef) w) →
          wpE C.P all.toArray (fun a w => ∃ fr hp, K fr hp ∧ Sat E C.nt ⟨fr, hp⟩ a w) (i :: r).length Cl listed a w := by
        intro hone Cl hx
        refine ⟨fun h0 => (by rw [hone] at h0; cases h0), fun j hj => ?_⟩
        rw [hone] at hj
        simp at hj
        subst hj
        simp only [ho']
        exact hx
      -- an operation that may be taken first
      have quiet : ∀ (hk : kd o.op ≤ 1) (hnl : kd o.op = 1 → ¬ Region.ready .any all.toArray listed = [i]) (v : Value), YE C.P all.toArray (if late then fun _ => True else Kept ρ hp w) o v a → (kd o.op = 0 ∨ kd o.op = 1) →
          wpE C.P all.toArray (fun a w => ∃ fr hp, K fr hp ∧ Sat E C.nt ⟨fr, hp⟩ a w) r.length (if late then fun _ => True else Kept ρ hp w) (listed.setIfInBounds i true) (a.put o.dst v) w →
          wpE C.P all.toArray (fun a w => ∃ fr hp, K fr hp ∧ Sat E C.nt ⟨fr, hp⟩ a w) (i :: r).length (if late then fun _ => True else Kept ρ hp w) listed a w := by
        intro hk hnl v hy hk01 H
        have hpre : i ∈ Region.ready .any all.toArray listed ∧ Region.free .any all.toArray listed i = true ∧ (kd o.op ≠ 0 → ∀ j oj, all.toArray[j]? = some oj → listed.getD j true = false → kd oj.op = 3 → ∃ e ∈ oj.after, Region.binds .any e = true ∧ e.on = i) := by
          rcases hk01 with e | e
          · rw [e] at hBk
            simp only [Bool.and_eq_true, List.contains_iff_mem] at hBk
            exact ⟨hBk.1, hBk.2, fun h0 => absurd e h0⟩
          · have hnl := hnl e
            rw [e] at hBk
            simp only [Bool.and_eq_true, Bool.or_eq_true, beq_iff_eq, List.contains_iff_mem] at hBk
            obtain ⟨⟨⟨_, q1⟩, q2⟩, q3⟩ := hBk.resolve_right hnl
            refine ⟨q1, q2, fun _ j oj hj hun h3' => ?_⟩
            rw [List.all_eq_true] at q3
            have := q3 j (List.mem_range.2 (Array.getElem?_eq_some_iff.1 hj).1)
            simp only [hun, Bool.false_or, hj, h3', bne_self_eq_false] at this
            obtain ⟨e', he', hb'⟩ := Array.any_eq_true'.1 this
            simp only [Bool.and_eq_true, beq_iff_eq] at hb'
            exact ⟨e', he', hb'.1, hb'.2⟩
        exact wpE_first ho' hsel (by omega) r.length _ listed a w hcl (Region.free_spec ho' hpre.2.1) hpre.2.2 hpre.1 hy H
      rcases hh with ⟨hw, h⟩ | ⟨hw, h⟩
      · rcases d_ok hti h with ⟨hk, hd, hd0⟩ | ⟨hk, hd⟩ | ⟨hk, hd⟩
        · obtain ⟨v, s, q1, q2, q3⟩ := hd E ρ a w hm h3
          obtain ⟨fr', p1, p2⟩ := put_ok q3 h1 h3 q2
          have hne3 : (kd o.op == 3) = false := by simp; omega
          rw [hne3, Bool.or_false] at hBr
          have hk01 : kd o.op = 0 ∨ kd o.op = 1 := by omega
          by_cases hone : kd o.op = 1 ∧ Region.ready .any all.toArray listed = [i]
          · refine alone hone.2 _ ?_
            rw [if_pos hw]
            unfold Oper.wp
            rw [q1 w (Kept.refl ρ hp w)]
            simp only [Oper.upon]
            rw [if_neg (by omega)]
            exact ⟨hcl, ih _ late fr' hp ρ _ w hBr p1 hm (by rw [put_size]; exact h1) (by rw [put_defers]; exact h2) p2⟩
          have hnl : kd o.op = 1 → ¬ Region.ready .any all.toArray listed = [i] := fun a b => hone ⟨a, b⟩
          refine quiet hk hnl v (.inl ⟨hw, fun w' hc => ?_⟩) hk01 (ih _ late fr' hp ρ _ w hBr p1 hm (by rw [put_size]; exact h1) (by rw [put_defers]; exact h2) p2)
          by_cases e0 : kd o.op = 0
          · -- it moves a value: in every world
            exact hd0 e0 ρ a w v h3 (q1 w (Kept.refl ρ hp w)) w'
          · have hl : late = false := by
              have e1 : kd o.op = 1 := by omega
              have hnl := hnl e1
              rw [e1] at hBk
              simp only [Bool.and_eq_true, Bool.or_eq_true, beq_iff_eq, Bool.not_eq_true'] at hBk
              exact (hBk.resolve_right hnl).1.1.1
            subst hl
            rcases hc with hc | hc
            · exact q1 w' hc
            · exact absurd hc e0
        · have hl : late = false ∧ Region.ready .any all.toArray listed = [i] := by
            rw [hk] at hBk
            simp only [Bool.and_eq_true, Bool.not_eq_true', beq_iff_eq] at hBk
            exact hBk
          obtain ⟨rfl, hone⟩ := hl
          have hne3 : (kd o.op == 3) = false := by rw [hk]; rfl
          rw [hne3, Bool.or_false] at hBr
          refine alone hone _ ?_
          rw [if_pos hw]
          refine hd E ρ a w hpin hm h3 _ noX fun v w' ρ' s hp' k1 k2 k3 k4 k5 => ?_
          rw [if_neg (by rw [hk]; decide)]
          obtain ⟨fr', p1, p2⟩ := put_ok k1 h1 k3 k4
          have := ih _ false fr' hp' ρ' _ w' hBr p1 k2 (by rw [put_size]; exact h1) (by rw [put_defers]; exact h2) p2
          exact ⟨k5.k, wpE_mono _ _ _ _ _ _ k5.b this⟩
        · have hone : Region.ready .any all.toArray listed = [i] := by
            rw [hk] at hBk
            simp only [Bool.and_eq_true, beq_iff_eq] at hBk
            exact hBk.2
          have he3 : (kd o.op == 3) = true := by rw [hk]; rfl
          rw [he3, Bool.or_true] at hBr
          refine alone hone _ ?_
          rw [if_pos hw]
          refine hd E ρ a w hpin hm h3 _ noX fun v w' ρ' s hp' k1 k2 k3 k4 => ?_
          rw [if_pos hk]
          obtain ⟨fr', p1, p2⟩ := put_ok k1 h1 k3 k4
          exact ih _ true fr' hp' ρ' _ w' hBr p1 k2 (by rw [put_size]; exact h1) (by rw [put_defers]; exact h2) p2
      · obtain ⟨fr', p1, p2⟩ := put_ok h h1 h3 (Rep.d _ undef (.lit undef))
        by_cases hk : kd o.op ≤ 1
        · have hne3 : (kd o.op == 3) = false := by simp; omega
          rw [hne3, Bool.or_false] at hBr
          by_cases hone : kd o.op = 1 ∧ Region.ready .any all.toArray listed = [i]
          · refine alone hone.2 _ ?_
            rw [if_neg (by rw [hw]; decide)]
            exact ih _ late fr' hp ρ _ w hBr p1 hm (by rw [put_size]; exact h1) (by rw [put_defers]; exact h2) p2
          exact quiet hk (fun a b => hone ⟨a, b⟩) undef (.inr ⟨hw, rfl⟩) (by omega) (ih _ late fr' hp ρ _ w hBr p1 hm (by rw [put_size]; exact h1) (by rw [put_defers]; exact h2) p2)
        · have hone : kd o.op = 2 ∧ Region.ready .any all.toArray listed = [i] := by
            generalize kd o.op = n at hBk hk
            match n, hk with
            | 2, _ => simp only [Bool.and_eq_true, beq_iff_eq] at hBk; exact ⟨rfl, hBk.2⟩
            | n + 3, _ =>
              exfalso
              simp only [Bool.and_eq_true, beq_iff_eq, Option.isNone_iff_eq_none] at hBk
              simp [Region.wanted, hBk.1] at hw
          have hne3 : (kd o.op == 3) = false := by rw [hone.1]; rfl
          rw [hne3, Bool.or_false] at hBr
          refine alone hone.2 _ ?_
          rw [if_neg (by rw [hw]; decide)]
          exact ih _ late fr' hp ρ _ w hBr p1 hm (by rw [put_size]; exact h1) (by rw [put_defers]; exact h2) p2
    · exact h.elim
theorem ord_rule {C : Cfg} (hti : TyOK C.P C.ti) {id : Nat} {l : List Oper} {fr : Fr} {hp : Hp} {K : Ex → Fr → Hp → Prop} (ord : List Nat) (hm : C.P.follows .mixedOrders = true)
    (hB : (ord.length == l.length && Region.noSelect l.toArray && ordB l.toArray ord (Array.replicate l.length false) false && noDefer l) = true) (h : dopsVC C l (K .normal) ord fr hp) : SemVC C (.region id l.toArray true) fr hp K := by
  intro E a w hpin hrd ⟨h1, h2, ρ, h3, h4⟩
  simp only [Bool.and_eq_true, beq_iff_eq] at hB
  obtain ⟨⟨⟨b1, b2⟩, b3⟩, hnd⟩ := hB
  refine region_any_in hm hnd PostX.noOut ?_
  obtain ⟨m1, m2⟩ := h3.grow_same (Grew.drew w)
  have := dops_sound (C := C) hti (E := E) hpin b2 ord (Array.replicate l.length false) false fr hp ρ a _ b3 h m1 h1 h2 (m2 fr _ h4)
  have e : l.toArray.size = ord.length := by rw [b1]; rfl
  have h5 := wpAny_of_E (Q := PostX C E K) _ _ _ _ _ (wpE_Q (Q' := PostX C E K .normal) (fun a w ⟨fr', hp', k1, k2⟩ => ⟨.normal, fr', hp', E, .refl E, trivial, k1, k2⟩) _ _ _ _ _ this)
  rw [e]
  rw [← b1] at h5
  exact h5
theorem Mem.recell {E : Entry} {ρ : Env} {hp : Hp} {w : World} (h : Mem E ρ hp w) {i : Nat} {t : TypeId} {cs cs' : List SV} (hi : getH hp i = some (.cells t cs)) (hl : cs'.length = cs.length)
    (hr : ∀ (j : Nat) (s' : SV) (v : Value), cs'[j]? = some s' → (∀ s, cs[j]? = some s → Rep w ρ s v) → Rep w ρ s' v) : Mem E ρ (setH hp i (.cells t cs')) w := by
  refine ⟨h.os, h.tape, h.output, h.size, h.old, h.sold, h.snew, h.slt, h.kp, ?_, ?_, ?_, h.mv, ?_, h.md⟩
  · intro id o ho
    rw [getH_setH _ hi] at ho
    split at ho
    · rename_i e; subst e
      injection ho with ho; subst ho
      obtain ⟨g, h1, ⟨cur, c1, c2, c3, c4⟩, h3⟩ := h.sat id _ hi
      exact ⟨g, h1, ⟨cur, c1, c2.trans hl.symm, c3, fun j s' v hs' hv => hr j s' v hs' fun s hs => c4 j s v hs hv⟩, h3⟩
    · exact h.sat id o ho
  · intro id o id' o' g h1 h2 h3 h4
    rw [getH_setH _ hi] at h1 h2
    have key : ∀ k x, (if k = i then some (HObj.cells t cs') else getH hp k) = some x → ρ.at k x = some g → ∃ x', getH hp k = some x' ∧ ρ.at k x' = some g := by
      intro k x hx hg
      split at hx
      · rename_i e; subst e
        injection hx with hx; subst hx
        exact ⟨_, hi, hg⟩
      · exact ⟨x, hx, hg⟩
    obtain ⟨x, a1, a2⟩ := key id o h1 h3
    obtain ⟨x', b1, b2⟩ := key id' o' h2 h4
    exact h.inj id x id' x' g a1 b1 a2 b2
  · intro id o g h1 h3
    rw [getH_setH _ hi] at h1
    split at h1
    · rename_i e; subst e
      injection h1 with h1; subst h1
      exact h.hb id _ g hi h3
    · exact h.hb id o g h1 h3
  · intro id oR g h1 hrd h2 id' o' h3 h4
    rw [getH_setH _ hi] at h1 h3
    split at h1
    · injection h1 with h1; subst h1; exact hrd.elim
    · split at h3
      · rename_i e; subst e
        injection h3 with h3; subst h3
        exact h.ro id oR g h1 hrd h2 id' _ hi h4
      · exact h.ro id oR g h1 hrd h2 id' o' h3 h4
end
end Go.Proofs.YtnemengadjimcaaDoor
