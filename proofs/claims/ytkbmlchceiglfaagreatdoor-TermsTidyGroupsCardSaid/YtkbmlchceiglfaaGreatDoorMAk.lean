/-
  Statements whose order is open: a head of reads and calls in any order, then a tail that is forced. Terms: the order of concepts: compare and Compare. Terms: Compare. Terms: CompareAxiom. Terms: the reference's SameList, Same, SameAxiom. Terms: the reference's Same. Terms: the reference's SameAxiom. Terms: the reference's SameNames.
  Conditions: none.
-/
import Derived.Test.YtkbmlchceiglfaaGreatDoorMSr
import Derived.Test.YtkbmlchceiglfaaGreatDoorMAc
import Derived.Test.YtkbmlchceiglfaaGreatDoorMSna
namespace Go.Proofs.YtkbmlchceiglfaaGreatDoor
set_option linter.unnecessarySimpa false
set_option linter.unusedSectionVars false
set_option linter.unusedSimpArgs false
set_option linter.unusedVariables false
open Go.RowKit

section
variable {P : Program}

theorem wpAny_more {ops : Array Oper} {Q : Exit → Act → World → Prop} : ∀ (fuel : Nat) (listed : Array Bool) (a : Act) (w : World), wpAny P .any ops Q fuel listed a w → wpAny P .any ops Q (fuel + 1) listed a w := by
  intro fuel
  induction fuel with
  | zero => intro listed a w h; exact ⟨fun _ => h.2, fun i hi => (by rw [h.1] at hi; cases hi)⟩
  | succ fuel ih => intro listed a w h; exact ⟨h.1, fun i hi => wpOp_mono (fun a w => ih _ a w) (h.2 i hi)⟩

theorem wpAny_plus {ops : Array Oper} {Q : Exit → Act → World → Prop} {fuel : Nat} {listed : Array Bool} {a : Act} {w : World} (h : wpAny P .any ops Q fuel listed a w) : ∀ k, wpAny P .any ops Q (k + fuel) listed a w
  | 0 => by rw [Nat.zero_add]; exact h
  | k + 1 => by rw [Nat.add_right_comm]; exact wpAny_more _ _ _ _ (wpAny_plus h k)

/-- Is the list of statements a head of 'm' in any order, and a tail behind them all? -/
def preB (l : List Oper) (m : Nat) : Bool :=
  decide (m < l.length) &&
  (List.range l.length).all fun i =>
    match l[i]? with
    | some o =>
      (o.after.all fun e => !Region.binds .any e || decide (e.on < i)) &&
      (if i < m then o.guard.isNone && (List.range (m + 1)).any fun k => decide (i < k) && (match l[k]? with
          | some o' => o'.after.any fun e => Region.binds .any e && e.on == i
          | none => false)
       else i == m || o.after.any fun e => Region.binds .any e && decide (m ≤ e.on))
    | none => false

theorem preB_spec {l : List Oper} {m : Nat} (h : preB l m = true) : m < l.length ∧ ∀ i o, l[i]? = some o →
    (∀ e ∈ o.after, Region.binds .any e = true → e.on < i) ∧
    (i < m → o.guard = none ∧ ∃ k o', i < k ∧ k ≤ m ∧ l[k]? = some o' ∧ ∃ e ∈ o'.after, Region.binds .any e = true ∧ e.on = i) ∧
    (m < i → ∃ e ∈ o.after, Region.binds .any e = true ∧ m ≤ e.on) := by
  simp only [preB, Bool.and_eq_true, decide_eq_true_eq, List.all_eq_true, List.mem_range] at h
  refine ⟨h.1, fun i o ho => ?_⟩
  have hi := h.2 i (List.getElem?_eq_some_iff.1 ho).1
  rw [ho] at hi
  simp only [Bool.and_eq_true] at hi
  obtain ⟨h1, h2⟩ := hi
  refine ⟨fun e he hb => ?_, fun him => ?_, fun hmi => ?_⟩
  · rw [Array.all_eq_true'] at h1
    have := h1 e he
    simpa [hb] using this
  · rw [if_pos him] at h2
    simp only [Bool.and_eq_true, Option.isNone_iff_eq_none, List.any_eq_true, List.mem_range, decide_eq_true_eq] at h2
    obtain ⟨hg, k, hk, hik, hx⟩ := h2
    refine ⟨hg, ?_⟩
    split at hx
    · rename_i o' ho'
      obtain ⟨e, he, hb⟩ := Array.any_eq_true'.1 hx
      simp only [Bool.and_eq_true, beq_iff_eq] at hb
      exact ⟨k, o', hik, by omega, ho', e, he, hb.1, hb.2⟩
    · cases hx
  · rw [if_neg (by omega)] at h2
    have : (i == m) = false := by simp; omega
    rw [this, Bool.false_or] at h2
    obtain ⟨e, he, hb⟩ := Array.any_eq_true'.1 h2
    simp only [Bool.and_eq_true, decide_eq_true_eq] at hb
    exact ⟨e, he, hb.1, hb.2⟩

theorem getD_app {x : Array Bool} {m k : Nat} {d : Bool} (hx : x.size = m) (i : Nat) : (x ++ Array.replicate k false).getD i d = if i < m then x.getD i d else if i < m + k then false else d := by
  simp only [Array.getD_eq_getD_getElem?, Array.getElem?_append, hx]
  split
  · rfl
  · rw [Array.getElem?_replicate]
    split
    · rw [if_pos (by omega)]; rfl
    · rw [if_neg (by omega)]; rfl

theorem pre_any {l : List Oper} {m : Nat} {C : World → Prop} {Q : Act → Prop} {Q' : Exit → Act → World → Prop} (hB : preB l m = true)
    (ht : ∀ a w, C w → Q a → wpAny P .any l.toArray Q' (l.length - m) (Array.replicate m true ++ Array.replicate (l.length - m) false) a w) :
    ∀ (f : Nat) (x : Array Bool) (a : Act) (w : World), C w → x.size = m → (∀ (i : Nat) o, i < m → l[i]? = some o → x.getD i true = true → ∀ e ∈ o.after, Region.binds .any e = true → x.getD e.on false = true) →
      wpAnyQ P .any (l.take m).toArray C Q f x a → wpAny P .any l.toArray Q' (f + (l.length - m)) (x ++ Array.replicate (l.length - m) false) a w := by
  obtain ⟨hm, hs⟩ := preB_spec hB
  have take_lt : ∀ i, i < m → (l.take m).toArray[i]? = l[i]? := fun i hi => by simp [List.getElem?_take, hi]
  have full : ∀ x : Array Bool, x.size = m → Region.ready .any (l.take m).toArray x = [] → x = Array.replicate m true := by
    intro x hx hr
    have all : ∀ i, i < m → x.getD i true = true := by
      intro i
      induction i using Nat.strongRecOn with
      | _ i ih =>
        intro him
        by_cases hc : x.getD i true = true
        · exact hc
        · exfalso
          have hc : x.getD i true = false := by simpa using hc
          have hlt : i < l.length := by omega
          have hmem : i ∈ Region.ready .any (l.take m).toArray x := mem_ready.2 ⟨hc, l[i], by rw [take_lt i him]; exact List.getElem?_eq_getElem hlt, fun e he hb => by
            have hlt' := (hs i _ (List.getElem?_eq_getElem hlt)).1 e he hb
            have := ih e.on hlt' (by omega)
            simp only [Array.getD_eq_getD_getElem?] at this ⊢
            rw [Array.getElem?_eq_getElem (by omega)] at this ⊢
            exact this⟩
          rw [hr] at hmem
          cases hmem
    apply Array.ext
    · simp [hx]
    · intro i h1 h2
      have := all i (by omega)
      simp only [Array.getD_eq_getD_getElem?, Array.getElem?_eq_getElem h1, Option.getD_some] at this
      simpa using this
  intro f
  induction f with
  | zero =>
    intro x a w hw hx _ h
    rw [full x hx h.1, Nat.zero_add]
    exact ht a w hw h.2
  | succ f ih =>
    intro x a w hw hx hcl h
    by_cases hr : Region.ready .any (l.take m).toArray x = []
    · rw [full x hx hr]
      exact wpAny_plus (ht a w hw (h.1 hr)) _
    · have sub : ∀ i ∈ Region.ready .any l.toArray (x ++ Array.replicate (l.length - m) false), i < m ∧ i ∈ Region.ready .any (l.take m).toArray x := by
        intro i hi
        obtain ⟨h1, o, ho, h2⟩ := mem_ready.1 hi
        have ho : l[i]? = some o := by simpa using ho
        have hlt := (List.getElem?_eq_some_iff.1 ho).1
        have hlow : ∀ j, j < m → (x ++ Array.replicate (l.length - m) false).getD j false = true → x.getD j false = true := fun j hj h => by rw [getD_app hx, if_pos hj] at h; exact h
        have hhigh : ∀ j, m ≤ j → j < l.length → ¬ (x ++ Array.replicate (l.length - m) false).getD j false = true := fun j hj hj' h => by rw [getD_app hx, if_neg (by omega)] at h; split at h <;> cases h
        have him : i < m := by
          by_cases him : i < m
          · exact him
          · exfalso
            by_cases hie : m < i
            · obtain ⟨e, he, hb, hme⟩ := (hs i o ho).2.2 hie
              exact hhigh e.on hme (by have := (hs i o ho).1 e he hb; omega) (h2 e he hb)
            · have : i = m := by omega
              subst this
              -- every statement of the head is listed
              have all : ∀ d j, j + d = i → 0 < d → x.getD j true = true := by
                intro d
                induction d using Nat.strongRecOn with
                | _ d ihd =>
                  intro j hjd hd
                  have hjl : j < l.length := by omega
                  obtain ⟨_, k, o', hjk, hki, ho', e, he, hb, hej⟩ := (hs j _ (List.getElem?_eq_getElem hjl)).2.1 (by omega)
                  have htrue : x.getD j false = true := by
                    by_cases hk : k = i
                    · subst hk
                      rw [ho] at ho'
                      injection ho' with ho'; subst ho'
                      have := hlow e.on (by omega) (h2 e he hb)
                      rwa [hej] at this
                    · have := hcl k o' (by omega) ho' (ihd (i - k) (by omega) k (by omega) (by omega)) e he hb
                      rwa [hej] at this
                  simp only [Array.getD_eq_getD_getElem?] at htrue ⊢
                  rw [Array.getElem?_eq_getElem (by omega)] at htrue ⊢
                  exact htrue
              apply hr
              apply List.eq_nil_iff_forall_not_mem.2
              intro j hj
              obtain ⟨g1, oj, hoj, _⟩ := mem_ready.1 hj
              have hjm : j < i := by
                have := (Array.getElem?_eq_some_iff.1 hoj).1
                simp at this
                omega
              rw [all (i - j) j (by omega) (by omega)] at g1
              cases g1
        refine ⟨him, mem_ready.2 ⟨?_, o, by rw [take_lt i him]; exact ho, fun e he hb => ?_⟩⟩
        · rw [getD_app hx, if_pos him] at h1; exact h1
        · exact hlow e.on (by have := (hs i o ho).1 e he hb; omega) (h2 e he hb)
      have hne : Region.ready .any l.toArray (x ++ Array.replicate (l.length - m) false) ≠ [] := by
        obtain ⟨j, hj⟩ := List.exists_mem_of_ne_nil _ hr
        obtain ⟨g1, oj, hoj, g2⟩ := mem_ready.1 hj
        have hjm : j < m := by
          have := (Array.getElem?_eq_some_iff.1 hoj).1
          simp at this
          omega
        have hmem : j ∈ Region.ready .any l.toArray (x ++ Array.replicate (l.length - m) false) := mem_ready.2 ⟨by rw [getD_app hx, if_pos hjm]; exact g1, oj, by rw [take_lt j hjm] at hoj; simpa using hoj, fun e he hb => by
          have := g2 e he hb
          have hem : e.on < m := by
            rw [take_lt j hjm] at hoj
            have := (hs j oj hoj).1 e he hb
            omega
          rw [getD_app hx, if_pos hem]; exact this⟩
        intro h0
        rw [h0] at hmem
        cases hmem
      rw [Nat.add_right_comm]
      refine ⟨fun h0 => absurd h0 hne, fun i hi => ?_⟩
      obtain ⟨him, hip⟩ := sub i hi
      have hlt : i < l.length := by omega
      have ho := List.getElem?_eq_getElem hlt
      have hq := h.2 i hip
      have hg := ((hs i _ ho).2.1 him).1
      have hq' : qOp P l.toArray C i (wpAnyQ P .any (l.take m).toArray C Q f (x.setIfInBounds i true)) a := by
        unfold qOp at hq ⊢
        rw [take_lt i him] at hq
        have : l.toArray[i]? = l[i]? := by simp
        rw [this]
        rw [ho] at hq ⊢
        simp only [Region.wanted, hg] at hq ⊢
        exact hq
      refine wpOp_of_qOp hw (fun a' w' hw' hk => ?_) hq'
      have hset : (x ++ Array.replicate (l.length - m) false).setIfInBounds i true = x.setIfInBounds i true ++ Array.replicate (l.length - m) false := by
        rw [Array.setIfInBounds_append_left (by omega)]
      rw [hset]
      refine ih _ a' w' hw' (by simp [hx]) ?_ hk
      intro j o hj hoj hjt e he hb
      have hup : ∀ k (d : Bool), x.getD k d = true → (x.setIfInBounds i true).getD k d = true := by
        intro k d hk
        simp only [Array.getD_eq_getD_getElem?, Array.getElem?_setIfInBounds] at hk ⊢
        split
        · split <;> simp_all
        · exact hk
      by_cases hji : j = i
      · subst hji
        obtain ⟨_, o2, ho2, h2⟩ := mem_ready.1 hip
        rw [take_lt j him, hoj] at ho2
        injection ho2 with ho2; subst ho2
        exact hup _ _ (h2 e he hb)
      · refine hup _ _ (hcl j o hj hoj ?_ e he hb)
        simp only [Array.getD_eq_getD_getElem?, Array.getElem?_setIfInBounds] at hjt ⊢
        rw [if_neg (fun h => hji h.symm)] at hjt
        exact hjt

def qpVC (C : Cfg) (all : List Oper) (K : Fr → Prop) : List Oper → Fr → Hp → Prop
  | [], fr, _ => K fr
  | o :: r, fr, hp => qstep C all o fr hp fun fr' => qpVC C all K r fr' hp

theorem qp_sound {C : Cfg} (hti : TyOK C.P C.ti) {all : List Oper} {K : Fr → Prop} {E : Entry} {ρ : Env} {w : World} {hp : Hp} {df : List Deferred} (hm : Mem E ρ hp w) : ∀ (l : List Oper) (fr : Fr) (a : Act), qpVC C all K l fr hp → a.tmps.size = C.nt → a.defers = df → FSat ρ w fr a.tmps →
    wpQuiet C.P all.toArray (Grew w) (fun a' => ∃ fr', K fr' ∧ a'.tmps.size = C.nt ∧ a'.defers = df ∧ FSat ρ w fr' a'.tmps) l a := by
  intro l
  induction l with
  | nil =>
    intro fr a h h1 h2 h3
    exact ⟨fr, h, h1, h2, h3⟩
  | cons o r ih =>
    intro fr a h h1 h2 h3
    simp only [qpVC, qstep] at h
    simp only [wpQuiet]
    obtain ⟨fr0, h3, hh⟩ := guarded_ok h h3
    rcases hh with ⟨hw, h⟩ | ⟨hw, h⟩
    · simp only [hw, if_true]
      obtain ⟨v, s, q1, q2, q3⟩ := q_ok hti h hm h3
      obtain ⟨fr', p1, p2⟩ := put_ok q3 h1 h3 q2
      exact ⟨v, q1, ih fr' _ p1 (by rw [put_size]; exact h1) (by rw [put_defers]; exact h2) p2⟩
    · simp only [hw, Bool.false_eq_true, if_false]
      obtain ⟨fr', p1, p2⟩ := put_ok h h1 h3 (Rep.d _ undef (.lit undef))
      exact ih fr' _ p1 (by rw [put_size]; exact h1) (by rw [put_defers]; exact h2) p2

/-- The rule: the first 'm' in any order, each a read or a call that hands back a plain value; the rest as they stand. -/
theorem pre_rule {C : Cfg} (hti : TyOK C.P C.ti) {id : Nat} {l : List Oper} {fr : Fr} {hp : Hp} {K : Ex → Fr → Hp → Prop} (m : Nat) (hm : C.P.follows .mixedOrders = true)
    (hB : (preB l m && Region.lexB .any (l.take m).toArray && Region.noSelect l.toArray && ordB l.toArray (List.range' m (l.length - m)) (Array.replicate m true ++ Array.replicate (l.length - m) false) false && noDefer l) = true)
    (h : qpVC C (l.take m) (fun fr' => dopsVC C l (K .normal) (List.range' m (l.length - m)) fr' hp) (l.take m) fr hp) : SemVC C (.region id l.toArray true) fr hp K := by
  intro E a w hpin hrd ⟨h1, h2, ρ, h3, h4⟩
  simp only [Bool.and_eq_true] at hB
  obtain ⟨⟨⟨⟨b1, b2⟩, b3⟩, b4⟩, hnd⟩ := hB
  simp only [Region.lexB, Bool.and_eq_true] at b2
  refine region_any_in hm hnd PostX.noOut ?_
  have hlt := (preB_spec b1).1
  have hq := qp_sound (C := C) hti (all := l.take m) h3 (l.take m) fr a h h1 rfl h4
  have hl := wpAnyQ_lex (P := C.P) (C := Grew w) (md := .any) b2.1 (l.take m) 0 (Array.replicate (l.take m).toArray.size false) a (by simp) (by simpa using b2.2) hq
  have hlen : (l.take m).length = m := by simp; omega
  have hsz : (l.take m).toArray.size = m := by simp; omega
  rw [hlen, hsz] at hl
  have := pre_any (P := C.P) (C := Grew w) (Q' := PostX C E K) b1 (fun a' w' hg hQ => by
    obtain ⟨fr', k1, k2, k3, k4⟩ := hQ
    obtain ⟨m1, m2⟩ := h3.grow_same hg
    have := dops_sound (C := C) hti (E := E) hpin b3 _ _ false fr' hp ρ a' _ b4 k1 m1 k2 (k3.trans h2) (m2 fr' _ k4)
    rw [List.length_range'] at this
    exact wpAny_of_E _ _ _ _ _ (wpE_Q (Q' := PostX C E K .normal) (fun a w ⟨fr', hp', k1, k2⟩ => ⟨.normal, fr', hp', E, .refl E, trivial, k1, k2⟩) _ _ _ _ _ this)) m (Array.replicate m false) a _ (Grew.drew w) (by simp) (fun i o hi _ hx => by simp [hi] at hx) hl
  have e1 : m + (l.length - m) = l.toArray.size := by simp; omega
  have e2 : Array.replicate m false ++ Array.replicate (l.length - m) false = Array.replicate l.toArray.size false := by rw [Array.replicate_append_replicate, e1]
  rw [e1, e2] at this
  exact this

end
end Go.Proofs.YtkbmlchceiglfaaGreatDoor

namespace Go.Proofs.YtkbmlchceiglfaaGreatDoor
set_option linter.unnecessarySimpa false
set_option linter.unusedSectionVars false
set_option linter.unusedSimpArgs false
set_option linter.unusedVariables false
open Go.Proofs
set_option maxRecDepth 10000
theorem Tri.osl {P : Program} {f : FuncId} {id z : Nat} {rows : List (List D)} {post : SV → Prop} (h : Tri P f [.d (.sl z rows)] [] post) : Tri P f [.osl id z rows] [] post := by
  unfold Tri at h ⊢
  intro w ρ vs a b c
  refine h w ρ vs a ⟨b.1, fun j s v hs hv => ?_⟩ (fun id o ho => by cases ho)
  match j, hs with
  | 0, hs =>
    injection hs with hs; subst hs
    exact .d _ _ (b.2 0 _ v rfl hv).osl_inv.1

attribute [local irreducible] SemVC CallVC Tri Stuck YVC GenP GenVC

set_option maxHeartbeats 8000000 in
theorem compare_spec : ∀ (c d : Cn), Tri Tryz.prog 47 [.d (.agg (grR c)), .d (.agg (grR d))] [] (fun r => r = .d (.int .i64 (cmpC c d))) := by
  refine Cn.ind ?_
  intro c ih d
  have hL := compareFunc_spec 47 (by kernel_rfl) c.parts d.parts (fun a ha b _ => ih a ha b)
  rw [grR_eq, grR_eq, cmpC_eq]
  refine tri_of_bodyF false [2, 3] hty Tryz.func47 rfl (kp [0, 1, 2, 3, 4, 5, 42]) [] _ _ _ (by simp [Tryz.f47]) (by simp) ?_
  ((conv => whnf); repeat ((first | (intro hq; try simp only [lnS] at hq) | refine sI ?_ | refine Exists.intro _ (And.intro rfl ?_)); (conv => whnf)))
  refine pre_rule hty 33 (by kernel_rfl) (by kernel_rfl) ?_
  ((conv => whnf); repeat ((first | (intro hq; try simp only [lnS] at hq) | refine sI ?_ | refine Exists.intro _ (And.intro rfl ?_)); (conv => whnf)))
  refine ⟨.d (.int .i64 _), _, [], rfl, trivial, compareI_spec _ _, ?_⟩
  ((conv => whnf); repeat ((first | (intro hq; try simp only [lnS] at hq) | refine sI ?_ | refine Exists.intro _ (And.intro rfl ?_)); (conv => whnf)))
  refine ⟨.d (.int .i64 _), _, [], rfl, trivial, compareI_spec _ _, ?_⟩
  ((conv => whnf); repeat ((first | (intro hq; try simp only [lnS] at hq) | refine sI ?_ | refine Exists.intro _ (And.intro rfl ?_)); (conv => whnf)))
  refine ⟨.d (.int .i64 _), _, [], rfl, trivial, strCompare_spec _ _, ?_⟩
  ((conv => whnf); repeat ((first | (intro hq; try simp only [lnS] at hq) | refine sI ?_ | refine Exists.intro _ (And.intro rfl ?_)); (conv => whnf)))
  refine ⟨.d (.int .i64 _), _, [], rfl, trivial, compareI_spec _ _, ?_⟩
  ((conv => whnf); repeat ((first | (intro hq; try simp only [lnS] at hq) | refine sI ?_ | refine Exists.intro _ (And.intro rfl ?_)); (conv => whnf)))
  refine ⟨.d (.int .i64 _), _, [], rfl, trivial, compareI_spec _ _, ?_⟩
  ((conv => whnf); repeat ((first | (intro hq; try simp only [lnS] at hq) | refine sI ?_ | refine Exists.intro _ (And.intro rfl ?_)); (conv => whnf)))
  refine ⟨[], (fun r => r = .d (.int .i64 (headC c d))), trivial, Tri.osl (or_spec [_, _, _, _, _]), fun r hs => ?_⟩
  subst hs
  ((conv => whnf); repeat' ((first | (intro hq; (try simp only [lnS] at hq); (try rewrite [List.length_map])) | refine sJ ?_ | refine Exists.intro _ (And.intro rfl ?_) | (refine Exists.intro (show (_ : Nat) < List.length _ from by first | omega | (simp only [List.length_cons, List.length_nil]; omega) | simp) ?_) | (refine call_tri [] hL trivial (fun r hs => ?_); subst hs) | refine draw_rule hty (by kernel_rfl) (by kernel_rfl) ?_ | ((first | refine brB_dec (fun hb => ?_) (fun hb => ?_) | refine brB_ndec (fun hb => ?_) (fun hb => ?_)) <;> (first | contradiction | ((try simp only [lnS] at hb); (first | (exfalso; omega) | skip)))) | (refine brB_split (fun hb => ?_) (fun hb => ?_) <;> (first | contradiction | exact absurd (hb.symm.trans (by assumption) : false = true) (by decide) | exact absurd (hb.symm.trans (by assumption) : true = false) (by decide) | skip))) <;> (conv => whnf)))
  · exact int_eq (if_pos hb).symm
  · exact int_eq (if_neg (fun h => h hb)).symm
end Go.Proofs.YtkbmlchceiglfaaGreatDoor

namespace Go.Proofs.YtkbmlchceiglfaaGreatDoor
set_option linter.unnecessarySimpa false
set_option linter.unusedSectionVars false
set_option linter.unusedSimpArgs false
set_option linter.unusedVariables false
open Go.Proofs
set_option maxRecDepth 10000
attribute [local irreducible] SemVC CallVC Tri Stuck YVC GenP GenVC

set_option maxHeartbeats 8000000 in
theorem Compare_spec (c d : Cn) (hc : sizeF c ≤ 1000000) (hd : sizeF d ≤ 1000000) : Tri Tryz.prog 14 [.d (.agg (cnR c)), .d (.agg (cnR d))] [] (fun r => r = .d (.int .i64 (cmpC c d))) := by
  have h1 := grow_spec c hc
  have h2 := grow_spec d hd
  rw [cnR_eq] at h1 h2 ⊢
  rw [cnR_eq d]
  rw [grR_eq] at h1
  rw [grR_eq] at h2
  have h3 := compare_spec c d
  rw [grR_eq, grR_eq] at h3
  refine tri_of_bodyF false [2, 3] hty Tryz.func14 rfl (kp [0, 1, 2, 3, 4]) [] _ _ _ (by simp [Tryz.f14]) (by simp) ?_
  ((conv => whnf); repeat' ((first | (intro hq; (try simp only [lnS] at hq); (try rewrite [List.length_map])) | refine sJ ?_ | refine Exists.intro _ (And.intro rfl ?_) | (refine Exists.intro (show (_ : Nat) < List.length _ from by first | omega | (simp only [List.length_cons, List.length_nil]; omega) | simp) ?_) | (refine call_tri [] h1 trivial (fun r hs => ?_); subst hs) | (refine call_tri [] h2 trivial (fun r hs => ?_); subst hs) | (refine call_tri [] h3 trivial (fun r hs => ?_); subst hs) | (refine tree_rule (id := 1) hty (.alt 0 (.alt 1 (.alt 2 (.alt 3 (.alt 4 (.first 5 .done) .stop) .stop) .stop) (.alt 2 (.alt 1 (.alt 3 (.alt 4 (.first 5 .done) .stop) .stop) .stop) .stop)) (.alt 2 (.alt 0 (.alt 1 (.alt 3 (.alt 4 (.first 5 .done) .stop) .stop) .stop) .stop) .stop)) (by kernel_rfl) (by kernel_rfl) ?_) | exact trivial | (refine And.intro ?_ ?_) | refine draw_rule hty (by kernel_rfl) (by kernel_rfl) ?_ | ((first | refine brB_dec (fun hb => ?_) (fun hb => ?_) | refine brB_ndec (fun hb => ?_) (fun hb => ?_)) <;> (first | contradiction | ((try simp only [lnS] at hb); (first | (exfalso; omega) | skip)))) | (refine brB_split (fun hb => ?_) (fun hb => ?_) <;> (first | contradiction | exact absurd (hb.symm.trans (by assumption) : false = true) (by decide) | exact absurd (hb.symm.trans (by assumption) : true = false) (by decide) | skip))) <;> (conv => whnf)))
  all_goals rfl
end Go.Proofs.YtkbmlchceiglfaaGreatDoor

namespace Go.Proofs.YtkbmlchceiglfaaGreatDoor
set_option linter.unnecessarySimpa false
set_option linter.unusedSectionVars false
set_option linter.unusedSimpArgs false
set_option linter.unusedVariables false
open Go.Proofs
set_option maxRecDepth 10000
attribute [local irreducible] SemVC CallVC Tri Stuck YVC GenP GenVC

def axHead (x y : Ax) : Int := orF [cmpI (weightF x) (weightF y), cmpI x.kind y.kind]
def axTail (x y : Ax) : Int := orF [cmpSL x.roles y.roles, cmpB x.role y.role, cmpB x.a y.a, cmpB x.b y.b]
def cmpAx (x y : Ax) : Int :=
  if axHead x y ≠ 0 then axHead x y
  else if cmpC x.left y.left ≠ 0 then cmpC x.left y.left
  else if cmpC x.right y.right ≠ 0 then cmpC x.right y.right
  else axTail x y

set_option maxHeartbeats 8000000 in
theorem CompareAxiom_spec (x y : Ax) (h1 : sizeF x.left ≤ 1000000) (h2 : sizeF x.right ≤ 1000000) (h3 : x.roles.length ≤ 1000000) (h4 : sizeF y.left ≤ 1000000) (h5 : sizeF y.right ≤ 1000000) (h6 : y.roles.length ≤ 1000000) :
    Tri Tryz.prog 10 [.d (.agg (axR x)), .d (.agg (axR y))] [] (fun r => r = .d (.int .i64 (cmpAx x y))) := by
  have hw1 := weight_spec x h1 h2 h3
  have hw2 := weight_spec y h4 h5 h6
  have hl := Compare_spec x.left y.left h1 h4
  have hr := Compare_spec x.right y.right h2 h5
  rw [cnR_eq, cnR_eq] at hl
  rw [cnR_eq, cnR_eq] at hr
  refine tri_of_bodyF false [2, 3] hty Tryz.func10 rfl (kp [0, 1, 2, 3, 4, 18, 25, 32]) [] _ _ _ (by simp [Tryz.f10]) (by simp) ?_
  ((conv => whnf); repeat ((first | (intro hq; try simp only [lnS] at hq) | refine sI ?_ | refine Exists.intro _ (And.intro rfl ?_)); (conv => whnf)))
  refine pre_rule hty 10 (by kernel_rfl) (by kernel_rfl) ?_
  ((conv => whnf); repeat ((first | (intro hq; try simp only [lnS] at hq) | refine sI ?_ | refine Exists.intro _ (And.intro rfl ?_)); (conv => whnf)))
  refine ⟨.d (.int .i64 _), _, [], rfl, trivial, hw1, ?_⟩
  ((conv => whnf); repeat ((first | (intro hq; try simp only [lnS] at hq) | refine sI ?_ | refine Exists.intro _ (And.intro rfl ?_)); (conv => whnf)))
  refine ⟨.d (.int .i64 _), _, [], rfl, trivial, hw2, ?_⟩
  ((conv => whnf); repeat ((first | (intro hq; try simp only [lnS] at hq) | refine sI ?_ | refine Exists.intro _ (And.intro rfl ?_)); (conv => whnf)))
  refine ⟨.d (.int .i64 _), _, [], rfl, trivial, compareI_spec _ _, ?_⟩
  ((conv => whnf); repeat ((first | (intro hq; try simp only [lnS] at hq) | refine sI ?_ | refine Exists.intro _ (And.intro rfl ?_)); (conv => whnf)))
  refine ⟨.d (.int .i64 _), _, [], rfl, trivial, compareI_spec _ _, ?_⟩
  ((conv => whnf); repeat ((first | (intro hq; try simp only [lnS] at hq) | refine sI ?_ | refine Exists.intro _ (And.intro rfl ?_)); (conv => whnf)))
  refine ⟨[], (fun r => r = .d (.int .i64 (axHead x y))), trivial, Tri.osl (or_spec [_, _]), fun r hs => ?_⟩
  subst hs
  ((conv => whnf); repeat' ((first | (intro hq; (try simp only [lnS] at hq); (try rewrite [List.length_map])) | refine sJ ?_ | refine Exists.intro _ (And.intro rfl ?_) | (refine Exists.intro (show (_ : Nat) < List.length _ from by first | omega | (simp only [List.length_cons, List.length_nil]; omega) | simp) ?_) | (refine pre_rule hty 20 (by kernel_rfl) (by kernel_rfl) ?_) | (refine call_tri [] hl trivial (fun r hs => ?_); subst hs) | (refine call_tri [] hr trivial (fun r hs => ?_); subst hs) | (refine ⟨.d (.int .i64 _), _, [], rfl, trivial, compareSL_spec _ _, ?_⟩) | (refine ⟨.d (.int .i64 _), _, [], rfl, trivial, strCompare_spec _ _, ?_⟩) | (refine ⟨[], (fun r => r = .d (.int .i64 (axTail x y))), trivial, Tri.osl (or_spec [_, _, _, _]), fun r hs => ?_⟩; subst hs) | refine draw_rule hty (by kernel_rfl) (by kernel_rfl) ?_ | ((first | refine brB_dec (fun hb => ?_) (fun hb => ?_) | refine brB_ndec (fun hb => ?_) (fun hb => ?_)) <;> (first | contradiction | ((try simp only [lnS] at hb); (first | (exfalso; omega) | skip)))) | (refine brB_split (fun hb => ?_) (fun hb => ?_) <;> (first | contradiction | exact absurd (hb.symm.trans (by assumption) : false = true) (by decide) | exact absurd (hb.symm.trans (by assumption) : true = false) (by decide) | skip))) <;> (conv => whnf)))
  all_goals refine int_eq (Eq.symm ?_)
  all_goals unfold cmpAx
  all_goals simp_all
end Go.Proofs.YtkbmlchceiglfaaGreatDoor

namespace Go.Proofs.YtkbmlchceiglfaaGreatDoor
set_option linter.unnecessarySimpa false
set_option linter.unusedSectionVars false
set_option linter.unusedSimpArgs false
set_option linter.unusedVariables false
open Go.Proofs
set_option maxRecDepth 10000
attribute [local irreducible] SemVC CallVC Tri Stuck YVC GenP GenVC

set_option maxHeartbeats 4000000 in
theorem sameList_spec (l m : List (List UInt8)) : Tri Tryz.prog 49 [.d (strl l), .d (strl m)] [] (fun r => r = .d (.bool (decide (l = m)))) := by
  refine tri_of_body hty Tryz.func49 rfl (kp [0, 1, 4, 5, 10, 14, 25]) [] _ _ _ (by simp [Tryz.f49]) (by simp) ?_
  ((conv => whnf); repeat' ((first | (intro hq; (try simp only [lnS] at hq); (try rewrite [List.length_map])) | refine sJ ?_ | refine Exists.intro _ (And.intro rfl ?_) | (refine Exists.intro (show (_ : Nat) < List.length _ from by first | omega | (simp only [List.length_cons, List.length_nil]; omega) | simp) ?_) | fail | refine draw_rule hty (by kernel_rfl) (by kernel_rfl) ?_ | ((first | refine brB_dec (fun hb => ?_) (fun hb => ?_) | refine brB_ndec (fun hb => ?_) (fun hb => ?_)) <;> (first | contradiction | ((try simp only [lnS] at hb); (first | (exfalso; omega) | skip)))) | (refine brB_split (fun hb => ?_) (fun hb => ?_) <;> (first | contradiction | exact absurd (hb.symm.trans (by assumption) : false = true) (by decide) | exact absurd (hb.symm.trans (by assumption) : true = false) (by decide) | skip))) <;> (conv => whnf)))
  · refine bool_eq (Eq.symm (decide_eq_false fun e => ?_))
    subst e; omega
  · have hlen : l.length = m.length := by omega
    refine loop_rule hty (fun j : Nat => ([(0, .d (strl l)), (1, .d (strl m)), (4, .d (.bool false)), (5, .d (.int .i64 j))], [])) (fun j => j ≤ l.length ∧ decide (l = m) = decide (l.drop j = m.drop j)) (fun j => l.length - j) 0 ⟨by omega, rfl⟩ ⟨by repeat' (first | exact trivial | exact rfl | (rw [List.length_map]; exact rfl) | refine And.intro ?_ ?_), trivial⟩ ?_
    rintro j ⟨hj, hn⟩
    ((conv => whnf); repeat ((first | (intro hq; try simp only [lnS] at hq) | refine sI ?_ | refine Exists.intro _ (And.intro rfl ?_)); (conv => whnf)))
    refine brB_dec (fun h1 => ?_) (fun h1 => ?_)
    · have hjl : j < l.length := by simp only [List.length_map] at h1; omega
      have hjm : j < m.length := by omega
      have hrow : (l.map strR)[(j : Int).toNat]? = some (strR l[j]) := rowC_at hjl
      have hrow2 : (m.map strR)[(j : Int).toNat]? = some (strR m[j]) := rowC_at hjm
      rw [List.drop_eq_getElem_cons hjl, List.drop_eq_getElem_cons hjm] at hn
      generalize l[j] = x at hrow hn
      generalize m[j] = y at hrow2 hn
      ((conv => whnf); repeat' ((first | (intro hq; (try simp only [lnS] at hq); (try rewrite [List.length_map])) | refine sJ ?_ | refine Exists.intro _ (And.intro rfl ?_) | (refine Exists.intro (show (_ : Nat) < List.length _ from by first | omega | (simp only [List.length_cons, List.length_nil]; omega) | simp) ?_) | (refine ⟨_, hrow, ?_⟩) | (refine ⟨_, hrow2, ?_⟩) | refine draw_rule hty (by kernel_rfl) (by kernel_rfl) ?_ | ((first | refine brB_dec (fun hb => ?_) (fun hb => ?_) | refine brB_ndec (fun hb => ?_) (fun hb => ?_)) <;> (first | contradiction | ((try simp only [lnS] at hb); (first | (exfalso; omega) | skip)))) | (refine brB_split (fun hb => ?_) (fun hb => ?_) <;> (first | contradiction | exact absurd (hb.symm.trans (by assumption) : false = true) (by decide) | exact absurd (hb.symm.trans (by assumption) : true = false) (by decide) | skip))) <;> (conv => whnf)))
      · refine bool_eq (Eq.symm ?_)
        rw [hn, decide_eq_false]
        intro e; injection e; contradiction
      · refine ⟨j + 1, ⟨by omega, ?_⟩, by dsimp only; omega, by repeat' (first | exact trivial | exact rfl | refine And.intro ?_ ?_), trivial⟩
        rw [hn, hb]
        simp
    · have hjl : j = l.length := by simp only [List.length_map] at h1; omega
      subst hjl
      ((conv => whnf); repeat' ((first | (intro hq; (try simp only [lnS] at hq); (try rewrite [List.length_map])) | refine sJ ?_ | refine Exists.intro _ (And.intro rfl ?_) | (refine Exists.intro (show (_ : Nat) < List.length _ from by first | omega | (simp only [List.length_cons, List.length_nil]; omega) | simp) ?_) | fail | refine draw_rule hty (by kernel_rfl) (by kernel_rfl) ?_ | ((first | refine brB_dec (fun hb => ?_) (fun hb => ?_) | refine brB_ndec (fun hb => ?_) (fun hb => ?_)) <;> (first | contradiction | ((try simp only [lnS] at hb); (first | (exfalso; omega) | skip)))) | (refine brB_split (fun hb => ?_) (fun hb => ?_) <;> (first | contradiction | exact absurd (hb.symm.trans (by assumption) : false = true) (by decide) | exact absurd (hb.symm.trans (by assumption) : true = false) (by decide) | skip))) <;> (conv => whnf)))
      refine bool_eq (Eq.symm ?_)
      rw [hn, List.drop_length, hlen, List.drop_length]; rfl
end Go.Proofs.YtkbmlchceiglfaaGreatDoor

namespace Go.Proofs.YtkbmlchceiglfaaGreatDoor
set_option linter.unnecessarySimpa false
set_option linter.unusedSectionVars false
set_option linter.unusedSimpArgs false
set_option linter.unusedVariables false
open Go.Proofs
set_option maxRecDepth 10000
attribute [local irreducible] SemVC CallVC Tri Stuck YVC GenP GenVC

mutual
def sameC : Cn → Cn → Bool
  | .mk k n lo hi ps, d => decide (k = d.kind) && decide (n = d.name) && decide (lo = d.lo) && decide (hi = d.hi) && sameCL ps d.parts
def sameCL : List Cn → List Cn → Bool
  | [], [] => true
  | [], _ :: _ => false
  | _ :: _, [] => false
  | a :: l, b :: m => sameC a b && sameCL l m
end

theorem sameC_eq (c d : Cn) : sameC c d = (decide (c.kind = d.kind) && decide (c.name = d.name) && decide (c.lo = d.lo) && decide (c.hi = d.hi) && sameCL c.parts d.parts) := by
  cases c; rw [sameC]; rfl

theorem sameCL_len : ∀ (l m : List Cn), l.length ≠ m.length → sameCL l m = false
  | [], [], h => absurd rfl h
  | [], _ :: _, _ => by rw [sameCL]
  | _ :: _, [], _ => by rw [sameCL]
  | a :: l, b :: m, h => by rw [sameCL, sameCL_len l m (fun e => h (by simp [e])), Bool.and_false]

set_option maxHeartbeats 8000000 in
theorem same_spec : ∀ (c d : Cn), Tri Tryz.prog 21 [.d (.agg (cnR c)), .d (.agg (cnR d))] [] (fun r => r = .d (.bool (sameC c d))) := by
  refine Cn.ind ?_
  intro c ih d
  rw [cnR_eq, cnR_eq, sameC_eq]
  refine tri_of_bodyF false [2, 3] hty Tryz.func21 rfl (kp [0, 1, 2, 3, 4, 5, 40, 45, 59]) [] _ _ _ (by simp [Tryz.f21]) (by simp) ?_
  ((conv => whnf); repeat' ((first | (intro hq; (try simp only [lnS] at hq); (try rewrite [List.length_map])) | refine sJ ?_ | refine Exists.intro _ (And.intro rfl ?_) | (refine Exists.intro (show (_ : Nat) < List.length _ from by first | omega | (simp only [List.length_cons, List.length_nil]; omega) | simp) ?_) | fail | refine draw_rule hty (by kernel_rfl) (by kernel_rfl) ?_ | ((first | refine brB_dec (fun hb => ?_) (fun hb => ?_) | refine brB_ndec (fun hb => ?_) (fun hb => ?_)) <;> (first | contradiction | ((try simp only [lnS] at hb); (first | (exfalso; omega) | skip)))) | (refine brB_split (fun hb => ?_) (fun hb => ?_) <;> (first | contradiction | exact absurd (hb.symm.trans (by assumption) : false = true) (by decide) | exact absurd (hb.symm.trans (by assumption) : true = false) (by decide) | skip))) <;> (conv => whnf)))
  · exact bool_eq (by simp [*])
  · exact bool_eq (by simp [*])
  · exact bool_eq (by simp [*])
  · exact bool_eq (by simp [*])
  · have hne : c.parts.length ≠ d.parts.length := by omega
    exact bool_eq (by rw [sameCL_len _ _ hne, Bool.and_false])
  · have hlen : c.parts.length = d.parts.length := by omega
    have hS : (decide (c.kind = d.kind) && decide (c.name = d.name) && decide (c.lo = d.lo) && decide (c.hi = d.hi) && sameCL c.parts d.parts) = sameCL c.parts d.parts := by simp [*]
    refine loop_rule hty (fun j : Nat => ([(2, .ea 5 [[.int .i64 c.kind, .str c.name, .int .i64 c.lo, .int .i64 c.hi, .sl 5 (c.parts.map cnR)]] 0 0), (3, .ea 5 [[.int .i64 d.kind, .str d.name, .int .i64 d.lo, .int .i64 d.hi, .sl 5 (d.parts.map cnR)]] 0 0), (4, .d (.bool false)), (5, .d (.int .i64 j))], [])) (fun j => j ≤ c.parts.length ∧ sameCL c.parts d.parts = sameCL (c.parts.drop j) (d.parts.drop j)) (fun j => c.parts.length - j) 0 ⟨by omega, rfl⟩ ⟨by repeat' (first | exact trivial | exact rfl | (rw [List.length_map]; exact rfl) | exact ⟨rfl, rfl⟩ | refine And.intro ?_ ?_), trivial⟩ ?_
    rintro j ⟨hj, hn⟩
    ((conv => whnf); repeat ((first | (intro hq; try simp only [lnS] at hq) | refine sI ?_ | refine Exists.intro _ (And.intro rfl ?_)); (conv => whnf)))
    refine brB_dec (fun h1 => ?_) (fun h1 => ?_)
    · have hjl : j < c.parts.length := by simp only [List.length_map] at h1; omega
      have hjm : j < d.parts.length := by omega
      have hrow : (c.parts.map cnR)[(j : Int).toNat]? = some (cnR c.parts[j]) := rowC_at hjl
      have hrow2 : (d.parts.map cnR)[(j : Int).toNat]? = some (cnR d.parts[j]) := rowC_at hjm
      have hcall := ih c.parts[j] (List.getElem_mem hjl) d.parts[j]
      rw [List.drop_eq_getElem_cons hjl, List.drop_eq_getElem_cons hjm, sameCL] at hn
      generalize c.parts[j] = x at hrow hn hcall
      generalize d.parts[j] = y at hrow2 hn hcall
      rw [cnR_eq] at hrow hrow2
      rw [cnR_eq, cnR_eq] at hcall
      ((conv => whnf); repeat' ((first | (intro hq; (try simp only [lnS] at hq); (try rewrite [List.length_map])) | refine sJ ?_ | refine Exists.intro _ (And.intro rfl ?_) | (refine Exists.intro (show (_ : Nat) < List.length _ from by first | omega | (simp only [List.length_cons, List.length_nil]; omega) | simp) ?_) | (refine ⟨_, hrow, ?_⟩) | (refine ⟨_, hrow2, ?_⟩) | (refine ⟨.d (.bool _), _, [], rfl, trivial, hcall, ?_⟩) | refine draw_rule hty (by kernel_rfl) (by kernel_rfl) ?_ | ((first | refine brB_dec (fun hb => ?_) (fun hb => ?_) | refine brB_ndec (fun hb => ?_) (fun hb => ?_)) <;> (first | contradiction | ((try simp only [lnS] at hb); (first | (exfalso; omega) | skip)))) | (refine brB_split (fun hb => ?_) (fun hb => ?_) <;> (first | contradiction | exact absurd (hb.symm.trans (by assumption) : false = true) (by decide) | exact absurd (hb.symm.trans (by assumption) : true = false) (by decide) | skip))) <;> (conv => whnf)))
      · have hf : sameC x y = false := by simpa using (by assumption : (!sameC x y) = true)
        refine bool_eq (Eq.symm ?_)
        rw [hS, hn, hf, Bool.false_and]
      · have hf : sameC x y = true := by simpa using (by assumption : (!sameC x y) = false)
        refine ⟨j + 1, ⟨by omega, ?_⟩, by dsimp only; omega, by repeat' (first | exact trivial | exact rfl | refine And.intro ?_ ?_), trivial⟩
        rw [hn, hf, Bool.true_and]
    · have hjl : j = c.parts.length := by simp only [List.length_map] at h1; omega
      subst hjl
      ((conv => whnf); repeat' ((first | (intro hq; (try simp only [lnS] at hq); (try rewrite [List.length_map])) | refine sJ ?_ | refine Exists.intro _ (And.intro rfl ?_) | (refine Exists.intro (show (_ : Nat) < List.length _ from by first | omega | (simp only [List.length_cons, List.length_nil]; omega) | simp) ?_) | fail | refine draw_rule hty (by kernel_rfl) (by kernel_rfl) ?_ | ((first | refine brB_dec (fun hb => ?_) (fun hb => ?_) | refine brB_ndec (fun hb => ?_) (fun hb => ?_)) <;> (first | contradiction | ((try simp only [lnS] at hb); (first | (exfalso; omega) | skip)))) | (refine brB_split (fun hb => ?_) (fun hb => ?_) <;> (first | contradiction | exact absurd (hb.symm.trans (by assumption) : false = true) (by decide) | exact absurd (hb.symm.trans (by assumption) : true = false) (by decide) | skip))) <;> (conv => whnf)))
      refine bool_eq (Eq.symm ?_)
      rw [hS, hn, List.drop_length, hlen, List.drop_length]; rfl
end Go.Proofs.YtkbmlchceiglfaaGreatDoor

namespace Go.Proofs.YtkbmlchceiglfaaGreatDoor
set_option linter.unnecessarySimpa false
set_option linter.unusedSectionVars false
set_option linter.unusedSimpArgs false
set_option linter.unusedVariables false
open Go.Proofs
set_option maxRecDepth 10000
attribute [local irreducible] SemVC CallVC Tri Stuck YVC GenP GenVC

def sameAx (x y : Ax) : Bool :=
  x.isopen == y.isopen && decide (x.kind = y.kind) && sameC x.left y.left && sameC x.right y.right && decide (x.roles = y.roles) && decide (x.role = y.role) && decide (x.a = y.a) && decide (x.b = y.b)

set_option maxHeartbeats 8000000 in
theorem sameAxiom_spec (x y : Ax) : Tri Tryz.prog 23 [.d (.agg (axR x)), .d (.agg (axR y))] [] (fun r => r = .d (.bool (sameAx x y))) := by
  have hl := same_spec x.left y.left
  have hr := same_spec x.right y.right
  have hs := sameList_spec x.roles y.roles
  rw [cnR_eq, cnR_eq] at hl
  rw [cnR_eq, cnR_eq] at hr
  refine tri_of_bodyF false [2, 3] hty Tryz.func23 rfl (kp [0, 1, 2, 3, 4]) [] _ _ _ (by simp [Tryz.f23]) (by simp) ?_
  ((conv => whnf); repeat' ((first | (intro hq; (try simp only [lnS] at hq); (try rewrite [List.length_map])) | refine sJ ?_ | refine Exists.intro _ (And.intro rfl ?_) | (refine Exists.intro (show (_ : Nat) < List.length _ from by first | omega | (simp only [List.length_cons, List.length_nil]; omega) | simp) ?_) | (refine call_tri [] hl trivial (fun r hs => ?_); subst hs) | (refine call_tri [] hr trivial (fun r hs => ?_); subst hs) | (refine call_tri [] hs trivial (fun r hs => ?_); subst hs) | refine draw_rule hty (by kernel_rfl) (by kernel_rfl) ?_ | ((first | refine brB_dec (fun hb => ?_) (fun hb => ?_) | refine brB_ndec (fun hb => ?_) (fun hb => ?_)) <;> (first | contradiction | ((try simp only [lnS] at hb); (first | (exfalso; omega) | skip)))) | (refine brB_split (fun hb => ?_) (fun hb => ?_) <;> (first | contradiction | exact absurd (hb.symm.trans (by assumption) : false = true) (by decide) | exact absurd (hb.symm.trans (by assumption) : true = false) (by decide) | skip))) <;> (conv => whnf)))
  all_goals (clear hl hr hs; refine bool_eq (Eq.symm ?_); unfold sameAx; simp_all)
end Go.Proofs.YtkbmlchceiglfaaGreatDoor

namespace Go.Proofs.YtkbmlchceiglfaaGreatDoor
set_option linter.unnecessarySimpa false
set_option linter.unusedSectionVars false
set_option linter.unusedSimpArgs false
set_option linter.unusedVariables false
open Go.Proofs
set_option maxRecDepth 10000
attribute [local irreducible] SemVC CallVC Tri Stuck YVC GenP GenVC

/-- Four lists of names. -/
structure Nm where
  a : List (List UInt8)
  b : List (List UInt8)
  c : List (List UInt8)
  d : List (List UInt8)

def nmR (x : Nm) : List D := [strl x.a, strl x.b, strl x.c, strl x.d]

set_option maxHeartbeats 8000000 in
theorem sameNames_spec (x y : Nm) : Tri Tryz.prog 16 [.d (.agg (nmR x)), .d (.agg (nmR y))] [] (fun r => r = .d (.bool (decide (x.a = y.a) && decide (x.b = y.b) && decide (x.c = y.c) && decide (x.d = y.d)))) := by
  refine tri_of_bodyF false [2, 3] hty Tryz.func16 rfl (kp [0, 1, 2, 3, 4]) [] _ _ _ (by simp [Tryz.f16]) (by simp) ?_
  ((conv => whnf); repeat' ((first | (intro hq; (try simp only [lnS] at hq); (try rewrite [List.length_map])) | refine sJ ?_ | refine Exists.intro _ (And.intro rfl ?_) | (refine Exists.intro (show (_ : Nat) < List.length _ from by first | omega | (simp only [List.length_cons, List.length_nil]; omega) | simp) ?_) | (refine call_tri [] (sameList_spec _ _) trivial (fun r hs => ?_); subst hs) | refine draw_rule hty (by kernel_rfl) (by kernel_rfl) ?_ | ((first | refine brB_dec (fun hb => ?_) (fun hb => ?_) | refine brB_ndec (fun hb => ?_) (fun hb => ?_)) <;> (first | contradiction | ((try simp only [lnS] at hb); (first | (exfalso; omega) | skip)))) | (refine brB_split (fun hb => ?_) (fun hb => ?_) <;> (first | contradiction | exact absurd (hb.symm.trans (by assumption) : false = true) (by decide) | exact absurd (hb.symm.trans (by assumption) : true = false) (by decide) | skip))) <;> (conv => whnf)))
  all_goals (refine bool_eq (Eq.symm ?_); simp_all)
end Go.Proofs.YtkbmlchceiglfaaGreatDoor
