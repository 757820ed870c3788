/-
  Statements whose order is open: a head of reads and calls in any order, then a tail that is forced. Terms: the order of concepts: compare and Compare. Terms: Compare. Terms: CompareAxiom. Terms: the reference's SameList, Same, SameAxiom. Terms: the reference's Same. Terms: the reference's SameAxiom. Terms: the reference's SameNames. Terms: the reference's count and Few. Terms: the reference's FewAxiom. Terms: the types that come in, what their data are, and what the laid variables hold. Base: the types that come in.
  Conditions: none.
-/
import Derived.Test.YtnemengadjimcaaGreatDoorMSs
import Derived.Test.YtnemengadjimcaaGreatDoorMAc
import Derived.Test.YtnemengadjimcaaGreatDoorMSna
import Derived.Test.YtnemengadjimcaaGreatDoorRows
import Derived.Test.YtnemengadjimcaaGreatDoorMLd
import Derived.LaidHandle
import Derived.MakeChecks
set_option linter.unnecessarySimpa false
set_option linter.unusedSectionVars false
set_option linter.unusedSimpArgs false
set_option linter.unusedVariables false
set_option maxHeartbeats 8000000
namespace Go.Proofs.YtnemengadjimcaaGreatDoor
open Go.RowKit
section
variable {P : Program}
theorem wpAny_more {ops : Array Oper} {Q : Exit → Act → World → Prop} : ∀ (fuel : Nat) (listed : Array Bool) (a : Act) (w : World), wpAny P .any ops Q fuel listed a w → wpAny P .any ops Q (fuel + 1) listed a w := by
 intro fuel
 induction fuel with
 | zero => intro listed a w h; exact ⟨fun _ => h.2, fun i hi => (by rw [h.1] at hi; cases hi)⟩
 | succ fuel ih => intro listed a w h; exact ⟨h.1, fun i hi => wpOp_mono (fun a w => ih _ a w) (h.2 i hi)⟩
theorem wpAny_plus {ops : Array Oper} {Q : Exit → Act → World → Prop} {fuel : Nat} {listed : Array Bool} {a : Act} {w : World} (h : wpAny P .any ops Q fuel listed a w) : ∀ k, wpAny P .any ops Q (k + fuel) listed a w
 | 0 => by rw [Nat.zero_add]; exact h
 | k + 1 => by rw [Nat.add_right_comm]; exact wpAny_more _ _ _ _ (wpAny_plus h k)
def preB (l : List Oper) (m : Nat) : Bool :=
 decide (m < l.length) &&
 (List.range l.length).all fun i =>
  match l[i]? with
  | some o =>
   (o.after.all fun e => !Region.binds .any e || decide (e.on < i)) &&
   (if i < m then o.guard.isNone && (List.range (m + 1)).any fun k => decide (i < k) && (match l[k]? with
     | some o' => o'.after.any fun e => Region.binds .any e && e.on == i
     | none => false)
  else i == m || o.after.any fun e => Region.binds .any e && decide (m ≤ e.on))
  | none => false
theorem preB_spec {l : List Oper} {m : Nat} (h : preB l m = true) : m < l.length ∧ ∀ i o, l[i]? = some o →
  (∀ e ∈ o.after, Region.binds .any e = true → e.on < i) ∧
  (i < m → o.guard = none ∧ ∃ k o', i < k ∧ k ≤ m ∧ l[k]? = some o' ∧ ∃ e ∈ o'.after, Region.binds .any e = true ∧ e.on = i) ∧
  (m < i → ∃ e ∈ o.after, Region.binds .any e = true ∧ m ≤ e.on) := by
 simp only [preB, Bool.and_eq_true, decide_eq_true_eq, List.all_eq_true, List.mem_range] at h
 refine ⟨h.1, fun i o ho => ?_⟩
 have hi := h.2 i (List.getElem?_eq_some_iff.1 ho).1
 rw [ho] at hi
 simp only [Bool.and_eq_true] at hi
 obtain ⟨h1, h2⟩ := hi
 refine ⟨fun e he hb => ?_, fun him => ?_, fun hmi => ?_⟩
 ·rw [Array.all_eq_true'] at h1
  have := h1 e he
  simpa [hb] using this
 ·rw [if_pos him] at h2
  simp only [Bool.and_eq_true, Option.isNone_iff_eq_none, List.any_eq_true, List.mem_range, decide_eq_true_eq] at h2
  obtain ⟨hg, k, hk, hik, hx⟩ := h2
  refine ⟨hg, ?_⟩
  split at hx
  ·rename_i o' ho'
   obtain ⟨e, he, hb⟩ := Array.any_eq_true'.1 hx
   simp only [Bool.and_eq_true, beq_iff_eq] at hb
   exact ⟨k, o', hik, by omega, ho', e, he, hb.1, hb.2⟩
  ·cases hx
 ·rw [if_neg (by omega)] at h2
  have : (i == m) = false := by simp; omega
  rw [this, Bool.false_or] at h2
  obtain ⟨e, he, hb⟩ := Array.any_eq_true'.1 h2
  simp only [Bool.and_eq_true, decide_eq_true_eq] at hb
  exact ⟨e, he, hb.1, hb.2⟩
theorem getD_app {x : Array Bool} {m k : Nat} {d : Bool} (hx : x.size = m) (i : Nat) : (x ++ Array.replicate k false).getD i d = if i < m then x.getD i d else if i < m + k then false else d := by
 simp only [Array.getD_eq_getD_getElem?, Array.getElem?_append, hx]
 split
 ·rfl
 ·rw [Array.getElem?_replicate]
  split
  ·rw [if_pos (by omega)]; rfl
  ·rw [if_neg (by omega)]; rfl
theorem pre_any {l : List Oper} {m : Nat} {C : World → Prop} {Q : Act → Prop} {Q' : Exit → Act → World → Prop} (hB : preB l m = true)
  (ht : ∀ a w, C w → Q a → wpAny P .any l.toArray Q' (l.length - m) (Array.replicate m true ++ Array.replicate (l.length - m) false) a w) :
  ∀ (f : Nat) (x : Array Bool) (a : Act) (w : World), C w → x.size = m → (∀ (i : Nat) o, i < m → l[i]? = some o → x.getD i true = true → ∀ e ∈ o.after, Region.binds .any e = true → x.getD e.on false = true) →
   wpAnyQ P .any (l.take m).toArray C Q f x a → wpAny P .any l.toArray Q' (f + (l.length - m)) (x ++ Array.replicate (l.length - m) false) a w := by
 obtain ⟨hm, hs⟩ := preB_spec hB
 have take_lt : ∀ i, i < m → (l.take m).toArray[i]? = l[i]? := fun i hi => by simp [List.getElem?_take, hi]
 have full : ∀ x : Array Bool, x.size = m → Region.ready .any (l.take m).toArray x = [] → x = Array.replicate m true := by
  intro x hx hr
  have all : ∀ i, i < m → x.getD i true = true := by
   intro i
   induction i using Nat.strongRecOn with
   | _ i ih =>
    intro him
    by_cases hc : x.getD i true = true
    ·exact hc
    ·exfalso
     have hc : x.getD i true = false := by simpa using hc
     have hlt : i < l.length := by omega
     have hmem : i ∈ Region.ready .any (l.take m).toArray x := mem_ready.2 ⟨hc, l[i], by rw [take_lt i him]; exact List.getElem?_eq_getElem hlt, fun e he hb => by
      have hlt' := (hs i _ (List.getElem?_eq_getElem hlt)).1 e he hb
      have := ih e.on hlt' (by omega)
      simp only [Array.getD_eq_getD_getElem?] at this ⊢
      rw [Array.getElem?_eq_getElem (by omega)] at this ⊢
      exact this⟩
     rw [hr] at hmem
     cases hmem
  apply Array.ext
  ·simp [hx]
  ·intro i h1 h2
   have := all i (by omega)
   simp only [Array.getD_eq_getD_getElem?, Array.getElem?_eq_getElem h1, Option.getD_some] at this
   simpa using this
 intro f
 induction f with
 | zero =>
  intro x a w hw hx _ h
  rw [full x hx h.1, Nat.zero_add]
  exact ht a w hw h.2
 | succ f ih =>
  intro x a w hw hx hcl h
  by_cases hr : Region.ready .any (l.take m).toArray x = []
  ·rw [full x hx hr]
   exact wpAny_plus (ht a w hw (h.1 hr)) _
  ·have sub : ∀ i ∈ Region.ready .any l.toArray (x ++ Array.replicate (l.length - m) false), i < m ∧ i ∈ Region.ready .any (l.take m).toArray x := by
    intro i hi
    obtain ⟨h1, o, ho, h2⟩ := mem_ready.1 hi
    have ho : l[i]? = some o := by simpa using ho
    have hlt := (List.getElem?_eq_some_iff.1 ho).1
    have hlow : ∀ j, j < m → (x ++ Array.replicate (l.length - m) false).getD j false = true → x.getD j false = true := fun j hj h => by rw [getD_app hx, if_pos hj] at h; exact h
    have hhigh : ∀ j, m ≤ j → j < l.length → ¬ (x ++ Array.replicate (l.length - m) false).getD j false = true := fun j hj hj' h => by rw [getD_app hx, if_neg (by omega)] at h; split at h <;> cases h
    have him : i < m := by
     by_cases him : i < m
     ·exact him
     ·exfalso
      by_cases hie : m < i
      ·obtain ⟨e, he, hb, hme⟩ := (hs i o ho).2.2 hie
       exact hhigh e.on hme (by have := (hs i o ho).1 e he hb; omega) (h2 e he hb)
      ·have : i = m := by omega
       subst this
       -- every statement of the head is listed
       have all : ∀ d j, j + d = i → 0 < d → x.getD j true = true := by
        intro d
        induction d using Nat.strongRecOn with
        | _ d ihd =>
         intro j hjd hd
         have hjl : j < l.length := by omega
         obtain ⟨_, k, o', hjk, hki, ho', e, he, hb, hej⟩ := (hs j _ (List.getElem?_eq_getElem hjl)).2.1 (by omega)
         have htrue : x.getD j false = true := by
          by_cases hk : k = i
          ·subst hk
           rw [ho] at ho'
           injection ho' with ho'; subst ho'
           have := hlow e.on (by omega) (h2 e he hb)
           rwa [hej] at this
          ·have := hcl k o' (by omega) ho' (ihd (i - k) (by omega) k (by omega) (by omega)) e he hb
           rwa [hej] at this
         simp only [Array.getD_eq_getD_getElem?] at htrue ⊢
         rw [Array.getElem?_eq_getElem (by omega)] at htrue ⊢
         exact htrue
       apply hr
       apply List.eq_nil_iff_forall_not_mem.2
       intro j hj
       obtain ⟨g1, oj, hoj, _⟩ := mem_ready.1 hj
       have hjm : j < i := by
        have := (Array.getElem?_eq_some_iff.1 hoj).1
        simp at this
        omega
       rw [all (i - j) j (by omega) (by omega)] at g1
       cases g1
    refine ⟨him, mem_ready.2 ⟨?_, o, by rw [take_lt i him]; exact ho, fun e he hb => ?_⟩⟩
    ·rw [getD_app hx, if_pos him] at h1; exact h1
    ·exact hlow e.on (by have := (hs i o ho).1 e he hb; omega) (h2 e he hb)
   have hne : Region.ready .any l.toArray (x ++ Array.replicate (l.length - m) false) ≠ [] := by
    obtain ⟨j, hj⟩ := List.exists_mem_of_ne_nil _ hr
    obtain ⟨g1, oj, hoj, g2⟩ := mem_ready.1 hj
    have hjm : j < m := by
     have := (Array.getElem?_eq_some_iff.1 hoj).1
     simp at this
     omega
    have hmem : j ∈ Region.ready .any l.toArray (x ++ Array.replicate (l.length - m) false) := mem_ready.2 ⟨by rw [getD_app hx, if_pos hjm]; exact g1, oj, by rw [take_lt j hjm] at hoj; simpa using hoj, fun e he hb => by
     have := g2 e he hb
     have hem : e.on < m := by
      rw [take_lt j hjm] at hoj
      have := (hs j oj hoj).1 e he hb
      omega
     rw [getD_app hx, if_pos hem]; exact this⟩
    intro h0
    rw [h0] at hmem
    cases hmem
   rw [Nat.add_right_comm]
   refine ⟨fun h0 => absurd h0 hne, fun i hi => ?_⟩
   obtain ⟨him, hip⟩ := sub i hi
   have hlt : i < l.length := by omega
   have ho := List.getElem?_eq_getElem hlt
   have hq := h.2 i hip
   have hg := ((hs i _ ho).2.1 him).1
   have hq' : qOp P l.toArray C i (wpAnyQ P .any (l.take m).toArray C Q f (x.setIfInBounds i true)) a := by
    unfold qOp at hq ⊢
    rw [take_lt i him] at hq
    have : l.toArray[i]? = l[i]? := by simp
    rw [this]
    rw [ho] at hq ⊢
    simp only [Region.wanted, hg] at hq ⊢
    exact hq
   refine wpOp_of_qOp hw (fun a' w' hw' hk => ?_) hq'
   have hset : (x ++ Array.replicate (l.length - m) false).setIfInBounds i true = x.setIfInBounds i true ++ Array.replicate (l.length - m) false := by
    rw [Array.setIfInBounds_append_left (by omega)]
   rw [hset]
   refine ih _ a' w' hw' (by simp [hx]) ?_ hk
   intro j o hj hoj hjt e he hb
   have hup : ∀ k (d : Bool), x.getD k d = true → (x.setIfInBounds i true).getD k d = true := by
    intro k d hk
    simp only [Array.getD_eq_getD_getElem?, Array.getElem?_setIfInBounds] at hk ⊢
    split
    ·split <;> simp_all
    ·exact hk
   by_cases hji : j = i
   ·subst hji
    obtain ⟨_, o2, ho2, h2⟩ := mem_ready.1 hip
    rw [take_lt j him, hoj] at ho2
    injection ho2 with ho2; subst ho2
    exact hup _ _ (h2 e he hb)
   ·refine hup _ _ (hcl j o hj hoj ?_ e he hb)
    simp only [Array.getD_eq_getD_getElem?, Array.getElem?_setIfInBounds] at hjt ⊢
    rw [if_neg (fun h => hji h.symm)] at hjt
    exact hjt
def qpVC (C : Cfg) (all : List Oper) (K : Fr → Prop) : List Oper → Fr → Hp → Prop
 | [], fr, _ => K fr
 | o :: r, fr, hp => qstep C all o fr hp fun fr' => qpVC C all K r fr' hp
theorem qp_sound {C : Cfg} (hti : TyOK C.P C.ti) {all : List Oper} {K : Fr → Prop} {E : Entry} {ρ : Env} {w : World} {hp : Hp} {df : List Deferred} (hm : Mem E ρ hp w) : ∀ (l : List Oper) (fr : Fr) (a : Act), qpVC C all K l fr hp → a.tmps.size = C.nt → a.defers = df → FSat ρ w fr a.tmps →
  wpQuiet C.P all.toArray (Grew w) (fun a' => ∃ fr', K fr' ∧ a'.tmps.size = C.nt ∧ a'.defers = df ∧ FSat ρ w fr' a'.tmps) l a := by
 intro l
 induction l with
 | nil =>
  intro fr a h h1 h2 h3
  exact ⟨fr, h, h1, h2, h3⟩
 | cons o r ih =>
  intro fr a h h1 h2 h3
  simp only [qpVC, qstep] at h
  simp only [wpQuiet]
  obtain ⟨fr0, h3, hh⟩ := guarded_ok h h3
  rcases hh with ⟨hw, h⟩ | ⟨hw, h⟩
  ·simp only [hw, if_true]
   obtain ⟨v, s, q1, q2, q3⟩ := q_ok hti h hm h3
   obtain ⟨fr', p1, p2⟩ := put_ok q3 h1 h3 q2
   exact ⟨v, q1, ih fr' _ p1 (by rw [put_size]; exact h1) (by rw [put_defers]; exact h2) p2⟩
  ·simp only [hw, Bool.false_eq_true, if_false]
   obtain ⟨fr', p1, p2⟩ := put_ok h h1 h3 (Rep.d _ undef (.lit undef))
   exact ih fr' _ p1 (by rw [put_size]; exact h1) (by rw [put_defers]; exact h2) p2
theorem pre_rule {C : Cfg} (hti : TyOK C.P C.ti) {id : Nat} {l : List Oper} {fr : Fr} {hp : Hp} {K : Ex → Fr → Hp → Prop} (m : Nat) (hm : C.P.follows .mixedOrders = true)
  (hB : (preB l m && Region.lexB .any (l.take m).toArray && Region.noSelect l.toArray && ordB l.toArray (List.range' m (l.length - m)) (Array.replicate m true ++ Array.replicate (l.length - m) false) false && noDefer l) = true)
  (h : qpVC C (l.take m) (fun fr' => dopsVC C l (K .normal) (List.range' m (l.length - m)) fr' hp) (l.take m) fr hp) : SemVC C (.region id l.toArray true) fr hp K := by
 intro E a w hpin hrd ⟨h1, h2, ρ, h3, h4⟩
 simp only [Bool.and_eq_true] at hB
 obtain ⟨⟨⟨⟨b1, b2⟩, b3⟩, b4⟩, hnd⟩ := hB
 simp only [Region.lexB, Bool.and_eq_true] at b2
 refine region_any_in hm hnd PostX.noOut ?_
 have hlt := (preB_spec b1).1
 have hq := qp_sound (C := C) hti (all := l.take m) h3 (l.take m) fr a h h1 rfl h4
 have hl := wpAnyQ_lex (P := C.P) (C := Grew w) (md := .any) b2.1 (l.take m) 0 (Array.replicate (l.take m).toArray.size false) a (by simp) (by simpa using b2.2) hq
 have hlen : (l.take m).length = m := by simp; omega
 have hsz : (l.take m).toArray.size = m := by simp; omega
 rw [hlen, hsz] at hl
 have := pre_any (P := C.P) (C := Grew w) (Q' := PostX C E K) b1 (fun a' w' hg hQ => by
  obtain ⟨fr', k1, k2, k3, k4⟩ := hQ
  obtain ⟨m1, m2⟩ := h3.grow_same hg
  have := dops_sound (C := C) hti (E := E) hpin b3 _ _ false fr' hp ρ a' _ b4 k1 m1 k2 (k3.trans h2) (m2 fr' _ k4)
  rw [List.length_range'] at this
  exact wpAny_of_E _ _ _ _ _ (wpE_Q (Q' := PostX C E K .normal) (fun a w ⟨fr', hp', k1, k2⟩ => ⟨.normal, fr', hp', E, .refl E, trivial, k1, k2⟩) _ _ _ _ _ this)) m (Array.replicate m false) a _ (Grew.drew w) (by simp) (fun i o hi _ hx => by simp [hi] at hx) hl
 have e1 : m + (l.length - m) = l.toArray.size := by simp; omega
 have e2 : Array.replicate m false ++ Array.replicate (l.length - m) false = Array.replicate l.toArray.size false := by rw [Array.replicate_append_replicate, e1]
 rw [e1, e2] at this
 exact this
end
end Go.Proofs.YtnemengadjimcaaGreatDoor
namespace Go.Proofs.YtnemengadjimcaaGreatDoor
open Go.Proofs
set_option maxRecDepth 10000
theorem Tri.osl {P : Program} {f : FuncId} {id z : Nat} {rows : List (List D)} {post : SV → Prop} (h : Tri P f [.d (.sl z rows)] [] post) : Tri P f [.osl id z rows] [] post := by
 unfold Tri at h ⊢
 intro w ρ vs a b c
 refine h w ρ vs a ⟨b.1, fun j s v hs hv => ?_⟩ (fun id o ho => by cases ho)
 match j, hs with
 | 0, hs =>
  injection hs with hs; subst hs
  exact .d _ _ (b.2 0 _ v rfl hv).osl_inv.1
attribute [local irreducible] SemVC CallVC Tri Stuck YVC GenP GenVC
theorem compare_spec : ∀ (c d : Cn), Tri Tryz.prog 123 [.d (.agg (grR c)), .d (.agg (grR d))] [] (fun r => r = .d (.int .i64 (cmpC c d))) := by
 refine Cn.ind ?_
 intro c ih d
 have hL := compareFunc_spec 123 (by kernel_rfl) c.parts d.parts (fun a ha b _ => ih a ha b)
 rw [grR_eq, grR_eq, cmpC_eq]
 refine tri_of_bodyF false [2, 3] hty Tryz.func123 rfl (kp [0, 1, 2, 3, 4, 5, 42]) [] _ _ _ (by simp [Tryz.f123]) (by simp) ?_
 ((conv => whnf); repeat ((first | (intro hq; try simp only [lnS] at hq) | refine sI ?_ | refine .intro _ (.intro rfl ?_)); (conv => whnf)))
 refine pre_rule hty 33 (by kernel_rfl) (by kernel_rfl) ?_
 ((conv => whnf); repeat ((first | (intro hq; try simp only [lnS] at hq) | refine sI ?_ | refine .intro _ (.intro rfl ?_)); (conv => whnf)))
 refine ⟨.d (.int .i64 _), _, [], rfl, trivial, compareI_spec _ _, ?_⟩
 ((conv => whnf); repeat ((first | (intro hq; try simp only [lnS] at hq) | refine sI ?_ | refine .intro _ (.intro rfl ?_)); (conv => whnf)))
 refine ⟨.d (.int .i64 _), _, [], rfl, trivial, compareI_spec _ _, ?_⟩
 ((conv => whnf); repeat ((first | (intro hq; try simp only [lnS] at hq) | refine sI ?_ | refine .intro _ (.intro rfl ?_)); (conv => whnf)))
 refine ⟨.d (.int .i64 _), _, [], rfl, trivial, strCompare_spec _ _, ?_⟩
 ((conv => whnf); repeat ((first | (intro hq; try simp only [lnS] at hq) | refine sI ?_ | refine .intro _ (.intro rfl ?_)); (conv => whnf)))
 refine ⟨.d (.int .i64 _), _, [], rfl, trivial, compareI_spec _ _, ?_⟩
 ((conv => whnf); repeat ((first | (intro hq; try simp only [lnS] at hq) | refine sI ?_ | refine .intro _ (.intro rfl ?_)); (conv => whnf)))
 refine ⟨.d (.int .i64 _), _, [], rfl, trivial, compareI_spec _ _, ?_⟩
 ((conv => whnf); repeat ((first | (intro hq; try simp only [lnS] at hq) | refine sI ?_ | refine .intro _ (.intro rfl ?_)); (conv => whnf)))
 refine ⟨[], (fun r => r = .d (.int .i64 (headC c d))), trivial, Tri.osl (or_spec [_, _, _, _, _]), fun r hs => ?_⟩
 subst hs
 ((conv => whnf); repeat' ((first | (intro hq; (try simp only [lnS] at hq); (try rewrite [List.length_map])) | refine sJ ?_ | refine .intro _ (.intro rfl ?_) | (refine .intro (show (_ : Nat) < List.length _ from by first | omega | (simp only [lnS]; omega) | simp) ?_) | (refine call_tri [] hL trivial (fun r hs => ?_); subst hs) | refine draw_rule hty (by kernel_rfl) (by kernel_rfl) ?_ | ((first | refine brB_dec ?_ ?_ | refine brB_ndec ?_ ?_) <;> intro hb <;> (first | contradiction | ((try simp only [lnS] at hb); try (exfalso; omega)))) | (refine brB_split ?_ ?_ <;> intro hb <;> (first | contradiction | exact bT hb (by assumption) | exact bF hb (by assumption) | skip))) <;> (conv => whnf)))
 ·exact int_eq (if_pos hb).symm
 ·exact int_eq (if_neg (fun h => h hb)).symm
end Go.Proofs.YtnemengadjimcaaGreatDoor
namespace Go.Proofs.YtnemengadjimcaaGreatDoor
open Go.Proofs
set_option maxRecDepth 10000
attribute [local irreducible] SemVC CallVC Tri Stuck YVC GenP GenVC
theorem Compare_spec (c d : Cn) (hc : sizeF c ≤ 1000000) (hd : sizeF d ≤ 1000000) : Tri Tryz.prog 70 [.d (.agg (cnR c)), .d (.agg (cnR d))] [] (fun r => r = .d (.int .i64 (cmpC c d))) := by
 have h1 := grow_spec c hc
 have h2 := grow_spec d hd
 rw [cnR_eq] at h1 h2 ⊢
 rw [cnR_eq d]
 rw [grR_eq] at h1
 rw [grR_eq] at h2
 have h3 := compare_spec c d
 rw [grR_eq, grR_eq] at h3
 refine tri_of_bodyF false [2, 3] hty Tryz.func70 rfl (kp [0, 1, 2, 3, 4]) [] _ _ _ (by simp [Tryz.f70]) (by simp) ?_
 ((conv => whnf); repeat' ((first | (intro hq; (try simp only [lnS] at hq); (try rewrite [List.length_map])) | refine sJ ?_ | refine .intro _ (.intro rfl ?_) | (refine .intro (show (_ : Nat) < List.length _ from by first | omega | (simp only [lnS]; omega) | simp) ?_) | (refine call_tri [] h1 trivial (fun r hs => ?_); subst hs) | (refine call_tri [] h2 trivial (fun r hs => ?_); subst hs) | (refine call_tri [] h3 trivial (fun r hs => ?_); subst hs) | (refine tree_rule (id := 1) hty (.alt 0 (.alt 1 (.alt 2 (.alt 3 (.alt 4 (.first 5 .done) .stop) .stop) .stop) (.alt 2 (.alt 1 (.alt 3 (.alt 4 (.first 5 .done) .stop) .stop) .stop) .stop)) (.alt 2 (.alt 0 (.alt 1 (.alt 3 (.alt 4 (.first 5 .done) .stop) .stop) .stop) .stop) .stop)) (by kernel_rfl) (by kernel_rfl) ?_) | exact trivial | (refine And.intro ?_ ?_) | refine draw_rule hty (by kernel_rfl) (by kernel_rfl) ?_ | ((first | refine brB_dec ?_ ?_ | refine brB_ndec ?_ ?_) <;> intro hb <;> (first | contradiction | ((try simp only [lnS] at hb); try (exfalso; omega)))) | (refine brB_split ?_ ?_ <;> intro hb <;> (first | contradiction | exact bT hb (by assumption) | exact bF hb (by assumption) | skip))) <;> (conv => whnf)))
 all_goals rfl
end Go.Proofs.YtnemengadjimcaaGreatDoor
namespace Go.Proofs.YtnemengadjimcaaGreatDoor
open Go.Proofs
set_option maxRecDepth 10000
attribute [local irreducible] SemVC CallVC Tri Stuck YVC GenP GenVC
def axHead (x y : Ax) : Int := orF [cmpI (weightF x) (weightF y), cmpI x.kind y.kind]
def axTail (x y : Ax) : Int := orF [cmpSL x.roles y.roles, cmpB x.role y.role, cmpB x.a y.a, cmpB x.b y.b]
def cmpAx (x y : Ax) : Int :=
 if axHead x y ≠ 0 then axHead x y
 else if cmpC x.left y.left ≠ 0 then cmpC x.left y.left
 else if cmpC x.right y.right ≠ 0 then cmpC x.right y.right
 else axTail x y
theorem CompareAxiom_spec (x y : Ax) (h1 : sizeF x.left ≤ 1000000) (h2 : sizeF x.right ≤ 1000000) (h3 : x.roles.length ≤ 1000000) (h4 : sizeF y.left ≤ 1000000) (h5 : sizeF y.right ≤ 1000000) (h6 : y.roles.length ≤ 1000000) :
  Tri Tryz.prog 30 [.d (.agg (axR x)), .d (.agg (axR y))] [] (fun r => r = .d (.int .i64 (cmpAx x y))) := by
 have hw1 := weight_spec x h1 h2 h3
 have hw2 := weight_spec y h4 h5 h6
 have hl := Compare_spec x.left y.left h1 h4
 have hr := Compare_spec x.right y.right h2 h5
 rw [cnR_eq, cnR_eq] at hl
 rw [cnR_eq, cnR_eq] at hr
 refine tri_of_bodyF false [2, 3] hty Tryz.func30 rfl (kp [0, 1, 2, 3, 4, 18, 25, 32]) [] _ _ _ (by simp [Tryz.f30]) (by simp) ?_
 ((conv => whnf); repeat ((first | (intro hq; try simp only [lnS] at hq) | refine sI ?_ | refine .intro _ (.intro rfl ?_)); (conv => whnf)))
 refine pre_rule hty 10 (by kernel_rfl) (by kernel_rfl) ?_
 ((conv => whnf); repeat ((first | (intro hq; try simp only [lnS] at hq) | refine sI ?_ | refine .intro _ (.intro rfl ?_)); (conv => whnf)))
 refine ⟨.d (.int .i64 _), _, [], rfl, trivial, hw1, ?_⟩
 ((conv => whnf); repeat ((first | (intro hq; try simp only [lnS] at hq) | refine sI ?_ | refine .intro _ (.intro rfl ?_)); (conv => whnf)))
 refine ⟨.d (.int .i64 _), _, [], rfl, trivial, hw2, ?_⟩
 ((conv => whnf); repeat ((first | (intro hq; try simp only [lnS] at hq) | refine sI ?_ | refine .intro _ (.intro rfl ?_)); (conv => whnf)))
 refine ⟨.d (.int .i64 _), _, [], rfl, trivial, compareI_spec _ _, ?_⟩
 ((conv => whnf); repeat ((first | (intro hq; try simp only [lnS] at hq) | refine sI ?_ | refine .intro _ (.intro rfl ?_)); (conv => whnf)))
 refine ⟨.d (.int .i64 _), _, [], rfl, trivial, compareI_spec _ _, ?_⟩
 ((conv => whnf); repeat ((first | (intro hq; try simp only [lnS] at hq) | refine sI ?_ | refine .intro _ (.intro rfl ?_)); (conv => whnf)))
 refine ⟨[], (fun r => r = .d (.int .i64 (axHead x y))), trivial, Tri.osl (or_spec [_, _]), fun r hs => ?_⟩
 subst hs
 ((conv => whnf); repeat' ((first | (intro hq; (try simp only [lnS] at hq); (try rewrite [List.length_map])) | refine sJ ?_ | refine .intro _ (.intro rfl ?_) | (refine .intro (show (_ : Nat) < List.length _ from by first | omega | (simp only [lnS]; omega) | simp) ?_) | (refine pre_rule hty 20 (by kernel_rfl) (by kernel_rfl) ?_) | (refine call_tri [] hl trivial (fun r hs => ?_); subst hs) | (refine call_tri [] hr trivial (fun r hs => ?_); subst hs) | (refine ⟨.d (.int .i64 _), _, [], rfl, trivial, compareSL_spec _ _, ?_⟩) | (refine ⟨.d (.int .i64 _), _, [], rfl, trivial, strCompare_spec _ _, ?_⟩) | (refine ⟨[], (fun r => r = .d (.int .i64 (axTail x y))), trivial, Tri.osl (or_spec [_, _, _, _]), fun r hs => ?_⟩; subst hs) | refine draw_rule hty (by kernel_rfl) (by kernel_rfl) ?_ | ((first | refine brB_dec ?_ ?_ | refine brB_ndec ?_ ?_) <;> intro hb <;> (first | contradiction | ((try simp only [lnS] at hb); try (exfalso; omega)))) | (refine brB_split ?_ ?_ <;> intro hb <;> (first | contradiction | exact bT hb (by assumption) | exact bF hb (by assumption) | skip))) <;> (conv => whnf)))
 all_goals refine int_eq (Eq.symm ?_)
 all_goals unfold cmpAx
 all_goals simp_all
end Go.Proofs.YtnemengadjimcaaGreatDoor
namespace Go.Proofs.YtnemengadjimcaaGreatDoor
open Go.Proofs
set_option maxRecDepth 10000
attribute [local irreducible] SemVC CallVC Tri Stuck YVC GenP GenVC
end Go.Proofs.YtnemengadjimcaaGreatDoor
namespace Go.Proofs.YtnemengadjimcaaGreatDoor
open Go.Proofs
set_option maxRecDepth 10000
attribute [local irreducible] SemVC CallVC Tri Stuck YVC GenP GenVC
end Go.Proofs.YtnemengadjimcaaGreatDoor
namespace Go.Proofs.YtnemengadjimcaaGreatDoor
open Go.Proofs
set_option maxRecDepth 10000
attribute [local irreducible] SemVC CallVC Tri Stuck YVC GenP GenVC
end Go.Proofs.YtnemengadjimcaaGreatDoor
namespace Go.Proofs.YtnemengadjimcaaGreatDoor
open Go.Proofs
set_option maxRecDepth 10000
attribute [local irreducible] SemVC CallVC Tri Stuck YVC GenP GenVC
end Go.Proofs.YtnemengadjimcaaGreatDoor
namespace Go.Proofs.YtnemengadjimcaaGreatDoor
open Go.Proofs
set_option maxRecDepth 10000
attribute [local irreducible] SemVC CallVC Tri Stuck YVC GenP GenVC
mutual
def countC : Cn → Int → Int → Int
 | .mk _ n _ _ ps, deep, most => if deep ≤ 0 then most + 1 else countL ps (deep - 1) most (1 + n.length / 40)
def countL : List Cn → Int → Int → Int → Int
 | [], _, _, t => t
 | c :: r, deep, most, t => if t ≤ most then countL r deep most (t + countC c deep (most - t)) else t
end
theorem countC_eq (c : Cn) (deep most : Int) : countC c deep most = if deep ≤ 0 then most + 1 else countL c.parts (deep - 1) most (1 + (c.name.length : Int) / 40) := by
 cases c; rw [countC]; rfl
theorem count_spec : ∀ (c : Cn) (deep most : Int), deep ≤ 40 → 0 ≤ deep → 0 ≤ most → most ≤ 150 → Tri Tryz.prog 187 [.d (.agg (cnR c)), .d (.int .i64 deep), .d (.int .i64 most)] []
  (fun r => r = .d (.int .i64 (countC c deep most)) ∧ 1 ≤ countC c deep most ∧ countC c deep most ≤ most + 300000000000000000) := by
 refine Cn.ind ?_
 intro c ih deep most hd0 hd hm0 hm
 rw [cnR_eq, countC_eq]
 refine tri_of_bodyF false [3] hty Tryz.func187 rfl (kp [0, 1, 2, 3, 6, 7, 8, 10, 27]) [] _ _ _ (by simp [Tryz.f187]) (by simp) ?_
 ((conv => whnf); repeat' ((first | (intro hq; (try simp only [lnS] at hq); (try rewrite [List.length_map])) | refine sJ ?_ | refine .intro _ (.intro rfl ?_) | (refine .intro (show (_ : Nat) < List.length _ from by first | omega | (simp only [lnS]; omega) | simp) ?_) | fail | refine draw_rule hty (by kernel_rfl) (by kernel_rfl) ?_ | ((first | refine brB_dec ?_ ?_ | refine brB_ndec ?_ ?_) <;> intro hb <;> (first | contradiction | ((try simp only [lnS] at hb); try (exfalso; omega)))) | (refine brB_split ?_ ?_ <;> intro hb <;> (first | contradiction | exact bT hb (by assumption) | exact bF hb (by assumption) | skip))) <;> (conv => whnf)))
 ·rw [if_pos (by assumption)]
  exact ⟨rfl, by omega, by omega⟩
 ·have ht : ((c.name.length : Int)).tdiv 40 = (c.name.length : Int) / 40 := Int.tdiv_eq_ediv_of_nonneg (by omega)
  rw [if_neg (by assumption), ht]
  have hT : 1 ≤ 1 + (c.name.length : Int) / 40 ∧ 1 + (c.name.length : Int) / 40 ≤ most + 300000000000000000 := by omega
  generalize (c.name.length : Int) / 40 = q at hT ⊢
  refine ⟨⟨by omega, by omega⟩, ?_⟩
  ((conv => whnf); repeat' ((first | (intro hq; (try simp only [lnS] at hq); (try rewrite [List.length_map])) | refine sJ ?_ | refine .intro _ (.intro rfl ?_) | (refine .intro (show (_ : Nat) < List.length _ from by first | omega | (simp only [lnS]; omega) | simp) ?_) | fail | refine draw_rule hty (by kernel_rfl) (by kernel_rfl) ?_ | ((first | refine brB_dec ?_ ?_ | refine brB_ndec ?_ ?_) <;> intro hb <;> (first | contradiction | ((try simp only [lnS] at hb); try (exfalso; omega)))) | (refine brB_split ?_ ?_ <;> intro hb <;> (first | contradiction | exact bT hb (by assumption) | exact bF hb (by assumption) | skip))) <;> (conv => whnf)))
  refine loop_rule hty (fun p : Nat × Int => ([(1, .d (.int .i64 deep)), (2, .d (.int .i64 most)), (3, .ea 5 [[.int .i64 c.kind, .str c.name, .int .i64 c.lo, .int .i64 c.hi, .sl 5 (c.parts.map cnR)]] 0 0), (7, .d (.int .i64 p.2)), (8, .d (.int .i64 p.1))], [])) (fun p => p.1 ≤ c.parts.length ∧ 1 ≤ p.2 ∧ p.2 ≤ most + 300000000000000000 ∧ countL c.parts (deep - 1) most (1 + q) = countL (c.parts.drop p.1) (deep - 1) most p.2) (fun p => c.parts.length - p.1) (0, 1 + q) ⟨Nat.zero_le _, hT.1, hT.2, rfl⟩ ⟨by repeat' (first | exact trivial | exact rfl | (rw [List.length_map]; exact rfl) | exact ⟨rfl, rfl⟩ | refine And.intro ?_ ?_), trivial⟩ ?_
  rintro ⟨j, t⟩ ⟨hj, ht1, ht2, hn⟩
  dsimp only at hj ht1 ht2 hn
  by_cases hjl : j < c.parts.length
  ·have hrow : (c.parts.map cnR)[(j : Int).toNat]? = some (cnR c.parts[j]) := rowC_at hjl
   have hcall := ih c.parts[j] (List.getElem_mem hjl) (deep - 1) (most - t) (by omega) (by omega)
   rw [List.drop_eq_getElem_cons hjl, countL] at hn
   generalize c.parts[j] = x at hrow hn hcall
   rw [cnR_eq] at hrow hcall
   ((conv => whnf); repeat' ((first | (intro hq; (try simp only [lnS] at hq); (try rewrite [List.length_map])) | refine sJ ?_ | refine .intro _ (.intro rfl ?_) | (refine .intro (show (_ : Nat) < List.length _ from by first | omega | (simp only [lnS]; omega) | simp) ?_) | (refine ⟨_, hrow, ?_⟩) | (refine call_tri [] (hcall (by omega) (by omega)) trivial (fun r hs => ?_); obtain ⟨hs, hs1, hs2⟩ := hs; subst hs) | refine draw_rule hty (by kernel_rfl) (by kernel_rfl) ?_ | ((first | refine brB_dec ?_ ?_ | refine brB_ndec ?_ ?_) <;> intro hb <;> (first | contradiction | ((try simp only [lnS] at hb); try (exfalso; omega)))) | (refine brB_split ?_ ?_ <;> intro hb <;> (first | contradiction | exact bT hb (by assumption) | exact bF hb (by assumption) | skip))) <;> (conv => whnf)))
   ·have h9 : t ≤ most := by first | assumption | omega
    rw [if_pos h9] at hn
    refine ⟨(j + 1, t + countC x (deep - 1) (most - t)), ⟨by dsimp only; omega, by dsimp only; omega, by dsimp only; omega, hn⟩, by dsimp only; omega, by repeat' (first | exact trivial | exact rfl | refine And.intro ?_ ?_), trivial⟩
   ·have h9 : ¬ t ≤ most := by first | assumption | omega
    rw [if_neg h9] at hn
    rw [hn]; exact ⟨rfl, ht1, ht2⟩
  ·have hjl : j = c.parts.length := by omega
   subst hjl
   rw [List.drop_length, countL] at hn
   ((conv => whnf); repeat' ((first | (intro hq; (try simp only [lnS] at hq); (try rewrite [List.length_map])) | refine sJ ?_ | refine .intro _ (.intro rfl ?_) | (refine .intro (show (_ : Nat) < List.length _ from by first | omega | (simp only [lnS]; omega) | simp) ?_) | fail | refine draw_rule hty (by kernel_rfl) (by kernel_rfl) ?_ | ((first | refine brB_dec ?_ ?_ | refine brB_ndec ?_ ?_) <;> intro hb <;> (first | contradiction | ((try simp only [lnS] at hb); try (exfalso; omega)))) | (refine brB_split ?_ ?_ <;> intro hb <;> (first | contradiction | exact bT hb (by assumption) | exact bF hb (by assumption) | skip))) <;> (conv => whnf)))
   all_goals (rw [hn]; exact ⟨rfl, ht1, ht2⟩)
def fewF (c : Cn) : Bool := decide (countC c 40 150 ≤ 150)
theorem few_spec (c : Cn) : Tri Tryz.prog 155 [.d (.agg (cnR c))] [] (fun r => r = .d (.bool (fewF c))) := by
 have hc := count_spec c 40 150 (by omega) (by omega) (by omega) (by omega)
 rw [cnR_eq] at hc ⊢
 refine tri_of_bodyF false [1] hty Tryz.func155 rfl (kp [0, 1, 2]) [] _ _ _ (by simp [Tryz.f155]) (by simp) ?_
 ((conv => whnf); repeat' ((first | (intro hq; (try simp only [lnS] at hq); (try rewrite [List.length_map])) | refine sJ ?_ | refine .intro _ (.intro rfl ?_) | (refine .intro (show (_ : Nat) < List.length _ from by first | omega | (simp only [lnS]; omega) | simp) ?_) | (refine call_tri [] hc trivial (fun r hs => ?_); obtain ⟨hs, hs1, hs2⟩ := hs; subst hs) | refine draw_rule hty (by kernel_rfl) (by kernel_rfl) ?_ | ((first | refine brB_dec ?_ ?_ | refine brB_ndec ?_ ?_) <;> intro hb <;> (first | contradiction | ((try simp only [lnS] at hb); try (exfalso; omega)))) | (refine brB_split ?_ ?_ <;> intro hb <;> (first | contradiction | exact bT hb (by assumption) | exact bF hb (by assumption) | skip))) <;> (conv => whnf)))
 all_goals rfl
end Go.Proofs.YtnemengadjimcaaGreatDoor
namespace Go.Proofs.YtnemengadjimcaaGreatDoor
open Go.Proofs
set_option maxRecDepth 10000
attribute [local irreducible] SemVC CallVC Tri Stuck YVC GenP GenVC
def lenSum : List (List UInt8) → Int
 | [] => 0
 | s :: r => s.length + lenSum r
def sumAx (x : Ax) : Int := x.role.length + x.a.length + x.b.length + 10 * x.roles.length + lenSum (x.roles.take 100)
def fewAx (x : Ax) : Bool := decide (sumAx x ≤ 600) && fewF x.left && fewF x.right
structure SzAx (x : Ax) : Prop where
 r : x.roles.length ≤ 140737488351232
 o : x.role.length ≤ 140737488351232
 a : x.a.length ≤ 140737488351232
 b : x.b.length ≤ 140737488351232
 rs : ∀ s ∈ x.roles, s.length ≤ 140737488351232
theorem FewAxiom_spec (x : Ax) (h : SzAx x) : Tri Tryz.prog 110 [.d (.agg (axR x))] [] (fun r => r = .d (.bool (fewAx x))) := by
 have hl := few_spec x.left
 have hr := few_spec x.right
 rw [cnR_eq] at hl hr
 obtain ⟨s1, s2, s3, s4, s5⟩ := h
 obtain ⟨kind, isopen, left, right, roles, role, a, b⟩ := x
 dsimp only at hl hr s1 s2 s3 s4 s5
 unfold fewAx sumAx axR
 dsimp only
 obtain ⟨lk, ln, llo, lhi, lps⟩ := left
 obtain ⟨rk, rn, rlo, rhi, rps⟩ := right
 dsimp only [Cn.kind, Cn.name, Cn.lo, Cn.hi, Cn.parts] at hl hr ⊢
 refine tri_of_bodyF false [1] hty Tryz.func110 rfl (kp [0, 1, 2, 3, 4, 29]) [] _ _ _ (by simp [Tryz.f110]) (by simp) ?_
 ((conv => whnf); repeat' ((first | (intro hq; (try simp only [lnS] at hq); (try rewrite [List.length_map])) | refine sJ ?_ | refine .intro _ (.intro rfl ?_) | (refine .intro (show (_ : Nat) < List.length _ from by first | omega | (simp only [lnS]; omega) | simp) ?_) | fail | refine draw_rule hty (by kernel_rfl) (by kernel_rfl) ?_ | ((first | refine brB_dec ?_ ?_ | refine brB_ndec ?_ ?_) <;> intro hb <;> (first | contradiction | ((try simp only [lnS] at hb); try (exfalso; omega)))) | (refine brB_split ?_ ?_ <;> intro hb <;> (first | contradiction | exact bT hb (by assumption) | exact bF hb (by assumption) | skip))) <;> (conv => whnf)))
 refine loop_rule hty (fun p : Nat × Int => ([(1, .ea 16 [[.int .i64 kind, .bool isopen, .int .i64 lk, .str ln, .int .i64 llo, .int .i64 lhi, cnl lps, .int .i64 rk, .str rn, .int .i64 rlo, .int .i64 rhi, cnl rps, strl roles, .str role, .str a, .str b]] 0 0), (3, .d (.int .i64 p.2)), (4, .d (.int .i64 p.1))], [])) (fun p => p.1 ≤ roles.length ∧ p.1 ≤ 100 ∧ 0 ≤ p.2 ∧ p.2 ≤ 140737488351232 * 13 + 140737488351232 * p.1 ∧ (role.length : Int) + a.length + b.length + 10 * roles.length + lenSum (roles.take 100) = p.2 + lenSum ((roles.take 100).drop p.1)) (fun p => roles.length - p.1) (0, (role.length : Int) + a.length + b.length + 10 * roles.length) ⟨Nat.zero_le _, by omega, by omega, by omega, rfl⟩ ⟨by repeat' (first | exact trivial | exact rfl | (rw [List.length_map]; exact rfl) | exact ⟨rfl, rfl⟩ | refine And.intro ?_ ?_), trivial⟩ ?_
 rintro ⟨j, t⟩ ⟨hj, hj2, ht1, ht2, hn⟩
 dsimp only at hj hj2 ht1 ht2 hn
 by_cases hjl : j < roles.length ∧ j < 100
 ·have hrow : (roles.map strR)[(j : Int).toNat]? = some (strR roles[j]) := rowC_at hjl.1
  have hlen := s5 roles[j] (List.getElem_mem hjl.1)
  have htl : j < (roles.take 100).length := by rw [List.length_take]; omega
  rw [List.drop_eq_getElem_cons htl, lenSum, List.getElem_take] at hn
  have hjl1 := hjl.1
  have hjl2 := hjl.2
  clear s5
  generalize roles[j] = y at hrow hn hlen
  ((conv => whnf); repeat' ((first | (intro hq; (try simp only [lnS] at hq); (try rewrite [List.length_map])) | refine sJ ?_ | refine .intro _ (.intro rfl ?_) | (refine .intro (show (_ : Nat) < List.length _ from by first | omega | (simp only [lnS]; omega) | simp) ?_) | (refine ⟨_, hrow, ?_⟩) | refine draw_rule hty (by kernel_rfl) (by kernel_rfl) ?_ | ((first | refine brB_dec ?_ ?_ | refine brB_ndec ?_ ?_) <;> intro hb <;> (first | contradiction | ((try simp only [lnS] at hb); try (exfalso; omega)))) | (refine brB_split ?_ ?_ <;> intro hb <;> (first | contradiction | exact bT hb (by assumption) | exact bF hb (by assumption) | skip))) <;> (conv => whnf)))
  refine ⟨(j + 1, t + y.length), ⟨by dsimp only; omega, by dsimp only; omega, by dsimp only; omega, by dsimp only; omega, by dsimp only; omega⟩, by dsimp only; omega, by repeat' (first | exact trivial | exact rfl | refine And.intro ?_ ?_), trivial⟩
 ·have hdr : (roles.take 100).drop j = [] := List.drop_eq_nil_of_le (by rw [List.length_take]; omega)
  rw [hdr, lenSum, Int.add_zero] at hn
  rw [hn]
  clear hn hdr s5
  ((conv => whnf); repeat' ((first | (intro hq; (try simp only [lnS] at hq); (try rewrite [List.length_map])) | refine sJ ?_ | refine .intro _ (.intro rfl ?_) | (refine .intro (show (_ : Nat) < List.length _ from by first | omega | (simp only [lnS]; omega) | simp) ?_) | (refine call_tri [] hl trivial (fun r hs => ?_); subst hs) | (refine call_tri [] hr trivial (fun r hs => ?_); subst hs) | refine draw_rule hty (by kernel_rfl) (by kernel_rfl) ?_ | ((first | refine brB_dec ?_ ?_ | refine brB_ndec ?_ ?_) <;> intro hb <;> (first | contradiction | ((try simp only [lnS] at hb); try (exfalso; omega)))) | (refine brB_split ?_ ?_ <;> intro hb <;> (first | contradiction | exact bT hb (by assumption) | exact bF hb (by assumption) | skip))) <;> (conv => whnf)))
  all_goals (refine bool_eq (Eq.symm ?_); simp_all [fewF])
  all_goals (intro h9; omega)
end Go.Proofs.YtnemengadjimcaaGreatDoor
namespace Go.Proofs.YtnemengadjimcaaGreatDoor
open Go.Proofs Go.RowKit
set_option maxRecDepth 100000
theorem uAxiom : tysOf Tryz.prog 49 = some [3, 4, 47, 47, 32, 9, 9, 9] := by kernel_rfl
theorem uConcept : tysOf Tryz.prog 47 = some [3, 9, 3, 3, 45] := by kernel_rfl
theorem uConcepts : Tryz.prog.underlying 45 = some (.slice 47) := by kernel_rfl
theorem uAxioms : Tryz.prog.underlying 23 = some (.slice 49) := by kernel_rfl
theorem uStrings : Tryz.prog.underlying 32 = some (.slice 9) := by kernel_rfl
theorem u3 : Tryz.prog.underlying 3 = some (.int .i64) := by kernel_rfl
theorem u9 : Tryz.prog.underlying 9 = some .string := by kernel_rfl
theorem u4 : Tryz.prog.underlying 4 = some .bool := by kernel_rfl
theorem cConcept : Tryz.prog.cellsOf 47 = 5 := by kernel_rfl
theorem cString : Tryz.prog.cellsOf 9 = 1 := by kernel_rfl
theorem laid : laidOutB Tryz.prog = true := by kernel_rfl
def TT : List TypeId := [49, 23, 47, 45, 32, 3, 9, 4]
theorem con_of : ∀ (n : Nat) (ds : List D), TyD Tryz.prog n 47 ds → ∃ c, ds = cnR c := by
 intro n
 induction n using Nat.strongRecOn with
 | _ n ih =>
  intro ds h
  obtain ⟨m, hm, a1, b1, rfl, h1, a2, b2, rfl, h2, a3, b3, rfl, h3, a4, b4, rfl, h4, a5, b5, rfl, h5, rfl⟩ := tyd_struct uConcept h
  obtain ⟨k, rfl, _⟩ := tyd_i64 u3 h1
  obtain ⟨s, rfl, _⟩ := tyd_string u9 h2
  obtain ⟨lo, rfl, _⟩ := tyd_i64 u3 h3
  obtain ⟨hi, rfl, _⟩ := tyd_i64 u3 h4
  obtain ⟨j, hj, rows, rfl, _, hr⟩ := tyd_slice uConcepts h5
  obtain ⟨l, rfl⟩ := rows_of (fun r hr => ih j (by omega) r hr) rows hr
  exact ⟨.mk k s lo hi l, by rw [cConcept, cnR_eq]; rfl⟩
theorem rows_ofP {α : Type} {R : List D → Prop} {Q : α → Prop} {f : α → List D} (h : ∀ r, R r → ∃ x, r = f x ∧ Q x) : ∀ rows : List (List D), (∀ r ∈ rows, R r) → ∃ l : List α, rows = l.map f ∧ ∀ x ∈ l, Q x
 | [], _ => ⟨[], rfl, by simp⟩
 | r :: rest, hr => by
  obtain ⟨x, rfl, hx⟩ := h r (hr r (List.mem_cons_self ..))
  obtain ⟨l, rfl, hl⟩ := rows_ofP h rest (fun q hq => hr q (List.mem_cons_of_mem _ hq))
  exact ⟨x :: l, rfl, by simpa using ⟨hx, hl⟩⟩
theorem data_strings {n : Nat} {ds : List D} (h : TyD Tryz.prog n 32 ds) : ∃ l : List (List UInt8), ds = [strl l] ∧ l.length ≤ 140737488351232 ∧ ∀ s ∈ l, s.length ≤ 140737488351232 := by
 obtain ⟨m, rfl, rows, rfl, hn, hr⟩ := tyd_slice uStrings h
 obtain ⟨l, rfl, hl⟩ := rows_ofP (f := strR) (Q := fun s : List UInt8 => s.length ≤ 140737488351232) (fun r hr => by
  obtain ⟨s, rfl, hs⟩ := tyd_string u9 hr
  exact ⟨s, rfl, hs⟩) rows hr
 exact ⟨l, by rw [cString]; rfl, by rw [List.length_map] at hn; exact hn, hl⟩
theorem ax_of {n : Nat} {ds : List D} (h : TyD Tryz.prog n 49 ds) : ∃ x, ds = axR x ∧ SzAx x := by
 obtain ⟨m, rfl, a1, b1, rfl, h1, a2, b2, rfl, h2, a3, b3, rfl, h3, a4, b4, rfl, h4, a5, b5, rfl, h5, a6, b6, rfl, h6, a7, b7, rfl, h7, a8, b8, rfl, h8, rfl⟩ := tyd_struct uAxiom h
 obtain ⟨k, rfl, _⟩ := tyd_i64 u3 h1
 obtain ⟨o, rfl⟩ := tyd_bool u4 h2
 obtain ⟨l, rfl⟩ := con_of _ _ h3
 obtain ⟨r, rfl⟩ := con_of _ _ h4
 obtain ⟨rs, rfl, q1, q2⟩ := data_strings h5
 obtain ⟨s1, rfl, q3⟩ := tyd_string u9 h6
 obtain ⟨s2, rfl, q4⟩ := tyd_string u9 h7
 obtain ⟨s3, rfl, q5⟩ := tyd_string u9 h8
 exact ⟨⟨k, o, l, r, rs, s1, s2, s3⟩, by rw [cnR_eq, cnR_eq]; rfl, ⟨q1, q3, q4, q5, q2⟩⟩
theorem tyStruct {t : TypeId} {ts : List TypeId} (h : tysOf Tryz.prog t = some ts) (ds : List D) : argOf Tryz.prog t ds = .d (.agg ds) := by
 unfold tysOf at h
 split at h
 ·rename_i fs hu
  simp only [argOf, hu]
 ·cases h
def laidL : List (String × DataW Unit) := [("veilstone/terms.needs", Rows.laid_veilstone_terms_needs), ("veilstone/terms.uses", Rows.laid_veilstone_terms_uses)]
theorem gNeeds : Tryz.prog.globalNamed "veilstone/terms.needs" = some 2 := by kernel_rfl
theorem gUses : Tryz.prog.globalNamed "veilstone/terms.uses" = some 0 := by kernel_rfl
theorem tNeeds : (Tryz.prog.globals[(2 : Nat)]?).map (·.type) = some 201 := by kernel_rfl
theorem tUses : (Tryz.prog.globals[(0 : Nat)]?).map (·.type) = some 95 := by kernel_rfl
def FT : List TypeId := [201, 200, 95, 94, 3, 4]
theorem fl : Fl Tryz.prog (· ∈ FT) := fl_of (by kernel_rfl)
theorem ng_of_laid {W : World} (h : laidMetH Tryz.prog laidL W) : ∀ ρ : Env, ρ.S = below W → ∀ id o, getH NG id = some o → RO W ρ id o := by
 rw [MakeChecks.laidMetH_plain _ _ _ (by kernel_rfl)] at h
 obtain ⟨ps, ⟨g0, t0, cs0, f0, p0, q0, hg0, ht0, hv0, hd0, ⟨g1, t1, cs1, f1, p1, q1, hg1, ht1, hv1, hd1, _, _⟩, _⟩, _, _⟩ := h
 obtain rfl := Option.some.inj (gNeeds.symm.trans hg0)
 obtain rfl := Option.some.inj (gUses.symm.trans hg1)
 obtain rfl := Option.some.inj (tNeeds.symm.trans ht0)
 obtain rfl := Option.some.inj (tUses.symm.trans ht1)
 have v0 := view_of_laid (z := 4) (rows := needs.map needR) fl hg0 (by decide) hv0 hd0 (by intro r hr; obtain ⟨x, _, rfl⟩ := List.mem_map.1 hr; rfl) (by kernel_rfl)
 have v1 := view_of_laid (z := 7) (rows := uses.map useR) fl hg1 (by decide) hv1 hd1 (by intro r hr; obtain ⟨x, _, rfl⟩ := List.mem_map.1 hr; rfl) (by kernel_rfl)
 intro ρ hS id o ho
 rw [← hS] at v0 v1
 simp only [NG, getH] at ho
 split at ho
 ·injection ho with ho; subst ho; exact v0
 ·split at ho
  ·injection ho with ho; subst ho; exact v1
  ·cases ho
end Go.Proofs.YtnemengadjimcaaGreatDoor
namespace Go.Proofs.YtnemengadjimcaaGreatDoor
open Go.Proofs Go.RowKit
set_option maxRecDepth 100000
theorem uBase : tysOf Tryz.prog 38 = some [23] := by kernel_rfl
def TQ : List TypeId := 38 :: 55 :: 31 :: 61 :: TT
theorem clQ : Cl Tryz.prog (· ∈ TQ) := cl_of (by kernel_rfl)
theorem arg_base {n : Nat} {ds : List D} (h : TyD Tryz.prog n 38 ds) : ∃ l : List Ax, argOf Tryz.prog 38 ds = .d (.agg [.sl 16 (l.map axR)]) ∧ ∀ x ∈ l, SzAx x := by
 rw [tyStruct uBase]
 obtain ⟨m, rfl, a1, b1, rfl, h1, rfl⟩ := tyd_struct uBase h
 obtain ⟨k, rfl, rows, rfl, hn, hr⟩ := tyd_slice uAxioms h1
 obtain ⟨l, rfl, hl⟩ := rows_ofP (f := axR) (Q := SzAx) (fun r hr => ax_of hr) rows hr
 exact ⟨l, rfl, hl⟩
end Go.Proofs.YtnemengadjimcaaGreatDoor
