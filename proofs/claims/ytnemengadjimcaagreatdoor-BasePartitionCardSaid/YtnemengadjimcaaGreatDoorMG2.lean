/-
  The rules of the walk at this program. The library's functions on strings: contracts. The walk through Keyword. Names: the walks through the functions that tell which strings are names.
  Conditions: none.
-/
import Derived.Test.YtnemengadjimcaaGreatDoorMTy
import Derived.Test.YtnemengadjimcaaGreatDoorMSz
import Derived.Lib.Strings
import Derived.Lib.Slices
import Derived.Lib.Walk
import Derived.Lib.Bytealg
set_option linter.unusedSectionVars false
set_option linter.unusedSimpArgs false
set_option linter.unusedVariables false
set_option maxHeartbeats 2000000
namespace Go.Proofs.YtnemengadjimcaaGreatDoor
open Go.Proofs
set_option maxRecDepth 100000
end Go.Proofs.YtnemengadjimcaaGreatDoor
namespace Go.Proofs.YtnemengadjimcaaGreatDoor
open Go.Proofs
section
variable {P : Program}
theorem tri_of_calls {f : FuncId} {args : List SV} {vs : Array Value} {r : D} {v : Value} (hv : ∀ (w : World) (ρ : Env) (us : Array Value), ArgsRep w ρ args us → us = vs) (hr : ∀ (w : World) (S : Nat → Nat → Prop), RepD w S r v)
  (h : ∀ w, Calls P f vs w fun e w' => e = .returned v ∧ w' = w) : Tri P f args [] (fun s => s = .d r) := by
 intro w ρ us hs ha _
 rw [hv w ρ us ha]
 refine (h w).mono ?_
 rintro e w' ⟨rfl, rfl⟩
 exact ⟨v, ρ.S, .d r, rfl, rfl, Grew.refl _, fun _ _ h => h, fun _ _ h => .inl h, hs, .d _ _ (hr _ _)⟩
theorem args2 {w : World} {ρ : Env} {a b : SV} {us : Array Value} (h : ArgsRep w ρ [a, b] us) : ∃ x y, us = #[x, y] ∧ Rep w ρ a x ∧ Rep w ρ b y := by
 obtain ⟨h1, h2⟩ := h
 match us, h1 with
 | ⟨[x, y]⟩, _ => exact ⟨x, y, rfl, h2 0 a x rfl rfl, h2 1 b y rfl rfl⟩
end
set_option maxRecDepth 100000 in
theorem indexByte_calls (s : ByteArray) (c : Int) (w : World) :
  Calls Tryz.prog 229 #[.string s, .int .u8 c] w fun e w' => e = .returned (.int .i64 (Lib.indexByte s.data.toList c.toNat.toUInt8)) ∧ w' = w := by
 go_enter Tryz.func229, Tryz.ntmps229
 go_wp2
 rw [run_callFunc_extern Tryz.func235 (by kernel_rfl) (by kernel_rfl) (by kernel_rfl) (e := Extern.BytealgIndexByte.indexByte) (by kernel_rfl), Lib.run_indexByteString]
 simp only [Result.andThen]
 rw [Oper.upon_value]
 go_wp2
 go_ret
 exact ⟨rfl, rfl⟩
set_option maxRecDepth 100000 in
theorem compareString_calls (a b : ByteArray) (w : World) :
  Calls Tryz.prog 127 #[.string a, .string b] w fun e w' => e = .returned (.int .i64 (Lib.compareBytes a.data.toList b.data.toList)) ∧ w' = w := by
 go_enter Tryz.func127, Tryz.ntmps127
 go_wp2
 rw [run_callFunc_extern Tryz.func166 (by kernel_rfl) (by kernel_rfl) (by kernel_rfl) (e := Extern.BytealgCompare.compare) (by kernel_rfl), Lib.run_compareString]
 simp only [Result.andThen]
 rw [Oper.upon_value]
 go_wp2
 go_ret
 exact ⟨rfl, rfl⟩
set_option maxRecDepth 10000
attribute [local irreducible] SemVC CallVC Tri Stuck
theorem sliteIndexByte_spec (l : List UInt8) (c : UInt8) : Tri Tryz.prog 229 [.d (.str l), .d (.int .u8 c.toNat)] [] (fun s => s = .d (.int .i64 (Lib.indexByte l c))) := by
 refine tri_of_calls (vs := #[.string ⟨l.toArray⟩, .int .u8 c.toNat]) (v := .int .i64 (Lib.indexByte l c)) ?_ (fun _ _ => .int _ _) (fun w => ?_)
 ·intro w ρ us h
  obtain ⟨x, y, rfl, h1, h2⟩ := args2 h
  rw [h1.str_inv.1, h2.int_inv]
 ·have := indexByte_calls ⟨l.toArray⟩ c.toNat w
  simpa using this
theorem compareString_spec (a b : List UInt8) : Tri Tryz.prog 127 [.d (.str a), .d (.str b)] [] (fun s => s = .d (.int .i64 (Lib.compareBytes a b))) := by
 refine tri_of_calls (vs := #[.string ⟨a.toArray⟩, .string ⟨b.toArray⟩]) (v := .int .i64 (Lib.compareBytes a b)) ?_ (fun _ _ => .int _ _) (fun w => ?_)
 ·intro w ρ us h
  obtain ⟨x, y, rfl, h1, h2⟩ := args2 h
  rw [h1.str_inv.1, h2.str_inv.1]
 ·have := compareString_calls ⟨a.toArray⟩ ⟨b.toArray⟩ w
  simpa using this
theorem strCompare_spec (a b : List UInt8) : Tri Tryz.prog 76 [.d (.str a), .d (.str b)] [] (fun s => s = .d (.int .i64 (Lib.compareBytes a b))) := by
 refine tri_of_body hty Tryz.func76 rfl (kp [0, 1, 4]) [] _ _ _ (by simp [Tryz.f76]) (by simp) ?_
 ((conv => whnf); repeat ((first | (intro hq; try simp only [lnS] at hq) | refine sI ?_ | refine .intro _ (.intro rfl ?_)); (conv => whnf)))
 refine call_tri [] (compareString_spec a b) trivial (fun s hs => ?_)
 subst hs
 ((conv => whnf); repeat ((first | (intro hq; try simp only [lnS] at hq) | refine sI ?_ | refine .intro _ (.intro rfl ?_)); (conv => whnf)))
 rfl
theorem sliteIndex1_spec (l : List UInt8) (c : UInt8) : Tri Tryz.prog 219 [.d (.str l), .d (.str [c])] [] (fun s => s = .d (.int .i64 (Lib.indexByte l c))) := by
 refine tri_of_body hty Tryz.func219 rfl (kp [0, 1, 4, 5, 6, 7, 8, 9, 10, 11, 12, 13, 16, 24, 31, 36, 59, 64, 73, 93, 107, 114, 132, 139]) [] _ _ _ (by simp [Tryz.f219]) (by simp) ?_
 ((conv => whnf); repeat' ((first | (intro hq; (try simp only [lnS] at hq); (try rewrite [List.length_map])) | refine sJ ?_ | refine .intro _ (.intro rfl ?_) | (refine .intro (show (_ : Nat) < List.length _ from by first | omega | (simp only [lnS]; omega) | simp) ?_) | (refine call_tri [] (sliteIndexByte_spec l _) trivial (fun s hs => ?_); subst hs) | refine draw_rule hty (by kernel_rfl) (by kernel_rfl) ?_ | ((first | refine brB_dec ?_ ?_ | refine brB_ndec ?_ ?_) <;> intro hb <;> (first | contradiction | ((try simp only [lnS] at hb); try (exfalso; omega)))) | (refine brB_split ?_ ?_ <;> intro hb <;> (first | contradiction | exact bT hb (by assumption) | exact bF hb (by assumption) | skip))) <;> (conv => whnf)))
 ·subst hb; simp [Lib.indexByte, oneOf]
 ·rfl
theorem bool_eq {a b : Bool} (h : a = b) : SV.d (.bool a) = SV.d (.bool b) := by rw [h]
theorem indexByte_lt : ∀ (l : List UInt8) (c : UInt8), Lib.indexByte l c < l.length
 | [], _ => by simp [Lib.indexByte]
 | b :: l, c => by
  have := indexByte_lt l c
  unfold Lib.indexByte
  simp only [List.length_cons]
  split
  ·omega
  ·split <;> omega
def cutF (l : List UInt8) (c : UInt8) : List UInt8 × List UInt8 × Bool :=
 if 0 ≤ Lib.indexByte l c then (l.take (Lib.indexByte l c).toNat, l.drop ((Lib.indexByte l c).toNat + 1), true) else (l, [], false)
def cutV (r : List UInt8 × List UInt8 × Bool) : SV := .tup [.d (.str r.1), .d (.str r.2.1), .d (.bool r.2.2)]
theorem sliteCut_spec (l : List UInt8) (c : UInt8) : Tri Tryz.prog 195 [.d (.str l), .d (.str [c])] [] (fun s => s = cutV (cutF l c)) := by
 refine Tri.lenS 0 rfl (fun hl => ?_)
 refine tri_of_body hty Tryz.func195 rfl (kp [0, 1, 4, 5, 6, 7, 12]) [] _ _ _ (by simp [Tryz.f195]) (by simp) ?_
 ((conv => whnf); repeat ((first | (intro hq; try simp only [lnS] at hq) | refine sI ?_ | refine .intro _ (.intro rfl ?_)); (conv => whnf)))
 refine call_tri [] (sliteIndex1_spec l c) trivial (fun s hs => ?_)
 subst hs
 have hlt := indexByte_lt l c
 generalize hi : Lib.indexByte l c = i at hlt ⊢
 ((conv => whnf); repeat' ((first | (intro hq; (try simp only [lnS] at hq); (try rewrite [List.length_map])) | refine sJ ?_ | refine .intro _ (.intro rfl ?_) | (refine .intro (show (_ : Nat) < List.length _ from by first | omega | (simp only [lnS]; omega) | simp) ?_) | fail | refine draw_rule hty (by kernel_rfl) (by kernel_rfl) ?_ | ((first | refine brB_dec ?_ ?_ | refine brB_ndec ?_ ?_) <;> intro hb <;> (first | contradiction | ((try simp only [lnS] at hb); try (exfalso; omega)))) | (refine brB_split ?_ ?_ <;> intro hb <;> (first | contradiction | exact bT hb (by assumption) | exact bF hb (by assumption) | skip))) <;> (conv => whnf)))
 ·rw [cutF, hi, if_pos hb]
  obtain ⟨n, rfl⟩ := Int.eq_ofNat_of_zero_le hb
  simp only [cutV, oneOf, List.drop_zero, Int.toNat_natCast, List.length_cons, List.length_nil, List.take_length]
  rfl
 ·rw [cutF, hi, if_neg hb]; rfl
theorem cut_spec (l : List UInt8) (c : UInt8) : Tri Tryz.prog 174 [.d (.str l), .d (.str [c])] [] (fun s => s = cutV (cutF l c)) := by
 refine tri_of_body hty Tryz.func174 rfl (kp [0, 1, 4, 5, 6]) [] _ _ _ (by simp [Tryz.f174]) (by simp) ?_
 ((conv => whnf); repeat ((first | (intro hq; try simp only [lnS] at hq) | refine sI ?_ | refine .intro _ (.intro rfl ?_)); (conv => whnf)))
 refine call_tri [] (sliteCut_spec l c) trivial (fun s hs => ?_)
 subst hs
 ((conv => whnf); repeat ((first | (intro hq; try simp only [lnS] at hq) | refine sI ?_ | refine .intro _ (.intro rfl ?_)); (conv => whnf)))
 rfl
end Go.Proofs.YtnemengadjimcaaGreatDoor
namespace Go.Proofs.YtnemengadjimcaaGreatDoor
open Go.Proofs
set_option maxRecDepth 10000
attribute [local irreducible] SemVC CallVC Tri Stuck
def kws : List (List UInt8) := [[97, 110, 100],
 [115, 111, 109, 101],
 [105, 110],
 [116, 111],
 [110, 111, 116, 104, 105, 110, 103],
 [101, 118, 101, 114, 121, 116, 104, 105, 110, 103],
 [111, 110, 101],
 [111, 102],
 [111, 112, 101, 110],
 [112, 114, 105, 118, 97, 116, 101],
 [115, 117, 98],
 [115, 97, 109, 101],
 [100, 105, 115, 106, 111, 105, 110, 116],
 [100, 111, 109, 97, 105, 110],
 [114, 111, 108, 101],
 [99, 104, 97, 105, 110],
 [114, 101, 102, 108, 101, 120, 105, 118, 101],
 [116, 121, 112, 101],
 [108, 105, 110, 107],
 [115, 101, 108, 101, 99, 116],
 [119, 104, 101, 114, 101],
 [111, 114]]
def kwF (s : List UInt8) : Bool := decide (s ∈ kws)
theorem keyword_spec (s : List UInt8) : Tri Tryz.prog 198 [.d (.str s)] [] (fun r => r = .d (.bool (kwF s))) := by
 refine tri_of_body hty Tryz.func198 rfl (kp [0, 2, 3, 4]) [] _ _ _ (by simp [Tryz.f198]) (by simp) ?_
 ((conv => whnf); repeat' ((first | (intro hq; try simp only [lnS] at hq) | refine sJ ?_ | refine .intro _ (.intro rfl ?_) | (refine .intro (show (_ : Nat) < List.length _ from by first | omega | (simp only [lnS]; omega) | simp) ?_) | refine draw_rule hty (by kernel_rfl) (by kernel_rfl) ?_ | ((first | refine brB_dec ?_ ?_ | refine brB_ndec ?_ ?_) <;> intro hb <;> (first | contradiction | ((try simp only [lnS] at hb); try (exfalso; omega)))) | (refine brB_split ?_ ?_ <;> intro hb <;> (first | contradiction | exact bT hb (by assumption) | exact bF hb (by assumption) | skip))) <;> (conv => whnf)))
 all_goals first | (rename_i hb; subst hb; rfl) | skip
 have : kwF s = false := by simp [kwF, kws, *]
 rw [this]; rfl
end Go.Proofs.YtnemengadjimcaaGreatDoor
namespace Go.Proofs.YtnemengadjimcaaGreatDoor
open Go.Proofs
set_option maxRecDepth 10000
attribute [local irreducible] SemVC CallVC Tri Stuck
def letC (c : UInt8) : Bool := decide (97 ≤ c.toNat ∧ c.toNat ≤ 122) || decide (65 ≤ c.toNat ∧ c.toNat ≤ 90)
def tailC (c : UInt8) : Bool := letC c || decide (c.toNat = 95) || decide (48 ≤ c.toNat ∧ c.toNat ≤ 57)
def byteV (c : UInt8) : SV := .d (.int .u8 c.toNat)
def bsv (l : List UInt8) : D := .sl 1 (l.map brow)
theorem isLetter_spec (c : UInt8) : Tri Tryz.prog 196 [byteV c] [] (fun r => r = .d (.bool (letC c))) := by
 refine tri_of_body hty Tryz.func196 rfl (kp [0, 2]) [] _ _ _ (by simp [Tryz.f196]) (by simp) ?_
 ((conv => whnf); repeat' ((first | (intro hq; (try simp only [lnS] at hq); (try rewrite [List.length_map])) | refine sJ ?_ | refine .intro _ (.intro rfl ?_) | (refine .intro (show (_ : Nat) < List.length _ from by first | omega | (simp only [lnS]; omega) | simp) ?_) | fail | refine draw_rule hty (by kernel_rfl) (by kernel_rfl) ?_ | ((first | refine brB_dec ?_ ?_ | refine brB_ndec ?_ ?_) <;> intro hb <;> (first | contradiction | ((try simp only [lnS] at hb); try (exfalso; omega)))) | (refine brB_split ?_ ?_ <;> intro hb <;> (first | contradiction | exact bT hb (by assumption) | exact bF hb (by assumption) | skip))) <;> (conv => whnf)))
 all_goals (refine bool_eq (Bool.eq_iff_iff.2 ?_); simp only [letC, Bool.or_eq_true, decide_eq_true_eq, true_iff, false_iff, Bool.false_eq_true]; omega)
theorem all_stop {α : Type} {p : α → Bool} {l : List α} {k : Nat} (h : k < l.length) (hp : p l[k] = false) : l.all p = false := by
 rw [List.all_eq_false]
 exact ⟨l[k], List.getElem_mem h, by simp [hp]⟩
theorem all_step {α : Type} {p : α → Bool} {l : List α} {k : Nat} (h : k < l.length) (hk : (l.take k).all p = true) (hp : p l[k] = true) : (l.take (k + 1)).all p = true := by
 rw [List.take_succ_eq_append_getElem h, List.all_append, hk]; simp [hp]
theorem isTail_spec (s : List UInt8) : Tri Tryz.prog 197 [.d (.str s)] [] (fun r => r = .d (.bool (s.all tailC))) := by
 refine tri_of_body hty Tryz.func197 rfl (kp [0, 2, 4, 6, 7, 8, 9, 26]) [] _ _ _ (by simp [Tryz.f197]) (by simp) ?_
 ((conv => whnf); repeat ((first | (intro hq; try simp only [lnS] at hq) | refine sI ?_ | refine .intro _ (.intro rfl ?_)); (conv => whnf)))
 refine loop_rule hty (fun k : Nat => ([(6, .d (bsv s)), (7, .d (.int .i64 s.length)), (8, .d (.int .i64 k))], [])) (fun k => k ≤ s.length ∧ (s.take k).all tailC = true) (fun k => s.length - k) 0 (by simp) ⟨by repeat' (first | exact trivial | exact rfl | (rw [List.length_map]; exact rfl) | refine And.intro ?_ ?_), trivial⟩ ?_
 rintro k ⟨hk, hk2⟩
 ((conv => whnf); repeat' ((first | (intro hq; (try simp only [lnS] at hq); (try rewrite [List.length_map])) | refine sJ ?_ | refine .intro _ (.intro rfl ?_) | (refine .intro (show (_ : Nat) < List.length _ from by first | omega | (simp only [lnS]; omega) | simp) ?_) | (refine ⟨_, row_at (by first | omega | (simp only [List.length_map]; omega)), ?_⟩) | (refine call_tri [] (isLetter_spec _) trivial (fun s hs => ?_); subst hs) | refine draw_rule hty (by kernel_rfl) (by kernel_rfl) ?_ | ((first | refine brB_dec ?_ ?_ | refine brB_ndec ?_ ?_) <;> intro hb <;> (first | contradiction | ((try simp only [lnS] at hb); try (exfalso; omega)))) | (refine brB_split ?_ ?_ <;> intro hb <;> (first | contradiction | exact bT hb (by assumption) | exact bF hb (by assumption) | skip))) <;> (conv => whnf)))
 ·rename_i h0 h1 h2
  have hkl : k < s.length := by omega
  have ht : tailC s[(k : Int).toNat] = false := by
   simp only [Bool.not_eq_true'] at h1
   simp only [tailC, h1, Bool.false_or, Bool.or_eq_false_iff, decide_eq_false_iff_not]; omega
  rw [all_stop (k := k) hkl ht]; rfl
 ·rename_i h0 h1 h2 h3
  have hkl : k < s.length := by omega
  have ht : tailC s[(k : Int).toNat] = false := by
   simp only [Bool.not_eq_true'] at h1
   simp only [tailC, h1, Bool.false_or, Bool.or_eq_false_iff, decide_eq_false_iff_not]; omega
  rw [all_stop (k := k) hkl ht]; rfl
 ·have hkl : k < s.length := by omega
  have ht : tailC s[(k : Int).toNat] = true := by
   simp only [tailC, Bool.or_eq_true, decide_eq_true_eq]; right; omega
  exact ⟨k + 1, ⟨by omega, all_step hkl hk2 ht⟩, by dsimp only; omega, ⟨by repeat' (first | exact trivial | exact rfl | refine And.intro ?_ ?_), by repeat' (first | exact trivial | exact rfl | refine And.intro ?_ ?_)⟩⟩
 ·have hkl : k < s.length := by omega
  have ht : tailC s[(k : Int).toNat] = true := by
   simp only [tailC, Bool.or_eq_true, decide_eq_true_eq]; left; right; omega
  exact ⟨k + 1, ⟨by omega, all_step hkl hk2 ht⟩, by dsimp only; omega, ⟨by repeat' (first | exact trivial | exact rfl | refine And.intro ?_ ?_), by repeat' (first | exact trivial | exact rfl | refine And.intro ?_ ?_)⟩⟩
 ·have hkl : k < s.length := by omega
  have ht : tailC s[(k : Int).toNat] = true := by
   simp only [tailC, Bool.or_eq_true]; left; left; simpa using hb
  exact ⟨k + 1, ⟨by omega, all_step hkl hk2 ht⟩, by dsimp only; omega, ⟨by repeat' (first | exact trivial | exact rfl | refine And.intro ?_ ?_), by repeat' (first | exact trivial | exact rfl | refine And.intro ?_ ?_)⟩⟩
 ·rw [List.take_of_length_le (by omega)] at hk2
  rw [hk2]; rfl
def wordF (s : List UInt8) : Bool := match s with | [] => false | c :: r => letC c && ((c :: r).all tailC && !kwF (c :: r))
theorem isWord_spec (s : List UInt8) : Tri Tryz.prog 175 [.d (.str s)] [] (fun r => r = .d (.bool (wordF s))) := by
 cases s with
 | nil =>
  refine tri_of_body hty Tryz.func175 rfl (kp [0, 2]) [] _ _ _ (by simp [Tryz.f175]) (by simp) ?_
  ((conv => whnf); repeat' ((first | (intro hq; (try simp only [lnS] at hq); (try rewrite [List.length_map])) | refine sJ ?_ | refine .intro _ (.intro rfl ?_) | (refine .intro (show (_ : Nat) < List.length _ from by first | omega | (simp only [lnS]; omega) | simp) ?_) | fail | refine draw_rule hty (by kernel_rfl) (by kernel_rfl) ?_ | ((first | refine brB_dec ?_ ?_ | refine brB_ndec ?_ ?_) <;> intro hb <;> (first | contradiction | ((try simp only [lnS] at hb); try (exfalso; omega)))) | (refine brB_split ?_ ?_ <;> intro hb <;> (first | contradiction | exact bT hb (by assumption) | exact bF hb (by assumption) | skip))) <;> (conv => whnf)))
  rfl
 | cons c r =>
  refine tri_of_body hty Tryz.func175 rfl (kp [0, 2]) [] _ _ _ (by simp [Tryz.f175]) (by simp) ?_
  ((conv => whnf); repeat' ((first | (intro hq; (try simp only [lnS] at hq); (try rewrite [List.length_map])) | refine sJ ?_ | refine .intro _ (.intro rfl ?_) | (refine .intro (show (_ : Nat) < List.length _ from by first | omega | (simp only [lnS]; omega) | simp) ?_) | (refine call_tri [] (isLetter_spec _) trivial (fun s hs => ?_); subst hs) | (refine call_tri [] (isTail_spec _) trivial (fun s hs => ?_); subst hs) | (refine call_tri [] (keyword_spec _) trivial (fun s hs => ?_); subst hs) | refine draw_rule hty (by kernel_rfl) (by kernel_rfl) ?_ | ((first | refine brB_dec ?_ ?_ | refine brB_ndec ?_ ?_) <;> intro hb <;> (first | contradiction | ((try simp only [lnS] at hb); try (exfalso; omega)))) | (refine brB_split ?_ ?_ <;> intro hb <;> (first | contradiction | exact bT hb (by assumption) | exact bF hb (by assumption) | skip))) <;> (conv => whnf)))
  ·rename_i h0
   have h0' : letC c = true := h0
   exact bool_eq (by simp only [wordF, h0', hb, Bool.true_and])
  ·rename_i h0
   have h0' : letC c = true := h0
   exact bool_eq (by simp only [wordF, h0', hb, Bool.true_and, Bool.false_and])
  ·have h0' : letC c = false := hb
   exact bool_eq (by simp only [wordF, h0', Bool.false_and])
def resF (s : List UInt8) : Bool := decide (2 ≤ s.length) && (decide (s.length ≤ 24) && (decide (s.head? = some 95) && s.all tailC))
theorem head95 {s : List UInt8} (h : 2 ≤ (s.length : Int)) : decide (s.head? = some 95) = decide (s[Int.toNat 0]'(by omega) = 95) := by
 match s, h with
 | c :: r, _ => simp
theorem u95 {c : UInt8} (h : (c.toNat : Int) = 95) : c = 95 := by
 have h9 : (95 : UInt8).toNat = 95 := by decide
 exact UInt8.toNat_inj.1 (by omega)
theorem isReserved_spec (s : List UInt8) : Tri Tryz.prog 176 [.d (.str s)] [] (fun r => r = .d (.bool (resF s))) := by
 refine tri_of_body hty Tryz.func176 rfl (kp [0, 2]) [] _ _ _ (by simp [Tryz.f176]) (by simp) ?_
 ((conv => whnf); repeat' ((first | (intro hq; (try simp only [lnS] at hq); (try rewrite [List.length_map])) | refine sJ ?_ | refine .intro _ (.intro rfl ?_) | (refine .intro (show (_ : Nat) < List.length _ from by first | omega | (simp only [lnS]; omega) | simp) ?_) | (refine call_tri [] (isTail_spec _) trivial (fun s hs => ?_); subst hs) | refine draw_rule hty (by kernel_rfl) (by kernel_rfl) ?_ | ((first | refine brB_dec ?_ ?_ | refine brB_ndec ?_ ?_) <;> intro hb <;> (first | contradiction | ((try simp only [lnS] at hb); try (exfalso; omega)))) | (refine brB_split ?_ ?_ <;> intro hb <;> (first | contradiction | exact bT hb (by assumption) | exact bF hb (by assumption) | skip))) <;> (conv => whnf)))
 ·have h2 : 2 ≤ (s.length : Int) := by omega
  refine bool_eq ?_
  rw [resF, head95 h2, u95 hb]
  simp only [show 2 ≤ s.length from by omega, show s.length ≤ 24 from by omega, decide_true, Bool.true_and]
 ·have h2 : 2 ≤ (s.length : Int) := by omega
  refine bool_eq ?_
  rw [resF, head95 h2]
  have : ¬ s[Int.toNat 0]'(by omega) = 95 := fun e => hb (by rw [e]; rfl)
  simp only [this, decide_false, Bool.false_and, Bool.and_false]
 ·refine bool_eq ?_
  rw [resF]
  simp only [show ¬ s.length ≤ 24 from by omega, decide_false, Bool.false_and, Bool.and_false]
 ·refine bool_eq ?_
  rw [resF]
  simp only [show ¬ 2 ≤ s.length from by omega, decide_false, Bool.false_and]
def plainF (s : List UInt8) : Bool := decide (s.length ≤ 24) && (wordF (cutF s 58).1 && (!(cutF s 58).2.2 || wordF (cutF s 58).2.1))
theorem isPlain_spec (s : List UInt8) : Tri Tryz.prog 142 [.d (.str s)] [] (fun r => r = .d (.bool (plainF s))) := by
 refine tri_of_body hty Tryz.func142 rfl (kp [0, 2, 3, 4, 5, 8]) [] _ _ _ (by simp [Tryz.f142]) (by simp) ?_
 ((conv => whnf); repeat' ((first | (intro hq; (try simp only [lnS] at hq); (try rewrite [List.length_map])) | refine sJ ?_ | refine .intro _ (.intro rfl ?_) | (refine .intro (show (_ : Nat) < List.length _ from by first | omega | (simp only [lnS]; omega) | simp) ?_) | (refine call_tri [] (cut_spec s 58) trivial (fun s hs => ?_); subst hs) | (refine call_tri [] (isWord_spec _) trivial (fun s hs => ?_); subst hs) | refine draw_rule hty (by kernel_rfl) (by kernel_rfl) ?_ | ((first | refine brB_dec ?_ ?_ | refine brB_ndec ?_ ?_) <;> intro hb <;> (first | contradiction | ((try simp only [lnS] at hb); try (exfalso; omega)))) | (refine brB_split ?_ ?_ <;> intro hb <;> (first | contradiction | exact bT hb (by assumption) | exact bF hb (by assumption) | skip))) <;> (conv => whnf)))
 ·refine bool_eq ?_
  rw [plainF]
  simp only [show ¬ s.length ≤ 24 from by omega, decide_false, Bool.false_and]
 all_goals
  refine bool_eq ?_
  rw [plainF]
  simp only [show s.length ≤ 24 from by omega, decide_true, Bool.true_and]
  simp_all
def nameF (s : List UInt8) : Bool := plainF s || resF s
theorem checkName_spec (s : List UInt8) : Tri Tryz.prog 143 [.d (.str s)] [] (fun r => r = .d (.int .i64 (if nameF s then 0 else 20))) := by
 refine tri_of_body hty Tryz.func143 rfl (kp [0, 2, 8]) [] _ _ _ (by simp [Tryz.f143]) (by simp) ?_
 ((conv => whnf); repeat' ((first | (intro hq; (try simp only [lnS] at hq); (try rewrite [List.length_map])) | refine sJ ?_ | refine .intro _ (.intro rfl ?_) | (refine .intro (show (_ : Nat) < List.length _ from by first | omega | (simp only [lnS]; omega) | simp) ?_) | (refine call_tri [] (isPlain_spec s) trivial (fun s hs => ?_); subst hs) | (refine call_tri [] (isReserved_spec s) trivial (fun s hs => ?_); subst hs) | refine draw_rule hty (by kernel_rfl) (by kernel_rfl) ?_ | ((first | refine brB_dec ?_ ?_ | refine brB_ndec ?_ ?_) <;> intro hb <;> (first | contradiction | ((try simp only [lnS] at hb); try (exfalso; omega)))) | (refine brB_split ?_ ?_ <;> intro hb <;> (first | contradiction | exact bT hb (by assumption) | exact bF hb (by assumption) | skip))) <;> (conv => whnf)))
 all_goals (first | (have h9 : nameF s = true := by simp_all [nameF]) | (have h9 : nameF s = false := by simp_all [nameF]))
 all_goals (rw [h9]; rfl)
end Go.Proofs.YtnemengadjimcaaGreatDoor
