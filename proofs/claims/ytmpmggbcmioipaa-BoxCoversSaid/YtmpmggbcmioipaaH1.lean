import Derived.Test.YtmpmggbcmioipaaKT
import Derived.Test.YtmpmggbcmioipaaK14
import Derived.Test.YtmpmggbcmioipaaP5
import Derived.Test.YtmpmggbcmioipaaP6
import Derived.Laws.BitsLemmas
set_option linter.all false
namespace Go.Proofs.Ytmpmggbcmioipaa
open Nat (reduceAdd reduceSub reduceMul reduceEqDiff reduceLeDiff reduceLT)
open Go Go.K
theorem hmix : Try.prog.follows .mixedOrders = true := by decide +kernel
set_option maxRecDepth 20000
set_option maxHeartbeats 4000000
theorem and255 (n : Int) : bits .and .i64 n 255 = n % 256 := by
  have h127 : (BitVec.ofInt 64 255).toNat = 2 ^ 8 - 1 := by decide
  have key : (BitVec.ofInt 64 n &&& BitVec.ofInt 64 255).toNat = (n % ((2 ^ 64 : Nat) : Int)).toNat % 2 ^ 8 := by
    rw [BitVec.toNat_and, BitVec.toNat_ofInt, h127, Nat.and_two_pow_sub_one_eq_mod]
  show IntKind.i64.wrap ((BitVec.ofInt 64 n &&& BitVec.ofInt 64 255).toNat : Nat) = n % 256
  rw [key, IntKind.wrap_i64]
  omega
theorem wrap_mod (n : Int) : IntKind.i64.wrap n % 256 = n % 256 := by rw [IntKind.wrap_i64]; omega
theorem mod_pure (a b : Int) (hb : 0 < b) (h2 : b < 4611686018427387904) : Pure Try.prog 21 [.int .i64 a, .int .i64 b] (.int .i64 (a % b)) := by
  (refine pure_of_ev tt_ok Try.func21 rfl (by decide +kernel) (Nat.le_of_ble_eq_true rfl) ?_; simp only [Try.f21])
  repeat' first
    | refine ev_seq (fun K hK => ?_)
    | ((first | refine evr tt_ok false ?_ | refine ev_skip ?_ | refine ev_ret ?_ | refine ev_exit ?_ | refine evc (fun X Y hX hY => ?_)); simp only [go_sem, reduceAdd, reduceSub, reduceMul, reduceEqDiff, reduceLeDiff, Nat.reduceBEq, reduceLT, reduceIte, reduceCtorEq, Int.reduceToNat]; try (first | (refine ⟨fun h => hX ?_, fun h => hY ?_⟩; clear hX hY) | (refine hX ?_; clear hX hY) | (refine hY ?_; clear hX hY)))
    | refine ev_block ?_
    | (apply hK; clear hK)
    | apply_assumption -exfalso -symm only [*]
    | (refine And.intro ?_ ?_; first | omega | assumption | (unfold maxLen; omega) | (simp only [decide_eq_true_eq, decide_eq_false_iff_not, Int.not_lt, Int.not_le] at h; omega))
  · have h1 : a.tmod b < 0 := by simpa using h
    have h3 := Int.emod_nonneg a (Int.ne_of_gt hb)
    have h4 := Int.emod_lt_of_pos a hb
    have h5 := tmod_neg hb h1
    rw [w64 (by omega) (by omega), h5]
  · have h1 : ¬ a.tmod b < 0 := by simpa using h
    rw [tmod_nonneg hb h1]
theorem div_cases {a b : Int} (hb : 0 < b) (ha : -4611686018427387904 ≤ a ∧ a ≤ 4611686018427387904) :
    IntKind.i64.wrap (a.tdiv b) = a.tdiv b ∧ (a.tmod b < 0 → IntKind.i64.wrap (a.tdiv b - 1) = a / b) ∧ (¬ a.tmod b < 0 → a.tdiv b = a / b) := by
  have e1 := Int.tdiv_eq_ediv (a := a) (b := b)
  have e2 := Int.tmod_eq_emod (a := a) (b := b)
  have h3 := Int.emod_nonneg a (Int.ne_of_gt hb)
  have h4 := Int.emod_lt_of_pos a hb
  have l1 : -4611686018427387904 ≤ a / b := Int.le_ediv_of_mul_le hb (by omega)
  have l2 : a / b ≤ 4611686018427387904 := Int.ediv_le_of_le_mul hb (by omega)
  have hs : b.sign = 1 := Int.sign_eq_one_of_pos hb
  rw [hs] at e1
  by_cases hc : 0 ≤ a ∨ b ∣ a
  · rw [if_pos hc] at e1 e2
    refine ⟨?_, fun h => by omega, fun h => by omega⟩
    rw [w64 (by omega) (by omega)]
  · rw [if_neg hc] at e1 e2
    refine ⟨?_, fun h => ?_, fun h => by omega⟩
    · rw [w64 (by omega) (by omega)]
    · rw [w64 (by omega) (by omega)]; omega
theorem floor_pure (a b : Int) (hb : 0 < b) (ha : -4611686018427387904 ≤ a ∧ a ≤ 4611686018427387904) : Pure Try.prog 51 [.int .i64 a, .int .i64 b] (.int .i64 (a / b)) := by
  obtain ⟨hq, q1, q2⟩ := div_cases hb ha
  (refine pure_of_ev tt_ok Try.func51 rfl (by decide +kernel) (Nat.le_of_ble_eq_true rfl) ?_; simp only [Try.f51])
  repeat' first
    | refine ev_seq (fun K hK => ?_)
    | ((first | refine evr tt_ok false ?_ | refine ev_skip ?_ | refine ev_ret ?_ | refine ev_exit ?_ | refine evc (fun X Y hX hY => ?_)); simp only [go_sem, reduceAdd, reduceSub, reduceMul, reduceEqDiff, reduceLeDiff, Nat.reduceBEq, reduceLT, reduceIte, reduceCtorEq, Int.reduceToNat, hq]; try (first | (refine ⟨fun h => hX ?_, fun h => hY ?_⟩; clear hX hY) | (refine hX ?_; clear hX hY) | (refine hY ?_; clear hX hY)))
    | refine ev_block ?_
    | (apply hK; clear hK)
    | apply_assumption -exfalso -symm only [*]
    | (refine And.intro ?_ ?_; first | omega | assumption | (unfold maxLen; omega) | (simp only [decide_eq_true_eq, decide_eq_false_iff_not, Int.not_lt, Int.not_le] at h; omega))
  · rw [q1 (by simpa using h)]
  · rw [q2 (by simpa using h)]
theorem ite_max (x y : Int) : (if x < y then y else x) = max x y := by split <;> omega
theorem ite_min (x y : Int) : (if y < x then y else x) = min x y := by split <;> omega
attribute [go_sem] ite_max ite_min
theorem bool_ext {p q : Bool} (h : p = true ↔ q = true) : V.bool p = V.bool q := congrArg V.bool (Bool.eq_iff_iff.2 h)
theorem bool_dec {p : Bool} {q : Prop} [Decidable q] (h : p = true ↔ q) : V.bool p = V.bool (decide q) := bool_ext (by rw [decide_eq_true_eq]; exact h)
theorem clip_pure (n l h : Int) : Pure Try.prog 50 [.int .i64 n, .int .i64 l, .int .i64 h] (.int .i64 (max l (min n h))) := by
  (refine pure_of_ev tt_ok Try.func50 rfl (by decide +kernel) (Nat.le_of_ble_eq_true rfl) ?_; simp only [Try.f50])
  repeat' first
    | refine ev_seq (fun K hK => ?_)
    | ((first | refine evr tt_ok false ?_ | refine ev_skip ?_ | refine ev_ret ?_ | refine ev_exit ?_ | refine evc (fun X Y hX hY => ?_)); simp only [go_sem, reduceAdd, reduceSub, reduceMul, reduceEqDiff, reduceLeDiff, Nat.reduceBEq, reduceLT, reduceIte, reduceCtorEq, Int.reduceToNat]; try (first | (refine ⟨fun h => hX ?_, fun h => hY ?_⟩; clear hX hY) | (refine hX ?_; clear hX hY) | (refine hY ?_; clear hX hY)))
    | refine ev_block ?_
    | (apply hK; clear hK)
    | apply_assumption -exfalso -symm only [*]
    | (refine And.intro ?_ ?_; first | omega | assumption | (unfold maxLen; omega) | (simp only [decide_eq_true_eq, decide_eq_false_iff_not, Int.not_lt, Int.not_le] at h; omega))
theorem size_pure (a b : Int) : Pure Try.prog 44 [.int .i64 a, .int .i64 b] (.bool (decide (IntKind.i64.wrap (0 - b) ≤ a) && decide (a ≤ b))) := by
  (refine pure_of_ev tt_ok Try.func44 rfl (by decide +kernel) (Nat.le_of_ble_eq_true rfl) ?_; simp only [Try.f44])
  repeat' first
    | refine ev_seq (fun K hK => ?_)
    | ((first | refine evr tt_ok false ?_ | refine ev_skip ?_ | refine ev_ret ?_ | refine ev_exit ?_ | refine evc (fun X Y hX hY => ?_)); simp only [go_sem, reduceAdd, reduceSub, reduceMul, reduceEqDiff, reduceLeDiff, Nat.reduceBEq, reduceLT, reduceIte, reduceCtorEq, Int.reduceToNat]; try (first | (refine ⟨fun h => hX ?_, fun h => hY ?_⟩; clear hX hY) | (refine hX ?_; clear hX hY) | (refine hY ?_; clear hX hY)))
    | refine ev_block ?_
    | (apply hK; clear hK)
    | apply_assumption -exfalso -symm only [*]
    | (refine And.intro ?_ ?_; first | omega | assumption | (unfold maxLen; omega) | (simp only [decide_eq_true_eq, decide_eq_false_iff_not, Int.not_lt, Int.not_le] at h; omega))
theorem arcB_pure (a : Arc) : Pure Try.prog 43 [.agg [.int .i64 a.f, .int .i64 a.c]] (.bool (decide a.ok)) := by
  (refine pure_of_ev tt_ok Try.func43 rfl (by decide +kernel) (Nat.le_of_ble_eq_true rfl) ?_; simp only [Try.f43])
  repeat' first
    | refine ev_seq (fun K hK => ?_)
    | ((first | refine evr tt_ok false ?_ | refine ev_skip ?_ | refine ev_ret ?_ | refine ev_exit ?_ | refine evc (fun X Y hX hY => ?_)); simp only [go_sem, reduceAdd, reduceSub, reduceMul, reduceEqDiff, reduceLeDiff, Nat.reduceBEq, reduceLT, reduceIte, reduceCtorEq, Int.reduceToNat]; try (first | (refine ⟨fun h => hX ?_, fun h => hY ?_⟩; clear hX hY) | (refine hX ?_; clear hX hY) | (refine hY ?_; clear hX hY)))
    | refine ev_block ?_
    | (apply hK; clear hK)
    | apply_assumption -exfalso -symm only [*]
    | (refine And.intro ?_ ?_; first | omega | assumption | (unfold maxLen; omega) | (simp only [decide_eq_true_eq, decide_eq_false_iff_not, Int.not_lt, Int.not_le] at h; omega))
  refine bool_dec ?_
  simp only [Bool.and_eq_true, Bool.or_eq_true, decide_eq_true_eq, beq_iff_eq]; unfold Arc.ok; omega
theorem varc_pure (a : Arc) : Pure Try.prog 67 [.agg [.int .i64 a.f, .int .i64 a.c]] (.bool (decide a.ok)) := by
  (refine pure_of_ev tt_ok Try.func67 rfl (by decide +kernel) (Nat.le_of_ble_eq_true rfl) ?_; simp only [Try.f67])
  repeat' first
    | refine ev_seq (fun K hK => ?_)
    | ((first | refine evr tt_ok false ?_ | refine ev_skip ?_ | refine ev_ret ?_ | refine ev_exit ?_ | refine evc (fun X Y hX hY => ?_)); simp only [go_sem, reduceAdd, reduceSub, reduceMul, reduceEqDiff, reduceLeDiff, Nat.reduceBEq, reduceLT, reduceIte, reduceCtorEq, Int.reduceToNat]; try (first | (refine ⟨fun h => hX ?_, fun h => hY ?_⟩; clear hX hY) | (refine hX ?_; clear hX hY) | (refine hY ?_; clear hX hY)))
    | refine ev_block ?_
    | (apply hK; clear hK)
    | apply_assumption -exfalso -symm only [*]
    | (refine And.intro ?_ ?_; first | omega | assumption | (unfold maxLen; omega) | (simp only [decide_eq_true_eq, decide_eq_false_iff_not, Int.not_lt, Int.not_le] at h; omega))
  refine bool_dec ?_
  simp only [Bool.and_eq_true, Bool.or_eq_true, decide_eq_true_eq, beq_iff_eq]; unfold Arc.ok; omega
theorem rvarc_pure (a : Arc) : Pure Try.prog 90 [.agg [.int .i64 a.f, .int .i64 a.c]] (.bool (decide a.ok)) := by
  (refine pure_of_ev tt_ok Try.func90 rfl (by decide +kernel) (Nat.le_of_ble_eq_true rfl) ?_; simp only [Try.f90])
  repeat' first
    | refine ev_seq (fun K hK => ?_)
    | ((first | refine evr tt_ok false ?_ | refine ev_skip ?_ | refine ev_ret ?_ | refine ev_exit ?_ | refine evc (fun X Y hX hY => ?_)); simp only [go_sem, reduceAdd, reduceSub, reduceMul, reduceEqDiff, reduceLeDiff, Nat.reduceBEq, reduceLT, reduceIte, reduceCtorEq, Int.reduceToNat]; try (first | (refine ⟨fun h => hX ?_, fun h => hY ?_⟩; clear hX hY) | (refine hX ?_; clear hX hY) | (refine hY ?_; clear hX hY)))
    | refine ev_block ?_
    | (apply hK; clear hK)
    | apply_assumption -exfalso -symm only [*]
    | (refine And.intro ?_ ?_; first | omega | assumption | (unfold maxLen; omega) | (simp only [decide_eq_true_eq, decide_eq_false_iff_not, Int.not_lt, Int.not_le] at h; omega))
    | ((first | apply callP | apply callPG | apply callP0); (case' hv => (simp only [go_sem, reduceAdd, reduceSub, reduceMul, reduceEqDiff, reduceLeDiff, Nat.reduceBEq, reduceLT, reduceIte, reduceCtorEq, Int.reduceToNat]; try exact rfl)); (case' hp => (first | refine' arcB_pure a | (refine' (fun hg => ?_); refine' arcB_pure a))); (case' h => ((first | refine evOps_fin ?_ | refine And.intro ?_ (evD_fin ?_) | refine evD_fin ?_) <;> simp only [go_sem, reduceAdd, reduceSub, reduceMul, reduceEqDiff, reduceLeDiff, Nat.reduceBEq, reduceLT, reduceIte, reduceCtorEq, Int.reduceToNat])))
    | (refine callX ?_; (first | refine evOps_fin ?_ | refine And.intro ?_ (evD_fin ?_) | refine evD_fin ?_) <;> simp only [go_sem, reduceAdd, reduceSub, reduceMul, reduceEqDiff, reduceLeDiff, Nat.reduceBEq, reduceLT, reduceIte, reduceCtorEq, Int.reduceToNat])
theorem boxB_pure (b : Box) : Pure Try.prog 15 [.agg [.int .i64 b.x0, .int .i64 b.y0, .int .i64 b.x1, .int .i64 b.y1, .int .i64 b.f, .int .i64 b.c]] (.bool (decide b.ok)) := by
  (refine pure_of_ev tt_ok Try.func15 rfl (by decide +kernel) (Nat.le_of_ble_eq_true rfl) ?_; simp only [Try.f15])
  repeat' first
    | refine ev_seq (fun K hK => ?_)
    | ((first | refine evr tt_ok false ?_ | refine ev_skip ?_ | refine ev_ret ?_ | refine ev_exit ?_ | refine evc (fun X Y hX hY => ?_)); simp only [go_sem, reduceAdd, reduceSub, reduceMul, reduceEqDiff, reduceLeDiff, Nat.reduceBEq, reduceLT, reduceIte, reduceCtorEq, Int.reduceToNat]; try (first | (refine ⟨fun h => hX ?_, fun h => hY ?_⟩; clear hX hY) | (refine hX ?_; clear hX hY) | (refine hY ?_; clear hX hY)))
    | refine ev_block ?_
    | (apply hK; clear hK)
    | apply_assumption -exfalso -symm only [*]
    | (refine And.intro ?_ ?_; first | omega | assumption | (unfold maxLen; omega) | (simp only [decide_eq_true_eq, decide_eq_false_iff_not, Int.not_lt, Int.not_le] at h; omega))
    | ((first | apply callP | apply callPG | apply callP0); (case' hv => (simp only [go_sem, reduceAdd, reduceSub, reduceMul, reduceEqDiff, reduceLeDiff, Nat.reduceBEq, reduceLT, reduceIte, reduceCtorEq, Int.reduceToNat]; try exact rfl)); (case' hp => (first | refine' arcB_pure ⟨b.f, b.c⟩ | (refine' (fun hg => ?_); refine' arcB_pure ⟨b.f, b.c⟩))); (case' h => ((first | refine evOps_fin ?_ | refine And.intro ?_ (evD_fin ?_) | refine evD_fin ?_) <;> simp only [go_sem, reduceAdd, reduceSub, reduceMul, reduceEqDiff, reduceLeDiff, Nat.reduceBEq, reduceLT, reduceIte, reduceCtorEq, Int.reduceToNat])))
    | (refine callX ?_; (first | refine evOps_fin ?_ | refine And.intro ?_ (evD_fin ?_) | refine evD_fin ?_) <;> simp only [go_sem, reduceAdd, reduceSub, reduceMul, reduceEqDiff, reduceLeDiff, Nat.reduceBEq, reduceLT, reduceIte, reduceCtorEq, Int.reduceToNat])
  refine bool_dec ?_
  simp only [Bool.and_eq_true, decide_eq_true_eq]
  constructor
  · rintro ⟨⟨⟨⟨⟨⟨h1, h2⟩, h3⟩, h4⟩, h5⟩, h6⟩, h7⟩; exact ⟨h1, h2, h3, h4, h5, h6, h7⟩
  · rintro ⟨h1, h2, h3, h4, h5, h6, h7⟩; exact ⟨⟨⟨⟨⟨⟨h1, h2⟩, h3⟩, h4⟩, h5⟩, h6⟩, h7⟩
theorem vec_prod {v : Vec} (h1 : 1 ≤ v.d) (h2 : v.d ≤ 67108864) (h3 : -v.d ≤ v.x) (h4 : v.x ≤ v.d) (h5 : -v.d ≤ v.y) (h6 : v.y ≤ v.d) :
    IntKind.i64.wrap (v.x * v.x) = v.x * v.x ∧ IntKind.i64.wrap (v.y * v.y) = v.y * v.y ∧ IntKind.i64.wrap (v.d * v.d) = v.d * v.d ∧ IntKind.i64.wrap (v.x * v.x + v.y * v.y) = v.x * v.x + v.y * v.y := by
  have sq : ∀ {x d : Int}, -d ≤ x → x ≤ d → d ≤ 67108864 → 0 ≤ x * x ∧ x * x ≤ 4503599627370496 := by
    intro x d h1 h2 h3
    refine ⟨sq_nonneg x, ?_⟩
    rcases Int.le_total 0 x with h | h
    · exact Int.mul_le_mul (c := 67108864) (d := 67108864) (by omega) (by omega) h (by omega)
    · have := Int.mul_le_mul (a := -x) (b := -x) (c := 67108864) (d := 67108864) (by omega) (by omega) (by omega) (by omega)
      rw [Int.neg_mul_neg] at this; exact this
  have a1 := sq h3 h4 h2
  have a2 := sq h5 h6 h2
  have a3 := sq (x := v.d) (d := v.d) (by omega) (by omega) h2
  refine ⟨w64 (by omega) (by omega), w64 (by omega) (by omega), w64 (by omega) (by omega), w64 (by omega) (by omega)⟩
theorem vec_neg {v : Vec} (h1 : 1 ≤ v.d) (h2 : v.d ≤ 67108864) : IntKind.i64.wrap (0 - v.d) = - v.d := by rw [w64] <;> omega
theorem mark_pure (h : Int) : Pure Try.prog 86 [.int .i64 h] (.int .i64 (h % 256)) := by
  (refine pure_of_ev tt_ok Try.func86 rfl (by decide +kernel) (Nat.le_of_ble_eq_true rfl) ?_; simp only [Try.f86])
  repeat' first
    | refine ev_seq (fun K hK => ?_)
    | ((first | refine evr tt_ok false ?_ | refine ev_skip ?_ | refine ev_ret ?_ | refine ev_exit ?_ | refine evc (fun X Y hX hY => ?_)); simp only [go_sem, reduceAdd, reduceSub, reduceMul, reduceEqDiff, reduceLeDiff, Nat.reduceBEq, reduceLT, reduceIte, reduceCtorEq, Int.reduceToNat, and255]; try (first | (refine ⟨fun h => hX ?_, fun h => hY ?_⟩; clear hX hY) | (refine hX ?_; clear hX hY) | (refine hY ?_; clear hX hY)))
    | refine ev_block ?_
    | (apply hK; clear hK)
    | apply_assumption -exfalso -symm only [*]
    | (refine And.intro ?_ ?_; first | omega | assumption | (unfold maxLen; omega) | (simp only [decide_eq_true_eq, decide_eq_false_iff_not, Int.not_lt, Int.not_le] at h; omega))
end Go.Proofs.Ytmpmggbcmioipaa
