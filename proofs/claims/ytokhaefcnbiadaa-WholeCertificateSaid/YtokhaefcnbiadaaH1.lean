import Derived.Test.YtokhaefcnbiadaaKT
import Derived.Test.YtokhaefcnbiadaaK14
import Derived.Test.YtokhaefcnbiadaaK17
import Derived.Test.YtokhaefcnbiadaaHA
import Derived.Laws.BitsLemmas
set_option linter.all false
namespace Go.Proofs.Ytokhaefcnbiadaa
open Nat (reduceAdd reduceSub reduceMul reduceEqDiff reduceLeDiff reduceLT)
open Go Go.K
theorem hmix : Try.prog.follows .mixedOrders = true := by decide +kernel
set_option maxRecDepth 20000
set_option maxHeartbeats 4000000
theorem and255 (n : Int) : bits .and .i64 n 255 = n % 256 := by
  have h127 : (BitVec.ofInt 64 255).toNat = 2 ^ 8 - 1 := by decide
  have key : (BitVec.ofInt 64 n &&& BitVec.ofInt 64 255).toNat = (n % ((2 ^ 64 : Nat) : Int)).toNat % 2 ^ 8 := by
    rw [BitVec.toNat_and, BitVec.toNat_ofInt, h127, Nat.and_two_pow_sub_one_eq_mod]
  show IntKind.i64.wrap ((BitVec.ofInt 64 n &&& BitVec.ofInt 64 255).toNat : Nat) = n % 256
  rw [key, IntKind.wrap_i64]
  omega
theorem wrap_mod (n : Int) : IntKind.i64.wrap n % 256 = n % 256 := by rw [IntKind.wrap_i64]; omega
theorem mod_pure (a b : Int) (hb : 0 < b) (h2 : b < 4611686018427387904) : Pure Try.prog 26 [.int .i64 a, .int .i64 b] (.int .i64 (a % b)) := by
  (refine pure_of_ev tt_ok Try.func26 rfl (by decide +kernel) (Nat.le_of_ble_eq_true rfl) ?_; simp only [Try.f26])
  repeat' first
    | refine ev_seq (fun K hK => ?_)
    | ((first | refine evr tt_ok false ?_ | refine ev_skip ?_ | refine ev_ret ?_ | refine ev_exit ?_ | refine evc (fun X Y hX hY => ?_)); simp only [go_sem, reduceAdd, reduceSub, reduceMul, reduceEqDiff, reduceLeDiff, Nat.reduceBEq, reduceLT, reduceIte, reduceCtorEq, Int.reduceToNat]; try (first | (refine ⟨fun h => hX ?_, fun h => hY ?_⟩; clear hX hY) | (refine hX ?_; clear hX hY) | (refine hY ?_; clear hX hY)))
    | refine ev_block ?_
    | (apply hK; clear hK)
    | apply_assumption -exfalso -symm only [*]
    | (refine And.intro ?_ ?_; first | omega | assumption | (unfold maxLen; omega) | (simp only [decide_eq_true_eq, decide_eq_false_iff_not, Int.not_lt, Int.not_le] at h; omega))
  · have h1 : a.tmod b < 0 := by simpa using h
    have h3 := Int.emod_nonneg a (Int.ne_of_gt hb)
    have h4 := Int.emod_lt_of_pos a hb
    have h5 := tmod_neg hb h1
    rw [w64 (by omega) (by omega), h5]
  · have h1 : ¬ a.tmod b < 0 := by simpa using h
    rw [tmod_nonneg hb h1]
theorem div_cases {a b : Int} (hb : 0 < b) (ha : -4611686018427387904 ≤ a ∧ a ≤ 4611686018427387904) :
    IntKind.i64.wrap (a.tdiv b) = a.tdiv b ∧ (a.tmod b < 0 → IntKind.i64.wrap (a.tdiv b - 1) = a / b) ∧ (¬ a.tmod b < 0 → a.tdiv b = a / b) := by
  have e1 := Int.tdiv_eq_ediv (a := a) (b := b)
  have e2 := Int.tmod_eq_emod (a := a) (b := b)
  have h3 := Int.emod_nonneg a (Int.ne_of_gt hb)
  have h4 := Int.emod_lt_of_pos a hb
  have l1 : -4611686018427387904 ≤ a / b := Int.le_ediv_of_mul_le hb (by omega)
  have l2 : a / b ≤ 4611686018427387904 := Int.ediv_le_of_le_mul hb (by omega)
  have hs : b.sign = 1 := Int.sign_eq_one_of_pos hb
  rw [hs] at e1
  by_cases hc : 0 ≤ a ∨ b ∣ a
  · rw [if_pos hc] at e1 e2
    refine ⟨?_, fun h => by omega, fun h => by omega⟩
    rw [w64 (by omega) (by omega)]
  · rw [if_neg hc] at e1 e2
    refine ⟨?_, fun h => ?_, fun h => by omega⟩
    · rw [w64 (by omega) (by omega)]
    · rw [w64 (by omega) (by omega)]; omega
theorem floor_pure (a b : Int) (hb : 0 < b) (ha : -4611686018427387904 ≤ a ∧ a ≤ 4611686018427387904) : Pure Try.prog 80 [.int .i64 a, .int .i64 b] (.int .i64 (a / b)) := by
  obtain ⟨hq, q1, q2⟩ := div_cases hb ha
  (refine pure_of_ev tt_ok Try.func80 rfl (by decide +kernel) (Nat.le_of_ble_eq_true rfl) ?_; simp only [Try.f80])
  repeat' first
    | refine ev_seq (fun K hK => ?_)
    | ((first | refine evr tt_ok false ?_ | refine ev_skip ?_ | refine ev_ret ?_ | refine ev_exit ?_ | refine evc (fun X Y hX hY => ?_)); simp only [go_sem, reduceAdd, reduceSub, reduceMul, reduceEqDiff, reduceLeDiff, Nat.reduceBEq, reduceLT, reduceIte, reduceCtorEq, Int.reduceToNat, hq]; try (first | (refine ⟨fun h => hX ?_, fun h => hY ?_⟩; clear hX hY) | (refine hX ?_; clear hX hY) | (refine hY ?_; clear hX hY)))
    | refine ev_block ?_
    | (apply hK; clear hK)
    | apply_assumption -exfalso -symm only [*]
    | (refine And.intro ?_ ?_; first | omega | assumption | (unfold maxLen; omega) | (simp only [decide_eq_true_eq, decide_eq_false_iff_not, Int.not_lt, Int.not_le] at h; omega))
  · rw [q1 (by simpa using h)]
  · rw [q2 (by simpa using h)]
theorem ite_max (x y : Int) : (if x < y then y else x) = max x y := by split <;> omega
theorem ite_min (x y : Int) : (if y < x then y else x) = min x y := by split <;> omega
attribute [go_sem] ite_max ite_min
theorem bool_ext {p q : Bool} (h : p = true ↔ q = true) : V.bool p = V.bool q := congrArg V.bool (Bool.eq_iff_iff.2 h)
theorem bool_dec {p : Bool} {q : Prop} [Decidable q] (h : p = true ↔ q) : V.bool p = V.bool (decide q) := bool_ext (by rw [decide_eq_true_eq]; exact h)
theorem clip_pure (n l h : Int) : Pure Try.prog 85 [.int .i64 n, .int .i64 l, .int .i64 h] (.int .i64 (max l (min n h))) := by
  (refine pure_of_ev tt_ok Try.func85 rfl (by decide +kernel) (Nat.le_of_ble_eq_true rfl) ?_; simp only [Try.f85])
  repeat' first
    | refine ev_seq (fun K hK => ?_)
    | ((first | refine evr tt_ok false ?_ | refine ev_skip ?_ | refine ev_ret ?_ | refine ev_exit ?_ | refine evc (fun X Y hX hY => ?_)); simp only [go_sem, reduceAdd, reduceSub, reduceMul, reduceEqDiff, reduceLeDiff, Nat.reduceBEq, reduceLT, reduceIte, reduceCtorEq, Int.reduceToNat]; try (first | (refine ⟨fun h => hX ?_, fun h => hY ?_⟩; clear hX hY) | (refine hX ?_; clear hX hY) | (refine hY ?_; clear hX hY)))
    | refine ev_block ?_
    | (apply hK; clear hK)
    | apply_assumption -exfalso -symm only [*]
    | (refine And.intro ?_ ?_; first | omega | assumption | (unfold maxLen; omega) | (simp only [decide_eq_true_eq, decide_eq_false_iff_not, Int.not_lt, Int.not_le] at h; omega))
theorem size_pure (a b : Int) : Pure Try.prog 77 [.int .i64 a, .int .i64 b] (.bool (decide (IntKind.i64.wrap (0 - b) ≤ a) && decide (a ≤ b))) := by
  (refine pure_of_ev tt_ok Try.func77 rfl (by decide +kernel) (Nat.le_of_ble_eq_true rfl) ?_; simp only [Try.f77])
  repeat' first
    | refine ev_seq (fun K hK => ?_)
    | ((first | refine evr tt_ok false ?_ | refine ev_skip ?_ | refine ev_ret ?_ | refine ev_exit ?_ | refine evc (fun X Y hX hY => ?_)); simp only [go_sem, reduceAdd, reduceSub, reduceMul, reduceEqDiff, reduceLeDiff, Nat.reduceBEq, reduceLT, reduceIte, reduceCtorEq, Int.reduceToNat]; try (first | (refine ⟨fun h => hX ?_, fun h => hY ?_⟩; clear hX hY) | (refine hX ?_; clear hX hY) | (refine hY ?_; clear hX hY)))
    | refine ev_block ?_
    | (apply hK; clear hK)
    | apply_assumption -exfalso -symm only [*]
    | (refine And.intro ?_ ?_; first | omega | assumption | (unfold maxLen; omega) | (simp only [decide_eq_true_eq, decide_eq_false_iff_not, Int.not_lt, Int.not_le] at h; omega))
theorem arcB_pure (a : Arc) : Pure Try.prog 76 [.agg [.int .i64 a.f, .int .i64 a.c]] (.bool (decide a.ok)) := by
  (refine pure_of_ev tt_ok Try.func76 rfl (by decide +kernel) (Nat.le_of_ble_eq_true rfl) ?_; simp only [Try.f76])
  repeat' first
    | refine ev_seq (fun K hK => ?_)
    | ((first | refine evr tt_ok false ?_ | refine ev_skip ?_ | refine ev_ret ?_ | refine ev_exit ?_ | refine evc (fun X Y hX hY => ?_)); simp only [go_sem, reduceAdd, reduceSub, reduceMul, reduceEqDiff, reduceLeDiff, Nat.reduceBEq, reduceLT, reduceIte, reduceCtorEq, Int.reduceToNat]; try (first | (refine ⟨fun h => hX ?_, fun h => hY ?_⟩; clear hX hY) | (refine hX ?_; clear hX hY) | (refine hY ?_; clear hX hY)))
    | refine ev_block ?_
    | (apply hK; clear hK)
    | apply_assumption -exfalso -symm only [*]
    | (refine And.intro ?_ ?_; first | omega | assumption | (unfold maxLen; omega) | (simp only [decide_eq_true_eq, decide_eq_false_iff_not, Int.not_lt, Int.not_le] at h; omega))
  refine bool_dec ?_
  simp only [Bool.and_eq_true, Bool.or_eq_true, decide_eq_true_eq, beq_iff_eq]; unfold Arc.ok; omega
theorem varc_pure (a : Arc) : Pure Try.prog 57 [.agg [.int .i64 a.f, .int .i64 a.c]] (.bool (decide a.ok)) := by
  (refine pure_of_ev tt_ok Try.func57 rfl (by decide +kernel) (Nat.le_of_ble_eq_true rfl) ?_; simp only [Try.f57])
  repeat' first
    | refine ev_seq (fun K hK => ?_)
    | ((first | refine evr tt_ok false ?_ | refine ev_skip ?_ | refine ev_ret ?_ | refine ev_exit ?_ | refine evc (fun X Y hX hY => ?_)); simp only [go_sem, reduceAdd, reduceSub, reduceMul, reduceEqDiff, reduceLeDiff, Nat.reduceBEq, reduceLT, reduceIte, reduceCtorEq, Int.reduceToNat]; try (first | (refine ⟨fun h => hX ?_, fun h => hY ?_⟩; clear hX hY) | (refine hX ?_; clear hX hY) | (refine hY ?_; clear hX hY)))
    | refine ev_block ?_
    | (apply hK; clear hK)
    | apply_assumption -exfalso -symm only [*]
    | (refine And.intro ?_ ?_; first | omega | assumption | (unfold maxLen; omega) | (simp only [decide_eq_true_eq, decide_eq_false_iff_not, Int.not_lt, Int.not_le] at h; omega))
  refine bool_dec ?_
  simp only [Bool.and_eq_true, Bool.or_eq_true, decide_eq_true_eq, beq_iff_eq]; unfold Arc.ok; omega
theorem vec_prod {v : Vec} (h1 : 1 ≤ v.d) (h2 : v.d ≤ 67108864) (h3 : -v.d ≤ v.x) (h4 : v.x ≤ v.d) (h5 : -v.d ≤ v.y) (h6 : v.y ≤ v.d) :
    IntKind.i64.wrap (v.x * v.x) = v.x * v.x ∧ IntKind.i64.wrap (v.y * v.y) = v.y * v.y ∧ IntKind.i64.wrap (v.d * v.d) = v.d * v.d ∧ IntKind.i64.wrap (v.x * v.x + v.y * v.y) = v.x * v.x + v.y * v.y := by
  have sq : ∀ {x d : Int}, -d ≤ x → x ≤ d → d ≤ 67108864 → 0 ≤ x * x ∧ x * x ≤ 4503599627370496 := by
    intro x d h1 h2 h3
    refine ⟨sq_nonneg x, ?_⟩
    rcases Int.le_total 0 x with h | h
    · exact Int.mul_le_mul (c := 67108864) (d := 67108864) (by omega) (by omega) h (by omega)
    · have := Int.mul_le_mul (a := -x) (b := -x) (c := 67108864) (d := 67108864) (by omega) (by omega) (by omega) (by omega)
      rw [Int.neg_mul_neg] at this; exact this
  have a1 := sq h3 h4 h2
  have a2 := sq h5 h6 h2
  have a3 := sq (x := v.d) (d := v.d) (by omega) (by omega) h2
  refine ⟨w64 (by omega) (by omega), w64 (by omega) (by omega), w64 (by omega) (by omega), w64 (by omega) (by omega)⟩
theorem vec_neg {v : Vec} (h1 : 1 ≤ v.d) (h2 : v.d ≤ 67108864) : IntKind.i64.wrap (0 - v.d) = - v.d := by rw [w64] <;> omega
theorem vecB_pure (v : Vec) : Pure Try.prog 112 [.agg [.int .i64 v.x, .int .i64 v.y, .int .i64 v.d]] (.bool (decide v.ok)) := by
  (refine pure_of_ev tt_ok Try.func112 rfl (by decide +kernel) (Nat.le_of_ble_eq_true rfl) ?_; simp only [Try.f112])
  repeat' first
    | refine ev_seq (fun K hK => ?_)
    | ((first | refine evr tt_ok false ?_ | refine ev_skip ?_ | refine ev_ret ?_ | refine ev_exit ?_ | refine evc (fun X Y hX hY => ?_)); simp only [go_sem, reduceAdd, reduceSub, reduceMul, reduceEqDiff, reduceLeDiff, Nat.reduceBEq, reduceLT, reduceIte, reduceCtorEq, Int.reduceToNat]; try (first | (refine ⟨fun h => hX ?_, fun h => hY ?_⟩; clear hX hY) | (refine hX ?_; clear hX hY) | (refine hY ?_; clear hX hY)))
    | refine ev_block ?_
    | (apply hK; clear hK)
    | apply_assumption -exfalso -symm only [*]
    | (refine And.intro ?_ ?_; first | omega | assumption | (unfold maxLen; omega) | (simp only [decide_eq_true_eq, decide_eq_false_iff_not, Int.not_lt, Int.not_le] at h; omega))
    | ((first | apply callP | apply callPG | apply callP0); (case' hv => (simp only [go_sem, reduceAdd, reduceSub, reduceMul, reduceEqDiff, reduceLeDiff, Nat.reduceBEq, reduceLT, reduceIte, reduceCtorEq, Int.reduceToNat]; try exact rfl)); (case' hp => (first | refine' size_pure _ _ | (refine' (fun hg => ?_); refine' size_pure _ _))); (case' h => ((first | refine evOps_fin ?_ | refine And.intro ?_ (evD_fin ?_) | refine evD_fin ?_) <;> simp only [go_sem, reduceAdd, reduceSub, reduceMul, reduceEqDiff, reduceLeDiff, Nat.reduceBEq, reduceLT, reduceIte, reduceCtorEq, Int.reduceToNat])))
    | (refine callX ?_; (first | refine evOps_fin ?_ | refine And.intro ?_ (evD_fin ?_) | refine evD_fin ?_) <;> simp only [go_sem, reduceAdd, reduceSub, reduceMul, reduceEqDiff, reduceLeDiff, Nat.reduceBEq, reduceLT, reduceIte, reduceCtorEq, Int.reduceToNat])
  refine bool_dec ?_
  simp only [Bool.and_eq_true, decide_eq_true_eq, beq_iff_eq]
  constructor
  · rintro ⟨⟨⟨⟨h1, h2⟩, h3, h4⟩, h5, h6⟩, h7⟩
    rw [vec_neg h1 h2] at h3 h5
    obtain ⟨e1, e2, e3, e4⟩ := vec_prod h1 h2 h3 h4 h5 h6
    rw [e1, e2, e3, e4] at h7
    exact ⟨h1, h2, h3, h4, h5, h6, h7⟩
  · rintro ⟨h1, h2, h3, h4, h5, h6, h7⟩
    obtain ⟨e1, e2, e3, e4⟩ := vec_prod h1 h2 h3 h4 h5 h6
    rw [vec_neg h1 h2, e1, e2, e3, e4]
    exact ⟨⟨⟨⟨h1, h2⟩, h3, h4⟩, h5, h6⟩, h7⟩
theorem rvalid_pure (v : Vec) : Pure Try.prog 104 [.agg [.int .i64 v.x, .int .i64 v.y, .int .i64 v.d]] (.bool (decide v.ok)) := by
  (refine pure_of_ev tt_ok Try.func104 rfl (by decide +kernel) (Nat.le_of_ble_eq_true rfl) ?_; simp only [Try.f104])
  repeat' first
    | refine ev_seq (fun K hK => ?_)
    | ((first | refine evr tt_ok false ?_ | refine ev_skip ?_ | refine ev_ret ?_ | refine ev_exit ?_ | refine evc (fun X Y hX hY => ?_)); simp only [go_sem, reduceAdd, reduceSub, reduceMul, reduceEqDiff, reduceLeDiff, Nat.reduceBEq, reduceLT, reduceIte, reduceCtorEq, Int.reduceToNat]; try (first | (refine ⟨fun h => hX ?_, fun h => hY ?_⟩; clear hX hY) | (refine hX ?_; clear hX hY) | (refine hY ?_; clear hX hY)))
    | refine ev_block ?_
    | (apply hK; clear hK)
    | apply_assumption -exfalso -symm only [*]
    | (refine And.intro ?_ ?_; first | omega | assumption | (unfold maxLen; omega) | (simp only [decide_eq_true_eq, decide_eq_false_iff_not, Int.not_lt, Int.not_le] at h; omega))
    | ((first | apply callP | apply callPG | apply callP0); (case' hv => (simp only [go_sem, reduceAdd, reduceSub, reduceMul, reduceEqDiff, reduceLeDiff, Nat.reduceBEq, reduceLT, reduceIte, reduceCtorEq, Int.reduceToNat]; try exact rfl)); (case' hp => (first | refine' vecB_pure v | (refine' (fun hg => ?_); refine' vecB_pure v))); (case' h => ((first | refine evOps_fin ?_ | refine And.intro ?_ (evD_fin ?_) | refine evD_fin ?_) <;> simp only [go_sem, reduceAdd, reduceSub, reduceMul, reduceEqDiff, reduceLeDiff, Nat.reduceBEq, reduceLT, reduceIte, reduceCtorEq, Int.reduceToNat])))
    | (refine callX ?_; (first | refine evOps_fin ?_ | refine And.intro ?_ (evD_fin ?_) | refine evD_fin ?_) <;> simp only [go_sem, reduceAdd, reduceSub, reduceMul, reduceEqDiff, reduceLeDiff, Nat.reduceBEq, reduceLT, reduceIte, reduceCtorEq, Int.reduceToNat])
theorem valid_pure (v : Vec) : Pure Try.prog 109 [.agg [.int .i64 v.x, .int .i64 v.y, .int .i64 v.d]] (.bool (decide v.ok)) := by
  (refine pure_of_ev tt_ok Try.func109 rfl (by decide +kernel) (Nat.le_of_ble_eq_true rfl) ?_; simp only [Try.f109])
  repeat' first
    | refine ev_seq (fun K hK => ?_)
    | ((first | refine evr tt_ok false ?_ | refine ev_skip ?_ | refine ev_ret ?_ | refine ev_exit ?_ | refine evc (fun X Y hX hY => ?_)); simp only [go_sem, reduceAdd, reduceSub, reduceMul, reduceEqDiff, reduceLeDiff, Nat.reduceBEq, reduceLT, reduceIte, reduceCtorEq, Int.reduceToNat]; try (first | (refine ⟨fun h => hX ?_, fun h => hY ?_⟩; clear hX hY) | (refine hX ?_; clear hX hY) | (refine hY ?_; clear hX hY)))
    | refine ev_block ?_
    | (apply hK; clear hK)
    | apply_assumption -exfalso -symm only [*]
    | (refine And.intro ?_ ?_; first | omega | assumption | (unfold maxLen; omega) | (simp only [decide_eq_true_eq, decide_eq_false_iff_not, Int.not_lt, Int.not_le] at h; omega))
  · have hd : ¬ v.ok := by
      rintro ⟨h1, h2, h3, h4, h5, h6, h7⟩
      rw [vec_neg h1 h2] at h
      simp at h; omega
    simp [hd]
  · refine bool_dec ?_
    rw [beq_iff_eq]
    simp at h
    obtain ⟨⟨⟨⟨⟨h1, h2⟩, h3⟩, h4⟩, h5⟩, h6⟩ := h
    have vn := vec_neg h1 h2
    rw [Int.zero_sub] at vn
    rw [vn] at h3 h5
    obtain ⟨e1, e2, e3, e4⟩ := vec_prod h1 h2 h3 h4 h5 h6
    rw [e1, e2, e3, e4]
    constructor
    · intro h7; exact ⟨h1, h2, h3, h4, h5, h6, h7⟩
    · intro h; exact h.2.2.2.2.2.2
theorem mark_pure (h : Int) : Pure Try.prog 111 [.int .i64 h] (.int .i64 (h % 256)) := by
  (refine pure_of_ev tt_ok Try.func111 rfl (by decide +kernel) (Nat.le_of_ble_eq_true rfl) ?_; simp only [Try.f111])
  repeat' first
    | refine ev_seq (fun K hK => ?_)
    | ((first | refine evr tt_ok false ?_ | refine ev_skip ?_ | refine ev_ret ?_ | refine ev_exit ?_ | refine evc (fun X Y hX hY => ?_)); simp only [go_sem, reduceAdd, reduceSub, reduceMul, reduceEqDiff, reduceLeDiff, Nat.reduceBEq, reduceLT, reduceIte, reduceCtorEq, Int.reduceToNat, and255]; try (first | (refine ⟨fun h => hX ?_, fun h => hY ?_⟩; clear hX hY) | (refine hX ?_; clear hX hY) | (refine hY ?_; clear hX hY)))
    | refine ev_block ?_
    | (apply hK; clear hK)
    | apply_assumption -exfalso -symm only [*]
    | (refine And.intro ?_ ?_; first | omega | assumption | (unfold maxLen; omega) | (simp only [decide_eq_true_eq, decide_eq_false_iff_not, Int.not_lt, Int.not_le] at h; omega))
theorem nan_pure (x : Int) : Pure Try.prog 108 [.int .i64 x] (.bool false) := by
  (refine pure_of_ev tt_ok Try.func108 rfl (by decide +kernel) (Nat.le_of_ble_eq_true rfl) ?_; simp only [Try.f108])
  repeat' first
    | refine ev_seq (fun K hK => ?_)
    | ((first | refine evr tt_ok false ?_ | refine ev_skip ?_ | refine ev_ret ?_ | refine ev_exit ?_ | refine evc (fun X Y hX hY => ?_)); simp only [go_sem, reduceAdd, reduceSub, reduceMul, reduceEqDiff, reduceLeDiff, Nat.reduceBEq, reduceLT, reduceIte, reduceCtorEq, Int.reduceToNat, bne_self_eq_false]; try (first | (refine ⟨fun h => hX ?_, fun h => hY ?_⟩; clear hX hY) | (refine hX ?_; clear hX hY) | (refine hY ?_; clear hX hY)))
    | refine ev_block ?_
    | (apply hK; clear hK)
    | apply_assumption -exfalso -symm only [*]
    | (refine And.intro ?_ ?_; first | omega | assumption | (unfold maxLen; omega) | (simp only [decide_eq_true_eq, decide_eq_false_iff_not, Int.not_lt, Int.not_le] at h; omega))
theorem compare_pure (a b : Int) : Pure Try.prog 99 [.int .i64 a, .int .i64 b] (.int .i64 (sgn3 a b)) := by
  (refine pure_of_ev tt_ok Try.func99 rfl (by decide +kernel) (Nat.le_of_ble_eq_true rfl) ?_; simp only [Try.f99])
  repeat' first
    | refine ev_seq (fun K hK => ?_)
    | ((first | refine evr tt_ok false ?_ | refine ev_skip ?_ | refine ev_ret ?_ | refine ev_exit ?_ | refine evc (fun X Y hX hY => ?_)); simp only [go_sem, reduceAdd, reduceSub, reduceMul, reduceEqDiff, reduceLeDiff, Nat.reduceBEq, reduceLT, reduceIte, reduceCtorEq, Int.reduceToNat]; try (first | (refine ⟨fun h => hX ?_, fun h => hY ?_⟩; clear hX hY) | (refine hX ?_; clear hX hY) | (refine hY ?_; clear hX hY)))
    | refine ev_block ?_
    | (apply hK; clear hK)
    | apply_assumption -exfalso -symm only [*]
    | (refine And.intro ?_ ?_; first | omega | assumption | (unfold maxLen; omega) | (simp only [decide_eq_true_eq, decide_eq_false_iff_not, Int.not_lt, Int.not_le] at h; omega))
    | ((first | apply callP | apply callPG | apply callP0); (case' hv => (simp only [go_sem, reduceAdd, reduceSub, reduceMul, reduceEqDiff, reduceLeDiff, Nat.reduceBEq, reduceLT, reduceIte, reduceCtorEq, Int.reduceToNat]; try exact rfl)); (case' hp => (first | refine' nan_pure _ | (refine' (fun hg => ?_); refine' nan_pure _))); (case' h => ((first | refine evOps_fin ?_ | refine And.intro ?_ (evD_fin ?_) | refine evD_fin ?_) <;> simp only [go_sem, reduceAdd, reduceSub, reduceMul, reduceEqDiff, reduceLeDiff, Nat.reduceBEq, reduceLT, reduceIte, reduceCtorEq, Int.reduceToNat])))
    | (refine callX ?_; (first | refine evOps_fin ?_ | refine And.intro ?_ (evD_fin ?_) | refine evD_fin ?_) <;> simp only [go_sem, reduceAdd, reduceSub, reduceMul, reduceEqDiff, reduceLeDiff, Nat.reduceBEq, reduceLT, reduceIte, reduceCtorEq, Int.reduceToNat])
  all_goals (simp only [sgn3]; simp only [decide_eq_true_eq, decide_eq_false_iff_not] at *; congr 1; (repeat' split) <;> omega)
def encVec (v : Vec) : List V := [.int .i64 v.x, .int .i64 v.y, .int .i64 v.d]
theorem bsize_pure (n k : Int) (hk : -4611686018427387904 ≤ k ∧ k ≤ 4611686018427387904) : Pure Try.prog 77 [.int .i64 n, .int .i64 k] (.bool (decide (-k ≤ n) && decide (n ≤ k))) := by
  have h := size_pure n k
  rw [show IntKind.i64.wrap (0 - k) = -k by rw [w64] <;> omega] at h
  exact h
theorem take_getD {α : Type} {l : List α} {i : Nat} (h : i < l.length) (d : α) : l.take (i + 1) = l.take i ++ [l.getD i d] := by
  rw [List.take_succ, List.getElem?_eq_getElem h]
  simp [List.getD_eq_getElem?_getD, List.getElem?_eq_getElem h]
end Go.Proofs.Ytokhaefcnbiadaa
