import Derived.Test.YtmpmggbcmioipaaD1
import Derived.Test.YtmpmggbcmioipaaV3
import Derived.Test.YtmpmggbcmioipaaH8
set_option linter.all false
namespace Go.Proofs.Ytmpmggbcmioipaa
open Nat (reduceAdd reduceSub reduceMul reduceEqDiff reduceLeDiff reduceLT)
open Go Go.K
set_option maxRecDepth 20000
set_option maxHeartbeats 4000000
def Cmd.ok (c : Cmd) : Prop := -32 ≤ c.t ∧ c.t ≤ 32 ∧ 0 ≤ c.f ∧ c.f ≤ 32
instance decCmdOk (c : Cmd) : Decidable c.ok := by unfold Cmd.ok; infer_instance
def Bounds.ok (b : Bounds) : Prop := 0 ≤ b.t ∧ b.t ≤ 8 ∧ 0 ≤ b.l ∧ b.l ≤ 16 ∧ 0 ≤ b.s ∧ b.s ≤ 8 ∧ 1 ≤ b.r ∧ b.r ≤ 32
instance decBoundsOk (b : Bounds) : Decidable b.ok := by unfold Bounds.ok; infer_instance
theorem between_pure (n a b : Int) : Pure Try.prog 78 [.int .i64 n, .int .i64 a, .int .i64 b] (.bool (decide (a ≤ n) && decide (n ≤ b))) := by
  (refine pure_of_ev tt_ok Try.func78 rfl (by decide +kernel) (Nat.le_of_ble_eq_true rfl) ?_; simp only [Try.f78])
  repeat' first
    | refine ev_seq (fun K hK => ?_)
    | ((first | refine evr tt_ok false ?_ | refine ev_skip ?_ | refine ev_ret ?_ | refine ev_exit ?_ | refine evc (fun X Y hX hY => ?_)); simp only [go_sem, reduceAdd, reduceSub, reduceMul, reduceEqDiff, reduceLeDiff, Nat.reduceBEq, reduceLT, reduceIte, reduceCtorEq, Int.reduceToNat]; try (first | (refine ⟨fun h => hX ?_, fun h => hY ?_⟩; clear hX hY) | (refine hX ?_; clear hX hY) | (refine hY ?_; clear hX hY)))
    | refine ev_block ?_
    | (apply hK; clear hK)
    | apply_assumption -exfalso -symm only [*]
    | (refine And.intro ?_ ?_; first | omega | assumption | (unfold maxLen; omega) | (simp only [decide_eq_true_eq, decide_eq_false_iff_not, Int.not_lt, Int.not_le] at h; omega))
theorem dwithin_pure (n k : Int) (hk : -4611686018427387904 ≤ k ∧ k ≤ 4611686018427387904) : Pure Try.prog 77 [.int .i64 n, .int .i64 k] (.bool (decide (-k ≤ n) && decide (n ≤ k))) := by
  have hw : IntKind.i64.wrap (0 - k) = -k := by rw [w64] <;> omega
  (refine pure_of_ev tt_ok Try.func77 rfl (by decide +kernel) (Nat.le_of_ble_eq_true rfl) ?_; simp only [Try.f77])
  repeat' first
    | refine ev_seq (fun K hK => ?_)
    | ((first | refine evr tt_ok false ?_ | refine ev_skip ?_ | refine ev_ret ?_ | refine ev_exit ?_ | refine evc (fun X Y hX hY => ?_)); simp only [go_sem, reduceAdd, reduceSub, reduceMul, reduceEqDiff, reduceLeDiff, Nat.reduceBEq, reduceLT, reduceIte, reduceCtorEq, Int.reduceToNat, hw]; try (first | (refine ⟨fun h => hX ?_, fun h => hY ?_⟩; clear hX hY) | (refine hX ?_; clear hX hY) | (refine hY ?_; clear hX hY)))
    | refine ev_block ?_
    | (apply hK; clear hK)
    | apply_assumption -exfalso -symm only [*]
    | (refine And.intro ?_ ?_; first | omega | assumption | (unfold maxLen; omega) | (simp only [decide_eq_true_eq, decide_eq_false_iff_not, Int.not_lt, Int.not_le] at h; omega))
    | ((first | apply callP | apply callPG | apply callP0); (case' hv => (simp only [go_sem, reduceAdd, reduceSub, reduceMul, reduceEqDiff, reduceLeDiff, Nat.reduceBEq, reduceLT, reduceIte, reduceCtorEq, Int.reduceToNat, hw]; try exact rfl)); (case' hp => (first | refine' between_pure n (-k) k | (refine' (fun hg => ?_); refine' between_pure n (-k) k))); (case' h => ((first | refine evOps_fin ?_ | refine And.intro ?_ (evD_fin ?_) | refine evD_fin ?_) <;> simp only [go_sem, reduceAdd, reduceSub, reduceMul, reduceEqDiff, reduceLeDiff, Nat.reduceBEq, reduceLT, reduceIte, reduceCtorEq, Int.reduceToNat, hw])))
    | (refine callX ?_; (first | refine evOps_fin ?_ | refine And.intro ?_ (evD_fin ?_) | refine evD_fin ?_) <;> simp only [go_sem, reduceAdd, reduceSub, reduceMul, reduceEqDiff, reduceLeDiff, Nat.reduceBEq, reduceLT, reduceIte, reduceCtorEq, Int.reduceToNat, hw])
theorem bsize_pure (n k : Int) (hk : -4611686018427387904 ≤ k ∧ k ≤ 4611686018427387904) : Pure Try.prog 44 [.int .i64 n, .int .i64 k] (.bool (decide (-k ≤ n) && decide (n ≤ k))) := by
  have h := size_pure n k
  rw [show IntKind.i64.wrap (0 - k) = -k by rw [w64] <;> omega] at h
  exact h
theorem vbounds_pure (b : Bounds) : Pure Try.prog 56 [.agg [.int .i64 b.t, .int .i64 b.l, .int .i64 b.s, .int .i64 b.r]] (.bool (decide b.ok)) := by
  (refine pure_of_ev tt_ok Try.func56 rfl (by decide +kernel) (Nat.le_of_ble_eq_true rfl) ?_; simp only [Try.f56])
  repeat' first
    | refine ev_seq (fun K hK => ?_)
    | ((first | refine evr tt_ok false ?_ | refine ev_skip ?_ | refine ev_ret ?_ | refine ev_exit ?_ | refine evc (fun X Y hX hY => ?_)); simp only [go_sem, reduceAdd, reduceSub, reduceMul, reduceEqDiff, reduceLeDiff, Nat.reduceBEq, reduceLT, reduceIte, reduceCtorEq, Int.reduceToNat]; try (first | (refine ⟨fun h => hX ?_, fun h => hY ?_⟩; clear hX hY) | (refine hX ?_; clear hX hY) | (refine hY ?_; clear hX hY)))
    | refine ev_block ?_
    | (apply hK; clear hK)
    | apply_assumption -exfalso -symm only [*]
    | (refine And.intro ?_ ?_; first | omega | assumption | (unfold maxLen; omega) | (simp only [decide_eq_true_eq, decide_eq_false_iff_not, Int.not_lt, Int.not_le] at h; omega))
    | ((first | apply callP | apply callPG | apply callP0); (case' hv => (simp only [go_sem, reduceAdd, reduceSub, reduceMul, reduceEqDiff, reduceLeDiff, Nat.reduceBEq, reduceLT, reduceIte, reduceCtorEq, Int.reduceToNat]; try exact rfl)); (case' hp => (first | refine' between_pure b.t 0 8 | (refine' (fun hg => ?_); refine' between_pure b.t 0 8) | refine' between_pure b.l 0 16 | (refine' (fun hg => ?_); refine' between_pure b.l 0 16) | refine' between_pure b.s 0 8 | (refine' (fun hg => ?_); refine' between_pure b.s 0 8) | refine' between_pure b.r 1 32 | (refine' (fun hg => ?_); refine' between_pure b.r 1 32))); (case' h => ((first | refine evOps_fin ?_ | refine And.intro ?_ (evD_fin ?_) | refine evD_fin ?_) <;> simp only [go_sem, reduceAdd, reduceSub, reduceMul, reduceEqDiff, reduceLeDiff, Nat.reduceBEq, reduceLT, reduceIte, reduceCtorEq, Int.reduceToNat])))
    | (refine callX ?_; (first | refine evOps_fin ?_ | refine And.intro ?_ (evD_fin ?_) | refine evD_fin ?_) <;> simp only [go_sem, reduceAdd, reduceSub, reduceMul, reduceEqDiff, reduceLeDiff, Nat.reduceBEq, reduceLT, reduceIte, reduceCtorEq, Int.reduceToNat])
  refine bool_dec ?_
  simp only [Bool.and_eq_true, decide_eq_true_eq]
  unfold Bounds.ok
  constructor
  · rintro ⟨⟨⟨⟨h1, h2⟩, h3, h4⟩, h5, h6⟩, h7, h8⟩; exact ⟨h1, h2, h3, h4, h5, h6, h7, h8⟩
  · rintro ⟨h1, h2, h3, h4, h5, h6, h7, h8⟩; exact ⟨⟨⟨⟨h1, h2⟩, h3, h4⟩, h5, h6⟩, h7, h8⟩
theorem bbounds_pure (b : Bounds) : Pure Try.prog 17 [.agg [.int .i64 b.t, .int .i64 b.l, .int .i64 b.s, .int .i64 b.r]] (.bool (decide b.ok)) := by
  (refine pure_of_ev tt_ok Try.func17 rfl (by decide +kernel) (Nat.le_of_ble_eq_true rfl) ?_; simp only [Try.f17])
  repeat' first
    | refine ev_seq (fun K hK => ?_)
    | ((first | refine evr tt_ok false ?_ | refine ev_skip ?_ | refine ev_ret ?_ | refine ev_exit ?_ | refine evc (fun X Y hX hY => ?_)); simp only [go_sem, reduceAdd, reduceSub, reduceMul, reduceEqDiff, reduceLeDiff, Nat.reduceBEq, reduceLT, reduceIte, reduceCtorEq, Int.reduceToNat]; try (first | (refine ⟨fun h => hX ?_, fun h => hY ?_⟩; clear hX hY) | (refine hX ?_; clear hX hY) | (refine hY ?_; clear hX hY)))
    | refine ev_block ?_
    | (apply hK; clear hK)
    | apply_assumption -exfalso -symm only [*]
    | (refine And.intro ?_ ?_; first | omega | assumption | (unfold maxLen; omega) | (simp only [decide_eq_true_eq, decide_eq_false_iff_not, Int.not_lt, Int.not_le] at h; omega))
  refine bool_dec ?_
  simp only [Bool.and_eq_true, decide_eq_true_eq]
  unfold Bounds.ok
  constructor
  · rintro ⟨⟨⟨⟨⟨⟨⟨h1, h2⟩, h3⟩, h4⟩, h5⟩, h6⟩, h7⟩, h8⟩; exact ⟨h1, h2, h3, h4, h5, h6, h7, h8⟩
  · rintro ⟨h1, h2, h3, h4, h5, h6, h7, h8⟩; exact ⟨⟨⟨⟨⟨⟨⟨h1, h2⟩, h3⟩, h4⟩, h5⟩, h6⟩, h7⟩, h8⟩
theorem vcmd_pure (c : Cmd) : Pure Try.prog 55 [.agg [.int .i64 c.t, .int .i64 c.f]] (.bool (decide c.ok)) := by
  (refine pure_of_ev tt_ok Try.func55 rfl (by decide +kernel) (Nat.le_of_ble_eq_true rfl) ?_; simp only [Try.f55])
  repeat' first
    | refine ev_seq (fun K hK => ?_)
    | ((first | refine evr tt_ok false ?_ | refine ev_skip ?_ | refine ev_ret ?_ | refine ev_exit ?_ | refine evc (fun X Y hX hY => ?_)); simp only [go_sem, reduceAdd, reduceSub, reduceMul, reduceEqDiff, reduceLeDiff, Nat.reduceBEq, reduceLT, reduceIte, reduceCtorEq, Int.reduceToNat]; try (first | (refine ⟨fun h => hX ?_, fun h => hY ?_⟩; clear hX hY) | (refine hX ?_; clear hX hY) | (refine hY ?_; clear hX hY)))
    | refine ev_block ?_
    | (apply hK; clear hK)
    | apply_assumption -exfalso -symm only [*]
    | (refine And.intro ?_ ?_; first | omega | assumption | (unfold maxLen; omega) | (simp only [decide_eq_true_eq, decide_eq_false_iff_not, Int.not_lt, Int.not_le] at h; omega))
    | ((first | apply callP | apply callPG | apply callP0); (case' hv => (simp only [go_sem, reduceAdd, reduceSub, reduceMul, reduceEqDiff, reduceLeDiff, Nat.reduceBEq, reduceLT, reduceIte, reduceCtorEq, Int.reduceToNat]; try exact rfl)); (case' hp => (first | refine' dwithin_pure c.t 32 (by omega) | (refine' (fun hg => ?_); refine' dwithin_pure c.t 32 (by omega)) | refine' between_pure c.f 0 32 | (refine' (fun hg => ?_); refine' between_pure c.f 0 32))); (case' h => ((first | refine evOps_fin ?_ | refine And.intro ?_ (evD_fin ?_) | refine evD_fin ?_) <;> simp only [go_sem, reduceAdd, reduceSub, reduceMul, reduceEqDiff, reduceLeDiff, Nat.reduceBEq, reduceLT, reduceIte, reduceCtorEq, Int.reduceToNat])))
    | (refine callX ?_; (first | refine evOps_fin ?_ | refine And.intro ?_ (evD_fin ?_) | refine evD_fin ?_) <;> simp only [go_sem, reduceAdd, reduceSub, reduceMul, reduceEqDiff, reduceLeDiff, Nat.reduceBEq, reduceLT, reduceIte, reduceCtorEq, Int.reduceToNat])
  refine bool_dec ?_
  simp only [Bool.and_eq_true, decide_eq_true_eq]
  unfold Cmd.ok
  constructor
  · rintro ⟨⟨h1, h2⟩, h3, h4⟩; exact ⟨by omega, h2, h3, h4⟩
  · rintro ⟨h1, h2, h3, h4⟩; exact ⟨⟨by omega, h2⟩, h3, h4⟩
theorem bcmd_pure (c : Cmd) : Pure Try.prog 16 [.agg [.int .i64 c.t, .int .i64 c.f]] (.bool (decide c.ok)) := by
  (refine pure_of_ev tt_ok Try.func16 rfl (by decide +kernel) (Nat.le_of_ble_eq_true rfl) ?_; simp only [Try.f16])
  repeat' first
    | refine ev_seq (fun K hK => ?_)
    | ((first | refine evr tt_ok false ?_ | refine ev_skip ?_ | refine ev_ret ?_ | refine ev_exit ?_ | refine evc (fun X Y hX hY => ?_)); simp only [go_sem, reduceAdd, reduceSub, reduceMul, reduceEqDiff, reduceLeDiff, Nat.reduceBEq, reduceLT, reduceIte, reduceCtorEq, Int.reduceToNat]; try (first | (refine ⟨fun h => hX ?_, fun h => hY ?_⟩; clear hX hY) | (refine hX ?_; clear hX hY) | (refine hY ?_; clear hX hY)))
    | refine ev_block ?_
    | (apply hK; clear hK)
    | apply_assumption -exfalso -symm only [*]
    | (refine And.intro ?_ ?_; first | omega | assumption | (unfold maxLen; omega) | (simp only [decide_eq_true_eq, decide_eq_false_iff_not, Int.not_lt, Int.not_le] at h; omega))
    | ((first | apply callP | apply callPG | apply callP0); (case' hv => (simp only [go_sem, reduceAdd, reduceSub, reduceMul, reduceEqDiff, reduceLeDiff, Nat.reduceBEq, reduceLT, reduceIte, reduceCtorEq, Int.reduceToNat]; try exact rfl)); (case' hp => (first | refine' bsize_pure c.t 32 (by omega) | (refine' (fun hg => ?_); refine' bsize_pure c.t 32 (by omega)))); (case' h => ((first | refine evOps_fin ?_ | refine And.intro ?_ (evD_fin ?_) | refine evD_fin ?_) <;> simp only [go_sem, reduceAdd, reduceSub, reduceMul, reduceEqDiff, reduceLeDiff, Nat.reduceBEq, reduceLT, reduceIte, reduceCtorEq, Int.reduceToNat])))
    | (refine callX ?_; (first | refine evOps_fin ?_ | refine And.intro ?_ (evD_fin ?_) | refine evD_fin ?_) <;> simp only [go_sem, reduceAdd, reduceSub, reduceMul, reduceEqDiff, reduceLeDiff, Nat.reduceBEq, reduceLT, reduceIte, reduceCtorEq, Int.reduceToNat])
  refine bool_dec ?_
  simp only [Bool.and_eq_true, decide_eq_true_eq]
  unfold Cmd.ok
  constructor
  · rintro ⟨⟨⟨h1, h2⟩, h3⟩, h4⟩; exact ⟨by omega, h2, h3, h4⟩
  · rintro ⟨h1, h2, h3, h4⟩; exact ⟨⟨⟨by omega, h2⟩, h3⟩, h4⟩
theorem down_pure (a b : Int) (hb : 0 < b) (ha : -4611686018427387904 ≤ a ∧ a ≤ 4611686018427387904) : Pure Try.prog 101 [.int .i64 a, .int .i64 b] (.int .i64 (a / b)) := by
  obtain ⟨hq, q1, q2⟩ := div_cases hb ha
  (refine pure_of_ev tt_ok Try.func101 rfl (by decide +kernel) (Nat.le_of_ble_eq_true rfl) ?_; simp only [Try.f101])
  repeat' first
    | refine ev_seq (fun K hK => ?_)
    | ((first | refine evr tt_ok false ?_ | refine ev_skip ?_ | refine ev_ret ?_ | refine ev_exit ?_ | refine evc (fun X Y hX hY => ?_)); simp only [go_sem, reduceAdd, reduceSub, reduceMul, reduceEqDiff, reduceLeDiff, Nat.reduceBEq, reduceLT, reduceIte, reduceCtorEq, Int.reduceToNat, hq]; try (first | (refine ⟨fun h => hX ?_, fun h => hY ?_⟩; clear hX hY) | (refine hX ?_; clear hX hY) | (refine hY ?_; clear hX hY)))
    | refine ev_block ?_
    | (apply hK; clear hK)
    | apply_assumption -exfalso -symm only [*]
    | (refine And.intro ?_ ?_; first | omega | assumption | (unfold maxLen; omega) | (simp only [decide_eq_true_eq, decide_eq_false_iff_not, Int.not_lt, Int.not_le] at h; omega))
  · rw [q1 (by simpa using h)]
  · rw [q2 (by simpa using h)]
theorem ahead_pure (h n : Int) (hn : -4096 ≤ n ∧ n ≤ 4096) : Pure Try.prog 92 [.int .i64 h, .int .i64 n] (.agg [.int .i64 (alo n (dirM h).x (dirM h).d), .int .i64 (alo n (dirM h).y (dirM h).d)]) := by
  have cd := dir_pure h
  obtain ⟨d1, d2, d3, d4, d5, d6, d7⟩ := dir_ok h
  simp only [encVec] at cd
  have pr : ∀ v : Int, -(dirM h).d ≤ v → v ≤ (dirM h).d → -4611686018427387904 ≤ max 0 n * v ∧ max 0 n * v ≤ 4611686018427387904 := by
    intro v h1 h2
    have p1 := Int.mul_le_mul_of_nonneg_left h2 (show 0 ≤ max 0 n by omega)
    have p2 := Int.mul_le_mul_of_nonneg_left h1 (show 0 ≤ max 0 n by omega)
    have p3 : max 0 n * (dirM h).d ≤ 4096 * 67108864 := Int.mul_le_mul (by omega) d2 (by omega) (by omega)
    rw [Int.mul_neg] at p2
    omega
  have px := pr _ d3 d4
  have py := pr _ d5 d6
  have wx : IntKind.i64.wrap (max 0 n * (dirM h).x) = max 0 n * (dirM h).x := w64 (by omega) (by omega)
  have wy : IntKind.i64.wrap (max 0 n * (dirM h).y) = max 0 n * (dirM h).y := w64 (by omega) (by omega)
  have c1 := down_pure (max 0 n * (dirM h).x) (dirM h).d (by omega) px
  have c2 := down_pure (max 0 n * (dirM h).y) (dirM h).d (by omega) py
  (refine pure_of_ev tt_ok Try.func92 rfl (by decide +kernel) (Nat.le_of_ble_eq_true rfl) ?_; simp only [Try.f92])
  repeat' first
    | refine ev_seq (fun K hK => ?_)
    | ((first | refine evrd (id := 2) hmix tt_ok false [([], false), ([], false), ([], false), ([], false), ([], false), ([], false), ([], true), ([6], false), ([6], false), ([6], false), ([6], false), ([6], false), ([6], false), ([], false), ([], false), ([], false)] (by decide +kernel) ?_ | refine evr tt_ok false ?_ | refine ev_skip ?_ | refine ev_ret ?_ | refine ev_exit ?_ | refine evc (fun X Y hX hY => ?_)); simp only [go_sem, reduceAdd, reduceSub, reduceMul, reduceEqDiff, reduceLeDiff, Nat.reduceBEq, reduceLT, reduceIte, reduceCtorEq, Int.reduceToNat, wx, wy]; try (first | (refine ⟨fun h => hX ?_, fun h => hY ?_⟩; clear hX hY) | (refine hX ?_; clear hX hY) | (refine hY ?_; clear hX hY)))
    | refine ev_block ?_
    | (apply hK; clear hK)
    | apply_assumption -exfalso -symm only [*]
    | (refine And.intro ?_ ?_; first | omega | assumption | (unfold maxLen; omega) | (simp only [decide_eq_true_eq, decide_eq_false_iff_not, Int.not_lt, Int.not_le] at h; omega))
    | ((first | apply callP | apply callPG | apply callP0); (case' hv => (simp only [go_sem, reduceAdd, reduceSub, reduceMul, reduceEqDiff, reduceLeDiff, Nat.reduceBEq, reduceLT, reduceIte, reduceCtorEq, Int.reduceToNat, wx, wy]; try exact rfl)); (case' hp => (first | refine' cd | (refine' (fun hg => ?_); refine' cd) | refine' c1 | (refine' (fun hg => ?_); refine' c1) | refine' c2 | (refine' (fun hg => ?_); refine' c2))); (case' h => ((first | refine evOps_fin ?_ | refine And.intro ?_ (evD_fin ?_) | refine evD_fin ?_) <;> simp only [go_sem, reduceAdd, reduceSub, reduceMul, reduceEqDiff, reduceLeDiff, Nat.reduceBEq, reduceLT, reduceIte, reduceCtorEq, Int.reduceToNat, wx, wy])))
    | (refine callX ?_; (first | refine evOps_fin ?_ | refine And.intro ?_ (evD_fin ?_) | refine evD_fin ?_) <;> simp only [go_sem, reduceAdd, reduceSub, reduceMul, reduceEqDiff, reduceLeDiff, Nat.reduceBEq, reduceLT, reduceIte, reduceCtorEq, Int.reduceToNat, wx, wy])
  all_goals rfl
theorem rmoved_pure (n h : Int) (hn : 0 ≤ n ∧ n ≤ 4096) : Pure Try.prog 53 [.int .i64 n, .int .i64 h] (.agg [.int .i64 (alo n (dirM h).x (dirM h).d), .int .i64 (alo n (dirM h).y (dirM h).d)]) := by
  have cd := rdir_pure h
  obtain ⟨d1, d2, d3, d4, d5, d6, d7⟩ := dir_ok h
  simp only [encVec] at cd
  have pr : ∀ v : Int, -(dirM h).d ≤ v → v ≤ (dirM h).d → -4611686018427387904 ≤ n * v ∧ n * v ≤ 4611686018427387904 := by
    intro v h1 h2
    have p1 := Int.mul_le_mul_of_nonneg_left h2 hn.1
    have p2 := Int.mul_le_mul_of_nonneg_left h1 hn.1
    have p3 : n * (dirM h).d ≤ 4096 * 67108864 := Int.mul_le_mul hn.2 d2 (by omega) (by omega)
    rw [Int.mul_neg] at p2
    omega
  have px := pr _ d3 d4
  have py := pr _ d5 d6
  have wx : IntKind.i64.wrap (n * (dirM h).x) = n * (dirM h).x := w64 (by omega) (by omega)
  have wy : IntKind.i64.wrap (n * (dirM h).y) = n * (dirM h).y := w64 (by omega) (by omega)
  have c1 := floor_pure (n * (dirM h).x) (dirM h).d (by omega) px
  have c2 := floor_pure (n * (dirM h).y) (dirM h).d (by omega) py
  have e1 : n * (dirM h).x / (dirM h).d = alo n (dirM h).x (dirM h).d := by unfold alo; rw [show max 0 n = n by omega]
  have e2 : n * (dirM h).y / (dirM h).d = alo n (dirM h).y (dirM h).d := by unfold alo; rw [show max 0 n = n by omega]
  (refine pure_of_ev tt_ok Try.func53 rfl (by decide +kernel) (Nat.le_of_ble_eq_true rfl) ?_; simp only [Try.f53])
  repeat' first
    | refine ev_seq (fun K hK => ?_)
    | ((first | refine evrd (id := 2) hmix tt_ok false [([], false), ([], false), ([], false), ([], false), ([], false), ([], false), ([], true), ([6], false), ([6], false), ([6], false), ([6], false), ([6], false), ([6], false), ([], false), ([], false), ([], false)] (by decide +kernel) ?_ | refine evr tt_ok false ?_ | refine ev_skip ?_ | refine ev_ret ?_ | refine ev_exit ?_ | refine evc (fun X Y hX hY => ?_)); simp only [go_sem, reduceAdd, reduceSub, reduceMul, reduceEqDiff, reduceLeDiff, Nat.reduceBEq, reduceLT, reduceIte, reduceCtorEq, Int.reduceToNat, wx, wy, e1, e2]; try (first | (refine ⟨fun h => hX ?_, fun h => hY ?_⟩; clear hX hY) | (refine hX ?_; clear hX hY) | (refine hY ?_; clear hX hY)))
    | refine ev_block ?_
    | (apply hK; clear hK)
    | apply_assumption -exfalso -symm only [*]
    | (refine And.intro ?_ ?_; first | omega | assumption | (unfold maxLen; omega) | (simp only [decide_eq_true_eq, decide_eq_false_iff_not, Int.not_lt, Int.not_le] at h; omega))
    | ((first | apply callP | apply callPG | apply callP0); (case' hv => (simp only [go_sem, reduceAdd, reduceSub, reduceMul, reduceEqDiff, reduceLeDiff, Nat.reduceBEq, reduceLT, reduceIte, reduceCtorEq, Int.reduceToNat, wx, wy, e1, e2]; try exact rfl)); (case' hp => (first | refine' cd | (refine' (fun hg => ?_); refine' cd) | refine' c1 | (refine' (fun hg => ?_); refine' c1) | refine' c2 | (refine' (fun hg => ?_); refine' c2))); (case' h => ((first | refine evOps_fin ?_ | refine And.intro ?_ (evD_fin ?_) | refine evD_fin ?_) <;> simp only [go_sem, reduceAdd, reduceSub, reduceMul, reduceEqDiff, reduceLeDiff, Nat.reduceBEq, reduceLT, reduceIte, reduceCtorEq, Int.reduceToNat, wx, wy, e1, e2])))
    | (refine callX ?_; (first | refine evOps_fin ?_ | refine And.intro ?_ (evD_fin ?_) | refine evD_fin ?_) <;> simp only [go_sem, reduceAdd, reduceSub, reduceMul, reduceEqDiff, reduceLeDiff, Nat.reduceBEq, reduceLT, reduceIte, reduceCtorEq, Int.reduceToNat, wx, wy, e1, e2])
theorem reach_pure (c : Cmd) (b : Bounds) (h : Int) (hc : c.ok) (hb : b.ok) (hh : 0 ≤ h ∧ h ≤ 255) : Pure Try.prog 71 [.agg [.int .i64 c.t, .int .i64 c.f], .agg [.int .i64 b.t, .int .i64 b.l, .int .i64 b.s, .int .i64 b.r], .int .i64 h] (.tup [.agg [.int .i64 (reachM c.f b.l b.s h).x0, .int .i64 (reachM c.f b.l b.s h).y0, .int .i64 (reachM c.f b.l b.s h).x1, .int .i64 (reachM c.f b.l b.s h).y1], .int .i64 0]) := by
  obtain ⟨c1, c2, c3, c4⟩ := id hc
  obtain ⟨b1, b2, b3, b4, b5, b6, b7, b8⟩ := id hb
  have hw := between_pure h 0 255
  rw [show (decide ((0 : Int) ≤ h) && decide (h ≤ 255)) = true by simp; omega] at hw
  by_cases hf : c.f = 0
  · have e : reachM c.f b.l b.s h = Rect.zero := if_pos hf
    have hf2 : (c.f == 0) = true := by rw [hf]; rfl
    rw [e]
    (refine pure_of_ev tt_ok Try.func71 rfl (by decide +kernel) (Nat.le_of_ble_eq_true rfl) ?_; simp only [Try.f71])
    repeat' first
      | refine ev_seq (fun K hK => ?_)
      | ((first | refine evrd (id := 7) hmix tt_ok false [([], true), ([], true), ([], true), ([], true), ([], true), ([], true), ([], true), ([6], true), ([6], true), ([6], true), ([6], true), ([6], true), ([6], true), ([], true), ([0, 1, 2, 3, 4, 5, 6, 7, 8, 9, 10, 11, 12, 13], true), ([0, 1, 2, 3, 4, 5, 6, 7, 8, 9, 10, 11, 12, 13, 14], false), ([], false), ([], false)] (by decide +kernel) ?_ | refine evr tt_ok false ?_ | refine ev_skip ?_ | refine ev_ret ?_ | refine ev_exit ?_ | refine evc (fun X Y hX hY => ?_)); simp only [go_sem, reduceAdd, reduceSub, reduceMul, reduceEqDiff, reduceLeDiff, Nat.reduceBEq, reduceLT, reduceIte, reduceCtorEq, Int.reduceToNat, hc, hb, hf2]; try (first | (refine ⟨fun h => hX ?_, fun h => hY ?_⟩; clear hX hY) | (refine hX ?_; clear hX hY) | (refine hY ?_; clear hX hY)))
      | refine ev_block ?_
      | (apply hK; clear hK)
      | apply_assumption -exfalso -symm only [*]
      | (refine And.intro ?_ ?_; first | omega | assumption | (unfold maxLen; omega) | (simp only [decide_eq_true_eq, decide_eq_false_iff_not, Int.not_lt, Int.not_le] at h; omega))
      | ((first | apply callP | apply callPG | apply callP0); (case' hv => (simp only [go_sem, reduceAdd, reduceSub, reduceMul, reduceEqDiff, reduceLeDiff, Nat.reduceBEq, reduceLT, reduceIte, reduceCtorEq, Int.reduceToNat, hc, hb, hf2]; try exact rfl)); (case' hp => (first | refine' vcmd_pure c | (refine' (fun hg => ?_); refine' vcmd_pure c) | refine' vbounds_pure b | (refine' (fun hg => ?_); refine' vbounds_pure b) | refine' hw | (refine' (fun hg => ?_); refine' hw))); (case' h => ((first | refine evOps_fin ?_ | refine And.intro ?_ (evD_fin ?_) | refine evD_fin ?_) <;> simp only [go_sem, reduceAdd, reduceSub, reduceMul, reduceEqDiff, reduceLeDiff, Nat.reduceBEq, reduceLT, reduceIte, reduceCtorEq, Int.reduceToNat, hc, hb, hf2])))
      | (refine callX ?_; (first | refine evOps_fin ?_ | refine And.intro ?_ (evD_fin ?_) | refine evD_fin ?_) <;> simp only [go_sem, reduceAdd, reduceSub, reduceMul, reduceEqDiff, reduceLeDiff, Nat.reduceBEq, reduceLT, reduceIte, reduceCtorEq, Int.reduceToNat, hc, hb, hf2])
    rfl
  · have e : reachM c.f b.l b.s h = endsM c.f b.l b.s h := if_neg hf
    have sm := @reachM_small c.f b.l b.s h ⟨by omega, by omega⟩ ⟨by omega, by omega⟩ ⟨by omega, by omega⟩
    rw [e] at sm
    have hf2 : (c.f == 0) = false := by rw [beq_eq_false_iff_ne]; exact hf
    have w1 : IntKind.i64.wrap (c.f - b.l) = c.f - b.l := w64 (by omega) (by omega)
    have w2 : IntKind.i64.wrap (c.f + b.l) = c.f + b.l := w64 (by omega) (by omega)
    have a1 := ahead_pure h (c.f - b.l) (by omega)
    have a2 := ahead_pure h (c.f + b.l) (by omega)
    rw [e]
    simp only [endsM] at sm ⊢
    have w3 : IntKind.i64.wrap (min (alo (c.f - b.l) (dirM h).x (dirM h).d) (alo (c.f + b.l) (dirM h).x (dirM h).d) - b.s) = min (alo (c.f - b.l) (dirM h).x (dirM h).d) (alo (c.f + b.l) (dirM h).x (dirM h).d) - b.s := w64 (by omega) (by omega)
    have w4 : IntKind.i64.wrap (min (alo (c.f - b.l) (dirM h).y (dirM h).d) (alo (c.f + b.l) (dirM h).y (dirM h).d) - b.s) = min (alo (c.f - b.l) (dirM h).y (dirM h).d) (alo (c.f + b.l) (dirM h).y (dirM h).d) - b.s := w64 (by omega) (by omega)
    have w5 : IntKind.i64.wrap (max (alo (c.f - b.l) (dirM h).x (dirM h).d) (alo (c.f + b.l) (dirM h).x (dirM h).d) + b.s) = max (alo (c.f - b.l) (dirM h).x (dirM h).d) (alo (c.f + b.l) (dirM h).x (dirM h).d) + b.s := w64 (by omega) (by omega)
    have w6 : IntKind.i64.wrap (max (alo (c.f - b.l) (dirM h).y (dirM h).d) (alo (c.f + b.l) (dirM h).y (dirM h).d) + b.s) = max (alo (c.f - b.l) (dirM h).y (dirM h).d) (alo (c.f + b.l) (dirM h).y (dirM h).d) + b.s := w64 (by omega) (by omega)
    (refine pure_of_ev tt_ok Try.func71 rfl (by decide +kernel) (Nat.le_of_ble_eq_true rfl) ?_; simp only [Try.f71])
    repeat' first
      | refine ev_seq (fun K hK => ?_)
      | ((first | refine evrd (id := 7) hmix tt_ok false [([], true), ([], true), ([], true), ([], true), ([], true), ([], true), ([], true), ([6], true), ([6], true), ([6], true), ([6], true), ([6], true), ([6], true), ([], true), ([0, 1, 2, 3, 4, 5, 6, 7, 8, 9, 10, 11, 12, 13], true), ([0, 1, 2, 3, 4, 5, 6, 7, 8, 9, 10, 11, 12, 13, 14], false), ([], false), ([], false)] (by decide +kernel) ?_ | refine evr tt_ok false ?_ | refine ev_skip ?_ | refine ev_ret ?_ | refine ev_exit ?_ | refine evc (fun X Y hX hY => ?_)); simp only [go_sem, reduceAdd, reduceSub, reduceMul, reduceEqDiff, reduceLeDiff, Nat.reduceBEq, reduceLT, reduceIte, reduceCtorEq, Int.reduceToNat, hc, hb, hf2, w1, w2, w3, w4, w5, w6]; try (first | (refine ⟨fun h => hX ?_, fun h => hY ?_⟩; clear hX hY) | (refine hX ?_; clear hX hY) | (refine hY ?_; clear hX hY)))
      | refine ev_block ?_
      | (apply hK; clear hK)
      | apply_assumption -exfalso -symm only [*]
      | (refine And.intro ?_ ?_; first | omega | assumption | (unfold maxLen; omega) | (simp only [decide_eq_true_eq, decide_eq_false_iff_not, Int.not_lt, Int.not_le] at h; omega))
      | ((first | apply callP | apply callPG | apply callP0); (case' hv => (simp only [go_sem, reduceAdd, reduceSub, reduceMul, reduceEqDiff, reduceLeDiff, Nat.reduceBEq, reduceLT, reduceIte, reduceCtorEq, Int.reduceToNat, hc, hb, hf2, w1, w2, w3, w4, w5, w6]; try exact rfl)); (case' hp => (first | refine' vcmd_pure c | (refine' (fun hg => ?_); refine' vcmd_pure c) | refine' vbounds_pure b | (refine' (fun hg => ?_); refine' vbounds_pure b) | refine' hw | (refine' (fun hg => ?_); refine' hw) | refine' a1 | (refine' (fun hg => ?_); refine' a1) | refine' a2 | (refine' (fun hg => ?_); refine' a2))); (case' h => ((first | refine evOps_fin ?_ | refine And.intro ?_ (evD_fin ?_) | refine evD_fin ?_) <;> simp only [go_sem, reduceAdd, reduceSub, reduceMul, reduceEqDiff, reduceLeDiff, Nat.reduceBEq, reduceLT, reduceIte, reduceCtorEq, Int.reduceToNat, hc, hb, hf2, w1, w2, w3, w4, w5, w6])))
      | (refine callX ?_; (first | refine evOps_fin ?_ | refine And.intro ?_ (evD_fin ?_) | refine evD_fin ?_) <;> simp only [go_sem, reduceAdd, reduceSub, reduceMul, reduceEqDiff, reduceLeDiff, Nat.reduceBEq, reduceLT, reduceIte, reduceCtorEq, Int.reduceToNat, hc, hb, hf2, w1, w2, w3, w4, w5, w6])
    all_goals rfl
end Go.Proofs.Ytmpmggbcmioipaa
