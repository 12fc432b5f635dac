import Derived.Test.YtnkiejbkfafciaaKT
import Derived.Test.YtnkiejbkfafciaaK14
set_option linter.all false
namespace Go.Proofs.Ytnkiejbkfafciaa
open Go Go.K
theorem hmix : Try.prog.follows .mixedOrders = true := by decide +kernel
set_option maxRecDepth 20000
set_option maxHeartbeats 4000000
set_option linter.unusedSimpArgs false
set_option linter.unusedVariables false
theorem mod_pure (a b : Int) (hb : 0 < b) (h2 : b < 4611686018427387904) : Pure Try.prog 12 [.int .i64 a, .int .i64 b] (.int .i64 (a % b)) := by
  (refine pure_of_ev tt_ok Try.func12 rfl (by decide +kernel) (Nat.le_of_ble_eq_true rfl) ?_; simp only [Try.f12])
  repeat' first
    | refine ev_seq (fun K hK => ?_)
    | (refine evr tt_ok false ?_; simp only [go_sem, Nat.reduceAdd, Nat.reduceSub, Nat.reduceMul, Nat.reduceEqDiff, Nat.reduceLeDiff, Nat.reduceBEq, Nat.reduceLT, reduceIte, reduceCtorEq, Int.toNat_zero, Int.toNat_one, Int.reduceToNat, Nat.zero_add, Nat.add_zero, Nat.sub_zero, Nat.zero_mul])
    | (refine evc (fun X Y hX hY => ?_); simp only [go_sem, Nat.reduceAdd, Nat.reduceSub, Nat.reduceMul, Nat.reduceEqDiff, Nat.reduceLeDiff, Nat.reduceBEq, Nat.reduceLT, reduceIte, reduceCtorEq, Int.toNat_zero, Int.toNat_one, Int.reduceToNat, Nat.zero_add, Nat.add_zero, Nat.sub_zero, Nat.zero_mul]; first | (refine ⟨fun h => hX ?_, fun h => hY ?_⟩; clear hX hY) | (refine hX ?_; clear hX hY) | (refine hY ?_; clear hX hY))
    | (refine ev_skip ?_; simp only [go_sem, Nat.reduceAdd, Nat.reduceSub, Nat.reduceMul, Nat.reduceEqDiff, Nat.reduceLeDiff, Nat.reduceBEq, Nat.reduceLT, reduceIte, reduceCtorEq, Int.toNat_zero, Int.toNat_one, Int.reduceToNat, Nat.zero_add, Nat.add_zero, Nat.sub_zero, Nat.zero_mul])
    | (refine ev_ret ?_; simp only [go_sem, Nat.reduceAdd, Nat.reduceSub, Nat.reduceMul, Nat.reduceEqDiff, Nat.reduceLeDiff, Nat.reduceBEq, Nat.reduceLT, reduceIte, reduceCtorEq, Int.toNat_zero, Int.toNat_one, Int.reduceToNat, Nat.zero_add, Nat.add_zero, Nat.sub_zero, Nat.zero_mul])
    | refine ev_block ?_
    | (refine ev_exit ?_; simp only [go_sem, Nat.reduceAdd, Nat.reduceSub, Nat.reduceMul, Nat.reduceEqDiff, Nat.reduceLeDiff, Nat.reduceBEq, Nat.reduceLT, reduceIte, reduceCtorEq, Int.toNat_zero, Int.toNat_one, Int.reduceToNat, Nat.zero_add, Nat.add_zero, Nat.sub_zero, Nat.zero_mul])
    | (apply hK; clear hK)
    | apply_assumption -exfalso -symm only [*]
    | (refine And.intro ?_ ?_; first | omega | assumption | (simp only [decide_eq_true_eq, decide_eq_false_iff_not, Int.not_lt, Int.not_le] at h; omega))
  · have h1 : a.tmod b < 0 := by simpa using h
    have h3 := Int.emod_nonneg a (Int.ne_of_gt hb)
    have h4 := Int.emod_lt_of_pos a hb
    have h5 := tmod_neg hb h1
    rw [w64 (by omega) (by omega), h5]
  · have h1 : ¬ a.tmod b < 0 := by simpa using h
    rw [tmod_nonneg hb h1]
theorem size_pure (a b : Int) (hb : -1000000000000 < b ∧ b < 1000000000000) : Pure Try.prog 30 [.int .i64 a, .int .i64 b] (.bool (decide (-b ≤ a) && decide (a ≤ b))) := by
  have hw : IntKind.i64.wrap (0 - b) = - b := by rw [w64] <;> omega
  (refine pure_of_ev tt_ok Try.func30 rfl (by decide +kernel) (Nat.le_of_ble_eq_true rfl) ?_; simp only [Try.f30])
  repeat' first
    | refine ev_seq (fun K hK => ?_)
    | (refine evr tt_ok false ?_; simp only [go_sem, Nat.reduceAdd, Nat.reduceSub, Nat.reduceMul, Nat.reduceEqDiff, Nat.reduceLeDiff, Nat.reduceBEq, Nat.reduceLT, reduceIte, reduceCtorEq, Int.toNat_zero, Int.toNat_one, Int.reduceToNat, Nat.zero_add, Nat.add_zero, Nat.sub_zero, Nat.zero_mul, hw])
    | (refine evc (fun X Y hX hY => ?_); simp only [go_sem, Nat.reduceAdd, Nat.reduceSub, Nat.reduceMul, Nat.reduceEqDiff, Nat.reduceLeDiff, Nat.reduceBEq, Nat.reduceLT, reduceIte, reduceCtorEq, Int.toNat_zero, Int.toNat_one, Int.reduceToNat, Nat.zero_add, Nat.add_zero, Nat.sub_zero, Nat.zero_mul, hw]; first | (refine ⟨fun h => hX ?_, fun h => hY ?_⟩; clear hX hY) | (refine hX ?_; clear hX hY) | (refine hY ?_; clear hX hY))
    | (refine ev_skip ?_; simp only [go_sem, Nat.reduceAdd, Nat.reduceSub, Nat.reduceMul, Nat.reduceEqDiff, Nat.reduceLeDiff, Nat.reduceBEq, Nat.reduceLT, reduceIte, reduceCtorEq, Int.toNat_zero, Int.toNat_one, Int.reduceToNat, Nat.zero_add, Nat.add_zero, Nat.sub_zero, Nat.zero_mul, hw])
    | (refine ev_ret ?_; simp only [go_sem, Nat.reduceAdd, Nat.reduceSub, Nat.reduceMul, Nat.reduceEqDiff, Nat.reduceLeDiff, Nat.reduceBEq, Nat.reduceLT, reduceIte, reduceCtorEq, Int.toNat_zero, Int.toNat_one, Int.reduceToNat, Nat.zero_add, Nat.add_zero, Nat.sub_zero, Nat.zero_mul, hw])
    | refine ev_block ?_
    | (refine ev_exit ?_; simp only [go_sem, Nat.reduceAdd, Nat.reduceSub, Nat.reduceMul, Nat.reduceEqDiff, Nat.reduceLeDiff, Nat.reduceBEq, Nat.reduceLT, reduceIte, reduceCtorEq, Int.toNat_zero, Int.toNat_one, Int.reduceToNat, Nat.zero_add, Nat.add_zero, Nat.sub_zero, Nat.zero_mul, hw])
    | (apply hK; clear hK)
    | apply_assumption -exfalso -symm only [*]
    | (refine And.intro ?_ ?_; first | omega | assumption | (simp only [decide_eq_true_eq, decide_eq_false_iff_not, Int.not_lt, Int.not_le] at h; omega))
theorem between_pure (n lo hi : Int) : Pure Try.prog 27 [.int .i64 n, .int .i64 lo, .int .i64 hi] (.bool (decide (lo ≤ n) && decide (n ≤ hi))) := by
  (refine pure_of_ev tt_ok Try.func27 rfl (by decide +kernel) (Nat.le_of_ble_eq_true rfl) ?_; simp only [Try.f27])
  repeat' first
    | refine ev_seq (fun K hK => ?_)
    | (refine evr tt_ok false ?_; simp only [go_sem, Nat.reduceAdd, Nat.reduceSub, Nat.reduceMul, Nat.reduceEqDiff, Nat.reduceLeDiff, Nat.reduceBEq, Nat.reduceLT, reduceIte, reduceCtorEq, Int.toNat_zero, Int.toNat_one, Int.reduceToNat, Nat.zero_add, Nat.add_zero, Nat.sub_zero, Nat.zero_mul])
    | (refine evc (fun X Y hX hY => ?_); simp only [go_sem, Nat.reduceAdd, Nat.reduceSub, Nat.reduceMul, Nat.reduceEqDiff, Nat.reduceLeDiff, Nat.reduceBEq, Nat.reduceLT, reduceIte, reduceCtorEq, Int.toNat_zero, Int.toNat_one, Int.reduceToNat, Nat.zero_add, Nat.add_zero, Nat.sub_zero, Nat.zero_mul]; first | (refine ⟨fun h => hX ?_, fun h => hY ?_⟩; clear hX hY) | (refine hX ?_; clear hX hY) | (refine hY ?_; clear hX hY))
    | (refine ev_skip ?_; simp only [go_sem, Nat.reduceAdd, Nat.reduceSub, Nat.reduceMul, Nat.reduceEqDiff, Nat.reduceLeDiff, Nat.reduceBEq, Nat.reduceLT, reduceIte, reduceCtorEq, Int.toNat_zero, Int.toNat_one, Int.reduceToNat, Nat.zero_add, Nat.add_zero, Nat.sub_zero, Nat.zero_mul])
    | (refine ev_ret ?_; simp only [go_sem, Nat.reduceAdd, Nat.reduceSub, Nat.reduceMul, Nat.reduceEqDiff, Nat.reduceLeDiff, Nat.reduceBEq, Nat.reduceLT, reduceIte, reduceCtorEq, Int.toNat_zero, Int.toNat_one, Int.reduceToNat, Nat.zero_add, Nat.add_zero, Nat.sub_zero, Nat.zero_mul])
    | refine ev_block ?_
    | (refine ev_exit ?_; simp only [go_sem, Nat.reduceAdd, Nat.reduceSub, Nat.reduceMul, Nat.reduceEqDiff, Nat.reduceLeDiff, Nat.reduceBEq, Nat.reduceLT, reduceIte, reduceCtorEq, Int.toNat_zero, Int.toNat_one, Int.reduceToNat, Nat.zero_add, Nat.add_zero, Nat.sub_zero, Nat.zero_mul])
    | (apply hK; clear hK)
    | apply_assumption -exfalso -symm only [*]
    | (refine And.intro ?_ ?_; first | omega | assumption | (simp only [decide_eq_true_eq, decide_eq_false_iff_not, Int.not_lt, Int.not_le] at h; omega))
theorem within_pure (a b : Int) (hb : -1000000000000 < b ∧ b < 1000000000000) : Pure Try.prog 26 [.int .i64 a, .int .i64 b] (.bool (decide (-b ≤ a) && decide (a ≤ b))) := by
  have hw : IntKind.i64.wrap (0 - b) = - b := by rw [w64] <;> omega
  (refine pure_of_ev tt_ok Try.func26 rfl (by decide +kernel) (Nat.le_of_ble_eq_true rfl) ?_; simp only [Try.f26])
  repeat' first
    | refine ev_seq (fun K hK => ?_)
    | (refine evr tt_ok false ?_; simp only [go_sem, Nat.reduceAdd, Nat.reduceSub, Nat.reduceMul, Nat.reduceEqDiff, Nat.reduceLeDiff, Nat.reduceBEq, Nat.reduceLT, reduceIte, reduceCtorEq, Int.toNat_zero, Int.toNat_one, Int.reduceToNat, Nat.zero_add, Nat.add_zero, Nat.sub_zero, Nat.zero_mul, hw])
    | (refine evc (fun X Y hX hY => ?_); simp only [go_sem, Nat.reduceAdd, Nat.reduceSub, Nat.reduceMul, Nat.reduceEqDiff, Nat.reduceLeDiff, Nat.reduceBEq, Nat.reduceLT, reduceIte, reduceCtorEq, Int.toNat_zero, Int.toNat_one, Int.reduceToNat, Nat.zero_add, Nat.add_zero, Nat.sub_zero, Nat.zero_mul, hw]; first | (refine ⟨fun h => hX ?_, fun h => hY ?_⟩; clear hX hY) | (refine hX ?_; clear hX hY) | (refine hY ?_; clear hX hY))
    | (refine ev_skip ?_; simp only [go_sem, Nat.reduceAdd, Nat.reduceSub, Nat.reduceMul, Nat.reduceEqDiff, Nat.reduceLeDiff, Nat.reduceBEq, Nat.reduceLT, reduceIte, reduceCtorEq, Int.toNat_zero, Int.toNat_one, Int.reduceToNat, Nat.zero_add, Nat.add_zero, Nat.sub_zero, Nat.zero_mul, hw])
    | (refine ev_ret ?_; simp only [go_sem, Nat.reduceAdd, Nat.reduceSub, Nat.reduceMul, Nat.reduceEqDiff, Nat.reduceLeDiff, Nat.reduceBEq, Nat.reduceLT, reduceIte, reduceCtorEq, Int.toNat_zero, Int.toNat_one, Int.reduceToNat, Nat.zero_add, Nat.add_zero, Nat.sub_zero, Nat.zero_mul, hw])
    | refine ev_block ?_
    | (refine ev_exit ?_; simp only [go_sem, Nat.reduceAdd, Nat.reduceSub, Nat.reduceMul, Nat.reduceEqDiff, Nat.reduceLeDiff, Nat.reduceBEq, Nat.reduceLT, reduceIte, reduceCtorEq, Int.toNat_zero, Int.toNat_one, Int.reduceToNat, Nat.zero_add, Nat.add_zero, Nat.sub_zero, Nat.zero_mul, hw])
    | (apply hK; clear hK)
    | apply_assumption -exfalso -symm only [*]
    | (refine And.intro ?_ ?_; first | omega | assumption | (simp only [decide_eq_true_eq, decide_eq_false_iff_not, Int.not_lt, Int.not_le] at h; omega))
    | (apply callP; (case' hv => (simp only [go_sem, Nat.reduceAdd, Nat.reduceSub, Nat.reduceMul, Nat.reduceEqDiff, Nat.reduceLeDiff, Nat.reduceBEq, Nat.reduceLT, reduceIte, reduceCtorEq, Int.toNat_zero, Int.toNat_one, Int.reduceToNat, Nat.zero_add, Nat.add_zero, Nat.sub_zero, Nat.zero_mul, hw]; try exact rfl)); (case' hp => (refine' between_pure _ _ _; all_goals first | (fail_if_success refine prop_id ?_; skip) | omega | assumption | (refine' Eq.trans ?_ ?_; (focus (simp only [go_sem, Nat.reduceAdd, Nat.reduceSub, Nat.reduceMul, Nat.reduceEqDiff, Nat.reduceLeDiff, Nat.reduceBEq, Nat.reduceLT, reduceIte, reduceCtorEq, Int.toNat_zero, Int.toNat_one, Int.reduceToNat, Nat.zero_add, Nat.add_zero, Nat.sub_zero, Nat.zero_mul, hw]; exact rfl)); exact rfl) | (simp only [go_sem, Nat.reduceAdd, Nat.reduceSub, Nat.reduceMul, Nat.reduceEqDiff, Nat.reduceLeDiff, Nat.reduceBEq, Nat.reduceLT, reduceIte, reduceCtorEq, Int.toNat_zero, Int.toNat_one, Int.reduceToNat, Nat.zero_add, Nat.add_zero, Nat.sub_zero, Nat.zero_mul, hw]; done) | (simp only [go_sem, Nat.reduceAdd, Nat.reduceSub, Nat.reduceMul, Nat.reduceEqDiff, Nat.reduceLeDiff, Nat.reduceBEq, Nat.reduceLT, reduceIte, reduceCtorEq, Int.toNat_zero, Int.toNat_one, Int.reduceToNat, Nat.zero_add, Nat.add_zero, Nat.sub_zero, Nat.zero_mul, hw]; exact rfl) | (simp only [go_sem, Nat.reduceAdd, Nat.reduceSub, Nat.reduceMul, Nat.reduceEqDiff, Nat.reduceLeDiff, Nat.reduceBEq, Nat.reduceLT, reduceIte, reduceCtorEq, Int.toNat_zero, Int.toNat_one, Int.reduceToNat, Nat.zero_add, Nat.add_zero, Nat.sub_zero, Nat.zero_mul, hw]; omega))); (case' h => (first | (refine evOps_fin ?_; simp only [go_sem, Nat.reduceAdd, Nat.reduceSub, Nat.reduceMul, Nat.reduceEqDiff, Nat.reduceLeDiff, Nat.reduceBEq, Nat.reduceLT, reduceIte, reduceCtorEq, Int.toNat_zero, Int.toNat_one, Int.reduceToNat, Nat.zero_add, Nat.add_zero, Nat.sub_zero, Nat.zero_mul, hw]) | (refine And.intro ?_ (evD_fin ?_); (focus (simp only [go_sem, Nat.reduceAdd, Nat.reduceSub, Nat.reduceMul, Nat.reduceEqDiff, Nat.reduceLeDiff, Nat.reduceBEq, Nat.reduceLT, reduceIte, reduceCtorEq, Int.toNat_zero, Int.toNat_one, Int.reduceToNat, Nat.zero_add, Nat.add_zero, Nat.sub_zero, Nat.zero_mul, hw]; done)); simp only [go_sem, Nat.reduceAdd, Nat.reduceSub, Nat.reduceMul, Nat.reduceEqDiff, Nat.reduceLeDiff, Nat.reduceBEq, Nat.reduceLT, reduceIte, reduceCtorEq, Int.toNat_zero, Int.toNat_one, Int.reduceToNat, Nat.zero_add, Nat.add_zero, Nat.sub_zero, Nat.zero_mul, hw]) | (refine evD_fin ?_; simp only [go_sem, Nat.reduceAdd, Nat.reduceSub, Nat.reduceMul, Nat.reduceEqDiff, Nat.reduceLeDiff, Nat.reduceBEq, Nat.reduceLT, reduceIte, reduceCtorEq, Int.toNat_zero, Int.toNat_one, Int.reduceToNat, Nat.zero_add, Nat.add_zero, Nat.sub_zero, Nat.zero_mul, hw]))))
structure Cmd where
  (t f : Int)
def encCmd (c : Cmd) : List V := [.int .i64 c.t, .int .i64 c.f]
def vCmd (c : Cmd) : Bool := decide (-32 ≤ c.t) && decide (c.t ≤ 32) && (decide (0 ≤ c.f) && decide (c.f ≤ 32))
theorem command_pure (c : Cmd) : Pure Try.prog 29 [.agg [.int .i64 c.t, .int .i64 c.f]] (.bool (vCmd c)) := by
  (refine pure_of_ev tt_ok Try.func29 rfl (by decide +kernel) (Nat.le_of_ble_eq_true rfl) ?_; simp only [Try.f29])
  repeat' first
    | refine ev_seq (fun K hK => ?_)
    | (refine evr tt_ok false ?_; simp only [go_sem, Nat.reduceAdd, Nat.reduceSub, Nat.reduceMul, Nat.reduceEqDiff, Nat.reduceLeDiff, Nat.reduceBEq, Nat.reduceLT, reduceIte, reduceCtorEq, Int.toNat_zero, Int.toNat_one, Int.reduceToNat, Nat.zero_add, Nat.add_zero, Nat.sub_zero, Nat.zero_mul])
    | (refine evc (fun X Y hX hY => ?_); simp only [go_sem, Nat.reduceAdd, Nat.reduceSub, Nat.reduceMul, Nat.reduceEqDiff, Nat.reduceLeDiff, Nat.reduceBEq, Nat.reduceLT, reduceIte, reduceCtorEq, Int.toNat_zero, Int.toNat_one, Int.reduceToNat, Nat.zero_add, Nat.add_zero, Nat.sub_zero, Nat.zero_mul]; first | (refine ⟨fun h => hX ?_, fun h => hY ?_⟩; clear hX hY) | (refine hX ?_; clear hX hY) | (refine hY ?_; clear hX hY))
    | (refine ev_skip ?_; simp only [go_sem, Nat.reduceAdd, Nat.reduceSub, Nat.reduceMul, Nat.reduceEqDiff, Nat.reduceLeDiff, Nat.reduceBEq, Nat.reduceLT, reduceIte, reduceCtorEq, Int.toNat_zero, Int.toNat_one, Int.reduceToNat, Nat.zero_add, Nat.add_zero, Nat.sub_zero, Nat.zero_mul])
    | (refine ev_ret ?_; simp only [go_sem, Nat.reduceAdd, Nat.reduceSub, Nat.reduceMul, Nat.reduceEqDiff, Nat.reduceLeDiff, Nat.reduceBEq, Nat.reduceLT, reduceIte, reduceCtorEq, Int.toNat_zero, Int.toNat_one, Int.reduceToNat, Nat.zero_add, Nat.add_zero, Nat.sub_zero, Nat.zero_mul])
    | refine ev_block ?_
    | (refine ev_exit ?_; simp only [go_sem, Nat.reduceAdd, Nat.reduceSub, Nat.reduceMul, Nat.reduceEqDiff, Nat.reduceLeDiff, Nat.reduceBEq, Nat.reduceLT, reduceIte, reduceCtorEq, Int.toNat_zero, Int.toNat_one, Int.reduceToNat, Nat.zero_add, Nat.add_zero, Nat.sub_zero, Nat.zero_mul])
    | (apply hK; clear hK)
    | apply_assumption -exfalso -symm only [*]
    | (refine And.intro ?_ ?_; first | omega | assumption | (simp only [decide_eq_true_eq, decide_eq_false_iff_not, Int.not_lt, Int.not_le] at h; omega))
    | (apply callP; (case' hv => (simp only [go_sem, Nat.reduceAdd, Nat.reduceSub, Nat.reduceMul, Nat.reduceEqDiff, Nat.reduceLeDiff, Nat.reduceBEq, Nat.reduceLT, reduceIte, reduceCtorEq, Int.toNat_zero, Int.toNat_one, Int.reduceToNat, Nat.zero_add, Nat.add_zero, Nat.sub_zero, Nat.zero_mul]; try exact rfl)); (case' hp => (refine' size_pure _ _ ?_; all_goals first | (fail_if_success refine prop_id ?_; skip) | omega | assumption | (refine' Eq.trans ?_ ?_; (focus (simp only [go_sem, Nat.reduceAdd, Nat.reduceSub, Nat.reduceMul, Nat.reduceEqDiff, Nat.reduceLeDiff, Nat.reduceBEq, Nat.reduceLT, reduceIte, reduceCtorEq, Int.toNat_zero, Int.toNat_one, Int.reduceToNat, Nat.zero_add, Nat.add_zero, Nat.sub_zero, Nat.zero_mul]; exact rfl)); exact rfl) | (simp only [go_sem, Nat.reduceAdd, Nat.reduceSub, Nat.reduceMul, Nat.reduceEqDiff, Nat.reduceLeDiff, Nat.reduceBEq, Nat.reduceLT, reduceIte, reduceCtorEq, Int.toNat_zero, Int.toNat_one, Int.reduceToNat, Nat.zero_add, Nat.add_zero, Nat.sub_zero, Nat.zero_mul]; done) | (simp only [go_sem, Nat.reduceAdd, Nat.reduceSub, Nat.reduceMul, Nat.reduceEqDiff, Nat.reduceLeDiff, Nat.reduceBEq, Nat.reduceLT, reduceIte, reduceCtorEq, Int.toNat_zero, Int.toNat_one, Int.reduceToNat, Nat.zero_add, Nat.add_zero, Nat.sub_zero, Nat.zero_mul]; exact rfl) | (simp only [go_sem, Nat.reduceAdd, Nat.reduceSub, Nat.reduceMul, Nat.reduceEqDiff, Nat.reduceLeDiff, Nat.reduceBEq, Nat.reduceLT, reduceIte, reduceCtorEq, Int.toNat_zero, Int.toNat_one, Int.reduceToNat, Nat.zero_add, Nat.add_zero, Nat.sub_zero, Nat.zero_mul]; omega))); (case' h => (first | (refine evOps_fin ?_; simp only [go_sem, Nat.reduceAdd, Nat.reduceSub, Nat.reduceMul, Nat.reduceEqDiff, Nat.reduceLeDiff, Nat.reduceBEq, Nat.reduceLT, reduceIte, reduceCtorEq, Int.toNat_zero, Int.toNat_one, Int.reduceToNat, Nat.zero_add, Nat.add_zero, Nat.sub_zero, Nat.zero_mul]) | (refine And.intro ?_ (evD_fin ?_); (focus (simp only [go_sem, Nat.reduceAdd, Nat.reduceSub, Nat.reduceMul, Nat.reduceEqDiff, Nat.reduceLeDiff, Nat.reduceBEq, Nat.reduceLT, reduceIte, reduceCtorEq, Int.toNat_zero, Int.toNat_one, Int.reduceToNat, Nat.zero_add, Nat.add_zero, Nat.sub_zero, Nat.zero_mul]; done)); simp only [go_sem, Nat.reduceAdd, Nat.reduceSub, Nat.reduceMul, Nat.reduceEqDiff, Nat.reduceLeDiff, Nat.reduceBEq, Nat.reduceLT, reduceIte, reduceCtorEq, Int.toNat_zero, Int.toNat_one, Int.reduceToNat, Nat.zero_add, Nat.add_zero, Nat.sub_zero, Nat.zero_mul]) | (refine evD_fin ?_; simp only [go_sem, Nat.reduceAdd, Nat.reduceSub, Nat.reduceMul, Nat.reduceEqDiff, Nat.reduceLeDiff, Nat.reduceBEq, Nat.reduceLT, reduceIte, reduceCtorEq, Int.toNat_zero, Int.toNat_one, Int.reduceToNat, Nat.zero_add, Nat.add_zero, Nat.sub_zero, Nat.zero_mul]))))
  simp only [vCmd, Bool.and_assoc]
theorem validCommand_pure (c : Cmd) : Pure Try.prog 15 [.agg [.int .i64 c.t, .int .i64 c.f]] (.bool (vCmd c)) := by
  (refine pure_of_ev tt_ok Try.func15 rfl (by decide +kernel) (Nat.le_of_ble_eq_true rfl) ?_; simp only [Try.f15])
  repeat' first
    | refine ev_seq (fun K hK => ?_)
    | (refine evr tt_ok false ?_; simp only [go_sem, Nat.reduceAdd, Nat.reduceSub, Nat.reduceMul, Nat.reduceEqDiff, Nat.reduceLeDiff, Nat.reduceBEq, Nat.reduceLT, reduceIte, reduceCtorEq, Int.toNat_zero, Int.toNat_one, Int.reduceToNat, Nat.zero_add, Nat.add_zero, Nat.sub_zero, Nat.zero_mul])
    | (refine evc (fun X Y hX hY => ?_); simp only [go_sem, Nat.reduceAdd, Nat.reduceSub, Nat.reduceMul, Nat.reduceEqDiff, Nat.reduceLeDiff, Nat.reduceBEq, Nat.reduceLT, reduceIte, reduceCtorEq, Int.toNat_zero, Int.toNat_one, Int.reduceToNat, Nat.zero_add, Nat.add_zero, Nat.sub_zero, Nat.zero_mul]; first | (refine ⟨fun h => hX ?_, fun h => hY ?_⟩; clear hX hY) | (refine hX ?_; clear hX hY) | (refine hY ?_; clear hX hY))
    | (refine ev_skip ?_; simp only [go_sem, Nat.reduceAdd, Nat.reduceSub, Nat.reduceMul, Nat.reduceEqDiff, Nat.reduceLeDiff, Nat.reduceBEq, Nat.reduceLT, reduceIte, reduceCtorEq, Int.toNat_zero, Int.toNat_one, Int.reduceToNat, Nat.zero_add, Nat.add_zero, Nat.sub_zero, Nat.zero_mul])
    | (refine ev_ret ?_; simp only [go_sem, Nat.reduceAdd, Nat.reduceSub, Nat.reduceMul, Nat.reduceEqDiff, Nat.reduceLeDiff, Nat.reduceBEq, Nat.reduceLT, reduceIte, reduceCtorEq, Int.toNat_zero, Int.toNat_one, Int.reduceToNat, Nat.zero_add, Nat.add_zero, Nat.sub_zero, Nat.zero_mul])
    | refine ev_block ?_
    | (refine ev_exit ?_; simp only [go_sem, Nat.reduceAdd, Nat.reduceSub, Nat.reduceMul, Nat.reduceEqDiff, Nat.reduceLeDiff, Nat.reduceBEq, Nat.reduceLT, reduceIte, reduceCtorEq, Int.toNat_zero, Int.toNat_one, Int.reduceToNat, Nat.zero_add, Nat.add_zero, Nat.sub_zero, Nat.zero_mul])
    | (apply hK; clear hK)
    | apply_assumption -exfalso -symm only [*]
    | (refine And.intro ?_ ?_; first | omega | assumption | (simp only [decide_eq_true_eq, decide_eq_false_iff_not, Int.not_lt, Int.not_le] at h; omega))
    | (apply callP; (case' hv => (simp only [go_sem, Nat.reduceAdd, Nat.reduceSub, Nat.reduceMul, Nat.reduceEqDiff, Nat.reduceLeDiff, Nat.reduceBEq, Nat.reduceLT, reduceIte, reduceCtorEq, Int.toNat_zero, Int.toNat_one, Int.reduceToNat, Nat.zero_add, Nat.add_zero, Nat.sub_zero, Nat.zero_mul]; try exact rfl)); (case' hp => (refine' within_pure _ _ ?_; all_goals first | (fail_if_success refine prop_id ?_; skip) | omega | assumption | (refine' Eq.trans ?_ ?_; (focus (simp only [go_sem, Nat.reduceAdd, Nat.reduceSub, Nat.reduceMul, Nat.reduceEqDiff, Nat.reduceLeDiff, Nat.reduceBEq, Nat.reduceLT, reduceIte, reduceCtorEq, Int.toNat_zero, Int.toNat_one, Int.reduceToNat, Nat.zero_add, Nat.add_zero, Nat.sub_zero, Nat.zero_mul]; exact rfl)); exact rfl) | (simp only [go_sem, Nat.reduceAdd, Nat.reduceSub, Nat.reduceMul, Nat.reduceEqDiff, Nat.reduceLeDiff, Nat.reduceBEq, Nat.reduceLT, reduceIte, reduceCtorEq, Int.toNat_zero, Int.toNat_one, Int.reduceToNat, Nat.zero_add, Nat.add_zero, Nat.sub_zero, Nat.zero_mul]; done) | (simp only [go_sem, Nat.reduceAdd, Nat.reduceSub, Nat.reduceMul, Nat.reduceEqDiff, Nat.reduceLeDiff, Nat.reduceBEq, Nat.reduceLT, reduceIte, reduceCtorEq, Int.toNat_zero, Int.toNat_one, Int.reduceToNat, Nat.zero_add, Nat.add_zero, Nat.sub_zero, Nat.zero_mul]; exact rfl) | (simp only [go_sem, Nat.reduceAdd, Nat.reduceSub, Nat.reduceMul, Nat.reduceEqDiff, Nat.reduceLeDiff, Nat.reduceBEq, Nat.reduceLT, reduceIte, reduceCtorEq, Int.toNat_zero, Int.toNat_one, Int.reduceToNat, Nat.zero_add, Nat.add_zero, Nat.sub_zero, Nat.zero_mul]; omega))); (case' h => (first | (refine evOps_fin ?_; simp only [go_sem, Nat.reduceAdd, Nat.reduceSub, Nat.reduceMul, Nat.reduceEqDiff, Nat.reduceLeDiff, Nat.reduceBEq, Nat.reduceLT, reduceIte, reduceCtorEq, Int.toNat_zero, Int.toNat_one, Int.reduceToNat, Nat.zero_add, Nat.add_zero, Nat.sub_zero, Nat.zero_mul]) | (refine And.intro ?_ (evD_fin ?_); (focus (simp only [go_sem, Nat.reduceAdd, Nat.reduceSub, Nat.reduceMul, Nat.reduceEqDiff, Nat.reduceLeDiff, Nat.reduceBEq, Nat.reduceLT, reduceIte, reduceCtorEq, Int.toNat_zero, Int.toNat_one, Int.reduceToNat, Nat.zero_add, Nat.add_zero, Nat.sub_zero, Nat.zero_mul]; done)); simp only [go_sem, Nat.reduceAdd, Nat.reduceSub, Nat.reduceMul, Nat.reduceEqDiff, Nat.reduceLeDiff, Nat.reduceBEq, Nat.reduceLT, reduceIte, reduceCtorEq, Int.toNat_zero, Int.toNat_one, Int.reduceToNat, Nat.zero_add, Nat.add_zero, Nat.sub_zero, Nat.zero_mul]) | (refine evD_fin ?_; simp only [go_sem, Nat.reduceAdd, Nat.reduceSub, Nat.reduceMul, Nat.reduceEqDiff, Nat.reduceLeDiff, Nat.reduceBEq, Nat.reduceLT, reduceIte, reduceCtorEq, Int.toNat_zero, Int.toNat_one, Int.reduceToNat, Nat.zero_add, Nat.add_zero, Nat.sub_zero, Nat.zero_mul]))))
    | (apply callPG; (case' hv => (simp only [go_sem, Nat.reduceAdd, Nat.reduceSub, Nat.reduceMul, Nat.reduceEqDiff, Nat.reduceLeDiff, Nat.reduceBEq, Nat.reduceLT, reduceIte, reduceCtorEq, Int.toNat_zero, Int.toNat_one, Int.reduceToNat, Nat.zero_add, Nat.add_zero, Nat.sub_zero, Nat.zero_mul]; try exact rfl)); (case' hp => (refine' (fun hg => ?_); refine' between_pure _ _ _; all_goals first | (fail_if_success refine prop_id ?_; skip) | omega | assumption | (refine' Eq.trans ?_ ?_; (focus (simp only [go_sem, Nat.reduceAdd, Nat.reduceSub, Nat.reduceMul, Nat.reduceEqDiff, Nat.reduceLeDiff, Nat.reduceBEq, Nat.reduceLT, reduceIte, reduceCtorEq, Int.toNat_zero, Int.toNat_one, Int.reduceToNat, Nat.zero_add, Nat.add_zero, Nat.sub_zero, Nat.zero_mul]; exact rfl)); exact rfl) | (simp only [go_sem, Nat.reduceAdd, Nat.reduceSub, Nat.reduceMul, Nat.reduceEqDiff, Nat.reduceLeDiff, Nat.reduceBEq, Nat.reduceLT, reduceIte, reduceCtorEq, Int.toNat_zero, Int.toNat_one, Int.reduceToNat, Nat.zero_add, Nat.add_zero, Nat.sub_zero, Nat.zero_mul]; done) | (simp only [go_sem, Nat.reduceAdd, Nat.reduceSub, Nat.reduceMul, Nat.reduceEqDiff, Nat.reduceLeDiff, Nat.reduceBEq, Nat.reduceLT, reduceIte, reduceCtorEq, Int.toNat_zero, Int.toNat_one, Int.reduceToNat, Nat.zero_add, Nat.add_zero, Nat.sub_zero, Nat.zero_mul]; exact rfl) | (simp only [go_sem, Nat.reduceAdd, Nat.reduceSub, Nat.reduceMul, Nat.reduceEqDiff, Nat.reduceLeDiff, Nat.reduceBEq, Nat.reduceLT, reduceIte, reduceCtorEq, Int.toNat_zero, Int.toNat_one, Int.reduceToNat, Nat.zero_add, Nat.add_zero, Nat.sub_zero, Nat.zero_mul]; omega))); (case' h => (first | (refine evOps_fin ?_; simp only [go_sem, Nat.reduceAdd, Nat.reduceSub, Nat.reduceMul, Nat.reduceEqDiff, Nat.reduceLeDiff, Nat.reduceBEq, Nat.reduceLT, reduceIte, reduceCtorEq, Int.toNat_zero, Int.toNat_one, Int.reduceToNat, Nat.zero_add, Nat.add_zero, Nat.sub_zero, Nat.zero_mul]) | (refine And.intro ?_ (evD_fin ?_); (focus (simp only [go_sem, Nat.reduceAdd, Nat.reduceSub, Nat.reduceMul, Nat.reduceEqDiff, Nat.reduceLeDiff, Nat.reduceBEq, Nat.reduceLT, reduceIte, reduceCtorEq, Int.toNat_zero, Int.toNat_one, Int.reduceToNat, Nat.zero_add, Nat.add_zero, Nat.sub_zero, Nat.zero_mul]; done)); simp only [go_sem, Nat.reduceAdd, Nat.reduceSub, Nat.reduceMul, Nat.reduceEqDiff, Nat.reduceLeDiff, Nat.reduceBEq, Nat.reduceLT, reduceIte, reduceCtorEq, Int.toNat_zero, Int.toNat_one, Int.reduceToNat, Nat.zero_add, Nat.add_zero, Nat.sub_zero, Nat.zero_mul]) | (refine evD_fin ?_; simp only [go_sem, Nat.reduceAdd, Nat.reduceSub, Nat.reduceMul, Nat.reduceEqDiff, Nat.reduceLeDiff, Nat.reduceBEq, Nat.reduceLT, reduceIte, reduceCtorEq, Int.toNat_zero, Int.toNat_one, Int.reduceToNat, Nat.zero_add, Nat.add_zero, Nat.sub_zero, Nat.zero_mul]))))
    | (apply callP0; (case' hv => (simp only [go_sem, Nat.reduceAdd, Nat.reduceSub, Nat.reduceMul, Nat.reduceEqDiff, Nat.reduceLeDiff, Nat.reduceBEq, Nat.reduceLT, reduceIte, reduceCtorEq, Int.toNat_zero, Int.toNat_one, Int.reduceToNat, Nat.zero_add, Nat.add_zero, Nat.sub_zero, Nat.zero_mul]; try exact rfl)); (case' hp => (refine' between_pure _ _ _; all_goals first | (fail_if_success refine prop_id ?_; skip) | omega | assumption | (refine' Eq.trans ?_ ?_; (focus (simp only [go_sem, Nat.reduceAdd, Nat.reduceSub, Nat.reduceMul, Nat.reduceEqDiff, Nat.reduceLeDiff, Nat.reduceBEq, Nat.reduceLT, reduceIte, reduceCtorEq, Int.toNat_zero, Int.toNat_one, Int.reduceToNat, Nat.zero_add, Nat.add_zero, Nat.sub_zero, Nat.zero_mul]; exact rfl)); exact rfl) | (simp only [go_sem, Nat.reduceAdd, Nat.reduceSub, Nat.reduceMul, Nat.reduceEqDiff, Nat.reduceLeDiff, Nat.reduceBEq, Nat.reduceLT, reduceIte, reduceCtorEq, Int.toNat_zero, Int.toNat_one, Int.reduceToNat, Nat.zero_add, Nat.add_zero, Nat.sub_zero, Nat.zero_mul]; done) | (simp only [go_sem, Nat.reduceAdd, Nat.reduceSub, Nat.reduceMul, Nat.reduceEqDiff, Nat.reduceLeDiff, Nat.reduceBEq, Nat.reduceLT, reduceIte, reduceCtorEq, Int.toNat_zero, Int.toNat_one, Int.reduceToNat, Nat.zero_add, Nat.add_zero, Nat.sub_zero, Nat.zero_mul]; exact rfl) | (simp only [go_sem, Nat.reduceAdd, Nat.reduceSub, Nat.reduceMul, Nat.reduceEqDiff, Nat.reduceLeDiff, Nat.reduceBEq, Nat.reduceLT, reduceIte, reduceCtorEq, Int.toNat_zero, Int.toNat_one, Int.reduceToNat, Nat.zero_add, Nat.add_zero, Nat.sub_zero, Nat.zero_mul]; omega))); (case' h => (first | (refine evOps_fin ?_; simp only [go_sem, Nat.reduceAdd, Nat.reduceSub, Nat.reduceMul, Nat.reduceEqDiff, Nat.reduceLeDiff, Nat.reduceBEq, Nat.reduceLT, reduceIte, reduceCtorEq, Int.toNat_zero, Int.toNat_one, Int.reduceToNat, Nat.zero_add, Nat.add_zero, Nat.sub_zero, Nat.zero_mul]) | (refine And.intro ?_ (evD_fin ?_); (focus (simp only [go_sem, Nat.reduceAdd, Nat.reduceSub, Nat.reduceMul, Nat.reduceEqDiff, Nat.reduceLeDiff, Nat.reduceBEq, Nat.reduceLT, reduceIte, reduceCtorEq, Int.toNat_zero, Int.toNat_one, Int.reduceToNat, Nat.zero_add, Nat.add_zero, Nat.sub_zero, Nat.zero_mul]; done)); simp only [go_sem, Nat.reduceAdd, Nat.reduceSub, Nat.reduceMul, Nat.reduceEqDiff, Nat.reduceLeDiff, Nat.reduceBEq, Nat.reduceLT, reduceIte, reduceCtorEq, Int.toNat_zero, Int.toNat_one, Int.reduceToNat, Nat.zero_add, Nat.add_zero, Nat.sub_zero, Nat.zero_mul]) | (refine evD_fin ?_; simp only [go_sem, Nat.reduceAdd, Nat.reduceSub, Nat.reduceMul, Nat.reduceEqDiff, Nat.reduceLeDiff, Nat.reduceBEq, Nat.reduceLT, reduceIte, reduceCtorEq, Int.toNat_zero, Int.toNat_one, Int.reduceToNat, Nat.zero_add, Nat.add_zero, Nat.sub_zero, Nat.zero_mul]))))
  rfl
structure Sig where
  (stop lost bump scan reset : Bool)
def encSig (s : Sig) : List V := [.bool s.stop, .bool s.lost, .bool s.bump, .bool s.scan, .bool s.reset]
def mcells (l f a : Int) : List V := [.int .i64 l, .int .i64 f, .int .i64 a]
def setF (on : Bool) (f x : Int) : Int := if on then bits .or .i64 f x else f
theorem set_run {ow : List Own} {i : Nat} {l f a : Int} (h : ow[i]? = some (.blk 51 0 3 [mcells l f a])) (on : Bool) (x : Int) :
    Run Try.prog 25 [.own i 0 0 0, .bool on, .int .i64 x] [i] ow (.tup []) [(i, .blk 51 0 3 [mcells l (setF on f x) a])] := by
  refine run_of_ev tt_ok Try.func25 rfl (by decide +kernel) (Nat.le_of_ble_eq_true rfl) (by simp) (fun F hF => ⟨by simp only [go_sem, Nat.reduceAdd, Nat.reduceSub, Nat.reduceMul, Nat.reduceEqDiff, Nat.reduceLeDiff, Nat.reduceBEq, Nat.reduceLT, reduceIte, reduceCtorEq, Int.toNat_zero, Int.toNat_one, Int.reduceToNat, Nat.zero_add, Nat.add_zero, Nat.sub_zero, Nat.zero_mul, mcells], ?_⟩)
  have hi := agree_one hF h
  have hlt := get_lt hi
  simp only [mcells] at hi
  simp only [Try.f25]
  repeat' first
    | refine ev_seq (fun K hK => ?_)
    | (refine evr tt_ok false ?_; simp only [go_sem, Nat.reduceAdd, Nat.reduceSub, Nat.reduceMul, Nat.reduceEqDiff, Nat.reduceLeDiff, Nat.reduceBEq, Nat.reduceLT, reduceIte, reduceCtorEq, Int.toNat_zero, Int.toNat_one, Int.reduceToNat, Nat.zero_add, Nat.add_zero, Nat.sub_zero, Nat.zero_mul, mcells, hi])
    | (refine evc (fun X Y hX hY => ?_); simp only [go_sem, Nat.reduceAdd, Nat.reduceSub, Nat.reduceMul, Nat.reduceEqDiff, Nat.reduceLeDiff, Nat.reduceBEq, Nat.reduceLT, reduceIte, reduceCtorEq, Int.toNat_zero, Int.toNat_one, Int.reduceToNat, Nat.zero_add, Nat.add_zero, Nat.sub_zero, Nat.zero_mul, mcells, hi]; first | (refine ⟨fun h => hX ?_, fun h => hY ?_⟩; clear hX hY) | (refine hX ?_; clear hX hY) | (refine hY ?_; clear hX hY))
    | (refine ev_skip ?_; simp only [go_sem, Nat.reduceAdd, Nat.reduceSub, Nat.reduceMul, Nat.reduceEqDiff, Nat.reduceLeDiff, Nat.reduceBEq, Nat.reduceLT, reduceIte, reduceCtorEq, Int.toNat_zero, Int.toNat_one, Int.reduceToNat, Nat.zero_add, Nat.add_zero, Nat.sub_zero, Nat.zero_mul, mcells, hi])
    | (refine ev_ret ?_; simp only [go_sem, Nat.reduceAdd, Nat.reduceSub, Nat.reduceMul, Nat.reduceEqDiff, Nat.reduceLeDiff, Nat.reduceBEq, Nat.reduceLT, reduceIte, reduceCtorEq, Int.toNat_zero, Int.toNat_one, Int.reduceToNat, Nat.zero_add, Nat.add_zero, Nat.sub_zero, Nat.zero_mul, mcells, hi])
    | refine ev_block ?_
    | (refine ev_exit ?_; simp only [go_sem, Nat.reduceAdd, Nat.reduceSub, Nat.reduceMul, Nat.reduceEqDiff, Nat.reduceLeDiff, Nat.reduceBEq, Nat.reduceLT, reduceIte, reduceCtorEq, Int.toNat_zero, Int.toNat_one, Int.reduceToNat, Nat.zero_add, Nat.add_zero, Nat.sub_zero, Nat.zero_mul, mcells, hi])
    | (apply hK; clear hK)
    | apply_assumption -exfalso -symm only [*]
    | (refine And.intro ?_ ?_; first | omega | assumption | (simp only [decide_eq_true_eq, decide_eq_false_iff_not, Int.not_lt, Int.not_le] at h; omega))
  · subst h; simp only [setF, if_true]; exact ⟨[], (List.append_nil _).symm⟩
  · subst h
    refine ⟨[], ?_⟩
    simp only [setF, Bool.false_eq_true, if_false]
    rw [List.append_nil]
    refine List.ext_getElem? fun k => ?_
    by_cases e : i = k
    · subst e; rw [List.getElem?_set_self hlt, hi]
    · rw [List.getElem?_set_ne e]
theorem faults_run {ow : List Own} {i : Nat} {l f a : Int} (h : ow[i]? = some (.blk 51 0 3 [mcells l f a])) : Run Try.prog 21 [.own i 0 0 0] [i] ow (.int .i64 f) [] := by
  refine run_of_ev tt_ok Try.func21 rfl (by decide +kernel) (Nat.le_of_ble_eq_true rfl) (by simp) (fun F hF => ⟨by simp only [go_sem, Nat.reduceAdd, Nat.reduceSub, Nat.reduceMul, Nat.reduceEqDiff, Nat.reduceLeDiff, Nat.reduceBEq, Nat.reduceLT, reduceIte, reduceCtorEq, Int.toNat_zero, Int.toNat_one, Int.reduceToNat, Nat.zero_add, Nat.add_zero, Nat.sub_zero, Nat.zero_mul], ?_⟩)
  have hi := agree_one hF h
  simp only [mcells] at hi
  simp only [Try.f21]
  repeat' first
    | refine ev_seq (fun K hK => ?_)
    | (refine evr tt_ok false ?_; simp only [go_sem, Nat.reduceAdd, Nat.reduceSub, Nat.reduceMul, Nat.reduceEqDiff, Nat.reduceLeDiff, Nat.reduceBEq, Nat.reduceLT, reduceIte, reduceCtorEq, Int.toNat_zero, Int.toNat_one, Int.reduceToNat, Nat.zero_add, Nat.add_zero, Nat.sub_zero, Nat.zero_mul, hi])
    | (refine evc (fun X Y hX hY => ?_); simp only [go_sem, Nat.reduceAdd, Nat.reduceSub, Nat.reduceMul, Nat.reduceEqDiff, Nat.reduceLeDiff, Nat.reduceBEq, Nat.reduceLT, reduceIte, reduceCtorEq, Int.toNat_zero, Int.toNat_one, Int.reduceToNat, Nat.zero_add, Nat.add_zero, Nat.sub_zero, Nat.zero_mul, hi]; first | (refine ⟨fun h => hX ?_, fun h => hY ?_⟩; clear hX hY) | (refine hX ?_; clear hX hY) | (refine hY ?_; clear hX hY))
    | (refine ev_skip ?_; simp only [go_sem, Nat.reduceAdd, Nat.reduceSub, Nat.reduceMul, Nat.reduceEqDiff, Nat.reduceLeDiff, Nat.reduceBEq, Nat.reduceLT, reduceIte, reduceCtorEq, Int.toNat_zero, Int.toNat_one, Int.reduceToNat, Nat.zero_add, Nat.add_zero, Nat.sub_zero, Nat.zero_mul, hi])
    | (refine ev_ret ?_; simp only [go_sem, Nat.reduceAdd, Nat.reduceSub, Nat.reduceMul, Nat.reduceEqDiff, Nat.reduceLeDiff, Nat.reduceBEq, Nat.reduceLT, reduceIte, reduceCtorEq, Int.toNat_zero, Int.toNat_one, Int.reduceToNat, Nat.zero_add, Nat.add_zero, Nat.sub_zero, Nat.zero_mul, hi])
    | refine ev_block ?_
    | (refine ev_exit ?_; simp only [go_sem, Nat.reduceAdd, Nat.reduceSub, Nat.reduceMul, Nat.reduceEqDiff, Nat.reduceLeDiff, Nat.reduceBEq, Nat.reduceLT, reduceIte, reduceCtorEq, Int.toNat_zero, Int.toNat_one, Int.reduceToNat, Nat.zero_add, Nat.add_zero, Nat.sub_zero, Nat.zero_mul, hi])
    | (apply hK; clear hK)
    | apply_assumption -exfalso -symm only [*]
    | (refine And.intro ?_ ?_; first | omega | assumption | (simp only [decide_eq_true_eq, decide_eq_false_iff_not, Int.not_lt, Int.not_le] at h; omega))
  exact ⟨[], (List.append_nil _).symm⟩
theorem age_run {ow : List Own} {i : Nat} {l f a : Int} (h : ow[i]? = some (.blk 51 0 3 [mcells l f a])) : Run Try.prog 16 [.own i 0 0 0] [i] ow (.int .i64 a) [] := by
  refine run_of_ev tt_ok Try.func16 rfl (by decide +kernel) (Nat.le_of_ble_eq_true rfl) (by simp) (fun F hF => ⟨by simp only [go_sem, Nat.reduceAdd, Nat.reduceSub, Nat.reduceMul, Nat.reduceEqDiff, Nat.reduceLeDiff, Nat.reduceBEq, Nat.reduceLT, reduceIte, reduceCtorEq, Int.toNat_zero, Int.toNat_one, Int.reduceToNat, Nat.zero_add, Nat.add_zero, Nat.sub_zero, Nat.zero_mul], ?_⟩)
  have hi := agree_one hF h
  simp only [mcells] at hi
  simp only [Try.f16]
  repeat' first
    | refine ev_seq (fun K hK => ?_)
    | (refine evr tt_ok false ?_; simp only [go_sem, Nat.reduceAdd, Nat.reduceSub, Nat.reduceMul, Nat.reduceEqDiff, Nat.reduceLeDiff, Nat.reduceBEq, Nat.reduceLT, reduceIte, reduceCtorEq, Int.toNat_zero, Int.toNat_one, Int.reduceToNat, Nat.zero_add, Nat.add_zero, Nat.sub_zero, Nat.zero_mul, hi])
    | (refine evc (fun X Y hX hY => ?_); simp only [go_sem, Nat.reduceAdd, Nat.reduceSub, Nat.reduceMul, Nat.reduceEqDiff, Nat.reduceLeDiff, Nat.reduceBEq, Nat.reduceLT, reduceIte, reduceCtorEq, Int.toNat_zero, Int.toNat_one, Int.reduceToNat, Nat.zero_add, Nat.add_zero, Nat.sub_zero, Nat.zero_mul, hi]; first | (refine ⟨fun h => hX ?_, fun h => hY ?_⟩; clear hX hY) | (refine hX ?_; clear hX hY) | (refine hY ?_; clear hX hY))
    | (refine ev_skip ?_; simp only [go_sem, Nat.reduceAdd, Nat.reduceSub, Nat.reduceMul, Nat.reduceEqDiff, Nat.reduceLeDiff, Nat.reduceBEq, Nat.reduceLT, reduceIte, reduceCtorEq, Int.toNat_zero, Int.toNat_one, Int.reduceToNat, Nat.zero_add, Nat.add_zero, Nat.sub_zero, Nat.zero_mul, hi])
    | (refine ev_ret ?_; simp only [go_sem, Nat.reduceAdd, Nat.reduceSub, Nat.reduceMul, Nat.reduceEqDiff, Nat.reduceLeDiff, Nat.reduceBEq, Nat.reduceLT, reduceIte, reduceCtorEq, Int.toNat_zero, Int.toNat_one, Int.reduceToNat, Nat.zero_add, Nat.add_zero, Nat.sub_zero, Nat.zero_mul, hi])
    | refine ev_block ?_
    | (refine ev_exit ?_; simp only [go_sem, Nat.reduceAdd, Nat.reduceSub, Nat.reduceMul, Nat.reduceEqDiff, Nat.reduceLeDiff, Nat.reduceBEq, Nat.reduceLT, reduceIte, reduceCtorEq, Int.toNat_zero, Int.toNat_one, Int.reduceToNat, Nat.zero_add, Nat.add_zero, Nat.sub_zero, Nat.zero_mul, hi])
    | (apply hK; clear hK)
    | apply_assumption -exfalso -symm only [*]
    | (refine And.intro ?_ ?_; first | omega | assumption | (simp only [decide_eq_true_eq, decide_eq_false_iff_not, Int.not_lt, Int.not_le] at h; omega))
  exact ⟨[], (List.append_nil _).symm⟩
theorem faults_nil : Pure Try.prog 21 [.nilp] (.int .i64 0) := by
  (refine pure_of_ev tt_ok Try.func21 rfl (by decide +kernel) (Nat.le_of_ble_eq_true rfl) ?_; simp only [Try.f21])
  repeat' first
    | refine ev_seq (fun K hK => ?_)
    | (refine evr tt_ok false ?_; simp only [go_sem, Nat.reduceAdd, Nat.reduceSub, Nat.reduceMul, Nat.reduceEqDiff, Nat.reduceLeDiff, Nat.reduceBEq, Nat.reduceLT, reduceIte, reduceCtorEq, Int.toNat_zero, Int.toNat_one, Int.reduceToNat, Nat.zero_add, Nat.add_zero, Nat.sub_zero, Nat.zero_mul])
    | (refine evc (fun X Y hX hY => ?_); simp only [go_sem, Nat.reduceAdd, Nat.reduceSub, Nat.reduceMul, Nat.reduceEqDiff, Nat.reduceLeDiff, Nat.reduceBEq, Nat.reduceLT, reduceIte, reduceCtorEq, Int.toNat_zero, Int.toNat_one, Int.reduceToNat, Nat.zero_add, Nat.add_zero, Nat.sub_zero, Nat.zero_mul]; first | (refine ⟨fun h => hX ?_, fun h => hY ?_⟩; clear hX hY) | (refine hX ?_; clear hX hY) | (refine hY ?_; clear hX hY))
    | (refine ev_skip ?_; simp only [go_sem, Nat.reduceAdd, Nat.reduceSub, Nat.reduceMul, Nat.reduceEqDiff, Nat.reduceLeDiff, Nat.reduceBEq, Nat.reduceLT, reduceIte, reduceCtorEq, Int.toNat_zero, Int.toNat_one, Int.reduceToNat, Nat.zero_add, Nat.add_zero, Nat.sub_zero, Nat.zero_mul])
    | (refine ev_ret ?_; simp only [go_sem, Nat.reduceAdd, Nat.reduceSub, Nat.reduceMul, Nat.reduceEqDiff, Nat.reduceLeDiff, Nat.reduceBEq, Nat.reduceLT, reduceIte, reduceCtorEq, Int.toNat_zero, Int.toNat_one, Int.reduceToNat, Nat.zero_add, Nat.add_zero, Nat.sub_zero, Nat.zero_mul])
    | refine ev_block ?_
    | (refine ev_exit ?_; simp only [go_sem, Nat.reduceAdd, Nat.reduceSub, Nat.reduceMul, Nat.reduceEqDiff, Nat.reduceLeDiff, Nat.reduceBEq, Nat.reduceLT, reduceIte, reduceCtorEq, Int.toNat_zero, Int.toNat_one, Int.reduceToNat, Nat.zero_add, Nat.add_zero, Nat.sub_zero, Nat.zero_mul])
    | (apply hK; clear hK)
    | apply_assumption -exfalso -symm only [*]
    | (refine And.intro ?_ ?_; first | omega | assumption | (simp only [decide_eq_true_eq, decide_eq_false_iff_not, Int.not_lt, Int.not_le] at h; omega))
theorem age_nil : Pure Try.prog 16 [.nilp] (.int .i64 0) := by
  (refine pure_of_ev tt_ok Try.func16 rfl (by decide +kernel) (Nat.le_of_ble_eq_true rfl) ?_; simp only [Try.f16])
  repeat' first
    | refine ev_seq (fun K hK => ?_)
    | (refine evr tt_ok false ?_; simp only [go_sem, Nat.reduceAdd, Nat.reduceSub, Nat.reduceMul, Nat.reduceEqDiff, Nat.reduceLeDiff, Nat.reduceBEq, Nat.reduceLT, reduceIte, reduceCtorEq, Int.toNat_zero, Int.toNat_one, Int.reduceToNat, Nat.zero_add, Nat.add_zero, Nat.sub_zero, Nat.zero_mul])
    | (refine evc (fun X Y hX hY => ?_); simp only [go_sem, Nat.reduceAdd, Nat.reduceSub, Nat.reduceMul, Nat.reduceEqDiff, Nat.reduceLeDiff, Nat.reduceBEq, Nat.reduceLT, reduceIte, reduceCtorEq, Int.toNat_zero, Int.toNat_one, Int.reduceToNat, Nat.zero_add, Nat.add_zero, Nat.sub_zero, Nat.zero_mul]; first | (refine ⟨fun h => hX ?_, fun h => hY ?_⟩; clear hX hY) | (refine hX ?_; clear hX hY) | (refine hY ?_; clear hX hY))
    | (refine ev_skip ?_; simp only [go_sem, Nat.reduceAdd, Nat.reduceSub, Nat.reduceMul, Nat.reduceEqDiff, Nat.reduceLeDiff, Nat.reduceBEq, Nat.reduceLT, reduceIte, reduceCtorEq, Int.toNat_zero, Int.toNat_one, Int.reduceToNat, Nat.zero_add, Nat.add_zero, Nat.sub_zero, Nat.zero_mul])
    | (refine ev_ret ?_; simp only [go_sem, Nat.reduceAdd, Nat.reduceSub, Nat.reduceMul, Nat.reduceEqDiff, Nat.reduceLeDiff, Nat.reduceBEq, Nat.reduceLT, reduceIte, reduceCtorEq, Int.toNat_zero, Int.toNat_one, Int.reduceToNat, Nat.zero_add, Nat.add_zero, Nat.sub_zero, Nat.zero_mul])
    | refine ev_block ?_
    | (refine ev_exit ?_; simp only [go_sem, Nat.reduceAdd, Nat.reduceSub, Nat.reduceMul, Nat.reduceEqDiff, Nat.reduceLeDiff, Nat.reduceBEq, Nat.reduceLT, reduceIte, reduceCtorEq, Int.toNat_zero, Int.toNat_one, Int.reduceToNat, Nat.zero_add, Nat.add_zero, Nat.sub_zero, Nat.zero_mul])
    | (apply hK; clear hK)
    | apply_assumption -exfalso -symm only [*]
    | (refine And.intro ?_ ?_; first | omega | assumption | (simp only [decide_eq_true_eq, decide_eq_false_iff_not, Int.not_lt, Int.not_le] at h; omega))
theorem clone_nil : Pure Try.prog 22 [.nilp] .nilp := by
  (refine pure_of_ev tt_ok Try.func22 rfl (by decide +kernel) (Nat.le_of_ble_eq_true rfl) ?_; simp only [Try.f22])
  repeat' first
    | refine ev_seq (fun K hK => ?_)
    | (refine evr tt_ok false ?_; simp only [go_sem, Nat.reduceAdd, Nat.reduceSub, Nat.reduceMul, Nat.reduceEqDiff, Nat.reduceLeDiff, Nat.reduceBEq, Nat.reduceLT, reduceIte, reduceCtorEq, Int.toNat_zero, Int.toNat_one, Int.reduceToNat, Nat.zero_add, Nat.add_zero, Nat.sub_zero, Nat.zero_mul])
    | (refine evc (fun X Y hX hY => ?_); simp only [go_sem, Nat.reduceAdd, Nat.reduceSub, Nat.reduceMul, Nat.reduceEqDiff, Nat.reduceLeDiff, Nat.reduceBEq, Nat.reduceLT, reduceIte, reduceCtorEq, Int.toNat_zero, Int.toNat_one, Int.reduceToNat, Nat.zero_add, Nat.add_zero, Nat.sub_zero, Nat.zero_mul]; first | (refine ⟨fun h => hX ?_, fun h => hY ?_⟩; clear hX hY) | (refine hX ?_; clear hX hY) | (refine hY ?_; clear hX hY))
    | (refine ev_skip ?_; simp only [go_sem, Nat.reduceAdd, Nat.reduceSub, Nat.reduceMul, Nat.reduceEqDiff, Nat.reduceLeDiff, Nat.reduceBEq, Nat.reduceLT, reduceIte, reduceCtorEq, Int.toNat_zero, Int.toNat_one, Int.reduceToNat, Nat.zero_add, Nat.add_zero, Nat.sub_zero, Nat.zero_mul])
    | (refine ev_ret ?_; simp only [go_sem, Nat.reduceAdd, Nat.reduceSub, Nat.reduceMul, Nat.reduceEqDiff, Nat.reduceLeDiff, Nat.reduceBEq, Nat.reduceLT, reduceIte, reduceCtorEq, Int.toNat_zero, Int.toNat_one, Int.reduceToNat, Nat.zero_add, Nat.add_zero, Nat.sub_zero, Nat.zero_mul])
    | refine ev_block ?_
    | (refine ev_exit ?_; simp only [go_sem, Nat.reduceAdd, Nat.reduceSub, Nat.reduceMul, Nat.reduceEqDiff, Nat.reduceLeDiff, Nat.reduceBEq, Nat.reduceLT, reduceIte, reduceCtorEq, Int.toNat_zero, Int.toNat_one, Int.reduceToNat, Nat.zero_add, Nat.add_zero, Nat.sub_zero, Nat.zero_mul])
    | (apply hK; clear hK)
    | apply_assumption -exfalso -symm only [*]
    | (refine And.intro ?_ ?_; first | omega | assumption | (simp only [decide_eq_true_eq, decide_eq_false_iff_not, Int.not_lt, Int.not_le] at h; omega))
def gateR (f : Int) (c : Cmd) (safe : Bool) : Cmd := if f ≠ 0 ∨ safe = false ∨ vCmd c = false then ⟨0, 0⟩ else c
end Go.Proofs.Ytnkiejbkfafciaa
