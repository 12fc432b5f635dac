import Derived.Test.YtmpmggbcmioipaaD7
set_option linter.all false
namespace Go.Proofs.Ytmpmggbcmioipaa
open Nat (reduceAdd reduceSub reduceMul reduceEqDiff reduceLeDiff reduceLT)
open Go Go.K
set_option maxRecDepth 20000
set_option maxHeartbeats 4000000
theorem lpose_pure (b : Box) (k h : Int) (hb : b.ok) (hk : 0 ≤ k ∧ k ≤ 255) (hh : 0 ≤ h ∧ h ≤ 255) : Pure Try.prog 20 [.agg [.int .i64 b.x0, .int .i64 b.y0, .int .i64 b.x1, .int .i64 b.y1, .int .i64 b.f, .int .i64 b.c], .int .u8 k, .int .u8 h] (.agg [.int .i64 (poseAt b (k.tmod 5) h).x, .int .i64 (poseAt b (k.tmod 5) h).y, .int .i64 (poseAt b (k.tmod 5) h).h]) := by
  obtain ⟨b1, b2, b3, b4, b5, b6, c1, c2, c3, c4, c5⟩ := id hb
  simp only [Box.arc] at c1 c2 c3 c4 c5
  have t1 : h.tmod b.c = h % b.c := Int.tmod_eq_emod_of_nonneg hh.1
  have t2 := Int.emod_nonneg h (show b.c ≠ 0 by omega)
  have t3 := Int.emod_lt_of_pos h (show 0 < b.c by omega)
  have wh : IntKind.i64.wrap h = h := w64 (by omega) (by omega)
  have wt : IntKind.i64.wrap (h.tmod b.c) = h.tmod b.c := by rw [t1]; exact w64 (by omega) (by omega)
  have wf : IntKind.i64.wrap (b.f + h.tmod b.c) = b.f + h.tmod b.c := by rw [t1]; exact w64 (by omega) (by omega)
  have hz : (b.c == 0) = false := by rw [beq_eq_false_iff_ne]; omega
  have m := mod_pure (b.f + h.tmod b.c) 256 (by omega) (by omega)
  have k5 : k.tmod 5 = k % 5 := Int.tmod_eq_emod_of_nonneg hk.1
  have wx : IntKind.i64.wrap (b.x0 + b.x1) = b.x0 + b.x1 := w64 (by omega) (by omega)
  have wy : IntKind.i64.wrap (b.y0 + b.y1) = b.y0 + b.y1 := w64 (by omega) (by omega)
  have fx := floor_pure (b.x0 + b.x1) 2 (by omega) (by omega)
  have fy := floor_pure (b.y0 + b.y1) 2 (by omega) (by omega)
  have h5 : k.tmod 5 = 0 ∨ k.tmod 5 = 1 ∨ k.tmod 5 = 2 ∨ k.tmod 5 = 3 ∨ k.tmod 5 = 4 := by omega
  rcases h5 with e | e | e | e | e
  all_goals rw [e]
  · have w8 : IntKind.u8.wrap (0 : Int) = 0 := by decide
    (refine pure_of_ev tt_ok Try.func20 rfl (by decide +kernel) (Nat.le_of_ble_eq_true rfl) ?_; simp only [Try.f20])
    repeat' first
      | refine ev_seq (fun K hK => ?_)
      | ((first | refine evrd (id := 1) hmix tt_ok false [([], false), ([], false), ([], false), ([], false), ([], false), ([], false)] (by decide +kernel) ?_ | refine evrd (id := 8) hmix tt_ok false [([], false), ([], false), ([], false), ([], false), ([], false), ([], false)] (by decide +kernel) ?_ | refine evrd (id := 10) hmix tt_ok false [([], false), ([], false), ([], false), ([], false), ([], false), ([], true), ([5], false), ([5], false), ([5], false), ([5], false), ([5], false), ([], false), ([], false), ([], false)] (by decide +kernel) ?_ | refine evrd (id := 11) hmix tt_ok false [([], true), ([], true), ([], false), ([], false), ([], false), ([], false), ([], false), ([], false), ([], false), ([], false), ([0, 1], false), ([], false), ([], false)] (by decide +kernel) ?_ | refine evr tt_ok false ?_ | refine ev_skip ?_ | refine ev_ret ?_ | refine ev_exit ?_ | refine evc (fun X Y hX hY => ?_)); simp only [go_sem, reduceAdd, reduceSub, reduceMul, reduceEqDiff, reduceLeDiff, Nat.reduceBEq, reduceLT, reduceIte, reduceCtorEq, Int.reduceToNat, e, w8, wh, wt, wf, hz, wx, wy, Int.reduceBEq]; try (first | (refine ⟨fun h => hX ?_, fun h => hY ?_⟩; clear hX hY) | (refine hX ?_; clear hX hY) | (refine hY ?_; clear hX hY)))
      | refine ev_block ?_
      | (apply hK; clear hK)
      | apply_assumption -exfalso -symm only [*]
      | (refine And.intro ?_ ?_; first | omega | assumption | (unfold maxLen; omega) | (simp only [decide_eq_true_eq, decide_eq_false_iff_not, Int.not_lt, Int.not_le] at h; omega))
      | ((first | apply callP | apply callPG | apply callP0); (case' hv => (simp only [go_sem, reduceAdd, reduceSub, reduceMul, reduceEqDiff, reduceLeDiff, Nat.reduceBEq, reduceLT, reduceIte, reduceCtorEq, Int.reduceToNat, e, w8, wh, wt, wf, hz, wx, wy, Int.reduceBEq]; try exact rfl)); (case' hp => (first | refine' m | (refine' (fun hg => ?_); refine' m))); (case' h => ((first | refine evOps_fin ?_ | refine And.intro ?_ (evD_fin ?_) | refine evD_fin ?_) <;> simp only [go_sem, reduceAdd, reduceSub, reduceMul, reduceEqDiff, reduceLeDiff, Nat.reduceBEq, reduceLT, reduceIte, reduceCtorEq, Int.reduceToNat, e, w8, wh, wt, wf, hz, wx, wy, Int.reduceBEq])))
      | (refine callX ?_; (first | refine evOps_fin ?_ | refine And.intro ?_ (evD_fin ?_) | refine evD_fin ?_) <;> simp only [go_sem, reduceAdd, reduceSub, reduceMul, reduceEqDiff, reduceLeDiff, Nat.reduceBEq, reduceLT, reduceIte, reduceCtorEq, Int.reduceToNat, e, w8, wh, wt, wf, hz, wx, wy, Int.reduceBEq])
    all_goals rfl
  · have w8 : IntKind.u8.wrap (1 : Int) = 1 := by decide
    (refine pure_of_ev tt_ok Try.func20 rfl (by decide +kernel) (Nat.le_of_ble_eq_true rfl) ?_; simp only [Try.f20])
    repeat' first
      | refine ev_seq (fun K hK => ?_)
      | ((first | refine evrd (id := 1) hmix tt_ok false [([], false), ([], false), ([], false), ([], false), ([], false), ([], false)] (by decide +kernel) ?_ | refine evrd (id := 8) hmix tt_ok false [([], false), ([], false), ([], false), ([], false), ([], false), ([], false)] (by decide +kernel) ?_ | refine evrd (id := 10) hmix tt_ok false [([], false), ([], false), ([], false), ([], false), ([], false), ([], true), ([5], false), ([5], false), ([5], false), ([5], false), ([5], false), ([], false), ([], false), ([], false)] (by decide +kernel) ?_ | refine evrd (id := 11) hmix tt_ok false [([], true), ([], true), ([], false), ([], false), ([], false), ([], false), ([], false), ([], false), ([], false), ([], false), ([0, 1], false), ([], false), ([], false)] (by decide +kernel) ?_ | refine evr tt_ok false ?_ | refine ev_skip ?_ | refine ev_ret ?_ | refine ev_exit ?_ | refine evc (fun X Y hX hY => ?_)); simp only [go_sem, reduceAdd, reduceSub, reduceMul, reduceEqDiff, reduceLeDiff, Nat.reduceBEq, reduceLT, reduceIte, reduceCtorEq, Int.reduceToNat, e, w8, wh, wt, wf, hz, wx, wy, Int.reduceBEq]; try (first | (refine ⟨fun h => hX ?_, fun h => hY ?_⟩; clear hX hY) | (refine hX ?_; clear hX hY) | (refine hY ?_; clear hX hY)))
      | refine ev_block ?_
      | (apply hK; clear hK)
      | apply_assumption -exfalso -symm only [*]
      | (refine And.intro ?_ ?_; first | omega | assumption | (unfold maxLen; omega) | (simp only [decide_eq_true_eq, decide_eq_false_iff_not, Int.not_lt, Int.not_le] at h; omega))
      | ((first | apply callP | apply callPG | apply callP0); (case' hv => (simp only [go_sem, reduceAdd, reduceSub, reduceMul, reduceEqDiff, reduceLeDiff, Nat.reduceBEq, reduceLT, reduceIte, reduceCtorEq, Int.reduceToNat, e, w8, wh, wt, wf, hz, wx, wy, Int.reduceBEq]; try exact rfl)); (case' hp => (first | refine' m | (refine' (fun hg => ?_); refine' m))); (case' h => ((first | refine evOps_fin ?_ | refine And.intro ?_ (evD_fin ?_) | refine evD_fin ?_) <;> simp only [go_sem, reduceAdd, reduceSub, reduceMul, reduceEqDiff, reduceLeDiff, Nat.reduceBEq, reduceLT, reduceIte, reduceCtorEq, Int.reduceToNat, e, w8, wh, wt, wf, hz, wx, wy, Int.reduceBEq])))
      | (refine callX ?_; (first | refine evOps_fin ?_ | refine And.intro ?_ (evD_fin ?_) | refine evD_fin ?_) <;> simp only [go_sem, reduceAdd, reduceSub, reduceMul, reduceEqDiff, reduceLeDiff, Nat.reduceBEq, reduceLT, reduceIte, reduceCtorEq, Int.reduceToNat, e, w8, wh, wt, wf, hz, wx, wy, Int.reduceBEq])
    all_goals rfl
  · have w8 : IntKind.u8.wrap (2 : Int) = 2 := by decide
    (refine pure_of_ev tt_ok Try.func20 rfl (by decide +kernel) (Nat.le_of_ble_eq_true rfl) ?_; simp only [Try.f20])
    repeat' first
      | refine ev_seq (fun K hK => ?_)
      | ((first | refine evrd (id := 1) hmix tt_ok false [([], false), ([], false), ([], false), ([], false), ([], false), ([], false)] (by decide +kernel) ?_ | refine evrd (id := 8) hmix tt_ok false [([], false), ([], false), ([], false), ([], false), ([], false), ([], false)] (by decide +kernel) ?_ | refine evrd (id := 10) hmix tt_ok false [([], false), ([], false), ([], false), ([], false), ([], false), ([], true), ([5], false), ([5], false), ([5], false), ([5], false), ([5], false), ([], false), ([], false), ([], false)] (by decide +kernel) ?_ | refine evrd (id := 11) hmix tt_ok false [([], true), ([], true), ([], false), ([], false), ([], false), ([], false), ([], false), ([], false), ([], false), ([], false), ([0, 1], false), ([], false), ([], false)] (by decide +kernel) ?_ | refine evr tt_ok false ?_ | refine ev_skip ?_ | refine ev_ret ?_ | refine ev_exit ?_ | refine evc (fun X Y hX hY => ?_)); simp only [go_sem, reduceAdd, reduceSub, reduceMul, reduceEqDiff, reduceLeDiff, Nat.reduceBEq, reduceLT, reduceIte, reduceCtorEq, Int.reduceToNat, e, w8, wh, wt, wf, hz, wx, wy, Int.reduceBEq]; try (first | (refine ⟨fun h => hX ?_, fun h => hY ?_⟩; clear hX hY) | (refine hX ?_; clear hX hY) | (refine hY ?_; clear hX hY)))
      | refine ev_block ?_
      | (apply hK; clear hK)
      | apply_assumption -exfalso -symm only [*]
      | (refine And.intro ?_ ?_; first | omega | assumption | (unfold maxLen; omega) | (simp only [decide_eq_true_eq, decide_eq_false_iff_not, Int.not_lt, Int.not_le] at h; omega))
      | ((first | apply callP | apply callPG | apply callP0); (case' hv => (simp only [go_sem, reduceAdd, reduceSub, reduceMul, reduceEqDiff, reduceLeDiff, Nat.reduceBEq, reduceLT, reduceIte, reduceCtorEq, Int.reduceToNat, e, w8, wh, wt, wf, hz, wx, wy, Int.reduceBEq]; try exact rfl)); (case' hp => (first | refine' m | (refine' (fun hg => ?_); refine' m))); (case' h => ((first | refine evOps_fin ?_ | refine And.intro ?_ (evD_fin ?_) | refine evD_fin ?_) <;> simp only [go_sem, reduceAdd, reduceSub, reduceMul, reduceEqDiff, reduceLeDiff, Nat.reduceBEq, reduceLT, reduceIte, reduceCtorEq, Int.reduceToNat, e, w8, wh, wt, wf, hz, wx, wy, Int.reduceBEq])))
      | (refine callX ?_; (first | refine evOps_fin ?_ | refine And.intro ?_ (evD_fin ?_) | refine evD_fin ?_) <;> simp only [go_sem, reduceAdd, reduceSub, reduceMul, reduceEqDiff, reduceLeDiff, Nat.reduceBEq, reduceLT, reduceIte, reduceCtorEq, Int.reduceToNat, e, w8, wh, wt, wf, hz, wx, wy, Int.reduceBEq])
    all_goals rfl
  · have w8 : IntKind.u8.wrap (3 : Int) = 3 := by decide
    (refine pure_of_ev tt_ok Try.func20 rfl (by decide +kernel) (Nat.le_of_ble_eq_true rfl) ?_; simp only [Try.f20])
    repeat' first
      | refine ev_seq (fun K hK => ?_)
      | ((first | refine evrd (id := 1) hmix tt_ok false [([], false), ([], false), ([], false), ([], false), ([], false), ([], false)] (by decide +kernel) ?_ | refine evrd (id := 8) hmix tt_ok false [([], false), ([], false), ([], false), ([], false), ([], false), ([], false)] (by decide +kernel) ?_ | refine evrd (id := 10) hmix tt_ok false [([], false), ([], false), ([], false), ([], false), ([], false), ([], true), ([5], false), ([5], false), ([5], false), ([5], false), ([5], false), ([], false), ([], false), ([], false)] (by decide +kernel) ?_ | refine evrd (id := 11) hmix tt_ok false [([], true), ([], true), ([], false), ([], false), ([], false), ([], false), ([], false), ([], false), ([], false), ([], false), ([0, 1], false), ([], false), ([], false)] (by decide +kernel) ?_ | refine evr tt_ok false ?_ | refine ev_skip ?_ | refine ev_ret ?_ | refine ev_exit ?_ | refine evc (fun X Y hX hY => ?_)); simp only [go_sem, reduceAdd, reduceSub, reduceMul, reduceEqDiff, reduceLeDiff, Nat.reduceBEq, reduceLT, reduceIte, reduceCtorEq, Int.reduceToNat, e, w8, wh, wt, wf, hz, wx, wy, Int.reduceBEq]; try (first | (refine ⟨fun h => hX ?_, fun h => hY ?_⟩; clear hX hY) | (refine hX ?_; clear hX hY) | (refine hY ?_; clear hX hY)))
      | refine ev_block ?_
      | (apply hK; clear hK)
      | apply_assumption -exfalso -symm only [*]
      | (refine And.intro ?_ ?_; first | omega | assumption | (unfold maxLen; omega) | (simp only [decide_eq_true_eq, decide_eq_false_iff_not, Int.not_lt, Int.not_le] at h; omega))
      | ((first | apply callP | apply callPG | apply callP0); (case' hv => (simp only [go_sem, reduceAdd, reduceSub, reduceMul, reduceEqDiff, reduceLeDiff, Nat.reduceBEq, reduceLT, reduceIte, reduceCtorEq, Int.reduceToNat, e, w8, wh, wt, wf, hz, wx, wy, Int.reduceBEq]; try exact rfl)); (case' hp => (first | refine' m | (refine' (fun hg => ?_); refine' m))); (case' h => ((first | refine evOps_fin ?_ | refine And.intro ?_ (evD_fin ?_) | refine evD_fin ?_) <;> simp only [go_sem, reduceAdd, reduceSub, reduceMul, reduceEqDiff, reduceLeDiff, Nat.reduceBEq, reduceLT, reduceIte, reduceCtorEq, Int.reduceToNat, e, w8, wh, wt, wf, hz, wx, wy, Int.reduceBEq])))
      | (refine callX ?_; (first | refine evOps_fin ?_ | refine And.intro ?_ (evD_fin ?_) | refine evD_fin ?_) <;> simp only [go_sem, reduceAdd, reduceSub, reduceMul, reduceEqDiff, reduceLeDiff, Nat.reduceBEq, reduceLT, reduceIte, reduceCtorEq, Int.reduceToNat, e, w8, wh, wt, wf, hz, wx, wy, Int.reduceBEq])
    all_goals rfl
  · have w8 : IntKind.u8.wrap (4 : Int) = 4 := by decide
    (refine pure_of_ev tt_ok Try.func20 rfl (by decide +kernel) (Nat.le_of_ble_eq_true rfl) ?_; simp only [Try.f20])
    repeat' first
      | refine ev_seq (fun K hK => ?_)
      | ((first | refine evrd (id := 1) hmix tt_ok false [([], false), ([], false), ([], false), ([], false), ([], false), ([], false)] (by decide +kernel) ?_ | refine evrd (id := 8) hmix tt_ok false [([], false), ([], false), ([], false), ([], false), ([], false), ([], false)] (by decide +kernel) ?_ | refine evrd (id := 10) hmix tt_ok false [([], false), ([], false), ([], false), ([], false), ([], false), ([], true), ([5], false), ([5], false), ([5], false), ([5], false), ([5], false), ([], false), ([], false), ([], false)] (by decide +kernel) ?_ | refine evrd (id := 11) hmix tt_ok false [([], true), ([], true), ([], false), ([], false), ([], false), ([], false), ([], false), ([], false), ([], false), ([], false), ([0, 1], false), ([], false), ([], false)] (by decide +kernel) ?_ | refine evr tt_ok false ?_ | refine ev_skip ?_ | refine ev_ret ?_ | refine ev_exit ?_ | refine evc (fun X Y hX hY => ?_)); simp only [go_sem, reduceAdd, reduceSub, reduceMul, reduceEqDiff, reduceLeDiff, Nat.reduceBEq, reduceLT, reduceIte, reduceCtorEq, Int.reduceToNat, e, w8, wh, wt, wf, hz, wx, wy, Int.reduceBEq]; try (first | (refine ⟨fun h => hX ?_, fun h => hY ?_⟩; clear hX hY) | (refine hX ?_; clear hX hY) | (refine hY ?_; clear hX hY)))
      | refine ev_block ?_
      | (apply hK; clear hK)
      | apply_assumption -exfalso -symm only [*]
      | (refine And.intro ?_ ?_; first | omega | assumption | (unfold maxLen; omega) | (simp only [decide_eq_true_eq, decide_eq_false_iff_not, Int.not_lt, Int.not_le] at h; omega))
      | ((first | apply callP | apply callPG | apply callP0); (case' hv => (simp only [go_sem, reduceAdd, reduceSub, reduceMul, reduceEqDiff, reduceLeDiff, Nat.reduceBEq, reduceLT, reduceIte, reduceCtorEq, Int.reduceToNat, e, w8, wh, wt, wf, hz, wx, wy, Int.reduceBEq]; try exact rfl)); (case' hp => (first | refine' m | (refine' (fun hg => ?_); refine' m) | refine' fx | (refine' (fun hg => ?_); refine' fx) | refine' fy | (refine' (fun hg => ?_); refine' fy))); (case' h => ((first | refine evOps_fin ?_ | refine And.intro ?_ (evD_fin ?_) | refine evD_fin ?_) <;> simp only [go_sem, reduceAdd, reduceSub, reduceMul, reduceEqDiff, reduceLeDiff, Nat.reduceBEq, reduceLT, reduceIte, reduceCtorEq, Int.reduceToNat, e, w8, wh, wt, wf, hz, wx, wy, Int.reduceBEq])))
      | (refine callX ?_; (first | refine evOps_fin ?_ | refine And.intro ?_ (evD_fin ?_) | refine evD_fin ?_) <;> simp only [go_sem, reduceAdd, reduceSub, reduceMul, reduceEqDiff, reduceLeDiff, Nat.reduceBEq, reduceLT, reduceIte, reduceCtorEq, Int.reduceToNat, e, w8, wh, wt, wf, hz, wx, wy, Int.reduceBEq])
    all_goals rfl
instance decInsideB (a b : Box) : Decidable (insideB a b) := by unfold insideB; infer_instance
end Go.Proofs.Ytmpmggbcmioipaa
