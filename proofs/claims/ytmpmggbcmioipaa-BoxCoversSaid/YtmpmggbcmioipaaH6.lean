import Derived.Test.YtmpmggbcmioipaaH4
set_option linter.all false
namespace Go.Proofs.Ytmpmggbcmioipaa
open Nat (reduceAdd reduceSub reduceMul reduceEqDiff reduceLeDiff reduceLT)
open Go Go.K
set_option maxRecDepth 20000
set_option maxHeartbeats 4000000
def Box.shift (b : Box) (dx0 dx1 dy0 dy1 : Int) : Box := ⟨b.x0 + dx0, b.y0 + dy0, b.x1 + dx1, b.y1 + dy1, b.f, b.c⟩
theorem nt {P : Prop} [Decidable P] (h : (!decide P) = true) : ¬ P := by simpa using h
theorem nf {P : Prop} [Decidable P] (h : (!decide P) = false) : P := by simpa using h
structure MvR where
  (b : Box)
  (e : Int)
def moveM (b : Box) (dx0 dx1 dy0 dy1 : Int) : MvR :=
  if ¬ b.ok ∨ dx1 < dx0 ∨ dy1 < dy0 then ⟨Box.zero, 1⟩
  else if (b.shift dx0 dx1 dy0 dy1).ok then ⟨b.shift dx0 dx1 dy0 dy1, 0⟩ else ⟨Box.zero, 2⟩
def encMv (r : MvR) : V := .tup [.agg (encBox r.b), .int .i64 r.e]
theorem move_arg {b : Box} {dx0 dx1 dy0 dy1 : Int} (h : ¬ b.ok ∨ dx1 < dx0 ∨ dy1 < dy0) : moveM b dx0 dx1 dy0 dy1 = ⟨Box.zero, 1⟩ := if_pos h
theorem move_ok {b : Box} {dx0 dx1 dy0 dy1 : Int} (h : ¬ (¬ b.ok ∨ dx1 < dx0 ∨ dy1 < dy0)) (h2 : (b.shift dx0 dx1 dy0 dy1).ok) : moveM b dx0 dx1 dy0 dy1 = ⟨b.shift dx0 dx1 dy0 dy1, 0⟩ := by
  unfold moveM; rw [if_neg h, if_pos h2]
theorem move_no {b : Box} {dx0 dx1 dy0 dy1 : Int} (h : ¬ (¬ b.ok ∨ dx1 < dx0 ∨ dy1 < dy0)) (h2 : ¬ (b.shift dx0 dx1 dy0 dy1).ok) : moveM b dx0 dx1 dy0 dy1 = ⟨Box.zero, 2⟩ := by
  unfold moveM; rw [if_neg h, if_neg h2]
theorem shift_far {b : Box} (hb : b.ok) {dx0 dx1 dy0 dy1 : Int} (h : ¬ ((-2097152 ≤ dx0 ∧ dx0 ≤ 2097152) ∧ (-2097152 ≤ dx1 ∧ dx1 ≤ 2097152) ∧ (-2097152 ≤ dy0 ∧ dy0 ≤ 2097152) ∧ (-2097152 ≤ dy1 ∧ dy1 ≤ 2097152))) : ¬ (b.shift dx0 dx1 dy0 dy1).ok := by
  intro hs
  obtain ⟨a1, a2, a3, a4, a5, a6, a7⟩ := hb
  obtain ⟨b1, b2, b3, b4, b5, b6, b7⟩ := hs
  simp only [Box.shift] at *
  omega
theorem shift_ok {b : Box} (hb : b.ok) {dx0 dx1 dy0 dy1 : Int} (h : ¬ (¬ b.ok ∨ dx1 < dx0 ∨ dy1 < dy0)) : (b.shift dx0 dx1 dy0 dy1).ok ↔ (isSmall (b.x0 + dx0) ∧ isSmall (b.x1 + dx1) ∧ isSmall (b.y0 + dy0) ∧ isSmall (b.y1 + dy1)) := by
  unfold Box.ok isSmall Box.shift
  obtain ⟨a1, a2, a3, a4, a5, a6, a7⟩ := hb
  constructor
  · rintro ⟨b1, b2, b3, b4, b5, b6, b7⟩; simp only at *; omega
  · intro hs; simp only at *; exact ⟨by omega, by omega, by omega, by omega, by omega, by omega, a7⟩
theorem move_pure (b : Box) (dx0 dx1 dy0 dy1 : Int) : Pure Try.prog 72 [.agg [.int .i64 b.x0, .int .i64 b.y0, .int .i64 b.x1, .int .i64 b.y1, .int .i64 b.f, .int .i64 b.c], .int .i64 dx0, .int .i64 dx1, .int .i64 dy0, .int .i64 dy1] (encMv (moveM b dx0 dx1 dy0 dy1)) := by
  by_cases hc : ¬ b.ok ∨ dx1 < dx0 ∨ dy1 < dy0
  · rw [move_arg hc]
    have hb : (!decide b.ok || decide (dx1 < dx0) || decide (dy1 < dy0)) = true := by
      simp only [Bool.or_eq_true, Bool.not_eq_true', decide_eq_true_eq, decide_eq_false_iff_not]; rw [or_assoc]; exact hc
    (refine pure_of_ev tt_ok Try.func72 rfl (by decide +kernel) (Nat.le_of_ble_eq_true rfl) ?_; simp only [Try.f72])
    repeat' first
      | refine ev_seq (fun K hK => ?_)
      | ((first | refine evr tt_ok false ?_ | refine ev_skip ?_ | refine ev_ret ?_ | refine ev_exit ?_ | refine evc (fun X Y hX hY => ?_)); simp only [go_sem, reduceAdd, reduceSub, reduceMul, reduceEqDiff, reduceLeDiff, Nat.reduceBEq, reduceLT, reduceIte, reduceCtorEq, Int.reduceToNat, hb]; try (first | (refine ⟨fun h => hX ?_, fun h => hY ?_⟩; clear hX hY) | (refine hX ?_; clear hX hY) | (refine hY ?_; clear hX hY)))
      | refine ev_block ?_
      | (apply hK; clear hK)
      | apply_assumption -exfalso -symm only [*]
      | (refine And.intro ?_ ?_; first | omega | assumption | (unfold maxLen; omega) | (simp only [decide_eq_true_eq, decide_eq_false_iff_not, Int.not_lt, Int.not_le] at h; omega))
      | ((first | apply callP | apply callPG | apply callP0); (case' hv => (simp only [go_sem, reduceAdd, reduceSub, reduceMul, reduceEqDiff, reduceLeDiff, Nat.reduceBEq, reduceLT, reduceIte, reduceCtorEq, Int.reduceToNat, hb]; try exact rfl)); (case' hp => (first | refine' vbox_pure b | (refine' (fun hg => ?_); refine' vbox_pure b))); (case' h => ((first | refine evOps_fin ?_ | refine And.intro ?_ (evD_fin ?_) | refine evD_fin ?_) <;> simp only [go_sem, reduceAdd, reduceSub, reduceMul, reduceEqDiff, reduceLeDiff, Nat.reduceBEq, reduceLT, reduceIte, reduceCtorEq, Int.reduceToNat, hb])))
      | (refine callX ?_; (first | refine evOps_fin ?_ | refine And.intro ?_ (evD_fin ?_) | refine evD_fin ?_) <;> simp only [go_sem, reduceAdd, reduceSub, reduceMul, reduceEqDiff, reduceLeDiff, Nat.reduceBEq, reduceLT, reduceIte, reduceCtorEq, Int.reduceToNat, hb])
    rfl
  · have hok : b.ok := Decidable.not_not.1 (fun hn => hc (.inl hn))
    have hb : (!decide b.ok || decide (dx1 < dx0) || decide (dy1 < dy0)) = false := by
      rw [Bool.eq_false_iff]; intro hh; apply hc
      simp only [Bool.or_eq_true, Bool.not_eq_true', decide_eq_true_eq, decide_eq_false_iff_not] at hh; rw [or_assoc] at hh; exact hh
    by_cases hn : (-2097152 ≤ dx0 ∧ dx0 ≤ 2097152) ∧ (-2097152 ≤ dx1 ∧ dx1 ≤ 2097152) ∧ (-2097152 ≤ dy0 ∧ dy0 ≤ 2097152) ∧ (-2097152 ≤ dy1 ∧ dy1 ≤ 2097152)
    · have hany : ([dx0, dx1, dy0, dy1].any fun n => decide (n < -2097152) || decide (2097152 < n)) = false := by
        simp only [List.any_cons, List.any_nil, Bool.or_eq_false_iff, decide_eq_false_iff_not, and_true]; omega
      obtain ⟨a1, a2, a3, a4, a5, a6, a7⟩ := id hok
      have w1 : IntKind.i64.wrap (b.x0 + dx0) = b.x0 + dx0 := w64 (by omega) (by omega)
      have w2 : IntKind.i64.wrap (b.x1 + dx1) = b.x1 + dx1 := w64 (by omega) (by omega)
      have w3 : IntKind.i64.wrap (b.y0 + dy0) = b.y0 + dy0 := w64 (by omega) (by omega)
      have w4 : IntKind.i64.wrap (b.y1 + dy1) = b.y1 + dy1 := w64 (by omega) (by omega)
      have hs := shift_ok hok hc
      (refine pure_of_ev tt_ok Try.func72 rfl (by decide +kernel) (Nat.le_of_ble_eq_true rfl) ?_; simp only [Try.f72])
      repeat' first
        | refine ev_seq (fun K hK => ?_)
        | ((first | refine evr tt_ok false ?_ | refine ev_skip ?_ | refine ev_ret ?_ | refine ev_exit ?_ | refine evc (fun X Y hX hY => ?_)); simp only [go_sem, reduceAdd, reduceSub, reduceMul, reduceEqDiff, reduceLeDiff, Nat.reduceBEq, reduceLT, reduceIte, reduceCtorEq, Int.reduceToNat, hb, hany, w1, w2, w3, w4]; try (first | (refine ⟨fun h => hX ?_, fun h => hY ?_⟩; clear hX hY) | (refine hX ?_; clear hX hY) | (refine hY ?_; clear hX hY)))
        | refine ev_block ?_
        | (apply hK; clear hK)
        | apply_assumption -exfalso -symm only [*]
        | (refine And.intro ?_ ?_; first | omega | assumption | (unfold maxLen; omega) | (simp only [decide_eq_true_eq, decide_eq_false_iff_not, Int.not_lt, Int.not_le] at h; omega))
        | ((first | apply callP | apply callPG | apply callP0); (case' hv => (simp only [go_sem, reduceAdd, reduceSub, reduceMul, reduceEqDiff, reduceLeDiff, Nat.reduceBEq, reduceLT, reduceIte, reduceCtorEq, Int.reduceToNat, hb, hany, w1, w2, w3, w4]; try exact rfl)); (case' hp => (first | refine' vbox_pure b | (refine' (fun hg => ?_); refine' vbox_pure b))); (case' h => ((first | refine evOps_fin ?_ | refine And.intro ?_ (evD_fin ?_) | refine evD_fin ?_) <;> simp only [go_sem, reduceAdd, reduceSub, reduceMul, reduceEqDiff, reduceLeDiff, Nat.reduceBEq, reduceLT, reduceIte, reduceCtorEq, Int.reduceToNat, hb, hany, w1, w2, w3, w4])))
        | ((first | apply callL | apply callLG | apply callL0); (case' hv => (simp only [go_sem, reduceAdd, reduceSub, reduceMul, reduceEqDiff, reduceLeDiff, Nat.reduceBEq, reduceLT, reduceIte, reduceCtorEq, Int.reduceToNat, hb, hany, w1, w2, w3, w4]; try exact rfl)); (case' hp => (first | refine' containsI_pure [dx0, dx1, dy0, dy1] _ _ far1_pure (by simp) | (refine' (fun hg => ?_); refine' containsI_pure [dx0, dx1, dy0, dy1] _ _ far1_pure (by simp)) | refine' small_pure _ _ _ _ | (refine' (fun hg => ?_); refine' small_pure _ _ _ _))); (case' hf => exact rfl); (case' h => ((first | refine evOps_fin ?_ | refine And.intro ?_ (evD_fin ?_) | refine evD_fin ?_) <;> simp only [go_sem, reduceAdd, reduceSub, reduceMul, reduceEqDiff, reduceLeDiff, Nat.reduceBEq, reduceLT, reduceIte, reduceCtorEq, Int.reduceToNat, hb, hany, w1, w2, w3, w4])))
        | (refine callX ?_; (first | refine evOps_fin ?_ | refine And.intro ?_ (evD_fin ?_) | refine evD_fin ?_) <;> simp only [go_sem, reduceAdd, reduceSub, reduceMul, reduceEqDiff, reduceLeDiff, Nat.reduceBEq, reduceLT, reduceIte, reduceCtorEq, Int.reduceToNat, hb, hany, w1, w2, w3, w4])
      · rw [move_no hc (by rw [hs]; exact nt h)]; rfl
      · rw [move_ok hc (by rw [hs]; exact nf h)]; rfl
    · have hany : ([dx0, dx1, dy0, dy1].any fun n => decide (n < -2097152) || decide (2097152 < n)) = true := by
        simp only [List.any_cons, List.any_nil, Bool.or_eq_true, decide_eq_true_eq, Bool.false_eq_true, or_false]; omega
      rw [move_no hc (shift_far hok hn)]
      (refine pure_of_ev tt_ok Try.func72 rfl (by decide +kernel) (Nat.le_of_ble_eq_true rfl) ?_; simp only [Try.f72])
      repeat' first
        | refine ev_seq (fun K hK => ?_)
        | ((first | refine evr tt_ok false ?_ | refine ev_skip ?_ | refine ev_ret ?_ | refine ev_exit ?_ | refine evc (fun X Y hX hY => ?_)); simp only [go_sem, reduceAdd, reduceSub, reduceMul, reduceEqDiff, reduceLeDiff, Nat.reduceBEq, reduceLT, reduceIte, reduceCtorEq, Int.reduceToNat, hb, hany]; try (first | (refine ⟨fun h => hX ?_, fun h => hY ?_⟩; clear hX hY) | (refine hX ?_; clear hX hY) | (refine hY ?_; clear hX hY)))
        | refine ev_block ?_
        | (apply hK; clear hK)
        | apply_assumption -exfalso -symm only [*]
        | (refine And.intro ?_ ?_; first | omega | assumption | (unfold maxLen; omega) | (simp only [decide_eq_true_eq, decide_eq_false_iff_not, Int.not_lt, Int.not_le] at h; omega))
        | ((first | apply callP | apply callPG | apply callP0); (case' hv => (simp only [go_sem, reduceAdd, reduceSub, reduceMul, reduceEqDiff, reduceLeDiff, Nat.reduceBEq, reduceLT, reduceIte, reduceCtorEq, Int.reduceToNat, hb, hany]; try exact rfl)); (case' hp => (first | refine' vbox_pure b | (refine' (fun hg => ?_); refine' vbox_pure b))); (case' h => ((first | refine evOps_fin ?_ | refine And.intro ?_ (evD_fin ?_) | refine evD_fin ?_) <;> simp only [go_sem, reduceAdd, reduceSub, reduceMul, reduceEqDiff, reduceLeDiff, Nat.reduceBEq, reduceLT, reduceIte, reduceCtorEq, Int.reduceToNat, hb, hany])))
        | ((first | apply callL | apply callLG | apply callL0); (case' hv => (simp only [go_sem, reduceAdd, reduceSub, reduceMul, reduceEqDiff, reduceLeDiff, Nat.reduceBEq, reduceLT, reduceIte, reduceCtorEq, Int.reduceToNat, hb, hany]; try exact rfl)); (case' hp => (first | refine' containsI_pure [dx0, dx1, dy0, dy1] _ _ far1_pure (by simp) | (refine' (fun hg => ?_); refine' containsI_pure [dx0, dx1, dy0, dy1] _ _ far1_pure (by simp)))); (case' hf => exact rfl); (case' h => ((first | refine evOps_fin ?_ | refine And.intro ?_ (evD_fin ?_) | refine evD_fin ?_) <;> simp only [go_sem, reduceAdd, reduceSub, reduceMul, reduceEqDiff, reduceLeDiff, Nat.reduceBEq, reduceLT, reduceIte, reduceCtorEq, Int.reduceToNat, hb, hany])))
        | (refine callX ?_; (first | refine evOps_fin ?_ | refine And.intro ?_ (evD_fin ?_) | refine evD_fin ?_) <;> simp only [go_sem, reduceAdd, reduceSub, reduceMul, reduceEqDiff, reduceLeDiff, Nat.reduceBEq, reduceLT, reduceIte, reduceCtorEq, Int.reduceToNat, hb, hany])
      rfl
end Go.Proofs.Ytmpmggbcmioipaa
