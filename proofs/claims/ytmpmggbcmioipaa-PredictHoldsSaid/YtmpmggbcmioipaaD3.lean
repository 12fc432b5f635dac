import Derived.Test.YtmpmggbcmioipaaD2
set_option linter.all false
namespace Go.Proofs.Ytmpmggbcmioipaa
open Nat (reduceAdd reduceSub reduceMul reduceEqDiff reduceLeDiff reduceLT)
open Go Go.K
set_option maxRecDepth 20000
set_option maxHeartbeats 4000000
theorem rreach_pure (c : Cmd) (b : Bounds) (h : Int) (hc : c.ok) (hb : b.ok) (hh : 0 ≤ h ∧ h ≤ 255) : Pure Try.prog 98 [.agg [.int .i64 c.t, .int .i64 c.f], .agg [.int .i64 b.t, .int .i64 b.l, .int .i64 b.s, .int .i64 b.r], .int .i64 h] (.tup [.agg [.int .i64 (reachM c.f b.l b.s h).x0, .int .i64 (reachM c.f b.l b.s h).y0, .int .i64 (reachM c.f b.l b.s h).x1, .int .i64 (reachM c.f b.l b.s h).y1], .int .i64 0]) := by
  obtain ⟨c1, c2, c3, c4⟩ := id hc
  obtain ⟨b1, b2, b3, b4, b5, b6, b7, b8⟩ := id hb
  have hg : (decide (h < 0) || decide (256 ≤ h)) = false := by simp; omega
  by_cases hf : c.f = 0
  · have e : reachM c.f b.l b.s h = Rect.zero := if_pos hf
    have hf2 : (c.f == 0) = true := by rw [hf]; rfl
    rw [e]
    (refine pure_of_ev tt_ok Try.func98 rfl (by decide +kernel) (Nat.le_of_ble_eq_true rfl) ?_; simp only [Try.f98])
    repeat' first
      | refine ev_seq (fun K hK => ?_)
      | ((first | refine evr tt_ok false ?_ | refine ev_skip ?_ | refine ev_ret ?_ | refine ev_exit ?_ | refine evc (fun X Y hX hY => ?_)); simp only [go_sem, reduceAdd, reduceSub, reduceMul, reduceEqDiff, reduceLeDiff, Nat.reduceBEq, reduceLT, reduceIte, reduceCtorEq, Int.reduceToNat, hc, hb, hf2, hg]; try (first | (refine ⟨fun h => hX ?_, fun h => hY ?_⟩; clear hX hY) | (refine hX ?_; clear hX hY) | (refine hY ?_; clear hX hY)))
      | refine ev_block ?_
      | (apply hK; clear hK)
      | apply_assumption -exfalso -symm only [*]
      | (refine And.intro ?_ ?_; first | omega | assumption | (unfold maxLen; omega) | (simp only [decide_eq_true_eq, decide_eq_false_iff_not, Int.not_lt, Int.not_le] at h; omega))
      | ((first | apply callP | apply callPG | apply callP0); (case' hv => (simp only [go_sem, reduceAdd, reduceSub, reduceMul, reduceEqDiff, reduceLeDiff, Nat.reduceBEq, reduceLT, reduceIte, reduceCtorEq, Int.reduceToNat, hc, hb, hf2, hg]; try exact rfl)); (case' hp => (first | refine' bcmd_pure c | (refine' (fun hg => ?_); refine' bcmd_pure c) | refine' bbounds_pure b | (refine' (fun hg => ?_); refine' bbounds_pure b))); (case' h => ((first | refine evOps_fin ?_ | refine And.intro ?_ (evD_fin ?_) | refine evD_fin ?_) <;> simp only [go_sem, reduceAdd, reduceSub, reduceMul, reduceEqDiff, reduceLeDiff, Nat.reduceBEq, reduceLT, reduceIte, reduceCtorEq, Int.reduceToNat, hc, hb, hf2, hg])))
      | (refine callX ?_; (first | refine evOps_fin ?_ | refine And.intro ?_ (evD_fin ?_) | refine evD_fin ?_) <;> simp only [go_sem, reduceAdd, reduceSub, reduceMul, reduceEqDiff, reduceLeDiff, Nat.reduceBEq, reduceLT, reduceIte, reduceCtorEq, Int.reduceToNat, hc, hb, hf2, hg])
    rfl
  · have e : reachM c.f b.l b.s h = endsM c.f b.l b.s h := if_neg hf
    have sm := @reachM_small c.f b.l b.s h ⟨by omega, by omega⟩ ⟨by omega, by omega⟩ ⟨by omega, by omega⟩
    rw [e] at sm
    have hf2 : (c.f == 0) = false := by rw [beq_eq_false_iff_ne]; exact hf
    have w1 : IntKind.i64.wrap (c.f - b.l) = c.f - b.l := w64 (by omega) (by omega)
    have w2 : IntKind.i64.wrap (0 - b.l) = 0 - b.l := w64 (by omega) (by omega)
    obtain ⟨d1, d2, d3, d4, d5, d6, d7⟩ := dir_ok h
    have mx := @alo_mono (dirM h).x (dirM h).d (by omega)
    have my := @alo_mono (dirM h).y (dirM h).d (by omega)
    have hm0 : ∀ k, alo (max k 0) (dirM h).x (dirM h).d = alo k (dirM h).x (dirM h).d := fun k => by unfold alo; rw [show max 0 (max k 0) = max 0 k by omega]
    have hm1 : ∀ k, alo (max k 0) (dirM h).y (dirM h).d = alo k (dirM h).y (dirM h).d := fun k => by unfold alo; rw [show max 0 (max k 0) = max 0 k by omega]
    have am : ∀ k, -4096 ≤ k → k ≤ 4096 → Pure Try.prog 53 [.int .i64 (max k 0), .int .i64 h] (.agg [.int .i64 (alo k (dirM h).x (dirM h).d), .int .i64 (alo k (dirM h).y (dirM h).d)]) := by
      intro k k1 k2
      have := rmoved_pure (max k 0) h (by omega)
      rw [hm0, hm1] at this
      exact this
    have a1 := am (c.f - b.l) (by omega) (by omega)
    rw [e]
    simp only [endsM] at sm ⊢
    generalize (dirM h).x = vx at *
    generalize (dirM h).y = vy at *
    generalize (dirM h).d = vd at *
    (refine pure_of_ev tt_ok Try.func98 rfl (by decide +kernel) (Nat.le_of_ble_eq_true rfl) ?_; simp only [Try.f98])
    repeat' first
      | refine ev_seq (fun K hK => ?_)
      | ((first | refine evr tt_ok false ?_ | refine ev_skip ?_ | refine ev_ret ?_ | refine ev_exit ?_ | refine evc (fun X Y hX hY => ?_)); simp only [go_sem, reduceAdd, reduceSub, reduceMul, reduceEqDiff, reduceLeDiff, Nat.reduceBEq, reduceLT, reduceIte, reduceCtorEq, Int.reduceToNat, hc, hb, hf2, hg, w1, w2]; try (first | (refine ⟨fun h => hX ?_, fun h => hY ?_⟩; clear hX hY) | (refine hX ?_; clear hX hY) | (refine hY ?_; clear hX hY)))
      | refine ev_block ?_
      | (apply hK; clear hK)
      | apply_assumption -exfalso -symm only [*]
      | (refine And.intro ?_ ?_; first | omega | assumption | (unfold maxLen; omega) | (simp only [decide_eq_true_eq, decide_eq_false_iff_not, Int.not_lt, Int.not_le] at h; omega))
      | ((first | apply callP | apply callPG | apply callP0); (case' hv => (simp only [go_sem, reduceAdd, reduceSub, reduceMul, reduceEqDiff, reduceLeDiff, Nat.reduceBEq, reduceLT, reduceIte, reduceCtorEq, Int.reduceToNat, hc, hb, hf2, hg, w1, w2]; try exact rfl)); (case' hp => (first | refine' bcmd_pure c | (refine' (fun hg => ?_); refine' bcmd_pure c) | refine' bbounds_pure b | (refine' (fun hg => ?_); refine' bbounds_pure b) | refine' a1 | (refine' (fun hg => ?_); refine' a1))); (case' h => ((first | refine evOps_fin ?_ | refine And.intro ?_ (evD_fin ?_) | refine evD_fin ?_) <;> simp only [go_sem, reduceAdd, reduceSub, reduceMul, reduceEqDiff, reduceLeDiff, Nat.reduceBEq, reduceLT, reduceIte, reduceCtorEq, Int.reduceToNat, hc, hb, hf2, hg, w1, w2])))
      | (refine callX ?_; (first | refine evOps_fin ?_ | refine And.intro ?_ (evD_fin ?_) | refine evD_fin ?_) <;> simp only [go_sem, reduceAdd, reduceSub, reduceMul, reduceEqDiff, reduceLeDiff, Nat.reduceBEq, reduceLT, reduceIte, reduceCtorEq, Int.reduceToNat, hc, hb, hf2, hg, w1, w2])
    have ms : ∀ x : Int, min x x = x := fun x => by omega
    have Ms : ∀ x : Int, max x x = x := fun x => by omega
    have z0 : c.f - b.l + ((0 - 1 : Nat) : Int) = c.f - b.l := by simp
    refine ev_loop (fun m : Nat => (m : Int) ≤ 2 * b.l + 1)
      (fun m => ⟨106, [(10, .int .i64 (0 - b.l + m)), (9, .own 4 0 0 0), (8, .own 3 0 0 0), (7, .int .i64 0), (6, .own 2 0 0 0), (4, .own 1 0 0 0), (3, .own 0 0 0 0), (2, .int .i64 h)],
        [.blk 35 0 2 [[.int .i64 c.t, .int .i64 c.f]], .blk 37 0 4 [[.int .i64 b.t, .int .i64 b.l, .int .i64 b.s, .int .i64 b.r]], .blk 78 0 4 [[.int .i64 0, .int .i64 0, .int .i64 0, .int .i64 0]], .blk 86 0 2 [[.int .i64 (alo (c.f - b.l + ((m - 1 : Nat) : Int)) vx vd), .int .i64 (alo (c.f - b.l + ((m - 1 : Nat) : Int)) vy vd)]], .blk 78 0 4 [[.int .i64 (min (alo (c.f - b.l) vx vd) (alo (c.f - b.l + ((m - 1 : Nat) : Int)) vx vd)), .int .i64 (min (alo (c.f - b.l) vy vd) (alo (c.f - b.l + ((m - 1 : Nat) : Int)) vy vd)), .int .i64 (max (alo (c.f - b.l) vx vd) (alo (c.f - b.l + ((m - 1 : Nat) : Int)) vx vd)), .int .i64 (max (alo (c.f - b.l) vy vd) (alo (c.f - b.l + ((m - 1 : Nat) : Int)) vy vd))]]]⟩)
      (fun m => (2 * b.l + 1 - m).toNat) 0 (by show ((0 : Nat) : Int) ≤ 2 * b.l + 1; omega) ?_ ?_
    · simp only [go_sem, reduceAdd, reduceSub, reduceMul, reduceEqDiff, reduceLeDiff, Nat.reduceBEq, reduceLT, reduceIte, reduceCtorEq, Int.reduceToNat, fits, fitT, fitOs, fitO, V.under, unders, rowsUnder, z0, ms, Ms, Int.natCast_zero, Int.add_zero]
      repeat' first | rfl | apply And.intro
    · intro m hm
      have w3 : IntKind.i64.wrap (0 - b.l + (m : Int) + 1) = 0 - b.l + ((m + 1 : Nat) : Int) := by rw [w64] <;> omega
      have w4 : IntKind.i64.wrap (c.f + (0 - b.l + (m : Int))) = c.f - b.l + (m : Int) := by rw [w64] <;> omega
      by_cases hlt : 0 - b.l + (m : Int) ≤ b.l
      · have a2 := am (c.f - b.l + (m : Int)) (by omega) (by omega)
        obtain ⟨ex1, ex2⟩ := mono_ends mx (show c.f - b.l ≤ c.f - b.l + ((m - 1 : Nat) : Int) by omega) (show c.f - b.l + ((m - 1 : Nat) : Int) ≤ c.f - b.l + (m : Int) by omega)
        obtain ⟨ey1, ey2⟩ := mono_ends my (show c.f - b.l ≤ c.f - b.l + ((m - 1 : Nat) : Int) by omega) (show c.f - b.l + ((m - 1 : Nat) : Int) ≤ c.f - b.l + (m : Int) by omega)
        repeat' first
          | refine ev_seq (fun K hK => ?_)
          | ((first | refine evr tt_ok false ?_ | refine ev_skip ?_ | refine ev_ret ?_ | refine ev_exit ?_ | refine evc (fun X Y hX hY => ?_)); simp only [go_sem, reduceAdd, reduceSub, reduceMul, reduceEqDiff, reduceLeDiff, Nat.reduceBEq, reduceLT, reduceIte, reduceCtorEq, Int.reduceToNat, hlt, w3, w4, ex1, ex2, ey1, ey2]; try (first | (refine ⟨fun h => hX ?_, fun h => hY ?_⟩; clear hX hY) | (refine hX ?_; clear hX hY) | (refine hY ?_; clear hX hY)))
          | refine ev_block ?_
          | (apply hK; clear hK)
          | apply_assumption -exfalso -symm only [*]
          | (refine And.intro ?_ ?_; first | omega | assumption | (unfold maxLen; omega) | (simp only [decide_eq_true_eq, decide_eq_false_iff_not, Int.not_lt, Int.not_le] at h; omega))
          | ((first | apply callP | apply callPG | apply callP0); (case' hv => (simp only [go_sem, reduceAdd, reduceSub, reduceMul, reduceEqDiff, reduceLeDiff, Nat.reduceBEq, reduceLT, reduceIte, reduceCtorEq, Int.reduceToNat, hlt, w3, w4, ex1, ex2, ey1, ey2]; try exact rfl)); (case' hp => (first | refine' a2 | (refine' (fun hg => ?_); refine' a2))); (case' h => ((first | refine evOps_fin ?_ | refine And.intro ?_ (evD_fin ?_) | refine evD_fin ?_) <;> simp only [go_sem, reduceAdd, reduceSub, reduceMul, reduceEqDiff, reduceLeDiff, Nat.reduceBEq, reduceLT, reduceIte, reduceCtorEq, Int.reduceToNat, hlt, w3, w4, ex1, ex2, ey1, ey2])))
          | (refine callX ?_; (first | refine evOps_fin ?_ | refine And.intro ?_ (evD_fin ?_) | refine evD_fin ?_) <;> simp only [go_sem, reduceAdd, reduceSub, reduceMul, reduceEqDiff, reduceLeDiff, Nat.reduceBEq, reduceLT, reduceIte, reduceCtorEq, Int.reduceToNat, hlt, w3, w4, ex1, ex2, ey1, ey2])
        refine ⟨m + 1, by omega, ?_, by omega⟩
        repeat' first | rfl | apply And.intro
      · have e1 : c.f - b.l + ((m - 1 : Nat) : Int) = c.f + b.l := by omega
        have v3 : IntKind.i64.wrap (min (alo (c.f - b.l) vx vd) (alo (c.f + b.l) vx vd) - b.s) = min (alo (c.f - b.l) vx vd) (alo (c.f + b.l) vx vd) - b.s := w64 (by omega) (by omega)
        have v4 : IntKind.i64.wrap (min (alo (c.f - b.l) vy vd) (alo (c.f + b.l) vy vd) - b.s) = min (alo (c.f - b.l) vy vd) (alo (c.f + b.l) vy vd) - b.s := w64 (by omega) (by omega)
        have v5 : IntKind.i64.wrap (max (alo (c.f - b.l) vx vd) (alo (c.f + b.l) vx vd) + b.s) = max (alo (c.f - b.l) vx vd) (alo (c.f + b.l) vx vd) + b.s := w64 (by omega) (by omega)
        have v6 : IntKind.i64.wrap (max (alo (c.f - b.l) vy vd) (alo (c.f + b.l) vy vd) + b.s) = max (alo (c.f - b.l) vy vd) (alo (c.f + b.l) vy vd) + b.s := w64 (by omega) (by omega)
        repeat' first
          | refine ev_seq (fun K hK => ?_)
          | ((first | refine evr tt_ok false ?_ | refine ev_skip ?_ | refine ev_ret ?_ | refine ev_exit ?_ | refine evc (fun X Y hX hY => ?_)); simp only [go_sem, reduceAdd, reduceSub, reduceMul, reduceEqDiff, reduceLeDiff, Nat.reduceBEq, reduceLT, reduceIte, reduceCtorEq, Int.reduceToNat, hlt, e1, v3, v4, v5, v6]; try (first | (refine ⟨fun h => hX ?_, fun h => hY ?_⟩; clear hX hY) | (refine hX ?_; clear hX hY) | (refine hY ?_; clear hX hY)))
          | refine ev_block ?_
          | (apply hK; clear hK)
          | apply_assumption -exfalso -symm only [*]
          | (refine And.intro ?_ ?_; first | omega | assumption | (unfold maxLen; omega) | (simp only [decide_eq_true_eq, decide_eq_false_iff_not, Int.not_lt, Int.not_le] at h; omega))
        all_goals rfl
end Go.Proofs.Ytmpmggbcmioipaa
