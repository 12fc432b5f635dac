import Derived.Test.YtnbgegapncdkjaaH4
set_option linter.all false
namespace Go.Proofs.Ytnbgegapncdkjaa
open Go Go.K
set_option maxRecDepth 20000
set_option maxHeartbeats 4000000
theorem rsplit_pure (b : Box) : Pure Try.prog 30 [.agg [.int .i64 b.x0, .int .i64 b.y0, .int .i64 b.x1, .int .i64 b.y1, .int .i64 b.f, .int .i64 b.c]] (encSpl (splitM b)) := by
  by_cases hok : b.ok
  · have F := box_facts hok
    obtain ⟨w, hh, w2, h2, c2, wx, wx1, wx2, hy, hy1, hy2, hf, fm, hc, pw, ph, pc, uw, uh, uc⟩ := F
    have w8 : IntKind.i64.wrap (8 * b.c) = 8 * b.c := w64 (by omega) (by omega)
    obtain ⟨gx, hgx⟩ : ∃ g, decide (1 < bw b) = g := ⟨_, rfl⟩
    obtain ⟨gy, hgy⟩ : ∃ g, decide (1 < bh b) = g := ⟨_, rfl⟩
    obtain ⟨gh, hgh⟩ : ∃ g, decide (1 < b.c) = g := ⟨_, rfl⟩
    by_cases h1 : b.one
    · rw [split_no (.inr h1)]
      obtain ⟨o1, o2, o3⟩ := h1
      have g1 : decide (1 < bw b) = false := by simp; omega
      have g2 : decide (1 < bh b) = false := by simp; omega
      have g3 : decide (1 < b.c) = false := by simp; omega
      (refine pure_of_ev tt_ok Try.func30 rfl (by decide +kernel) (Nat.le_of_ble_eq_true rfl) ?_; simp only [Try.f30])
      repeat' first
        | refine ev_seq (fun K hK => ?_)
        | ((first | refine evrd (id := 3) hmix tt_ok false [([], false), ([], false), ([], false), ([], false), ([], false), ([], false), ([], false), ([], false), ([], false), ([], false), ([], false), ([], false), ([], false), ([], false), ([], false), ([], false), ([], false)] (by decide +kernel) ?_ | refine evrd (id := 13) hmix tt_ok false [([], true), ([], true), ([0, 1], true), ([0, 1, 2], false), ([1], false), ([], false)] (by decide +kernel) ?_ | refine evrd (id := 23) hmix tt_ok false [([], false), ([], true), ([1], false), ([], false), ([], false)] (by decide +kernel) ?_ | refine evr tt_ok false ?_ | refine ev_skip ?_ | refine ev_ret ?_ | refine ev_exit ?_); simp only [go_sem, Nat.reduceAdd, Nat.reduceSub, Nat.reduceMul, Nat.reduceEqDiff, Nat.reduceLeDiff, Nat.reduceBEq, Nat.reduceLT, reduceIte, reduceCtorEq, Int.toNat_zero, Int.toNat_one, Int.reduceToNat, Nat.zero_add, Nat.add_zero, Nat.sub_zero, Nat.zero_mul, hok, w, hh, g1, g2, g3, Int.reduceLT])
        | (refine evc (fun X Y hX hY => ?_); simp only [go_sem, Nat.reduceAdd, Nat.reduceSub, Nat.reduceMul, Nat.reduceEqDiff, Nat.reduceLeDiff, Nat.reduceBEq, Nat.reduceLT, reduceIte, reduceCtorEq, Int.toNat_zero, Int.toNat_one, Int.reduceToNat, Nat.zero_add, Nat.add_zero, Nat.sub_zero, Nat.zero_mul, hok, w, hh, g1, g2, g3, Int.reduceLT]; first | (refine ⟨fun h => hX ?_, fun h => hY ?_⟩; clear hX hY) | (refine hX ?_; clear hX hY) | (refine hY ?_; clear hX hY))
        | refine ev_block ?_
        | (apply hK; clear hK)
        | apply_assumption -exfalso -symm only [*]
        | (refine And.intro ?_ ?_; first | omega | assumption | (unfold maxLen; omega) | (simp only [decide_eq_true_eq, decide_eq_false_iff_not, Int.not_lt, Int.not_le] at h; omega))
        | ((first | apply callP | apply callPG | apply callP0); (case' hv => (simp only [go_sem, Nat.reduceAdd, Nat.reduceSub, Nat.reduceMul, Nat.reduceEqDiff, Nat.reduceLeDiff, Nat.reduceBEq, Nat.reduceLT, reduceIte, reduceCtorEq, Int.toNat_zero, Int.toNat_one, Int.reduceToNat, Nat.zero_add, Nat.add_zero, Nat.sub_zero, Nat.zero_mul, hok, w, hh, g1, g2, g3, Int.reduceLT]; try exact rfl)); (case' hp => ((first | refine' boxB_pure b | (refine' (fun hg => ?_); refine' boxB_pure b)))); (case' h => ((first | refine evOps_fin ?_ | refine And.intro ?_ (evD_fin ?_) | refine evD_fin ?_) <;> simp only [go_sem, Nat.reduceAdd, Nat.reduceSub, Nat.reduceMul, Nat.reduceEqDiff, Nat.reduceLeDiff, Nat.reduceBEq, Nat.reduceLT, reduceIte, reduceCtorEq, Int.toNat_zero, Int.toNat_one, Int.reduceToNat, Nat.zero_add, Nat.add_zero, Nat.sub_zero, Nat.zero_mul, hok, w, hh, g1, g2, g3, Int.reduceLT])))
        | (refine callX ?_; (first | refine evOps_fin ?_ | refine And.intro ?_ (evD_fin ?_) | refine evD_fin ?_) <;> simp only [go_sem, Nat.reduceAdd, Nat.reduceSub, Nat.reduceMul, Nat.reduceEqDiff, Nat.reduceLeDiff, Nat.reduceBEq, Nat.reduceLT, reduceIte, reduceCtorEq, Int.toNat_zero, Int.toNat_one, Int.reduceToNat, Nat.zero_add, Nat.add_zero, Nat.sub_zero, Nat.zero_mul, hok, w, hh, g1, g2, g3, Int.reduceLT])
      rfl
    · have ex : sx b = if gx then bw b else 0 := by
        subst hgx; unfold sx; by_cases h : bw b = 1
        · rw [if_pos h, if_neg]; simp; omega
        · rw [if_neg h, if_pos]; simp; omega
      have ey : sy b = if gy then bh b else 0 := by
        subst hgy; unfold sy; by_cases h : bh b = 1
        · rw [if_pos h, if_neg]; simp; omega
        · rw [if_neg h, if_pos]; simp; omega
      have eh : sh b = if gh then 8 * b.c else 0 := by
        subst hgh; unfold sh; by_cases h : b.c = 1
        · rw [if_pos h, if_neg]; simp; omega
        · rw [if_neg h, if_pos]; omega; simp; omega
      have nx : (bw b == 0) = false := by simp; omega
      have ny : (bh b == 0) = false := by simp; omega
      have nh : (8 * b.c == 0) = false := by simp; omega
      have zx : decide (bw b ≤ 0) = false := by simp; omega
      have zy : decide (bh b ≤ 0) = false := by simp; omega
      have zh : decide (8 * b.c ≤ 0) = false := by simp; omega
      have zx' : decide (0 ≤ bw b) = true := by simp; omega
      have zy' : decide (0 ≤ bh b) = true := by simp; omega
      have zh' : decide (0 ≤ 8 * b.c) = true := by simp; omega
      have z0 : decide ((0 : Int) ≤ 0) = true := by decide
      cases gx <;> cases gy <;> cases gh
      · simp at hgx hgy hgh
        exact absurd ⟨by omega, by omega, by omega⟩ h1
      all_goals
        simp only [if_true, if_false, Bool.false_eq_true] at ex ey eh
        (refine pure_of_ev tt_ok Try.func30 rfl (by decide +kernel) (Nat.le_of_ble_eq_true rfl) ?_; simp only [Try.f30])
        repeat' first
          | refine ev_seq (fun K hK => ?_)
          | ((first | refine evrd (id := 3) hmix tt_ok false [([], false), ([], false), ([], false), ([], false), ([], false), ([], false), ([], false), ([], false), ([], false), ([], false), ([], false), ([], false), ([], false), ([], false), ([], false), ([], false), ([], false)] (by decide +kernel) ?_ | refine evrd (id := 13) hmix tt_ok false [([], true), ([], true), ([0, 1], true), ([0, 1, 2], false), ([1], false), ([], false)] (by decide +kernel) ?_ | refine evrd (id := 23) hmix tt_ok false [([], false), ([], true), ([1], false), ([], false), ([], false)] (by decide +kernel) ?_ | refine evr tt_ok false ?_ | refine ev_skip ?_ | refine ev_ret ?_ | refine ev_exit ?_); simp only [go_sem, Nat.reduceAdd, Nat.reduceSub, Nat.reduceMul, Nat.reduceEqDiff, Nat.reduceLeDiff, Nat.reduceBEq, Nat.reduceLT, reduceIte, reduceCtorEq, Int.toNat_zero, Int.toNat_one, Int.reduceToNat, Nat.zero_add, Nat.add_zero, Nat.sub_zero, Nat.zero_mul, hok, w, hh, w2, h2, c2, wx, wx1, wx2, hy, hy1, hy2, hf, hc, w8, hgx, hgy, hgh, nx, ny, nh, zx, zy, zh, zx', zy', zh', z0])
          | (refine evc (fun X Y hX hY => ?_); simp only [go_sem, Nat.reduceAdd, Nat.reduceSub, Nat.reduceMul, Nat.reduceEqDiff, Nat.reduceLeDiff, Nat.reduceBEq, Nat.reduceLT, reduceIte, reduceCtorEq, Int.toNat_zero, Int.toNat_one, Int.reduceToNat, Nat.zero_add, Nat.add_zero, Nat.sub_zero, Nat.zero_mul, hok, w, hh, w2, h2, c2, wx, wx1, wx2, hy, hy1, hy2, hf, hc, w8, hgx, hgy, hgh, nx, ny, nh, zx, zy, zh, zx', zy', zh', z0]; first | (refine ⟨fun h => hX ?_, fun h => hY ?_⟩; clear hX hY) | (refine hX ?_; clear hX hY) | (refine hY ?_; clear hX hY))
          | refine ev_block ?_
          | (apply hK; clear hK)
          | apply_assumption -exfalso -symm only [*]
          | (refine And.intro ?_ ?_; first | omega | assumption | (unfold maxLen; omega) | (simp only [decide_eq_true_eq, decide_eq_false_iff_not, Int.not_lt, Int.not_le] at h; omega))
          | ((first | apply callP | apply callPG | apply callP0); (case' hv => (simp only [go_sem, Nat.reduceAdd, Nat.reduceSub, Nat.reduceMul, Nat.reduceEqDiff, Nat.reduceLeDiff, Nat.reduceBEq, Nat.reduceLT, reduceIte, reduceCtorEq, Int.toNat_zero, Int.toNat_one, Int.reduceToNat, Nat.zero_add, Nat.add_zero, Nat.sub_zero, Nat.zero_mul, hok, w, hh, w2, h2, c2, wx, wx1, wx2, hy, hy1, hy2, hf, hc, w8, hgx, hgy, hgh, nx, ny, nh, zx, zy, zh, zx', zy', zh', z0]; try exact rfl)); (case' hp => ((first | refine' boxB_pure b | (refine' (fun hg => ?_); refine' boxB_pure b)))); (case' h => ((first | refine evOps_fin ?_ | refine And.intro ?_ (evD_fin ?_) | refine evD_fin ?_) <;> simp only [go_sem, Nat.reduceAdd, Nat.reduceSub, Nat.reduceMul, Nat.reduceEqDiff, Nat.reduceLeDiff, Nat.reduceBEq, Nat.reduceLT, reduceIte, reduceCtorEq, Int.toNat_zero, Int.toNat_one, Int.reduceToNat, Nat.zero_add, Nat.add_zero, Nat.sub_zero, Nat.zero_mul, hok, w, hh, w2, h2, c2, wx, wx1, wx2, hy, hy1, hy2, hf, hc, w8, hgx, hgy, hgh, nx, ny, nh, zx, zy, zh, zx', zy', zh', z0])))
          | ((first | apply callP | apply callPG | apply callP0); (case' hv => (simp only [go_sem, Nat.reduceAdd, Nat.reduceSub, Nat.reduceMul, Nat.reduceEqDiff, Nat.reduceLeDiff, Nat.reduceBEq, Nat.reduceLT, reduceIte, reduceCtorEq, Int.toNat_zero, Int.toNat_one, Int.reduceToNat, Nat.zero_add, Nat.add_zero, Nat.sub_zero, Nat.zero_mul, hok, w, hh, w2, h2, c2, wx, wx1, wx2, hy, hy1, hy2, hf, hc, w8, hgx, hgy, hgh, nx, ny, nh, zx, zy, zh, zx', zy', zh', z0]; try exact rfl)); (case' hp => ((first | refine' mod_pure _ _ ?_ ?_ | (refine' (fun hg => ?_); refine' mod_pure _ _ ?_ ?_)); all_goals first | (fail_if_success refine prop_id ?_; skip) | omega | assumption | (simp only [go_sem, Nat.reduceAdd, Nat.reduceSub, Nat.reduceMul, Nat.reduceEqDiff, Nat.reduceLeDiff, Nat.reduceBEq, Nat.reduceLT, reduceIte, reduceCtorEq, Int.toNat_zero, Int.toNat_one, Int.reduceToNat, Nat.zero_add, Nat.add_zero, Nat.sub_zero, Nat.zero_mul, hok, w, hh, w2, h2, c2, wx, wx1, wx2, hy, hy1, hy2, hf, hc, w8, hgx, hgy, hgh, nx, ny, nh, zx, zy, zh, zx', zy', zh', z0]; first | done | exact rfl | omega) | (refine' Eq.trans ?_ ?_; (focus (simp only [go_sem, Nat.reduceAdd, Nat.reduceSub, Nat.reduceMul, Nat.reduceEqDiff, Nat.reduceLeDiff, Nat.reduceBEq, Nat.reduceLT, reduceIte, reduceCtorEq, Int.toNat_zero, Int.toNat_one, Int.reduceToNat, Nat.zero_add, Nat.add_zero, Nat.sub_zero, Nat.zero_mul, hok, w, hh, w2, h2, c2, wx, wx1, wx2, hy, hy1, hy2, hf, hc, w8, hgx, hgy, hgh, nx, ny, nh, zx, zy, zh, zx', zy', zh', z0]; exact rfl)); exact rfl))); (case' h => ((first | refine evOps_fin ?_ | refine And.intro ?_ (evD_fin ?_) | refine evD_fin ?_) <;> simp only [go_sem, Nat.reduceAdd, Nat.reduceSub, Nat.reduceMul, Nat.reduceEqDiff, Nat.reduceLeDiff, Nat.reduceBEq, Nat.reduceLT, reduceIte, reduceCtorEq, Int.toNat_zero, Int.toNat_one, Int.reduceToNat, Nat.zero_add, Nat.add_zero, Nat.sub_zero, Nat.zero_mul, hok, w, hh, w2, h2, c2, wx, wx1, wx2, hy, hy1, hy2, hf, hc, w8, hgx, hgy, hgh, nx, ny, nh, zx, zy, zh, zx', zy', zh', z0])))
          | (refine callX ?_; (first | refine evOps_fin ?_ | refine And.intro ?_ (evD_fin ?_) | refine evD_fin ?_) <;> simp only [go_sem, Nat.reduceAdd, Nat.reduceSub, Nat.reduceMul, Nat.reduceEqDiff, Nat.reduceLeDiff, Nat.reduceBEq, Nat.reduceLT, reduceIte, reduceCtorEq, Int.toNat_zero, Int.toNat_one, Int.reduceToNat, Nat.zero_add, Nat.add_zero, Nat.sub_zero, Nat.zero_mul, hok, w, hh, w2, h2, c2, wx, wx1, wx2, hy, hy1, hy2, hf, hc, w8, hgx, hgy, hgh, nx, ny, nh, zx, zy, zh, zx', zy', zh', z0])
      all_goals
        simp only [Bool.and_eq_true, Bool.and_eq_false_iff, decide_eq_true_eq, decide_eq_false_iff_not] at *
        first
          | (rw [split_x hok h1 (by rw [ex, ey, eh]; omega)]; rfl)
          | (rw [split_y hok h1 (by rw [ex, ey, eh]; omega) (by rw [ey, eh]; omega)]; rfl)
          | (rw [split_h hok h1 (by rw [ex, ey, eh]; omega) (by rw [ey, eh]; omega)]; rfl)
  · rw [split_no (.inl hok)]
    (refine pure_of_ev tt_ok Try.func30 rfl (by decide +kernel) (Nat.le_of_ble_eq_true rfl) ?_; simp only [Try.f30])
    repeat' first
      | refine ev_seq (fun K hK => ?_)
      | ((first | refine evrd (id := 3) hmix tt_ok false [([], false), ([], false), ([], false), ([], false), ([], false), ([], false), ([], false), ([], false), ([], false), ([], false), ([], false), ([], false), ([], false), ([], false), ([], false), ([], false), ([], false)] (by decide +kernel) ?_ | refine evrd (id := 13) hmix tt_ok false [([], true), ([], true), ([0, 1], true), ([0, 1, 2], false), ([1], false), ([], false)] (by decide +kernel) ?_ | refine evrd (id := 23) hmix tt_ok false [([], false), ([], true), ([1], false), ([], false), ([], false)] (by decide +kernel) ?_ | refine evr tt_ok false ?_ | refine ev_skip ?_ | refine ev_ret ?_ | refine ev_exit ?_); simp only [go_sem, Nat.reduceAdd, Nat.reduceSub, Nat.reduceMul, Nat.reduceEqDiff, Nat.reduceLeDiff, Nat.reduceBEq, Nat.reduceLT, reduceIte, reduceCtorEq, Int.toNat_zero, Int.toNat_one, Int.reduceToNat, Nat.zero_add, Nat.add_zero, Nat.sub_zero, Nat.zero_mul, hok])
      | (refine evc (fun X Y hX hY => ?_); simp only [go_sem, Nat.reduceAdd, Nat.reduceSub, Nat.reduceMul, Nat.reduceEqDiff, Nat.reduceLeDiff, Nat.reduceBEq, Nat.reduceLT, reduceIte, reduceCtorEq, Int.toNat_zero, Int.toNat_one, Int.reduceToNat, Nat.zero_add, Nat.add_zero, Nat.sub_zero, Nat.zero_mul, hok]; first | (refine ⟨fun h => hX ?_, fun h => hY ?_⟩; clear hX hY) | (refine hX ?_; clear hX hY) | (refine hY ?_; clear hX hY))
      | refine ev_block ?_
      | (apply hK; clear hK)
      | apply_assumption -exfalso -symm only [*]
      | (refine And.intro ?_ ?_; first | omega | assumption | (unfold maxLen; omega) | (simp only [decide_eq_true_eq, decide_eq_false_iff_not, Int.not_lt, Int.not_le] at h; omega))
      | ((first | apply callP | apply callPG | apply callP0); (case' hv => (simp only [go_sem, Nat.reduceAdd, Nat.reduceSub, Nat.reduceMul, Nat.reduceEqDiff, Nat.reduceLeDiff, Nat.reduceBEq, Nat.reduceLT, reduceIte, reduceCtorEq, Int.toNat_zero, Int.toNat_one, Int.reduceToNat, Nat.zero_add, Nat.add_zero, Nat.sub_zero, Nat.zero_mul, hok]; try exact rfl)); (case' hp => ((first | refine' boxB_pure b | (refine' (fun hg => ?_); refine' boxB_pure b)))); (case' h => ((first | refine evOps_fin ?_ | refine And.intro ?_ (evD_fin ?_) | refine evD_fin ?_) <;> simp only [go_sem, Nat.reduceAdd, Nat.reduceSub, Nat.reduceMul, Nat.reduceEqDiff, Nat.reduceLeDiff, Nat.reduceBEq, Nat.reduceLT, reduceIte, reduceCtorEq, Int.toNat_zero, Int.toNat_one, Int.reduceToNat, Nat.zero_add, Nat.add_zero, Nat.sub_zero, Nat.zero_mul, hok])))
      | (refine callX ?_; (first | refine evOps_fin ?_ | refine And.intro ?_ (evD_fin ?_) | refine evD_fin ?_) <;> simp only [go_sem, Nat.reduceAdd, Nat.reduceSub, Nat.reduceMul, Nat.reduceEqDiff, Nat.reduceLeDiff, Nat.reduceBEq, Nat.reduceLT, reduceIte, reduceCtorEq, Int.toNat_zero, Int.toNat_one, Int.reduceToNat, Nat.zero_add, Nat.add_zero, Nat.sub_zero, Nat.zero_mul, hok])
    rfl
end Go.Proofs.Ytnbgegapncdkjaa
