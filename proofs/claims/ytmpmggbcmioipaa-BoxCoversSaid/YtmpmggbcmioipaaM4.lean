import Derived.Test.YtmpmggbcmioipaaM3
set_option linter.all false
namespace Go.Proofs.Ytmpmggbcmioipaa
open Nat (reduceAdd reduceSub reduceMul reduceEqDiff reduceLeDiff reduceLT)
open Go Go.K
set_option maxRecDepth 20000
set_option maxHeartbeats 4000000
theorem set_at (a : Arc) {k : Nat} (hk : k < 256) {h : Int} (e : (k : Int) = h % 256) : ((setM a a.c).map enB).getD k [.bool false] = [.bool (a.mem h)] := by
  rw [setM_get a a.c hk]
  have : decide (((k : Int) - a.f) % 256 < a.c) = a.mem h := by
    unfold Arc.mem; rw [decide_eq_decide]; omega
  rw [this]
theorem rhull_pure (a b : Arc) : Pure Try.prog 68 [.agg [.int .i64 a.f, .int .i64 a.c], .agg [.int .i64 b.f, .int .i64 b.c]]
    (if a.ok ∧ b.ok then .tup [.agg [.int .i64 (hullM a b).f, .int .i64 (hullM a b).c], .int .i64 0] else .tup [.agg [.int .i64 0, .int .i64 0], .int .i64 1]) := by
  by_cases ha : a.ok
  · by_cases hb : b.ok
    · rw [if_pos ⟨ha, hb⟩, ← hull_eq ha hb]
      have sa := set_pure a ha
      have sb := set_pure b hb
      (refine pure_of_ev tt_ok Try.func68 rfl (by decide +kernel) (Nat.le_of_ble_eq_true rfl) ?_; simp only [Try.f68])
      repeat' first
        | refine ev_seq (fun K hK => ?_)
        | ((first | refine evr tt_ok false ?_ | refine ev_skip ?_ | refine ev_ret ?_ | refine ev_exit ?_ | refine evc (fun X Y hX hY => ?_)); simp only [go_sem, reduceAdd, reduceSub, reduceMul, reduceEqDiff, reduceLeDiff, Nat.reduceBEq, reduceLT, reduceIte, reduceCtorEq, Int.reduceToNat, ha, hb]; try (first | (refine ⟨fun h => hX ?_, fun h => hY ?_⟩; clear hX hY) | (refine hX ?_; clear hX hY) | (refine hY ?_; clear hX hY)))
        | refine ev_block ?_
        | (apply hK; clear hK)
        | apply_assumption -exfalso -symm only [*]
        | (refine And.intro ?_ ?_; first | omega | assumption | (unfold maxLen; omega) | (simp only [decide_eq_true_eq, decide_eq_false_iff_not, Int.not_lt, Int.not_le] at h; omega))
        | ((first | apply callP | apply callPG | apply callP0); (case' hv => (simp only [go_sem, reduceAdd, reduceSub, reduceMul, reduceEqDiff, reduceLeDiff, Nat.reduceBEq, reduceLT, reduceIte, reduceCtorEq, Int.reduceToNat, ha, hb]; try exact rfl)); (case' hp => (first | refine' rvarc_pure a | (refine' (fun hg => ?_); refine' rvarc_pure a) | refine' rvarc_pure b | (refine' (fun hg => ?_); refine' rvarc_pure b) | refine' sa | (refine' (fun hg => ?_); refine' sa) | refine' sb | (refine' (fun hg => ?_); refine' sb))); (case' h => ((first | refine evOps_fin ?_ | refine And.intro ?_ (evD_fin ?_) | refine evD_fin ?_) <;> simp only [go_sem, reduceAdd, reduceSub, reduceMul, reduceEqDiff, reduceLeDiff, Nat.reduceBEq, reduceLT, reduceIte, reduceCtorEq, Int.reduceToNat, ha, hb])))
        | (refine callX ?_; (first | refine evOps_fin ?_ | refine And.intro ?_ (evD_fin ?_) | refine evD_fin ?_) <;> simp only [go_sem, reduceAdd, reduceSub, reduceMul, reduceEqDiff, reduceLeDiff, Nat.reduceBEq, reduceLT, reduceIte, reduceCtorEq, Int.reduceToNat, ha, hb])
      refine ev_loop (fun k : Nat => k ≤ 256)
        (fun k => ⟨64, [(9, .int .i64 (255 - (k : Int))), (8, .own 3 0 0 0), (7, .sl ((setM b b.c).map enB)), (6, .sl ((setM a a.c).map enB)), (4, .own 2 0 0 0)], [.gone, .gone, .blk 74 0 2 [[.int .i64 0, .int .i64 0]], .blk 74 0 2 [[.int .i64 (hullR a b k).f, .int .i64 (hullR a b k).c]]]⟩)
        (fun k => 256 - k) 0 (Nat.zero_le _) ?_ ?_
      · simp only [go_sem, reduceAdd, reduceSub, reduceMul, reduceEqDiff, reduceLeDiff, Nat.reduceBEq, reduceLT, reduceIte, reduceCtorEq, Int.reduceToNat, fits, fitT, fitOs, fitO, V.under, unders, rowsUnder]
        repeat' first | rfl | apply And.intro
      · intro k hk
        have hw : IntKind.i64.wrap (255 - (k : Int) - 1) = 255 - ((k + 1 : Nat) : Int) := by rw [w64] <;> omega
        by_cases hlt : k < 256
        · have h0 : (0 : Int) ≤ 255 - (k : Int) := by omega
          repeat' first
            | refine ev_seq (fun K hK => ?_)
            | ((first | refine evr tt_ok false ?_ | refine ev_skip ?_ | refine ev_ret ?_ | refine ev_exit ?_ | refine evc (fun X Y hX hY => ?_)); simp only [go_sem, reduceAdd, reduceSub, reduceMul, reduceEqDiff, reduceLeDiff, Nat.reduceBEq, reduceLT, reduceIte, reduceCtorEq, Int.reduceToNat, h0, hw]; try (first | (refine ⟨fun h => hX ?_, fun h => hY ?_⟩; clear hX hY) | (refine hX ?_; clear hX hY) | (refine hY ?_; clear hX hY)))
            | refine ev_block ?_
            | (apply hK; clear hK)
            | apply_assumption -exfalso -symm only [*]
            | (refine And.intro ?_ ?_; first | omega | assumption | (unfold maxLen; omega) | (simp only [decide_eq_true_eq, decide_eq_false_iff_not, Int.not_lt, Int.not_le] at h; omega))
          refine ev_loop (fun i : Nat => i ≤ 256)
            (fun i => ⟨64, [(11, .int .i64 i), (10, .int .i64 (needR a b (255 - (k : Int)) i : Nat)), (9, .int .i64 (255 - (k : Int))), (8, .own 3 0 0 0), (7, .sl ((setM b b.c).map enB)), (6, .sl ((setM a a.c).map enB)), (4, .own 2 0 0 0)], [.gone, .gone, .blk 74 0 2 [[.int .i64 0, .int .i64 0]], .blk 74 0 2 [[.int .i64 (hullR a b k).f, .int .i64 (hullR a b k).c]]]⟩)
            (fun i => 256 - i) 0 (Nat.zero_le _) ?_ ?_
          · simp only [go_sem, reduceAdd, reduceSub, reduceMul, reduceEqDiff, reduceLeDiff, Nat.reduceBEq, reduceLT, reduceIte, reduceCtorEq, Int.reduceToNat, fits, fitT, fitOs, fitO, V.under, unders, rowsUnder]
            repeat' first | rfl | apply And.intro
          · intro i hi
            have hwi : IntKind.i64.wrap ((i : Int) + 1) = ((i + 1 : Nat) : Int) := by rw [w64] <;> omega
            by_cases hli : (i : Int) < 256
            · obtain ⟨j, hj⟩ : ∃ j : Nat, (j : Int) = (255 - (k : Int) + i) % 256 := ⟨((255 - (k : Int) + i) % 256).toNat, by omega⟩
              have w1 : IntKind.i64.wrap (255 - (k : Int) + i) = 255 - (k : Int) + i := w64 (by omega) (by omega)
              have w2 : (255 - (k : Int) + i).tmod 256 = (j : Int) := by rw [Int.tmod_eq_emod_of_nonneg (by omega)]; exact hj.symm
              have hj2 : j < 256 := by omega
              have j0 : (0 : Int) ≤ (j : Int) := by omega
              have j1 : (j : Int) < ((256 : Nat) : Int) := by omega
              have ga := set_at a hj2 hj
              have gb := set_at b hj2 hj
              have hn : needR a b (255 - (k : Int)) (i + 1) = if (a.mem (255 - (k : Int) + i) || b.mem (255 - (k : Int) + i)) then i + 1 else needR a b (255 - (k : Int)) i := rfl
              cases hm : (a.mem (255 - (k : Int) + i) || b.mem (255 - (k : Int) + i))
              · rw [hm] at hn
                repeat' first
                  | refine ev_seq (fun K hK => ?_)
                  | ((first | refine evr tt_ok false ?_ | refine ev_skip ?_ | refine ev_ret ?_ | refine ev_exit ?_ | refine evc (fun X Y hX hY => ?_)); simp only [go_sem, reduceAdd, reduceSub, reduceMul, reduceEqDiff, reduceLeDiff, Nat.reduceBEq, reduceLT, reduceIte, reduceCtorEq, Int.reduceToNat, hli, hwi, w1, w2, j0, j1, ga, gb, hm, setM_len, List.length_map, Int.toNat_natCast]; try (first | (refine ⟨fun h => hX ?_, fun h => hY ?_⟩; clear hX hY) | (refine hX ?_; clear hX hY) | (refine hY ?_; clear hX hY)))
                  | refine ev_block ?_
                  | (apply hK; clear hK)
                  | apply_assumption -exfalso -symm only [*]
                  | (refine And.intro ?_ ?_; first | omega | assumption | (unfold maxLen; omega) | (simp only [decide_eq_true_eq, decide_eq_false_iff_not, Int.not_lt, Int.not_le] at h; omega))
                refine ⟨i + 1, by omega, ?_, by omega⟩
                rw [hn]
                repeat' first | rfl | apply And.intro
              · rw [hm] at hn
                repeat' first
                  | refine ev_seq (fun K hK => ?_)
                  | ((first | refine evr tt_ok false ?_ | refine ev_skip ?_ | refine ev_ret ?_ | refine ev_exit ?_ | refine evc (fun X Y hX hY => ?_)); simp only [go_sem, reduceAdd, reduceSub, reduceMul, reduceEqDiff, reduceLeDiff, Nat.reduceBEq, reduceLT, reduceIte, reduceCtorEq, Int.reduceToNat, hli, hwi, w1, w2, j0, j1, ga, gb, hm, setM_len, List.length_map, Int.toNat_natCast]; try (first | (refine ⟨fun h => hX ?_, fun h => hY ?_⟩; clear hX hY) | (refine hX ?_; clear hX hY) | (refine hY ?_; clear hX hY)))
                  | refine ev_block ?_
                  | (apply hK; clear hK)
                  | apply_assumption -exfalso -symm only [*]
                  | (refine And.intro ?_ ?_; first | omega | assumption | (unfold maxLen; omega) | (simp only [decide_eq_true_eq, decide_eq_false_iff_not, Int.not_lt, Int.not_le] at h; omega))
                refine ⟨i + 1, by omega, ?_, by omega⟩
                rw [hn]
                repeat' first | rfl | apply And.intro
            · obtain rfl : i = 256 := by omega
              have hR : hullR a b (k + 1) = if (needR a b (255 - (k : Int)) 256 : Int) < 256 ∧ (needR a b (255 - (k : Int)) 256 : Int) ≤ (hullR a b k).c then ⟨255 - (k : Int), (needR a b (255 - (k : Int)) 256 : Int)⟩ else hullR a b k := rfl
              by_cases hc : (needR a b (255 - (k : Int)) 256 : Int) < 256 ∧ (needR a b (255 - (k : Int)) 256 : Int) ≤ (hullR a b k).c
              · rw [if_pos hc] at hR
                have c1 := hc.1
                have c2 := hc.2
                repeat' first
                  | refine ev_seq (fun K hK => ?_)
                  | ((first | refine evr tt_ok false ?_ | refine ev_skip ?_ | refine ev_ret ?_ | refine ev_exit ?_ | refine evc (fun X Y hX hY => ?_)); simp only [go_sem, reduceAdd, reduceSub, reduceMul, reduceEqDiff, reduceLeDiff, Nat.reduceBEq, reduceLT, reduceIte, reduceCtorEq, Int.reduceToNat, hli, hw, c1, c2]; try (first | (refine ⟨fun h => hX ?_, fun h => hY ?_⟩; clear hX hY) | (refine hX ?_; clear hX hY) | (refine hY ?_; clear hX hY)))
                  | refine ev_block ?_
                  | (apply hK; clear hK)
                  | apply_assumption -exfalso -symm only [*]
                  | (refine And.intro ?_ ?_; first | omega | assumption | (unfold maxLen; omega) | (simp only [decide_eq_true_eq, decide_eq_false_iff_not, Int.not_lt, Int.not_le] at h; omega))
                refine ⟨k + 1, by omega, ?_, by omega⟩
                rw [hR]
                repeat' first | rfl | apply And.intro
              · rw [if_neg hc] at hR
                have hb : (decide ((needR a b (255 - (k : Int)) 256 : Int) < 256) && decide ((needR a b (255 - (k : Int)) 256 : Int) ≤ (hullR a b k).c)) = false := by
                  rw [Bool.eq_false_iff]; intro h; apply hc; simpa using h
                repeat' first
                  | refine ev_seq (fun K hK => ?_)
                  | ((first | refine evr tt_ok false ?_ | refine ev_skip ?_ | refine ev_ret ?_ | refine ev_exit ?_ | refine evc (fun X Y hX hY => ?_)); simp only [go_sem, reduceAdd, reduceSub, reduceMul, reduceEqDiff, reduceLeDiff, Nat.reduceBEq, reduceLT, reduceIte, reduceCtorEq, Int.reduceToNat, hli, hw, hb]; try (first | (refine ⟨fun h => hX ?_, fun h => hY ?_⟩; clear hX hY) | (refine hX ?_; clear hX hY) | (refine hY ?_; clear hX hY)))
                  | refine ev_block ?_
                  | (apply hK; clear hK)
                  | apply_assumption -exfalso -symm only [*]
                  | (refine And.intro ?_ ?_; first | omega | assumption | (unfold maxLen; omega) | (simp only [decide_eq_true_eq, decide_eq_false_iff_not, Int.not_lt, Int.not_le] at h; omega))
                refine ⟨k + 1, by omega, ?_, by omega⟩
                rw [hR]
                repeat' first | rfl | apply And.intro
        · obtain rfl : k = 256 := by omega
          have h0 : ¬ (0 : Int) ≤ 255 - ((256 : Nat) : Int) := by omega
          repeat' first
            | refine ev_seq (fun K hK => ?_)
            | ((first | refine evr tt_ok false ?_ | refine ev_skip ?_ | refine ev_ret ?_ | refine ev_exit ?_ | refine evc (fun X Y hX hY => ?_)); simp only [go_sem, reduceAdd, reduceSub, reduceMul, reduceEqDiff, reduceLeDiff, Nat.reduceBEq, reduceLT, reduceIte, reduceCtorEq, Int.reduceToNat, h0]; try (first | (refine ⟨fun h => hX ?_, fun h => hY ?_⟩; clear hX hY) | (refine hX ?_; clear hX hY) | (refine hY ?_; clear hX hY)))
            | refine ev_block ?_
            | (apply hK; clear hK)
            | apply_assumption -exfalso -symm only [*]
            | (refine And.intro ?_ ?_; first | omega | assumption | (unfold maxLen; omega) | (simp only [decide_eq_true_eq, decide_eq_false_iff_not, Int.not_lt, Int.not_le] at h; omega))
    · rw [if_neg (fun h => hb h.2)]
      (refine pure_of_ev tt_ok Try.func68 rfl (by decide +kernel) (Nat.le_of_ble_eq_true rfl) ?_; simp only [Try.f68])
      repeat' first
        | refine ev_seq (fun K hK => ?_)
        | ((first | refine evr tt_ok false ?_ | refine ev_skip ?_ | refine ev_ret ?_ | refine ev_exit ?_ | refine evc (fun X Y hX hY => ?_)); simp only [go_sem, reduceAdd, reduceSub, reduceMul, reduceEqDiff, reduceLeDiff, Nat.reduceBEq, reduceLT, reduceIte, reduceCtorEq, Int.reduceToNat, ha, hb]; try (first | (refine ⟨fun h => hX ?_, fun h => hY ?_⟩; clear hX hY) | (refine hX ?_; clear hX hY) | (refine hY ?_; clear hX hY)))
        | refine ev_block ?_
        | (apply hK; clear hK)
        | apply_assumption -exfalso -symm only [*]
        | (refine And.intro ?_ ?_; first | omega | assumption | (unfold maxLen; omega) | (simp only [decide_eq_true_eq, decide_eq_false_iff_not, Int.not_lt, Int.not_le] at h; omega))
        | ((first | apply callP | apply callPG | apply callP0); (case' hv => (simp only [go_sem, reduceAdd, reduceSub, reduceMul, reduceEqDiff, reduceLeDiff, Nat.reduceBEq, reduceLT, reduceIte, reduceCtorEq, Int.reduceToNat, ha, hb]; try exact rfl)); (case' hp => (first | refine' rvarc_pure a | (refine' (fun hg => ?_); refine' rvarc_pure a) | refine' rvarc_pure b | (refine' (fun hg => ?_); refine' rvarc_pure b))); (case' h => ((first | refine evOps_fin ?_ | refine And.intro ?_ (evD_fin ?_) | refine evD_fin ?_) <;> simp only [go_sem, reduceAdd, reduceSub, reduceMul, reduceEqDiff, reduceLeDiff, Nat.reduceBEq, reduceLT, reduceIte, reduceCtorEq, Int.reduceToNat, ha, hb])))
        | (refine callX ?_; (first | refine evOps_fin ?_ | refine And.intro ?_ (evD_fin ?_) | refine evD_fin ?_) <;> simp only [go_sem, reduceAdd, reduceSub, reduceMul, reduceEqDiff, reduceLeDiff, Nat.reduceBEq, reduceLT, reduceIte, reduceCtorEq, Int.reduceToNat, ha, hb])
  · rw [if_neg (fun h => ha h.1)]
    (refine pure_of_ev tt_ok Try.func68 rfl (by decide +kernel) (Nat.le_of_ble_eq_true rfl) ?_; simp only [Try.f68])
    repeat' first
      | refine ev_seq (fun K hK => ?_)
      | ((first | refine evr tt_ok false ?_ | refine ev_skip ?_ | refine ev_ret ?_ | refine ev_exit ?_ | refine evc (fun X Y hX hY => ?_)); simp only [go_sem, reduceAdd, reduceSub, reduceMul, reduceEqDiff, reduceLeDiff, Nat.reduceBEq, reduceLT, reduceIte, reduceCtorEq, Int.reduceToNat, ha]; try (first | (refine ⟨fun h => hX ?_, fun h => hY ?_⟩; clear hX hY) | (refine hX ?_; clear hX hY) | (refine hY ?_; clear hX hY)))
      | refine ev_block ?_
      | (apply hK; clear hK)
      | apply_assumption -exfalso -symm only [*]
      | (refine And.intro ?_ ?_; first | omega | assumption | (unfold maxLen; omega) | (simp only [decide_eq_true_eq, decide_eq_false_iff_not, Int.not_lt, Int.not_le] at h; omega))
      | ((first | apply callP | apply callPG | apply callP0); (case' hv => (simp only [go_sem, reduceAdd, reduceSub, reduceMul, reduceEqDiff, reduceLeDiff, Nat.reduceBEq, reduceLT, reduceIte, reduceCtorEq, Int.reduceToNat, ha]; try exact rfl)); (case' hp => (first | refine' rvarc_pure a | (refine' (fun hg => ?_); refine' rvarc_pure a) | refine' rvarc_pure b | (refine' (fun hg => ?_); refine' rvarc_pure b))); (case' h => ((first | refine evOps_fin ?_ | refine And.intro ?_ (evD_fin ?_) | refine evD_fin ?_) <;> simp only [go_sem, reduceAdd, reduceSub, reduceMul, reduceEqDiff, reduceLeDiff, Nat.reduceBEq, reduceLT, reduceIte, reduceCtorEq, Int.reduceToNat, ha])))
      | (refine callX ?_; (first | refine evOps_fin ?_ | refine And.intro ?_ (evD_fin ?_) | refine evD_fin ?_) <;> simp only [go_sem, reduceAdd, reduceSub, reduceMul, reduceEqDiff, reduceLeDiff, Nat.reduceBEq, reduceLT, reduceIte, reduceCtorEq, Int.reduceToNat, ha])
end Go.Proofs.Ytmpmggbcmioipaa
