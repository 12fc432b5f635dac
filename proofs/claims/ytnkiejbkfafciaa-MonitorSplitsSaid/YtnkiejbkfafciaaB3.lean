import Derived.Test.YtnkiejbkfafciaaB2
set_option linter.all false
namespace Go.Proofs.Ytnkiejbkfafciaa
open Go Go.K
set_option maxRecDepth 20000
set_option maxHeartbeats 4000000
theorem st_scan {l : Int} {L : List Sig} {k : Nat} (h : (sig L k).scan = true) : (st l L (k + 1)).2 = 0 := by
  show nextAge _ _ = 0
  unfold nextAge; rw [if_pos h]
theorem st_small (l : Int) (L : List Sig) : ∀ k : Nat, k ≤ 1000 → (st l L k).2 ≤ k
  | 0, _ => by show (0 : Int) ≤ _; decide
  | k + 1, h => by
    have := st_small l L k (by omega)
    show nextAge _ _ ≤ _
    unfold nextAge; split
    · omega
    · split <;> omega
theorem st_go {l : Int} {L : List Sig} {k : Nat} (h : (sig L k).scan = false) (hk : k ≤ 999) : (st l L (k + 1)).2 = (st l L k).2 + 1 := by
  have := st_small l L k (by omega)
  show nextAge _ _ = _
  unfold nextAge; rw [if_neg (by simp [h]), if_neg (by omega)]
theorem sig_get (L : List Sig) (k : Nat) : (List.map encSig L).getD k [.bool false, .bool false, .bool false, .bool false, .bool false] = [.bool (sig L k).stop, .bool (sig L k).lost, .bool (sig L k).bump, .bool (sig L k).scan, .bool (sig L k).reset] := getD_map (f := encSig) rfl
theorem rage_pure (n l : Int) (L : List Sig) (e : Nat) (he : e ≤ L.length) (h60 : (L.length : Int) ≤ 60) : Pure Try.prog 28 [.agg [.int .i64 n, .sl (L.map encSig)], .int .i64 e] (.int .i64 (st l L e).2) := by
  (refine pure_of_ev tt_ok Try.func28 rfl (by decide +kernel) (Nat.le_of_ble_eq_true rfl) ?_; simp only [Try.f28])
  repeat' first
    | refine ev_seq (fun K hK => ?_)
    | (refine evr tt_ok true ?_; simp only [go_sem, Nat.reduceAdd, Nat.reduceSub, Nat.reduceMul, Nat.reduceEqDiff, Nat.reduceLeDiff, Nat.reduceBEq, Nat.reduceLT, reduceIte, reduceCtorEq, Int.toNat_zero, Int.toNat_one, Int.reduceToNat, Nat.zero_add, Nat.add_zero, Nat.sub_zero, Nat.zero_mul, List.length_map])
    | (refine evc (fun X Y hX hY => ?_); simp only [go_sem, Nat.reduceAdd, Nat.reduceSub, Nat.reduceMul, Nat.reduceEqDiff, Nat.reduceLeDiff, Nat.reduceBEq, Nat.reduceLT, reduceIte, reduceCtorEq, Int.toNat_zero, Int.toNat_one, Int.reduceToNat, Nat.zero_add, Nat.add_zero, Nat.sub_zero, Nat.zero_mul, List.length_map]; first | (refine ⟨fun h => hX ?_, fun h => hY ?_⟩; clear hX hY) | (refine hX ?_; clear hX hY) | (refine hY ?_; clear hX hY))
    | (refine ev_skip ?_; simp only [go_sem, Nat.reduceAdd, Nat.reduceSub, Nat.reduceMul, Nat.reduceEqDiff, Nat.reduceLeDiff, Nat.reduceBEq, Nat.reduceLT, reduceIte, reduceCtorEq, Int.toNat_zero, Int.toNat_one, Int.reduceToNat, Nat.zero_add, Nat.add_zero, Nat.sub_zero, Nat.zero_mul, List.length_map])
    | (refine ev_ret ?_; simp only [go_sem, Nat.reduceAdd, Nat.reduceSub, Nat.reduceMul, Nat.reduceEqDiff, Nat.reduceLeDiff, Nat.reduceBEq, Nat.reduceLT, reduceIte, reduceCtorEq, Int.toNat_zero, Int.toNat_one, Int.reduceToNat, Nat.zero_add, Nat.add_zero, Nat.sub_zero, Nat.zero_mul, List.length_map])
    | refine ev_block ?_
    | (refine ev_exit ?_; simp only [go_sem, Nat.reduceAdd, Nat.reduceSub, Nat.reduceMul, Nat.reduceEqDiff, Nat.reduceLeDiff, Nat.reduceBEq, Nat.reduceLT, reduceIte, reduceCtorEq, Int.toNat_zero, Int.toNat_one, Int.reduceToNat, Nat.zero_add, Nat.add_zero, Nat.sub_zero, Nat.zero_mul, List.length_map])
    | (apply hK; clear hK)
    | apply_assumption -exfalso -symm only [*]
    | (refine And.intro ?_ ?_; first | omega | assumption | (simp only [decide_eq_true_eq, decide_eq_false_iff_not, Int.not_lt, Int.not_le] at h; omega))
  refine ev_loop (fun i : Nat => i ≤ e ∧ (st l L e).2 = i + (st l L (e - i)).2)
    (fun i => ⟨24, [(5, .int .i64 i), (4, .int .i64 0), (2, .own 0 0 0 0), (1, .int .i64 e)], [.blk 43 0 2 [[.int .i64 n, .sl (L.map encSig)]]]⟩)
    (fun i => e - i) 0 ⟨Nat.zero_le _, by simp⟩ ?_ ?_
  · simp only [go_sem, Nat.reduceAdd, Nat.reduceSub, Nat.reduceMul, Nat.reduceEqDiff, Nat.reduceLeDiff, Nat.reduceBEq, Nat.reduceLT, reduceIte, reduceCtorEq, Int.toNat_zero, Int.toNat_one, Int.reduceToNat, Nat.zero_add, Nat.add_zero, Nat.sub_zero, Nat.zero_mul, fits, fitT, fitOs, fitO, V.under, unders, rowsUnder]
    repeat' first | rfl | apply And.intro
  · rintro i ⟨hi, hs⟩
    have hb0 : 0 ≤ (i : Int) := by omega
    have hw : IntKind.i64.wrap ((i : Int) + 1) = ((i + 1 : Nat) : Int) := by rw [w64] <;> omega
    by_cases hlt : (i : Int) < e
    · have hlt2 : i < e := by omega
      have hw1 : IntKind.i64.wrap ((e : Int) - 1) = (e : Int) - 1 := by rw [w64] <;> omega
      have hw2 : IntKind.i64.wrap ((e : Int) - 1 - i) = ((e - 1 - i : Nat) : Int) := by rw [w64] <;> omega
      have hr1 : 0 ≤ ((e - 1 - i : Nat) : Int) := by omega
      have hr2 : ((e - 1 - i : Nat) : Int) < L.length := by omega
      have hg : (List.map encSig L).getD ((e - 1 - i : Nat) : Int).toNat [.bool false, .bool false, .bool false, .bool false, .bool false] = encSig (sig L (e - 1 - i)) := by
        rw [Int.toNat_natCast]; exact getD_map (f := encSig) rfl
      simp only [encSig] at hg
      have hq : e - i = (e - 1 - i) + 1 := by omega
      rw [hq] at hs
      cases hsc : (sig L (e - 1 - i)).scan
      · rw [st_go hsc (by omega)] at hs
        repeat' first
          | refine ev_seq (fun K hK => ?_)
          | (refine evr tt_ok true ?_; simp only [go_sem, Nat.reduceAdd, Nat.reduceSub, Nat.reduceMul, Nat.reduceEqDiff, Nat.reduceLeDiff, Nat.reduceBEq, Nat.reduceLT, reduceIte, reduceCtorEq, Int.toNat_zero, Int.toNat_one, Int.reduceToNat, Nat.zero_add, Nat.add_zero, Nat.sub_zero, Nat.zero_mul, List.length_map, hb0, hw, hlt, hw1, hw2, hr1, hr2, hg, hsc])
          | (refine evc (fun X Y hX hY => ?_); simp only [go_sem, Nat.reduceAdd, Nat.reduceSub, Nat.reduceMul, Nat.reduceEqDiff, Nat.reduceLeDiff, Nat.reduceBEq, Nat.reduceLT, reduceIte, reduceCtorEq, Int.toNat_zero, Int.toNat_one, Int.reduceToNat, Nat.zero_add, Nat.add_zero, Nat.sub_zero, Nat.zero_mul, List.length_map, hb0, hw, hlt, hw1, hw2, hr1, hr2, hg, hsc]; first | (refine ⟨fun h => hX ?_, fun h => hY ?_⟩; clear hX hY) | (refine hX ?_; clear hX hY) | (refine hY ?_; clear hX hY))
          | (refine ev_skip ?_; simp only [go_sem, Nat.reduceAdd, Nat.reduceSub, Nat.reduceMul, Nat.reduceEqDiff, Nat.reduceLeDiff, Nat.reduceBEq, Nat.reduceLT, reduceIte, reduceCtorEq, Int.toNat_zero, Int.toNat_one, Int.reduceToNat, Nat.zero_add, Nat.add_zero, Nat.sub_zero, Nat.zero_mul, List.length_map, hb0, hw, hlt, hw1, hw2, hr1, hr2, hg, hsc])
          | (refine ev_ret ?_; simp only [go_sem, Nat.reduceAdd, Nat.reduceSub, Nat.reduceMul, Nat.reduceEqDiff, Nat.reduceLeDiff, Nat.reduceBEq, Nat.reduceLT, reduceIte, reduceCtorEq, Int.toNat_zero, Int.toNat_one, Int.reduceToNat, Nat.zero_add, Nat.add_zero, Nat.sub_zero, Nat.zero_mul, List.length_map, hb0, hw, hlt, hw1, hw2, hr1, hr2, hg, hsc])
          | refine ev_block ?_
          | (refine ev_exit ?_; simp only [go_sem, Nat.reduceAdd, Nat.reduceSub, Nat.reduceMul, Nat.reduceEqDiff, Nat.reduceLeDiff, Nat.reduceBEq, Nat.reduceLT, reduceIte, reduceCtorEq, Int.toNat_zero, Int.toNat_one, Int.reduceToNat, Nat.zero_add, Nat.add_zero, Nat.sub_zero, Nat.zero_mul, List.length_map, hb0, hw, hlt, hw1, hw2, hr1, hr2, hg, hsc])
          | (apply hK; clear hK)
          | apply_assumption -exfalso -symm only [*]
          | (refine And.intro ?_ ?_; first | omega | assumption | (simp only [decide_eq_true_eq, decide_eq_false_iff_not, Int.not_lt, Int.not_le] at h; omega))
        all_goals exact ⟨i + 1, ⟨by omega, by rw [hs, show e - (i + 1) = e - 1 - i by omega]; omega⟩, rfl, by omega⟩
      · rw [st_scan hsc] at hs
        repeat' first
          | refine ev_seq (fun K hK => ?_)
          | (refine evr tt_ok true ?_; simp only [go_sem, Nat.reduceAdd, Nat.reduceSub, Nat.reduceMul, Nat.reduceEqDiff, Nat.reduceLeDiff, Nat.reduceBEq, Nat.reduceLT, reduceIte, reduceCtorEq, Int.toNat_zero, Int.toNat_one, Int.reduceToNat, Nat.zero_add, Nat.add_zero, Nat.sub_zero, Nat.zero_mul, List.length_map, hb0, hw, hlt, hw1, hw2, hr1, hr2, hg, hsc])
          | (refine evc (fun X Y hX hY => ?_); simp only [go_sem, Nat.reduceAdd, Nat.reduceSub, Nat.reduceMul, Nat.reduceEqDiff, Nat.reduceLeDiff, Nat.reduceBEq, Nat.reduceLT, reduceIte, reduceCtorEq, Int.toNat_zero, Int.toNat_one, Int.reduceToNat, Nat.zero_add, Nat.add_zero, Nat.sub_zero, Nat.zero_mul, List.length_map, hb0, hw, hlt, hw1, hw2, hr1, hr2, hg, hsc]; first | (refine ⟨fun h => hX ?_, fun h => hY ?_⟩; clear hX hY) | (refine hX ?_; clear hX hY) | (refine hY ?_; clear hX hY))
          | (refine ev_skip ?_; simp only [go_sem, Nat.reduceAdd, Nat.reduceSub, Nat.reduceMul, Nat.reduceEqDiff, Nat.reduceLeDiff, Nat.reduceBEq, Nat.reduceLT, reduceIte, reduceCtorEq, Int.toNat_zero, Int.toNat_one, Int.reduceToNat, Nat.zero_add, Nat.add_zero, Nat.sub_zero, Nat.zero_mul, List.length_map, hb0, hw, hlt, hw1, hw2, hr1, hr2, hg, hsc])
          | (refine ev_ret ?_; simp only [go_sem, Nat.reduceAdd, Nat.reduceSub, Nat.reduceMul, Nat.reduceEqDiff, Nat.reduceLeDiff, Nat.reduceBEq, Nat.reduceLT, reduceIte, reduceCtorEq, Int.toNat_zero, Int.toNat_one, Int.reduceToNat, Nat.zero_add, Nat.add_zero, Nat.sub_zero, Nat.zero_mul, List.length_map, hb0, hw, hlt, hw1, hw2, hr1, hr2, hg, hsc])
          | refine ev_block ?_
          | (refine ev_exit ?_; simp only [go_sem, Nat.reduceAdd, Nat.reduceSub, Nat.reduceMul, Nat.reduceEqDiff, Nat.reduceLeDiff, Nat.reduceBEq, Nat.reduceLT, reduceIte, reduceCtorEq, Int.toNat_zero, Int.toNat_one, Int.reduceToNat, Nat.zero_add, Nat.add_zero, Nat.sub_zero, Nat.zero_mul, List.length_map, hb0, hw, hlt, hw1, hw2, hr1, hr2, hg, hsc])
          | (apply hK; clear hK)
          | apply_assumption -exfalso -symm only [*]
          | (refine And.intro ?_ ?_; first | omega | assumption | (simp only [decide_eq_true_eq, decide_eq_false_iff_not, Int.not_lt, Int.not_le] at h; omega))
        all_goals rw [hs, Int.add_zero]
    · obtain rfl : i = e := by omega
      have hz : (st l L i).2 = i := by rw [hs, Nat.sub_self]; exact Int.add_zero _
      repeat' first
        | refine ev_seq (fun K hK => ?_)
        | (refine evr tt_ok true ?_; simp only [go_sem, Nat.reduceAdd, Nat.reduceSub, Nat.reduceMul, Nat.reduceEqDiff, Nat.reduceLeDiff, Nat.reduceBEq, Nat.reduceLT, reduceIte, reduceCtorEq, Int.toNat_zero, Int.toNat_one, Int.reduceToNat, Nat.zero_add, Nat.add_zero, Nat.sub_zero, Nat.zero_mul, List.length_map, hb0, hw, hlt, sig_get])
        | (refine evc (fun X Y hX hY => ?_); simp only [go_sem, Nat.reduceAdd, Nat.reduceSub, Nat.reduceMul, Nat.reduceEqDiff, Nat.reduceLeDiff, Nat.reduceBEq, Nat.reduceLT, reduceIte, reduceCtorEq, Int.toNat_zero, Int.toNat_one, Int.reduceToNat, Nat.zero_add, Nat.add_zero, Nat.sub_zero, Nat.zero_mul, List.length_map, hb0, hw, hlt, sig_get]; first | (refine ⟨fun h => hX ?_, fun h => hY ?_⟩; clear hX hY) | (refine hX ?_; clear hX hY) | (refine hY ?_; clear hX hY))
        | (refine ev_skip ?_; simp only [go_sem, Nat.reduceAdd, Nat.reduceSub, Nat.reduceMul, Nat.reduceEqDiff, Nat.reduceLeDiff, Nat.reduceBEq, Nat.reduceLT, reduceIte, reduceCtorEq, Int.toNat_zero, Int.toNat_one, Int.reduceToNat, Nat.zero_add, Nat.add_zero, Nat.sub_zero, Nat.zero_mul, List.length_map, hb0, hw, hlt, sig_get])
        | (refine ev_ret ?_; simp only [go_sem, Nat.reduceAdd, Nat.reduceSub, Nat.reduceMul, Nat.reduceEqDiff, Nat.reduceLeDiff, Nat.reduceBEq, Nat.reduceLT, reduceIte, reduceCtorEq, Int.toNat_zero, Int.toNat_one, Int.reduceToNat, Nat.zero_add, Nat.add_zero, Nat.sub_zero, Nat.zero_mul, List.length_map, hb0, hw, hlt, sig_get])
        | refine ev_block ?_
        | (refine ev_exit ?_; simp only [go_sem, Nat.reduceAdd, Nat.reduceSub, Nat.reduceMul, Nat.reduceEqDiff, Nat.reduceLeDiff, Nat.reduceBEq, Nat.reduceLT, reduceIte, reduceCtorEq, Int.toNat_zero, Int.toNat_one, Int.reduceToNat, Nat.zero_add, Nat.add_zero, Nat.sub_zero, Nat.zero_mul, List.length_map, hb0, hw, hlt, sig_get])
        | (apply hK; clear hK)
        | apply_assumption -exfalso -symm only [*]
        | (refine And.intro ?_ ?_; first | omega | assumption | (simp only [decide_eq_true_eq, decide_eq_false_iff_not, Int.not_lt, Int.not_le] at h; omega))
      all_goals rw [hz]
theorem ageR_pure (n l : Int) (L : List Sig) (h60 : (L.length : Int) ≤ 60) : Pure Try.prog 23 [.agg [.int .i64 n, .sl (L.map encSig)]] (.int .i64 (st l L L.length).2) := by
  have hp := rage_pure n l L L.length (Nat.le_refl _) h60
  (refine pure_of_ev tt_ok Try.func23 rfl (by decide +kernel) (Nat.le_of_ble_eq_true rfl) ?_; simp only [Try.f23])
  repeat' first
    | refine ev_seq (fun K hK => ?_)
    | (refine evr tt_ok true ?_; simp only [go_sem, Nat.reduceAdd, Nat.reduceSub, Nat.reduceMul, Nat.reduceEqDiff, Nat.reduceLeDiff, Nat.reduceBEq, Nat.reduceLT, reduceIte, reduceCtorEq, Int.toNat_zero, Int.toNat_one, Int.reduceToNat, Nat.zero_add, Nat.add_zero, Nat.sub_zero, Nat.zero_mul, List.length_map])
    | (refine evc (fun X Y hX hY => ?_); simp only [go_sem, Nat.reduceAdd, Nat.reduceSub, Nat.reduceMul, Nat.reduceEqDiff, Nat.reduceLeDiff, Nat.reduceBEq, Nat.reduceLT, reduceIte, reduceCtorEq, Int.toNat_zero, Int.toNat_one, Int.reduceToNat, Nat.zero_add, Nat.add_zero, Nat.sub_zero, Nat.zero_mul, List.length_map]; first | (refine ⟨fun h => hX ?_, fun h => hY ?_⟩; clear hX hY) | (refine hX ?_; clear hX hY) | (refine hY ?_; clear hX hY))
    | (refine ev_skip ?_; simp only [go_sem, Nat.reduceAdd, Nat.reduceSub, Nat.reduceMul, Nat.reduceEqDiff, Nat.reduceLeDiff, Nat.reduceBEq, Nat.reduceLT, reduceIte, reduceCtorEq, Int.toNat_zero, Int.toNat_one, Int.reduceToNat, Nat.zero_add, Nat.add_zero, Nat.sub_zero, Nat.zero_mul, List.length_map])
    | (refine ev_ret ?_; simp only [go_sem, Nat.reduceAdd, Nat.reduceSub, Nat.reduceMul, Nat.reduceEqDiff, Nat.reduceLeDiff, Nat.reduceBEq, Nat.reduceLT, reduceIte, reduceCtorEq, Int.toNat_zero, Int.toNat_one, Int.reduceToNat, Nat.zero_add, Nat.add_zero, Nat.sub_zero, Nat.zero_mul, List.length_map])
    | refine ev_block ?_
    | (refine ev_exit ?_; simp only [go_sem, Nat.reduceAdd, Nat.reduceSub, Nat.reduceMul, Nat.reduceEqDiff, Nat.reduceLeDiff, Nat.reduceBEq, Nat.reduceLT, reduceIte, reduceCtorEq, Int.toNat_zero, Int.toNat_one, Int.reduceToNat, Nat.zero_add, Nat.add_zero, Nat.sub_zero, Nat.zero_mul, List.length_map])
    | (apply hK; clear hK)
    | apply_assumption -exfalso -symm only [*]
    | (refine And.intro ?_ ?_; first | omega | assumption | (simp only [decide_eq_true_eq, decide_eq_false_iff_not, Int.not_lt, Int.not_le] at h; omega))
    | (apply callL; (case' hv => (simp only [go_sem, Nat.reduceAdd, Nat.reduceSub, Nat.reduceMul, Nat.reduceEqDiff, Nat.reduceLeDiff, Nat.reduceBEq, Nat.reduceLT, reduceIte, reduceCtorEq, Int.toNat_zero, Int.toNat_one, Int.reduceToNat, Nat.zero_add, Nat.add_zero, Nat.sub_zero, Nat.zero_mul, List.length_map]; try exact rfl)); (case' hp => (refine' hp; all_goals first | (fail_if_success refine prop_id ?_; skip) | omega | assumption | (refine' Eq.trans ?_ ?_; (focus (simp only [go_sem, Nat.reduceAdd, Nat.reduceSub, Nat.reduceMul, Nat.reduceEqDiff, Nat.reduceLeDiff, Nat.reduceBEq, Nat.reduceLT, reduceIte, reduceCtorEq, Int.toNat_zero, Int.toNat_one, Int.reduceToNat, Nat.zero_add, Nat.add_zero, Nat.sub_zero, Nat.zero_mul, List.length_map]; exact rfl)); exact rfl) | (simp only [go_sem, Nat.reduceAdd, Nat.reduceSub, Nat.reduceMul, Nat.reduceEqDiff, Nat.reduceLeDiff, Nat.reduceBEq, Nat.reduceLT, reduceIte, reduceCtorEq, Int.toNat_zero, Int.toNat_one, Int.reduceToNat, Nat.zero_add, Nat.add_zero, Nat.sub_zero, Nat.zero_mul, List.length_map]; done) | (simp only [go_sem, Nat.reduceAdd, Nat.reduceSub, Nat.reduceMul, Nat.reduceEqDiff, Nat.reduceLeDiff, Nat.reduceBEq, Nat.reduceLT, reduceIte, reduceCtorEq, Int.toNat_zero, Int.toNat_one, Int.reduceToNat, Nat.zero_add, Nat.add_zero, Nat.sub_zero, Nat.zero_mul, List.length_map]; exact rfl) | (simp only [go_sem, Nat.reduceAdd, Nat.reduceSub, Nat.reduceMul, Nat.reduceEqDiff, Nat.reduceLeDiff, Nat.reduceBEq, Nat.reduceLT, reduceIte, reduceCtorEq, Int.toNat_zero, Int.toNat_one, Int.reduceToNat, Nat.zero_add, Nat.add_zero, Nat.sub_zero, Nat.zero_mul, List.length_map]; omega))); (case' hf => exact rfl); (case' h => (first | (refine evOps_fin ?_; simp only [go_sem, Nat.reduceAdd, Nat.reduceSub, Nat.reduceMul, Nat.reduceEqDiff, Nat.reduceLeDiff, Nat.reduceBEq, Nat.reduceLT, reduceIte, reduceCtorEq, Int.toNat_zero, Int.toNat_one, Int.reduceToNat, Nat.zero_add, Nat.add_zero, Nat.sub_zero, Nat.zero_mul, List.length_map]) | (refine And.intro ?_ (evD_fin ?_); (focus (simp only [go_sem, Nat.reduceAdd, Nat.reduceSub, Nat.reduceMul, Nat.reduceEqDiff, Nat.reduceLeDiff, Nat.reduceBEq, Nat.reduceLT, reduceIte, reduceCtorEq, Int.toNat_zero, Int.toNat_one, Int.reduceToNat, Nat.zero_add, Nat.add_zero, Nat.sub_zero, Nat.zero_mul, List.length_map]; done)); simp only [go_sem, Nat.reduceAdd, Nat.reduceSub, Nat.reduceMul, Nat.reduceEqDiff, Nat.reduceLeDiff, Nat.reduceBEq, Nat.reduceLT, reduceIte, reduceCtorEq, Int.toNat_zero, Int.toNat_one, Int.reduceToNat, Nat.zero_add, Nat.add_zero, Nat.sub_zero, Nat.zero_mul, List.length_map]) | (refine evD_fin ?_; simp only [go_sem, Nat.reduceAdd, Nat.reduceSub, Nat.reduceMul, Nat.reduceEqDiff, Nat.reduceLeDiff, Nat.reduceBEq, Nat.reduceLT, reduceIte, reduceCtorEq, Int.toNat_zero, Int.toNat_one, Int.reduceToNat, Nat.zero_add, Nat.add_zero, Nat.sub_zero, Nat.zero_mul, List.length_map]))))
end Go.Proofs.Ytnkiejbkfafciaa
