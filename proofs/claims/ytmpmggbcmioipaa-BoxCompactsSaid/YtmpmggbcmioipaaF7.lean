import Derived.Test.YtmpmggbcmioipaaF6
set_option linter.all false
namespace Go.Proofs.Ytmpmggbcmioipaa
open Nat (reduceAdd reduceSub reduceMul reduceEqDiff reduceLeDiff reduceLT)
open Go Go.K
set_option maxRecDepth 20000
set_option maxHeartbeats 16000000
theorem sqz_le (l : List Box) : (sqz l).length ≤ l.length := by
  unfold sqz
  split
  · exact Nat.le_refl _
  · refine Nat.le_trans (List.length_eraseIdx_le _ _) ?_
    rw [List.length_set]; exact Nat.le_refl _
theorem itM_le (l : List Box) : ∀ m, (itM m l).length ≤ l.length
  | 0 => Nat.le_refl _
  | m + 1 => Nat.le_trans (sqz_le _) (itM_le l m)
theorem compR_le (l : List Box) (most : Int) : (compR l most).length ≤ l.length := by
  unfold compR
  split
  · exact itM_le l _
  · simp
theorem boxCompacts_pure (l : List Box) (most : Int) (p : Pose) : Pure Try.prog 3 [.sl (l.map encBox), .int .i64 most, .agg (encPose p)] (.bool true) := by
  simp only [encPose]
  by_cases a3 : (300 : Int) < (l.length : Int)
  · have a1 : (14 : Int) < (l.length : Int) := by omega
    have a2 : ¬ (l.length : Int) < (257 : Int) := by omega
    (refine pure_of_ev tt_ok Try.func3 rfl (by decide +kernel) (Nat.le_of_ble_eq_true rfl) ?_; simp only [Try.f3])
    repeat' first
      | refine ev_seq (fun K hK => ?_)
      | ((first | refine evrd (id := 6) hmix tt_ok false [([], false), ([], false), ([], false), ([], false), ([], false), ([], false), ([], false), ([], false), ([], false), ([], false), ([], false), ([], false), ([], false), ([], false), ([], false), ([], false), ([], true), ([16], false), ([16], false), ([], false), ([], false), ([], false), ([], false)] (by decide +kernel) ?_ | refine evr tt_ok false ?_ | refine ev_skip ?_ | refine ev_ret ?_ | refine ev_exit ?_ | refine evc (fun X Y hX hY => ?_)); simp only [go_sem, reduceAdd, reduceSub, reduceMul, reduceEqDiff, reduceLeDiff, Nat.reduceBEq, reduceLT, reduceIte, reduceCtorEq, Int.reduceToNat, a1, a2, a3, List.length_map]; try (first | (refine ⟨fun h => hX ?_, fun h => hY ?_⟩; clear hX hY) | (refine hX ?_; clear hX hY) | (refine hY ?_; clear hX hY)))
      | refine ev_block ?_
      | (apply hK; clear hK)
      | apply_assumption -exfalso -symm only [*]
      | (refine And.intro ?_ ?_; first | omega | assumption | (unfold maxLen; omega) | (simp only [decide_eq_true_eq, decide_eq_false_iff_not, Int.not_lt, Int.not_le] at h; omega))
      | ((first | apply callP | apply callPG | apply callP0); (case' hv => (simp only [go_sem, reduceAdd, reduceSub, reduceMul, reduceEqDiff, reduceLeDiff, Nat.reduceBEq, reduceLT, reduceIte, reduceCtorEq, Int.reduceToNat, a1, a2, a3, List.length_map]; try exact rfl)); (case' hp => (first | refine' awake06_pure | (refine' (fun hg => ?_); refine' awake06_pure))); (case' h => ((first | refine evOps_fin ?_ | refine And.intro ?_ (evD_fin ?_) | refine evD_fin ?_) <;> simp only [go_sem, reduceAdd, reduceSub, reduceMul, reduceEqDiff, reduceLeDiff, Nat.reduceBEq, reduceLT, reduceIte, reduceCtorEq, Int.reduceToNat, a1, a2, a3, List.length_map])))
      | (refine callX ?_; (first | refine evOps_fin ?_ | refine And.intro ?_ (evD_fin ?_) | refine evD_fin ?_) <;> simp only [go_sem, reduceAdd, reduceSub, reduceMul, reduceEqDiff, reduceLeDiff, Nat.reduceBEq, reduceLT, reduceIte, reduceCtorEq, Int.reduceToNat, a1, a2, a3, List.length_map])
  · have hl : (l.length : Int) < 4611686018427387904 := by omega
    have cp := compact06_pure l hl most
    have cr := rcompact06_pure l hl most
    have hR := compR_le l most
    have b1 := boxes_pure (compR l most) (compR l most) (by omega)
    have b2 := boxes_pure l l hl
    have v1 := covers06_pure l hl p
    have v2 := rcovers06_pure l hl p
    rw [decide_eq_true rfl] at b1 b2
    clear hR
    generalize compR l most = R at *
    generalize compE l most = e at *
    generalize covM l p = o at *
    have hq : l.length ≤ maxLen := by unfold maxLen; omega
    have hq2 : l.length * 48 ≤ 140737488355328 := by omega
    have htk : List.take l.length (l.map encBox) = l.map encBox := List.take_of_length_le (by simp)
    have nr : ∀ ow : List Own, ow[1]? = some (.blk 33 1 6 (l.map encBox)) → Run Try.prog 9 [.rs 1 1 0 l.length, .int .i64 most] [1, 1] ow (.tup [.sl (R.map encBox), .int .i64 e]) [(1, .froz 33 1 6 (l.map encBox))] := fun ow ho => by
      refine run_fz ho (lit_box _) ?_ cp
      simp only [go_sem, reduceAdd, reduceSub, reduceMul, reduceEqDiff, reduceLeDiff, Nat.reduceBEq, reduceLT, reduceIte, reduceCtorEq, Int.reduceToNat, List.getElem?_set_self (get_lt ho), htk, List.length_map, Nat.sub_zero, Nat.le_refl]
    by_cases a1 : (14 : Int) < (l.length : Int)
    · by_cases a2 : (l.length : Int) < (257 : Int)
      · (refine pure_of_ev tt_ok Try.func3 rfl (by decide +kernel) (Nat.le_of_ble_eq_true rfl) ?_; simp only [Try.f3])
        repeat' first
          | refine ev_seq (fun K hK => ?_)
          | ((first | refine evrd (id := 6) hmix tt_ok false [([], false), ([], false), ([], false), ([], false), ([], false), ([], false), ([], false), ([], false), ([], false), ([], false), ([], false), ([], false), ([], false), ([], false), ([], false), ([], false), ([], true), ([16], false), ([16], false), ([], false), ([], false), ([], false), ([], false)] (by decide +kernel) ?_ | refine evr tt_ok false ?_ | refine ev_skip ?_ | refine ev_ret ?_ | refine ev_exit ?_ | refine evc (fun X Y hX hY => ?_)); simp only [go_sem, reduceAdd, reduceSub, reduceMul, reduceEqDiff, reduceLeDiff, Nat.reduceBEq, reduceLT, reduceIte, reduceCtorEq, Int.reduceToNat, a1, a2, a3, List.length_map]; try (first | (refine ⟨fun h => hX ?_, fun h => hY ?_⟩; clear hX hY) | (refine hX ?_; clear hX hY) | (refine hY ?_; clear hX hY)))
          | refine ev_block ?_
          | (apply hK; clear hK)
          | apply_assumption -exfalso -symm only [*]
          | (refine And.intro ?_ ?_; first | omega | assumption | (unfold maxLen; omega) | (simp only [decide_eq_true_eq, decide_eq_false_iff_not, Int.not_lt, Int.not_le] at h; omega))
          | ((first | apply callP | apply callPG | apply callP0); (case' hv => (simp only [go_sem, reduceAdd, reduceSub, reduceMul, reduceEqDiff, reduceLeDiff, Nat.reduceBEq, reduceLT, reduceIte, reduceCtorEq, Int.reduceToNat, a1, a2, a3, List.length_map]; try exact rfl)); (case' hp => (first | refine' awake06_pure | (refine' (fun hg => ?_); refine' awake06_pure))); (case' h => ((first | refine evOps_fin ?_ | refine And.intro ?_ (evD_fin ?_) | refine evD_fin ?_) <;> simp only [go_sem, reduceAdd, reduceSub, reduceMul, reduceEqDiff, reduceLeDiff, Nat.reduceBEq, reduceLT, reduceIte, reduceCtorEq, Int.reduceToNat, a1, a2, a3, List.length_map])))
          | (refine callX ?_; (first | refine evOps_fin ?_ | refine And.intro ?_ (evD_fin ?_) | refine evD_fin ?_) <;> simp only [go_sem, reduceAdd, reduceSub, reduceMul, reduceEqDiff, reduceLeDiff, Nat.reduceBEq, reduceLT, reduceIte, reduceCtorEq, Int.reduceToNat, a1, a2, a3, List.length_map])
      · (refine pure_of_ev tt_ok Try.func3 rfl (by decide +kernel) (Nat.le_of_ble_eq_true rfl) ?_; simp only [Try.f3])
        repeat' first
          | refine ev_seq (fun K hK => ?_)
          | ((first | refine evrd (id := 6) hmix tt_ok false [([], false), ([], false), ([], false), ([], false), ([], false), ([], false), ([], false), ([], false), ([], false), ([], false), ([], false), ([], false), ([], false), ([], false), ([], false), ([], false), ([], true), ([16], false), ([16], false), ([], false), ([], false), ([], false), ([], false)] (by decide +kernel) ?_ | refine evr tt_ok false ?_ | refine ev_skip ?_ | refine ev_ret ?_ | refine ev_exit ?_ | refine evc (fun X Y hX hY => ?_)); simp only [go_sem, reduceAdd, reduceSub, reduceMul, reduceEqDiff, reduceLeDiff, Nat.reduceBEq, reduceLT, reduceIte, reduceCtorEq, Int.reduceToNat, a1, a2, a3, hq, hq2, htk, Nat.mul_one, Nat.zero_add, Nat.sub_zero, Nat.le_refl, box_get, beq_self_eq_true, Int.reduceBEq, List.length_map]; try (first | (refine ⟨fun h => hX ?_, fun h => hY ?_⟩; clear hX hY) | (refine hX ?_; clear hX hY) | (refine hY ?_; clear hX hY)))
          | refine ev_block ?_
          | (apply hK; clear hK)
          | apply_assumption -exfalso -symm only [*]
          | (refine And.intro ?_ ?_; first | omega | assumption | (unfold maxLen; omega) | (simp only [decide_eq_true_eq, decide_eq_false_iff_not, Int.not_lt, Int.not_le] at h; omega))
          | ((first | apply callP | apply callPG | apply callP0); (case' hv => (simp only [go_sem, reduceAdd, reduceSub, reduceMul, reduceEqDiff, reduceLeDiff, Nat.reduceBEq, reduceLT, reduceIte, reduceCtorEq, Int.reduceToNat, a1, a2, a3, hq, hq2, htk, Nat.mul_one, Nat.zero_add, Nat.sub_zero, Nat.le_refl, box_get, beq_self_eq_true, Int.reduceBEq, List.length_map]; try exact rfl)); (case' hp => (first | refine' awake06_pure | (refine' (fun hg => ?_); refine' awake06_pure) | refine' cr | (refine' (fun hg => ?_); refine' cr) | refine' b1 | (refine' (fun hg => ?_); refine' b1) | refine' b2 | (refine' (fun hg => ?_); refine' b2) | refine' v1 | (refine' (fun hg => ?_); refine' v1) | refine' v2 | (refine' (fun hg => ?_); refine' v2))); (case' h => ((first | refine evOps_fin ?_ | refine And.intro ?_ (evD_fin ?_) | refine evD_fin ?_) <;> simp only [go_sem, reduceAdd, reduceSub, reduceMul, reduceEqDiff, reduceLeDiff, Nat.reduceBEq, reduceLT, reduceIte, reduceCtorEq, Int.reduceToNat, a1, a2, a3, hq, hq2, htk, Nat.mul_one, Nat.zero_add, Nat.sub_zero, Nat.le_refl, box_get, beq_self_eq_true, Int.reduceBEq, List.length_map])))
          | ((first | apply callE | apply callEG | apply callE0); (case' hp => (first | refine' nr _ rfl | (refine' (fun hg => ?_); refine' nr _ rfl))); (case' h => ((first | refine evOps_fin ?_ | refine And.intro ?_ (evD_fin ?_) | refine evD_fin ?_) <;> simp only [go_sem, reduceAdd, reduceSub, reduceMul, reduceEqDiff, reduceLeDiff, Nat.reduceBEq, reduceLT, reduceIte, reduceCtorEq, Int.reduceToNat, a1, a2, a3, hq, hq2, htk, Nat.mul_one, Nat.zero_add, Nat.sub_zero, Nat.le_refl, box_get, beq_self_eq_true, Int.reduceBEq, List.length_map])))
          | (refine callX ?_; (first | refine evOps_fin ?_ | refine And.intro ?_ (evD_fin ?_) | refine evD_fin ?_) <;> simp only [go_sem, reduceAdd, reduceSub, reduceMul, reduceEqDiff, reduceLeDiff, Nat.reduceBEq, reduceLT, reduceIte, reduceCtorEq, Int.reduceToNat, a1, a2, a3, hq, hq2, htk, Nat.mul_one, Nat.zero_add, Nat.sub_zero, Nat.le_refl, box_get, beq_self_eq_true, Int.reduceBEq, List.length_map])
    · (refine pure_of_ev tt_ok Try.func3 rfl (by decide +kernel) (Nat.le_of_ble_eq_true rfl) ?_; simp only [Try.f3])
      repeat' first
        | refine ev_seq (fun K hK => ?_)
        | ((first | refine evrd (id := 6) hmix tt_ok false [([], false), ([], false), ([], false), ([], false), ([], false), ([], false), ([], false), ([], false), ([], false), ([], false), ([], false), ([], false), ([], false), ([], false), ([], false), ([], false), ([], true), ([16], false), ([16], false), ([], false), ([], false), ([], false), ([], false)] (by decide +kernel) ?_ | refine evr tt_ok false ?_ | refine ev_skip ?_ | refine ev_ret ?_ | refine ev_exit ?_ | refine evc (fun X Y hX hY => ?_)); simp only [go_sem, reduceAdd, reduceSub, reduceMul, reduceEqDiff, reduceLeDiff, Nat.reduceBEq, reduceLT, reduceIte, reduceCtorEq, Int.reduceToNat, a1, a3, hq, hq2, htk, Nat.mul_one, Nat.zero_add, Nat.sub_zero, Nat.le_refl, box_get, beq_self_eq_true, Int.reduceBEq, List.length_map]; try (first | (refine ⟨fun h => hX ?_, fun h => hY ?_⟩; clear hX hY) | (refine hX ?_; clear hX hY) | (refine hY ?_; clear hX hY)))
        | refine ev_block ?_
        | (apply hK; clear hK)
        | apply_assumption -exfalso -symm only [*]
        | (refine And.intro ?_ ?_; first | omega | assumption | (unfold maxLen; omega) | (simp only [decide_eq_true_eq, decide_eq_false_iff_not, Int.not_lt, Int.not_le] at h; omega))
        | ((first | apply callP | apply callPG | apply callP0); (case' hv => (simp only [go_sem, reduceAdd, reduceSub, reduceMul, reduceEqDiff, reduceLeDiff, Nat.reduceBEq, reduceLT, reduceIte, reduceCtorEq, Int.reduceToNat, a1, a3, hq, hq2, htk, Nat.mul_one, Nat.zero_add, Nat.sub_zero, Nat.le_refl, box_get, beq_self_eq_true, Int.reduceBEq, List.length_map]; try exact rfl)); (case' hp => (first | refine' awake06_pure | (refine' (fun hg => ?_); refine' awake06_pure) | refine' cr | (refine' (fun hg => ?_); refine' cr) | refine' b1 | (refine' (fun hg => ?_); refine' b1) | refine' b2 | (refine' (fun hg => ?_); refine' b2) | refine' v1 | (refine' (fun hg => ?_); refine' v1) | refine' v2 | (refine' (fun hg => ?_); refine' v2))); (case' h => ((first | refine evOps_fin ?_ | refine And.intro ?_ (evD_fin ?_) | refine evD_fin ?_) <;> simp only [go_sem, reduceAdd, reduceSub, reduceMul, reduceEqDiff, reduceLeDiff, Nat.reduceBEq, reduceLT, reduceIte, reduceCtorEq, Int.reduceToNat, a1, a3, hq, hq2, htk, Nat.mul_one, Nat.zero_add, Nat.sub_zero, Nat.le_refl, box_get, beq_self_eq_true, Int.reduceBEq, List.length_map])))
        | ((first | apply callE | apply callEG | apply callE0); (case' hp => (first | refine' nr _ rfl | (refine' (fun hg => ?_); refine' nr _ rfl))); (case' h => ((first | refine evOps_fin ?_ | refine And.intro ?_ (evD_fin ?_) | refine evD_fin ?_) <;> simp only [go_sem, reduceAdd, reduceSub, reduceMul, reduceEqDiff, reduceLeDiff, Nat.reduceBEq, reduceLT, reduceIte, reduceCtorEq, Int.reduceToNat, a1, a3, hq, hq2, htk, Nat.mul_one, Nat.zero_add, Nat.sub_zero, Nat.le_refl, box_get, beq_self_eq_true, Int.reduceBEq, List.length_map])))
        | (refine callX ?_; (first | refine evOps_fin ?_ | refine And.intro ?_ (evD_fin ?_) | refine evD_fin ?_) <;> simp only [go_sem, reduceAdd, reduceSub, reduceMul, reduceEqDiff, reduceLeDiff, Nat.reduceBEq, reduceLT, reduceIte, reduceCtorEq, Int.reduceToNat, a1, a3, hq, hq2, htk, Nat.mul_one, Nat.zero_add, Nat.sub_zero, Nat.le_refl, box_get, beq_self_eq_true, Int.reduceBEq, List.length_map])
end Go.Proofs.Ytmpmggbcmioipaa
