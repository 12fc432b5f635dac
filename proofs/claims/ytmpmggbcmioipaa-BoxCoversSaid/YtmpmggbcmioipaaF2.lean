import Derived.Test.YtmpmggbcmioipaaF1
import Derived.Test.YtmpmggbcmioipaaK19
import Derived.Test.YtmpmggbcmioipaaK20
set_option linter.all false
namespace Go.Proofs.Ytmpmggbcmioipaa
open Nat (reduceAdd reduceSub reduceMul reduceEqDiff reduceLeDiff reduceLT)
open Go Go.K
set_option maxRecDepth 20000
set_option maxHeartbeats 8000000
theorem clone06_run {ow : List Own} {j : Nat} (ho : ow[j]? = some .free) (l : List Box) (hne : l ≠ []) (hl : l.length ≤ 256) :
    Run Try.prog 35 [.sl (l.map encBox)] [j] ow (.rs j 1 0 l.length) [(j, .blk 33 1 6 (l.map encBox))] := by
  have hq : l.length ≤ maxLen := by unfold maxLen; omega
  have hq2 : l.length * 48 ≤ 140737488355328 := by omega
  refine run_of_ev tt_ok Try.func35 rfl (by decide +kernel) (Nat.le_of_ble_eq_true rfl) (by simp) (fun F hF => ⟨?_, ?_⟩)
  · simp only [go_sem, reduceAdd, reduceSub, reduceMul, reduceEqDiff, reduceLeDiff, Nat.reduceBEq, reduceLT, reduceIte, reduceCtorEq, Int.reduceToNat]
    exact rowsUnder_lit _ (lit_box l)
  have hj := (hF j (by simp)).symm.trans ho
  have hlt := get_lt hj
  simp only [Try.f35]
  refine ev_seq (fun K hK => ?_)
  refine evr tt_ok false ?_
  simp only [go_sem, reduceAdd, reduceSub, reduceMul, reduceEqDiff, reduceLeDiff, Nat.reduceBEq, reduceLT, reduceIte, reduceCtorEq, Int.reduceToNat, ap_get0, ap_getk, ap_set0, ap_setk, ap_get _ _ hlt, ap_set _ _ hlt, aps_get0, aps_getk, aps_set0, aps_setk, aps_get hlt, aps_set hlt, List.append_assoc, List.length_append, List.length_set]
  apply hK; clear hK
  refine ev_seq (fun K hK => ?_)
  refine ev_seq (fun K2 hK2 => ?_)
  refine ev_region2 tt_ok false ?_
  simp only [go_sem, reduceAdd, reduceSub, reduceMul, reduceEqDiff, reduceLeDiff, Nat.reduceBEq, reduceLT, reduceIte, reduceCtorEq, Int.reduceToNat, ap_get0, ap_getk, ap_set0, ap_setk, ap_get _ _ hlt, ap_set _ _ hlt, aps_get0, aps_getk, aps_set0, aps_setk, aps_get hlt, aps_set hlt, List.append_assoc, List.length_append, List.length_set]
  refine ev2_step ?_
  simp only [go_sem, reduceAdd, reduceSub, reduceMul, reduceEqDiff, reduceLeDiff, Nat.reduceBEq, reduceLT, reduceIte, reduceCtorEq, Int.reduceToNat, ap_get0, ap_getk, ap_set0, ap_setk, ap_get _ _ hlt, ap_set _ _ hlt, aps_get0, aps_getk, aps_set0, aps_setk, aps_get hlt, aps_set hlt, List.append_assoc, List.length_append, List.length_set]
  refine ev2_spec rfl (by simp only [go_sem, reduceAdd, reduceSub, reduceMul, reduceEqDiff, reduceLeDiff, Nat.reduceBEq, reduceLT, reduceIte, reduceCtorEq, Int.reduceToNat]) (Spec.nilcmp (rows := l.map encBox) rfl rfl) ?_
  rintro x ⟨b, rfl, hb⟩
  refine ev2_nil ?_
  apply hK2; clear hK2
  obtain rfl : b = false := hb (by simpa using hne)
  refine evc (fun X Y hX hY => ?_)
  simp only [go_sem, reduceAdd, reduceSub, reduceMul, reduceEqDiff, reduceLeDiff, Nat.reduceBEq, reduceLT, reduceIte, reduceCtorEq, Int.reduceToNat, ap_get0, ap_getk, ap_set0, ap_setk, ap_get _ _ hlt, ap_set _ _ hlt, aps_get0, aps_getk, aps_set0, aps_setk, aps_get hlt, aps_set hlt, List.append_assoc, List.length_append, List.length_set]
  refine hY ?_
  clear hX hY
  refine ev_skip ?_
  apply hK; clear hK
  refine ev_seq (fun K hK => ?_)
  refine ev_regionT tt_ok [j, 0, 0, 0] rfl ?_
  refine evOps_fin ?_
  simp only [go_sem, reduceAdd, reduceSub, reduceMul, reduceEqDiff, reduceLeDiff, Nat.reduceBEq, reduceLT, reduceIte, reduceCtorEq, Int.reduceToNat, ap_get0, ap_getk, ap_set0, ap_setk, ap_get _ _ hlt, ap_set _ _ hlt, aps_get0, aps_getk, aps_set0, aps_setk, aps_get hlt, aps_set hlt, List.append_assoc, List.length_append, List.length_set, set_get hlt, List.set_set, hj, hlt, hq, hq2, Nat.mul_one, Nat.zero_add, List.length_map, box_get, Nat.le_refl]
  refine ⟨Nat.zero_le _, ?_⟩
  apply hK; clear hK
  repeat' first
    | refine ev_seq (fun K hK => ?_)
    | ((first | refine evr tt_ok false ?_ | refine ev_skip ?_ | refine ev_ret ?_ | refine ev_exit ?_ | refine evc (fun X Y hX hY => ?_)); simp only [go_sem, reduceAdd, reduceSub, reduceMul, reduceEqDiff, reduceLeDiff, Nat.reduceBEq, reduceLT, reduceIte, reduceCtorEq, Int.reduceToNat, ap_get0, ap_getk, ap_set0, ap_setk, ap_get _ _ hlt, ap_set _ _ hlt, aps_get0, aps_getk, aps_set0, aps_setk, aps_get hlt, aps_set hlt, List.append_assoc, List.length_append, List.length_set, set_get hlt, List.set_set, hj, hlt, List.length_map, Nat.le_refl]; try (first | (refine ⟨fun h => hX ?_, fun h => hY ?_⟩; clear hX hY) | (refine hX ?_; clear hX hY) | (refine hY ?_; clear hX hY)))
    | refine ev_block ?_
    | (apply hK; clear hK)
    | apply_assumption -exfalso -symm only [*]
    | (refine And.intro ?_ ?_; first | omega | assumption | (unfold maxLen; omega) | (simp only [decide_eq_true_eq, decide_eq_false_iff_not, Int.not_lt, Int.not_le] at h; omega))
  exact ⟨[], (List.append_nil _).symm⟩
def delR (R : List Box) (k d : Nat) : List Box := (R.take k ++ (R.drop (k + 1)).take d ++ R.drop (k + d)).set (k + d) Box.zero
theorem delete06_run {ow : List Own} {j ver : Nat} (R : List Box) (ho : ow[j]? = some (.blk 33 ver 6 (R.map encBox))) (k d : Nat) (hk : k + d + 1 ≤ R.length) (hR : R.length ≤ 256) :
    Run Try.prog 37 [.rs j ver 0 (k + d + 1), .int .i64 (k : Int), .int .i64 ((k + 1 : Nat) : Int)] [j] ow (.rs j ver 0 (k + d)) [(j, .blk 33 ver 6 ((delR R k d).map encBox))] := by
  refine run_of_ev tt_ok Try.func37 rfl (by decide +kernel) (Nat.le_of_ble_eq_true rfl) (by simp) (fun F hF => ⟨?_, ?_⟩)
  · simp only [go_sem, reduceAdd, reduceSub, reduceMul, reduceEqDiff, reduceLeDiff, Nat.reduceBEq, reduceLT, reduceIte, reduceCtorEq, Int.reduceToNat]
    exact rowsUnder_lit _ (lit_box _)
  have hj := (hF j (by simp)).symm.trans ho
  have hlt := get_lt hj
  have a1 : (0 : Int) ≤ (k : Int) := by omega
  have a2 : (k : Int) ≤ ((k + 1 : Nat) : Int) := by omega
  have a3 : ((k + 1 : Nat) : Int) ≤ ((k + d + 1 : Nat) : Int) := by omega
  have a4 : ((k : Int) == ((k + 1 : Nat) : Int)) = false := by rw [beq_eq_false_iff_ne]; omega
  have a5 : (k : Int) ≤ ((k + d + 1 : Nat) : Int) := by omega
  have hlen : (R.map encBox).length = R.length := List.length_map ..
  simp only [Try.f37]
  refine ev_seq (fun K hK => ?_)
  refine evr tt_ok false ?_
  simp only [go_sem, reduceAdd, reduceSub, reduceMul, reduceEqDiff, reduceLeDiff, Nat.reduceBEq, reduceLT, reduceIte, reduceCtorEq, Int.reduceToNat, ap_get0, ap_getk, ap_set0, ap_setk, ap_get _ _ hlt, ap_set _ _ hlt, aps_get0, aps_getk, aps_set0, aps_setk, aps_get hlt, aps_set hlt, List.append_assoc, List.length_append, List.length_set]
  apply hK; clear hK
  refine ev_seq (fun K hK => ?_)
  refine ev_region2 tt_ok false ?_
  simp only [go_sem, reduceAdd, reduceSub, reduceMul, reduceEqDiff, reduceLeDiff, Nat.reduceBEq, reduceLT, reduceIte, reduceCtorEq, Int.reduceToNat, ap_get0, ap_getk, ap_set0, ap_setk, ap_get _ _ hlt, ap_set _ _ hlt, aps_get0, aps_getk, aps_set0, aps_setk, aps_get hlt, aps_set hlt, List.append_assoc, List.length_append, List.length_set]
  iterate 5
    refine ev2_step ?_
    simp only [go_sem, reduceAdd, reduceSub, reduceMul, reduceEqDiff, reduceLeDiff, Nat.reduceBEq, reduceLT, reduceIte, reduceCtorEq, Int.reduceToNat, ap_get0, ap_getk, ap_set0, ap_setk, ap_get _ _ hlt, ap_set _ _ hlt, aps_get0, aps_getk, aps_set0, aps_setk, aps_get hlt, aps_set hlt, List.append_assoc, List.length_append, List.length_set, hj, hlen, hlt, Nat.sub_zero]
  refine ev2_spec rfl (by simp only [go_sem, reduceAdd, reduceSub, reduceMul, reduceEqDiff, reduceLeDiff, Nat.reduceBEq, reduceLT, reduceIte, reduceCtorEq, Int.reduceToNat]) (Spec.slice3 (rows := R.map encBox) rfl hj (by rw [hlen]; omega) rfl rfl rfl rfl (by decide) a1 a2 a3 (Int.le_refl _)) ?_
  rintro x rfl
  refine ev2_nil ?_
  apply hK; clear hK
  refine ev_seq (fun K hK => ?_)
  refine ev_seq (fun K2 hK2 => ?_)
  refine evr tt_ok false ?_
  simp only [go_sem, reduceAdd, reduceSub, reduceMul, reduceEqDiff, reduceLeDiff, Nat.reduceBEq, reduceLT, reduceIte, reduceCtorEq, Int.reduceToNat, ap_get0, ap_getk, ap_set0, ap_setk, ap_get _ _ hlt, ap_set _ _ hlt, aps_get0, aps_getk, aps_set0, aps_setk, aps_get hlt, aps_set hlt, List.append_assoc, List.length_append, List.length_set, a4]
  apply hK2; clear hK2
  refine evc (fun X Y hX hY => ?_)
  simp only [go_sem, reduceAdd, reduceSub, reduceMul, reduceEqDiff, reduceLeDiff, Nat.reduceBEq, reduceLT, reduceIte, reduceCtorEq, Int.reduceToNat, ap_get0, ap_getk, ap_set0, ap_setk, ap_get _ _ hlt, ap_set _ _ hlt, aps_get0, aps_getk, aps_set0, aps_setk, aps_get hlt, aps_set hlt, List.append_assoc, List.length_append, List.length_set]
  refine hY ?_
  clear hX hY
  refine ev_skip ?_
  apply hK; clear hK
  refine ev_seq (fun K hK => ?_)
  refine evr tt_ok false ?_
  simp only [go_sem, reduceAdd, reduceSub, reduceMul, reduceEqDiff, reduceLeDiff, Nat.reduceBEq, reduceLT, reduceIte, reduceCtorEq, Int.reduceToNat, ap_get0, ap_getk, ap_set0, ap_setk, ap_get _ _ hlt, ap_set _ _ hlt, aps_get0, aps_getk, aps_set0, aps_setk, aps_get hlt, aps_set hlt, List.append_assoc, List.length_append, List.length_set, hj, hlen, hlt, Nat.sub_zero]
  apply hK; clear hK
  refine ev_seq (fun K hK => ?_)
  refine ev_region_tail rfl tt_ok 6 [] (by decide +kernel) ?_
  refine evD_fin ?_
  simp only [go_sem, reduceAdd, reduceSub, reduceMul, reduceEqDiff, reduceLeDiff, Nat.reduceBEq, reduceLT, reduceIte, reduceCtorEq, Int.reduceToNat, ap_get0, ap_getk, ap_set0, ap_setk, ap_get _ _ hlt, ap_set _ _ hlt, aps_get0, aps_getk, aps_set0, aps_setk, aps_get hlt, aps_set hlt, List.append_assoc, List.length_append, List.length_set, hj, hlen, hlt, Nat.sub_zero, Option.toArray, List.take_succ_cons, List.take_zero, List.drop_succ_cons, List.drop_zero, List.map_cons, List.map_nil, Int.toNat_natCast]
  refine ⟨by omega, ?_⟩
  have e1 : k + (k + d + 1 - (k + 1)) = k + d := by omega
  have e2 : k + d + 1 - (k + 1) = d := by omega
  refine ev2_spec rfl (by simp only [go_sem, reduceAdd, reduceSub, reduceMul, reduceEqDiff, reduceLeDiff, Nat.reduceBEq, reduceLT, reduceIte, reduceCtorEq, Int.reduceToNat]) (Spec.room (tb := 33) (rows := R.map encBox) rfl rfl hj (by rw [hlen]; omega) (by decide) (by decide) (by decide) (by omega) (by rw [hlen]; omega) (by rw [hlen]; omega)) ?_
  rintro x rfl
  obtain ⟨R1, hR1⟩ : ∃ R1, R1 = R.take k ++ (R.drop (k + 1)).take d ++ R.drop (k + d) := ⟨_, rfl⟩
  have hl1 : R1.length = R.length := by rw [hR1]; simp only [List.length_append, List.length_take, List.length_drop]; omega
  have hr1 : (R.map encBox).take k ++ ((R.map encBox).drop (k + 1)).take d ++ (R.map encBox).drop (k + d) = R1.map encBox := by
    rw [hR1]; simp only [List.map_append, List.map_take, List.map_drop]
  have hdel : delR R k d = R1.set (k + d) Box.zero := by rw [hR1]; rfl
  have hset : (R1.map encBox).set (k + d) (encBox Box.zero) = (delR R k d).map encBox := by rw [hdel, List.map_set]
  rw [e2, hr1]
  refine ev2_step ?_
  simp only [go_sem, reduceAdd, reduceSub, reduceMul, reduceEqDiff, reduceLeDiff, Nat.reduceBEq, reduceLT, reduceIte, reduceCtorEq, Int.reduceToNat, ap_get0, ap_getk, ap_set0, ap_setk, ap_get _ _ hlt, ap_set _ _ hlt, aps_get0, aps_getk, aps_set0, aps_setk, aps_get hlt, aps_set hlt, List.append_assoc, List.length_append, List.length_set, hj, hlen, hlt, Nat.sub_zero]
  refine ev2_nil ?_
  apply hK; clear hK
  refine ev_seq (fun K hK => ?_)
  refine ev_region2 tt_ok false ?_
  simp only [go_sem, reduceAdd, reduceSub, reduceMul, reduceEqDiff, reduceLeDiff, Nat.reduceBEq, reduceLT, reduceIte, reduceCtorEq, Int.reduceToNat, ap_get0, ap_getk, ap_set0, ap_setk, ap_get _ _ hlt, ap_set _ _ hlt, aps_get0, aps_getk, aps_set0, aps_setk, aps_get hlt, aps_set hlt, List.append_assoc, List.length_append, List.length_set]
  have hlen1 : (R1.map encBox).length = R.length := by rw [List.length_map, hl1]
  have b1 : (0 : Int) ≤ ((k + d : Nat) : Int) := by omega
  have b2 : ((k + d : Nat) : Int) ≤ ((k + d + 1 : Nat) : Int) := by omega
  have hj1 : (F.set j (.blk 33 ver 6 (R1.map encBox)))[j]? = some (.blk 33 ver 6 (R1.map encBox)) := List.getElem?_set_self hlt
  iterate 4
    refine ev2_step ?_
    simp only [go_sem, reduceAdd, reduceSub, reduceMul, reduceEqDiff, reduceLeDiff, Nat.reduceBEq, reduceLT, reduceIte, reduceCtorEq, Int.reduceToNat, ap_get0, ap_getk, ap_set0, ap_setk, ap_get _ _ hlt, ap_set _ _ hlt, aps_get0, aps_getk, aps_set0, aps_setk, aps_get hlt, aps_set hlt, List.append_assoc, List.length_append, List.length_set, set_get hlt, hj, hlen1, hlt, Nat.sub_zero]
  refine ev2_spec rfl (by simp only [go_sem, reduceAdd, reduceSub, reduceMul, reduceEqDiff, reduceLeDiff, Nat.reduceBEq, reduceLT, reduceIte, reduceCtorEq, Int.reduceToNat]) (Spec.over (rows := R1.map encBox) rfl hj1 (by rw [hlen1]; omega) rfl rfl (by decide) (by decide) (by decide) b1 b2 (by rw [hlen1]; omega)) ?_
  rintro x rfl
  simp only [go_sem, reduceAdd, reduceSub, reduceMul, reduceEqDiff, reduceLeDiff, Nat.reduceBEq, reduceLT, reduceIte, reduceCtorEq, Int.reduceToNat, ap_get0, ap_getk, ap_set0, ap_setk, ap_get _ _ hlt, ap_set _ _ hlt, aps_get0, aps_getk, aps_set0, aps_setk, aps_get hlt, aps_set hlt, List.append_assoc, List.length_append, List.length_set, Int.toNat_natCast]
  refine ev2_spec rfl (by simp only [go_sem, reduceAdd, reduceSub, reduceMul, reduceEqDiff, reduceLeDiff, Nat.reduceBEq, reduceLT, reduceIte, reduceCtorEq, Int.reduceToNat]) (Spec.clear1 (tb := 33) (lo := k + d) (rows := R1.map encBox) rfl hj1 (by decide) (by decide) (by decide) (by decide) (by rw [hlen1]; omega)) ?_
  rintro x rfl
  refine ev2_nil ?_
  have hz : ((R1.map encBox).set (k + d) (tt 33).z) = (delR R k d).map encBox := hset
  rw [hz]
  apply hK; clear hK
  repeat' first
    | refine ev_seq (fun K hK => ?_)
    | ((first | refine evrd (id := 5) hmix tt_ok false [([], false), ([], false), ([], false), ([], false), ([], false), ([], false), ([], false), ([], false)] (by decide +kernel) ?_ | refine evr tt_ok false ?_ | refine ev_skip ?_ | refine ev_ret ?_ | refine ev_exit ?_ | refine evc (fun X Y hX hY => ?_)); simp only [go_sem, reduceAdd, reduceSub, reduceMul, reduceEqDiff, reduceLeDiff, Nat.reduceBEq, reduceLT, reduceIte, reduceCtorEq, Int.reduceToNat, ap_get0, ap_getk, ap_set0, ap_setk, ap_get _ _ hlt, ap_set _ _ hlt, aps_get0, aps_getk, aps_set0, aps_setk, aps_get hlt, aps_set hlt, List.append_assoc, List.length_append, List.length_set, set_get hlt, List.set_set, hj, hlt, List.length_map, Nat.le_refl]; try (first | (refine ⟨fun h => hX ?_, fun h => hY ?_⟩; clear hX hY) | (refine hX ?_; clear hX hY) | (refine hY ?_; clear hX hY)))
    | refine ev_block ?_
    | (apply hK; clear hK)
    | apply_assumption -exfalso -symm only [*]
    | (refine And.intro ?_ ?_; first | omega | assumption | (unfold maxLen; omega) | (simp only [decide_eq_true_eq, decide_eq_false_iff_not, Int.not_lt, Int.not_le] at h; omega))
  exact ⟨[], (List.append_nil _).symm⟩
end Go.Proofs.Ytmpmggbcmioipaa
