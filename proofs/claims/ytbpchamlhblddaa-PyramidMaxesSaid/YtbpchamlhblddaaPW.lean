import Derived.Test.YtbpchamlhblddaaPJ
set_option linter.all false
namespace Go.Proofs.Ytbpchamlhblddaa
open Nat (reduceAdd reduceSub reduceMul reduceEqDiff reduceLeDiff reduceLT)
open Go Go.K
set_option maxRecDepth 20000
set_option maxHeartbeats 8000000
theorem fclone_run {ow : List Own} {j : Nat} (ho : ow[j]? = some .free) (f : Fld) (hl : f.v.length ≤ 16384) :
    Run Try.prog 20 [.agg [.int .i64 f.x, .int .i64 f.y, .int .i64 f.w, .int .i64 f.h, .sl (f.v.map enB)]] [j] ow (.agg [.int .i64 f.x, .int .i64 f.y, .int .i64 f.w, .int .i64 f.h, .rs j 1 0 f.v.length]) [(j, .blk 5 1 1 (f.v.map enB))] := by
  obtain ⟨x, y, w, h, L⟩ := f
  simp only at hl ⊢
  have hq : L.length ≤ maxLen := by unfold maxLen; omega
  have hq2 : L.length ≤ 140737488355328 := by omega
  refine run_of_ev tt_ok Try.func20 rfl (by decide +kernel) (Nat.le_of_ble_eq_true rfl) (by simp) (fun F hF => ⟨?_, ?_⟩)
  · simp only [go_sem, reduceAdd, reduceSub, reduceMul, reduceEqDiff, reduceLeDiff, Nat.reduceBEq, reduceLT, reduceIte, reduceCtorEq, Int.reduceToNat]
    exact rowsUnder_lit _ (lit_enB L)
  have hj := (hF j (by simp)).symm.trans ho
  have hlt := get_lt hj
  simp only [Try.f20]
  refine ev_seq (fun K hK => ?_)
  refine evr tt_ok false ?_
  simp only [go_sem, reduceAdd, reduceSub, reduceMul, reduceEqDiff, reduceLeDiff, Nat.reduceBEq, reduceLT, reduceIte, reduceCtorEq, Int.reduceToNat, ap_get0, ap_getk, ap_set0, ap_setk, ap_get _ _ hlt, ap_set _ _ hlt, aps_get0, aps_getk, aps_set0, aps_setk, aps_get hlt, aps_set hlt, List.append_assoc, List.length_append, List.length_set]
  apply hK; clear hK
  refine ev_seq (fun K hK => ?_)
  refine ev_regionT tt_ok [j, 0, 0, 0, 0, 0] rfl ?_
  refine evOps_fin ?_
  simp only [go_sem, reduceAdd, reduceSub, reduceMul, reduceEqDiff, reduceLeDiff, Nat.reduceBEq, reduceLT, reduceIte, reduceCtorEq, Int.reduceToNat, ap_get0, ap_getk, ap_set0, ap_setk, ap_get _ _ hlt, ap_set _ _ hlt, aps_get0, aps_getk, aps_set0, aps_setk, aps_get hlt, aps_set hlt, List.append_assoc, List.length_append, List.length_set, hj, hlt, hq, hq2, Nat.mul_one, Nat.zero_add, List.length_map, byte_get, Nat.le_refl]
  refine ⟨Nat.zero_le _, ?_⟩
  apply hK; clear hK
  repeat' first
    | refine ev_seq (fun K hK => ?_)
    | ((first | refine evr tt_ok false ?_ | refine ev_skip ?_ | refine ev_ret ?_ | refine ev_exit ?_ | refine evc (fun X Y hX hY => ?_)); simp only [go_sem, reduceAdd, reduceSub, reduceMul, reduceEqDiff, reduceLeDiff, Nat.reduceBEq, reduceLT, reduceIte, reduceCtorEq, Int.reduceToNat, ap_get0, ap_getk, ap_set0, ap_setk, ap_get _ _ hlt, ap_set _ _ hlt, aps_get0, aps_getk, aps_set0, aps_setk, aps_get hlt, aps_set hlt, List.append_assoc, List.length_append, List.length_set, hj, hlt, List.length_map, Nat.le_refl]; try (first | (refine ⟨fun h => hX ?_, fun h => hY ?_⟩; clear hX hY) | (refine hX ?_; clear hX hY) | (refine hY ?_; clear hX hY)))
    | refine ev_block ?_
    | (apply hK; clear hK)
    | apply_assumption -exfalso -symm only [*]
    | (refine And.intro ?_ ?_; first | omega | assumption | (unfold maxLen; omega) | (simp only [decide_eq_true_eq, decide_eq_false_iff_not, Int.not_lt, Int.not_le] at h; omega))
  exact ⟨_, rfl⟩
end Go.Proofs.Ytbpchamlhblddaa
