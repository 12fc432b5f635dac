import Derived.Test.YtokhaefcnbiadaaMO
set_option linter.all false
namespace Go.Proofs.Ytokhaefcnbiadaa
open Nat (reduceAdd reduceSub reduceMul reduceEqDiff reduceLeDiff reduceLT)
open Go Go.K
set_option maxRecDepth 20000
set_option maxHeartbeats 8000000
theorem pro20_ok : pro20.ok := by decide +kernel
theorem bytes20 : bytesL pro20.f.v := by
  intro b hb
  simp [pro20, fld20] at hb
  omega
theorem triv20 : trivM pro20 ⟨0, 0, 0⟩ = ⟨⟨⟨0, 0, 0⟩, 32, 32, 0, 9, [⟨0, 0, 0, 0⟩]⟩, 0⟩ := by
  unfold trivM
  rw [if_pos pro20_ok, if_pos (by decide +kernel)]
  have e1 : boundM pro20 ⟨0, 0, 0, 0⟩ = 9 := by decide +kernel
  have e2 : (allL pro20).map toB = [⟨0, 0, 0, 0⟩] := by rfl
  simp only [e1, e2]
  rfl
theorem awake20_pure : Pure Try.prog 27 [] (.bool true) := by
  have sp := small_pure
  have tp := triv_pure pro20 bytes20 (by decide) ⟨0, 0, 0⟩
  rw [triv20] at tp
  have cp := check_pure pro20 bytes20 (by decide) ⟨⟨0, 0, 0⟩, 32, 32, 0, 9, [⟨0, 0, 0, 0⟩]⟩
  have e3 : checkM pro20 ⟨⟨0, 0, 0⟩, 32, 32, 0, 9, [⟨0, 0, 0, 0⟩]⟩ = 0 := by decide +kernel
  rw [e3] at cp
  have np := count_pure pro20 (by decide) ⟨0, 0, 0, 0⟩
  have e4 : countM pro20 ⟨0, 0, 0, 0⟩ = 1 := by decide +kernel
  rw [e4] at np
  simp only [encMa, encM, encP, enC, enBl, pro20, fld20, List.map_cons, List.map_nil, enB, enBm] at tp cp np
  (refine pure_of_ev tt_ok Try.func27 rfl (by decide +kernel) (Nat.le_of_ble_eq_true rfl) ?_; simp only [Try.f27])
  repeat' first
    | refine ev_seq (fun K hK => ?_)
    | ((first | refine evr tt_ok false ?_ | refine ev_skip ?_ | refine ev_ret ?_ | refine ev_exit ?_ | refine evc (fun X Y hX hY => ?_)); simp only [go_sem, reduceAdd, reduceSub, reduceMul, reduceEqDiff, reduceLeDiff, Nat.reduceBEq, reduceLT, reduceIte, reduceCtorEq, Int.reduceToNat, Int.reduceBEq, beq_self_eq_true, List.length_cons, List.length_nil]; try (first | (refine ⟨fun h => hX ?_, fun h => hY ?_⟩; clear hX hY) | (refine hX ?_; clear hX hY) | (refine hY ?_; clear hX hY)))
    | refine ev_block ?_
    | (apply hK; clear hK)
    | apply_assumption -exfalso -symm only [*]
    | (refine And.intro ?_ ?_; first | omega | assumption | (unfold maxLen; omega) | (simp only [decide_eq_true_eq, decide_eq_false_iff_not, Int.not_lt, Int.not_le] at h; omega))
    | ((first | apply callP | apply callPG | apply callP0); (case' hv => (simp only [go_sem, reduceAdd, reduceSub, reduceMul, reduceEqDiff, reduceLeDiff, Nat.reduceBEq, reduceLT, reduceIte, reduceCtorEq, Int.reduceToNat, Int.reduceBEq, beq_self_eq_true, List.length_cons, List.length_nil]; try exact rfl)); (case' hp => (first | refine' sp | (refine' (fun hg => ?_); refine' sp) | refine' tp | (refine' (fun hg => ?_); refine' tp) | refine' cp | (refine' (fun hg => ?_); refine' cp) | refine' np | (refine' (fun hg => ?_); refine' np))); (case' h => ((first | refine evOps_fin ?_ | refine And.intro ?_ (evD_fin ?_) | refine evD_fin ?_) <;> simp only [go_sem, reduceAdd, reduceSub, reduceMul, reduceEqDiff, reduceLeDiff, Nat.reduceBEq, reduceLT, reduceIte, reduceCtorEq, Int.reduceToNat, Int.reduceBEq, beq_self_eq_true, List.length_cons, List.length_nil])))
    | (refine callX ?_; (first | refine evOps_fin ?_ | refine And.intro ?_ (evD_fin ?_) | refine evD_fin ?_) <;> simp only [go_sem, reduceAdd, reduceSub, reduceMul, reduceEqDiff, reduceLeDiff, Nat.reduceBEq, reduceLT, reduceIte, reduceCtorEq, Int.reduceToNat, Int.reduceBEq, beq_self_eq_true, List.length_cons, List.length_nil])
  all_goals rfl
end Go.Proofs.Ytokhaefcnbiadaa
