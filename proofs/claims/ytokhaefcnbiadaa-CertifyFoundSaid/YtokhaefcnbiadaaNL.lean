import Derived.Test.YtokhaefcnbiadaaNJ
import Derived.Test.YtokhaefcnbiadaaMP
set_option linter.all false
namespace Go.Proofs.Ytokhaefcnbiadaa
open Nat (reduceAdd reduceSub reduceMul reduceEqDiff reduceLeDiff reduceLT)
open Go Go.K
set_option maxRecDepth 20000
set_option maxHeartbeats 8000000
theorem cfound_pure (p : Prob) (c : Cnd) (hb : bytesL p.f.v) : Pure Try.prog 18 [.agg (encP p), .agg (enC c)] (.bool true) := by
  have aw := awake20_pure
  have fw := few20_pure p 0 0 0 0 0 0 0
  by_cases hf : fewP p 0
  · rw [decide_eq_true hf] at fw
    have hl : (p.s.length : Int) < 4611686018427387904 := by have := hf.2.1; omega
    have fp := find_pure p hb hl
    unfold fndR at fp
    by_cases h : p.ok
    · rw [if_pos h] at fp
      have hlen : ¬ (400 : Int) < (fndM p).l.length := by
        have := good_len h (found h hb)
        have := (hf.2.2.2 h).1
        omega
      have c1 := check_pure p hb hl (fndM p)
      rw [fnd_check h hb] at c1
      have hin : inW p (fndM p).b := (opt_of h hb).in'
      have t1 := triv_pure p hb hl (fndM p).b
      have c2 := check_pure p hb hl (trivM p (fndM p).b).m
      rw [(triv_iff h hb hin).2 rfl] at c2
      have e1 : (trivM p (fndM p).b).e = 0 := by unfold trivM; rw [if_pos h, if_pos hin]
      have t2 := triv_pure p hb hl c
      have c3 := check_pure p hb hl (trivM p c).m
      have hi := fun hc => triv_iff h hb (c := c) hc
      have e2 : (inW p c ∧ (trivM p c).e = 0) ∨ (trivM p c).e = 2 := by
        unfold trivM
        rw [if_pos h]
        by_cases hc : inW p c
        · rw [if_pos hc]; exact .inl ⟨hc, rfl⟩
        · rw [if_neg hc]; exact .inr rfl
      generalize fndM p = m at *
      generalize trivM p m.b = T at *
      generalize trivM p c = U at *
      rcases e2 with ⟨hc, e2⟩ | e2
      · have hi := hi hc
        by_cases hcb : c = m.b
        · rw [hi.2 hcb] at c3
          subst hcb
          simp only [encP, enC, encMa, encM, e1, e2] at *
          (refine pure_of_ev tt_ok Try.func18 rfl (by decide +kernel) (Nat.le_of_ble_eq_true rfl) ?_; simp only [Try.f18])
          repeat' first
            | refine ev_seq (fun K hK => ?_)
            | ((first | refine evrd (id := 14) hmix tt_ok false [([], false), ([], false), ([], true), ([], false), ([2], false), ([2], false), ([2], false), ([2], false), ([], false), ([], false)] (by decide +kernel) ?_ | refine evr tt_ok false ?_ | refine ev_skip ?_ | refine ev_ret ?_ | refine ev_exit ?_ | refine evc (fun X Y hX hY => ?_)); simp only [go_sem, reduceAdd, reduceSub, reduceMul, reduceEqDiff, reduceLeDiff, Nat.reduceBEq, reduceLT, reduceIte, reduceCtorEq, Int.reduceToNat, hlen, List.length_map, bne, Int.reduceBEq, beq_self_eq_true]; try (first | (refine ⟨fun h => hX ?_, fun h => hY ?_⟩; clear hX hY) | (refine hX ?_; clear hX hY) | (refine hY ?_; clear hX hY)))
            | refine ev_block ?_
            | (apply hK; clear hK)
            | apply_assumption -exfalso -symm only [*]
            | (refine And.intro ?_ ?_; first | omega | assumption | (unfold maxLen; omega) | (simp only [decide_eq_true_eq, decide_eq_false_iff_not, Int.not_lt, Int.not_le] at h; omega))
            | ((first | apply callP | apply callPG | apply callP0); (case' hv => (simp only [go_sem, reduceAdd, reduceSub, reduceMul, reduceEqDiff, reduceLeDiff, Nat.reduceBEq, reduceLT, reduceIte, reduceCtorEq, Int.reduceToNat, hlen, List.length_map, bne, Int.reduceBEq, beq_self_eq_true]; try exact rfl)); (case' hp => (first | refine' aw | (refine' (fun hg => ?_); refine' aw) | refine' fw | (refine' (fun hg => ?_); refine' fw) | refine' fp | (refine' (fun hg => ?_); refine' fp) | refine' c1 | (refine' (fun hg => ?_); refine' c1) | refine' t1 | (refine' (fun hg => ?_); refine' t1) | refine' c2 | (refine' (fun hg => ?_); refine' c2) | refine' t2 | (refine' (fun hg => ?_); refine' t2) | refine' c3 | (refine' (fun hg => ?_); refine' c3))); (case' h => ((first | refine evOps_fin ?_ | refine And.intro ?_ (evD_fin ?_) | refine evD_fin ?_) <;> simp only [go_sem, reduceAdd, reduceSub, reduceMul, reduceEqDiff, reduceLeDiff, Nat.reduceBEq, reduceLT, reduceIte, reduceCtorEq, Int.reduceToNat, hlen, List.length_map, bne, Int.reduceBEq, beq_self_eq_true])))
            | (refine callX ?_; (first | refine evOps_fin ?_ | refine And.intro ?_ (evD_fin ?_) | refine evD_fin ?_) <;> simp only [go_sem, reduceAdd, reduceSub, reduceMul, reduceEqDiff, reduceLeDiff, Nat.reduceBEq, reduceLT, reduceIte, reduceCtorEq, Int.reduceToNat, hlen, List.length_map, bne, Int.reduceBEq, beq_self_eq_true])
        · have hz : (checkM p U.m == 0) = false := by rw [beq_eq_false_iff_ne]; exact fun e => hcb (hi.1 e)
          have hne : (((c.k == m.b.k) && (c.y == m.b.y)) && (c.x == m.b.x)) = false := by
            rw [Bool.eq_false_iff]
            simp only [ne_eq, Bool.and_eq_true, beq_iff_eq]
            exact fun e => hcb (by cases c; simp only at e; obtain ⟨⟨rfl, rfl⟩, rfl⟩ := e; rfl)
          have hne2 : ((c.k == m.b.k) && ((c.y == m.b.y) && (c.x == m.b.x))) = false := by rw [← Bool.and_assoc]; exact hne
          generalize checkM p U.m = q at *
          simp only [encP, enC, encMa, encM, e1, e2] at *
          (refine pure_of_ev tt_ok Try.func18 rfl (by decide +kernel) (Nat.le_of_ble_eq_true rfl) ?_; simp only [Try.f18])
          repeat' first
            | refine ev_seq (fun K hK => ?_)
            | ((first | refine evrd (id := 14) hmix tt_ok false [([], false), ([], false), ([], true), ([], false), ([2], false), ([2], false), ([2], false), ([2], false), ([], false), ([], false)] (by decide +kernel) ?_ | refine evr tt_ok false ?_ | refine ev_skip ?_ | refine ev_ret ?_ | refine ev_exit ?_ | refine evc (fun X Y hX hY => ?_)); simp only [go_sem, reduceAdd, reduceSub, reduceMul, reduceEqDiff, reduceLeDiff, Nat.reduceBEq, reduceLT, reduceIte, reduceCtorEq, Int.reduceToNat, hlen, hz, hne, hne2, List.length_map, bne, Int.reduceBEq, beq_self_eq_true]; try (first | (refine ⟨fun h => hX ?_, fun h => hY ?_⟩; clear hX hY) | (refine hX ?_; clear hX hY) | (refine hY ?_; clear hX hY)))
            | refine ev_block ?_
            | (apply hK; clear hK)
            | apply_assumption -exfalso -symm only [*]
            | (refine And.intro ?_ ?_; first | omega | assumption | (unfold maxLen; omega) | (simp only [decide_eq_true_eq, decide_eq_false_iff_not, Int.not_lt, Int.not_le] at h; omega))
            | ((first | apply callP | apply callPG | apply callP0); (case' hv => (simp only [go_sem, reduceAdd, reduceSub, reduceMul, reduceEqDiff, reduceLeDiff, Nat.reduceBEq, reduceLT, reduceIte, reduceCtorEq, Int.reduceToNat, hlen, hz, hne, hne2, List.length_map, bne, Int.reduceBEq, beq_self_eq_true]; try exact rfl)); (case' hp => (first | refine' aw | (refine' (fun hg => ?_); refine' aw) | refine' fw | (refine' (fun hg => ?_); refine' fw) | refine' fp | (refine' (fun hg => ?_); refine' fp) | refine' c1 | (refine' (fun hg => ?_); refine' c1) | refine' t1 | (refine' (fun hg => ?_); refine' t1) | refine' c2 | (refine' (fun hg => ?_); refine' c2) | refine' t2 | (refine' (fun hg => ?_); refine' t2) | refine' c3 | (refine' (fun hg => ?_); refine' c3))); (case' h => ((first | refine evOps_fin ?_ | refine And.intro ?_ (evD_fin ?_) | refine evD_fin ?_) <;> simp only [go_sem, reduceAdd, reduceSub, reduceMul, reduceEqDiff, reduceLeDiff, Nat.reduceBEq, reduceLT, reduceIte, reduceCtorEq, Int.reduceToNat, hlen, hz, hne, hne2, List.length_map, bne, Int.reduceBEq, beq_self_eq_true])))
            | (refine callX ?_; (first | refine evOps_fin ?_ | refine And.intro ?_ (evD_fin ?_) | refine evD_fin ?_) <;> simp only [go_sem, reduceAdd, reduceSub, reduceMul, reduceEqDiff, reduceLeDiff, Nat.reduceBEq, reduceLT, reduceIte, reduceCtorEq, Int.reduceToNat, hlen, hz, hne, hne2, List.length_map, bne, Int.reduceBEq, beq_self_eq_true])
      · simp only [encP, enC, encMa, encM, e1, e2] at *
        (refine pure_of_ev tt_ok Try.func18 rfl (by decide +kernel) (Nat.le_of_ble_eq_true rfl) ?_; simp only [Try.f18])
        repeat' first
          | refine ev_seq (fun K hK => ?_)
          | ((first | refine evrd (id := 14) hmix tt_ok false [([], false), ([], false), ([], true), ([], false), ([2], false), ([2], false), ([2], false), ([2], false), ([], false), ([], false)] (by decide +kernel) ?_ | refine evr tt_ok false ?_ | refine ev_skip ?_ | refine ev_ret ?_ | refine ev_exit ?_ | refine evc (fun X Y hX hY => ?_)); simp only [go_sem, reduceAdd, reduceSub, reduceMul, reduceEqDiff, reduceLeDiff, Nat.reduceBEq, reduceLT, reduceIte, reduceCtorEq, Int.reduceToNat, hlen, List.length_map, bne, Int.reduceBEq, beq_self_eq_true]; try (first | (refine ⟨fun h => hX ?_, fun h => hY ?_⟩; clear hX hY) | (refine hX ?_; clear hX hY) | (refine hY ?_; clear hX hY)))
          | refine ev_block ?_
          | (apply hK; clear hK)
          | apply_assumption -exfalso -symm only [*]
          | (refine And.intro ?_ ?_; first | omega | assumption | (unfold maxLen; omega) | (simp only [decide_eq_true_eq, decide_eq_false_iff_not, Int.not_lt, Int.not_le] at h; omega))
          | ((first | apply callP | apply callPG | apply callP0); (case' hv => (simp only [go_sem, reduceAdd, reduceSub, reduceMul, reduceEqDiff, reduceLeDiff, Nat.reduceBEq, reduceLT, reduceIte, reduceCtorEq, Int.reduceToNat, hlen, List.length_map, bne, Int.reduceBEq, beq_self_eq_true]; try exact rfl)); (case' hp => (first | refine' aw | (refine' (fun hg => ?_); refine' aw) | refine' fw | (refine' (fun hg => ?_); refine' fw) | refine' fp | (refine' (fun hg => ?_); refine' fp) | refine' c1 | (refine' (fun hg => ?_); refine' c1) | refine' t1 | (refine' (fun hg => ?_); refine' t1) | refine' c2 | (refine' (fun hg => ?_); refine' c2) | refine' t2 | (refine' (fun hg => ?_); refine' t2))); (case' h => ((first | refine evOps_fin ?_ | refine And.intro ?_ (evD_fin ?_) | refine evD_fin ?_) <;> simp only [go_sem, reduceAdd, reduceSub, reduceMul, reduceEqDiff, reduceLeDiff, Nat.reduceBEq, reduceLT, reduceIte, reduceCtorEq, Int.reduceToNat, hlen, List.length_map, bne, Int.reduceBEq, beq_self_eq_true])))
          | (refine callX ?_; (first | refine evOps_fin ?_ | refine And.intro ?_ (evD_fin ?_) | refine evD_fin ?_) <;> simp only [go_sem, reduceAdd, reduceSub, reduceMul, reduceEqDiff, reduceLeDiff, Nat.reduceBEq, reduceLT, reduceIte, reduceCtorEq, Int.reduceToNat, hlen, List.length_map, bne, Int.reduceBEq, beq_self_eq_true])
    · rw [if_neg h] at fp
      have c1 := check_pure p hb hl Mat.zero
      have e1 : checkM p Mat.zero = 1 := if_neg h
      rw [e1] at c1
      simp only [encP, enC, encMa, encM, Mat.zero] at *
      (refine pure_of_ev tt_ok Try.func18 rfl (by decide +kernel) (Nat.le_of_ble_eq_true rfl) ?_; simp only [Try.f18])
      repeat' first
        | refine ev_seq (fun K hK => ?_)
        | ((first | refine evrd (id := 14) hmix tt_ok false [([], false), ([], false), ([], true), ([], false), ([2], false), ([2], false), ([2], false), ([2], false), ([], false), ([], false)] (by decide +kernel) ?_ | refine evr tt_ok false ?_ | refine ev_skip ?_ | refine ev_ret ?_ | refine ev_exit ?_ | refine evc (fun X Y hX hY => ?_)); simp only [go_sem, reduceAdd, reduceSub, reduceMul, reduceEqDiff, reduceLeDiff, Nat.reduceBEq, reduceLT, reduceIte, reduceCtorEq, Int.reduceToNat, bne, Int.reduceBEq, beq_self_eq_true]; try (first | (refine ⟨fun h => hX ?_, fun h => hY ?_⟩; clear hX hY) | (refine hX ?_; clear hX hY) | (refine hY ?_; clear hX hY)))
        | refine ev_block ?_
        | (apply hK; clear hK)
        | apply_assumption -exfalso -symm only [*]
        | (refine And.intro ?_ ?_; first | omega | assumption | (unfold maxLen; omega) | (simp only [decide_eq_true_eq, decide_eq_false_iff_not, Int.not_lt, Int.not_le] at h; omega))
        | ((first | apply callP | apply callPG | apply callP0); (case' hv => (simp only [go_sem, reduceAdd, reduceSub, reduceMul, reduceEqDiff, reduceLeDiff, Nat.reduceBEq, reduceLT, reduceIte, reduceCtorEq, Int.reduceToNat, bne, Int.reduceBEq, beq_self_eq_true]; try exact rfl)); (case' hp => (first | refine' aw | (refine' (fun hg => ?_); refine' aw) | refine' fw | (refine' (fun hg => ?_); refine' fw) | refine' fp | (refine' (fun hg => ?_); refine' fp) | refine' c1 | (refine' (fun hg => ?_); refine' c1))); (case' h => ((first | refine evOps_fin ?_ | refine And.intro ?_ (evD_fin ?_) | refine evD_fin ?_) <;> simp only [go_sem, reduceAdd, reduceSub, reduceMul, reduceEqDiff, reduceLeDiff, Nat.reduceBEq, reduceLT, reduceIte, reduceCtorEq, Int.reduceToNat, bne, Int.reduceBEq, beq_self_eq_true])))
        | (refine callX ?_; (first | refine evOps_fin ?_ | refine And.intro ?_ (evD_fin ?_) | refine evD_fin ?_) <;> simp only [go_sem, reduceAdd, reduceSub, reduceMul, reduceEqDiff, reduceLeDiff, Nat.reduceBEq, reduceLT, reduceIte, reduceCtorEq, Int.reduceToNat, bne, Int.reduceBEq, beq_self_eq_true])
  · rw [decide_eq_false hf] at fw
    simp only [encP, enC] at *
    (refine pure_of_ev tt_ok Try.func18 rfl (by decide +kernel) (Nat.le_of_ble_eq_true rfl) ?_; simp only [Try.f18])
    repeat' first
      | refine ev_seq (fun K hK => ?_)
      | ((first | refine evrd (id := 14) hmix tt_ok false [([], false), ([], false), ([], true), ([], false), ([2], false), ([2], false), ([2], false), ([2], false), ([], false), ([], false)] (by decide +kernel) ?_ | refine evr tt_ok false ?_ | refine ev_skip ?_ | refine ev_ret ?_ | refine ev_exit ?_ | refine evc (fun X Y hX hY => ?_)); simp only [go_sem, reduceAdd, reduceSub, reduceMul, reduceEqDiff, reduceLeDiff, Nat.reduceBEq, reduceLT, reduceIte, reduceCtorEq, Int.reduceToNat]; try (first | (refine ⟨fun h => hX ?_, fun h => hY ?_⟩; clear hX hY) | (refine hX ?_; clear hX hY) | (refine hY ?_; clear hX hY)))
      | refine ev_block ?_
      | (apply hK; clear hK)
      | apply_assumption -exfalso -symm only [*]
      | (refine And.intro ?_ ?_; first | omega | assumption | (unfold maxLen; omega) | (simp only [decide_eq_true_eq, decide_eq_false_iff_not, Int.not_lt, Int.not_le] at h; omega))
      | ((first | apply callP | apply callPG | apply callP0); (case' hv => (simp only [go_sem, reduceAdd, reduceSub, reduceMul, reduceEqDiff, reduceLeDiff, Nat.reduceBEq, reduceLT, reduceIte, reduceCtorEq, Int.reduceToNat]; try exact rfl)); (case' hp => (first | refine' aw | (refine' (fun hg => ?_); refine' aw) | refine' fw | (refine' (fun hg => ?_); refine' fw) | refine' aw | (refine' (fun hg => ?_); refine' aw))); (case' h => ((first | refine evOps_fin ?_ | refine And.intro ?_ (evD_fin ?_) | refine evD_fin ?_) <;> simp only [go_sem, reduceAdd, reduceSub, reduceMul, reduceEqDiff, reduceLeDiff, Nat.reduceBEq, reduceLT, reduceIte, reduceCtorEq, Int.reduceToNat])))
      | (refine callX ?_; (first | refine evOps_fin ?_ | refine And.intro ?_ (evD_fin ?_) | refine evD_fin ?_) <;> simp only [go_sem, reduceAdd, reduceSub, reduceMul, reduceEqDiff, reduceLeDiff, Nat.reduceBEq, reduceLT, reduceIte, reduceCtorEq, Int.reduceToNat])
end Go.Proofs.Ytokhaefcnbiadaa
