import Derived.Test.YtokhaefcnbiadaaMB
import Derived.Test.YtokhaefcnbiadaaHV
set_option linter.all false
namespace Go.Proofs.Ytokhaefcnbiadaa
open Nat (reduceAdd reduceSub reduceMul reduceEqDiff reduceLeDiff reduceLT)
open Go Go.K
set_option maxRecDepth 20000
set_option maxHeartbeats 8000000
theorem side_in {r : Int} (h : 0 ≤ r ∧ r ≤ 31) : IntKind.i64.wrap (2 * r) = 2 * r ∧ IntKind.i64.wrap (2 * r + 1) = 2 * r + 1 := ⟨w64 (by omega) (by omega), w64 (by omega) (by omega)⟩
theorem win_in {c r : Int} (hc : 1 ≤ c ∧ c ≤ 256) (h : 0 ≤ r ∧ r ≤ 31) : IntKind.i64.wrap (c * (2 * r + 1)) = c * (2 * r + 1) ∧ IntKind.i64.wrap (c * (2 * r + 1) * (2 * r + 1)) = c * (2 * r + 1) * (2 * r + 1) := by
  have m1 := mul_small (a := c) (b := 2 * r + 1) (n := 256) (m := 63) (by omega) (by omega) (by omega) (by omega)
  have m2 := mul_small (a := c * (2 * r + 1)) (b := 2 * r + 1) (n := 16128) (m := 63) m1.1 (by omega) (by omega) (by omega)
  exact ⟨w64 (by omega) (by omega), w64 (by omega) (by omega)⟩
theorem prob_no {p : Prob} (h : p.ok → False) : decide p.ok = false := decide_eq_false h
theorem mvalid_pure (p : Prob) (hl : (p.s.length : Int) < 4611686018427387904) : Pure Try.prog 22 [.agg (encP p)] (.bool (decide p.ok)) := by
  have v1 := vfield_pure p.f
  have v2 := mscan_pure p.s hl
  have v3 := varc_pure ⟨p.fr, p.ct⟩
  have v4 := mwithin_pure p.cx (-262144) 262144
  have v5 := mwithin_pure p.cy (-262144) 262144
  have v6 := mwithin_pure p.re 0 31
  simp only [encP]
  by_cases h3 : (Arc.mk p.fr p.ct).ok
  · rw [decide_eq_true h3] at v3
    by_cases h6 : 0 ≤ p.re ∧ p.re ≤ 31
    · have e6 : (decide (0 ≤ p.re) && decide (p.re ≤ 31)) = true := by simp only [Bool.and_eq_true, decide_eq_true_eq]; exact h6
      rw [e6] at v6
      obtain ⟨s1, s2⟩ := side_in h6
      obtain ⟨w1, w2⟩ := win_in (c := p.ct) (r := p.re) ⟨h3.2.2.1, h3.2.2.2.1⟩ h6
      (refine pure_of_ev tt_ok Try.func22 rfl (by decide +kernel) (Nat.le_of_ble_eq_true rfl) ?_; simp only [Try.f22])
      repeat' first
        | refine ev_seq (fun K hK => ?_)
        | ((first | refine evr tt_ok false ?_ | refine ev_skip ?_ | refine ev_ret ?_ | refine ev_exit ?_ | refine evc (fun X Y hX hY => ?_)); simp only [go_sem, reduceAdd, reduceSub, reduceMul, reduceEqDiff, reduceLeDiff, Nat.reduceBEq, reduceLT, reduceIte, reduceCtorEq, Int.reduceToNat, s1, s2, w1, w2]; try (first | (refine ⟨fun h => hX ?_, fun h => hY ?_⟩; clear hX hY) | (refine hX ?_; clear hX hY) | (refine hY ?_; clear hX hY)))
        | refine ev_block ?_
        | (apply hK; clear hK)
        | apply_assumption -exfalso -symm only [*]
        | (refine And.intro ?_ ?_; first | omega | assumption | (unfold maxLen; omega) | (simp only [decide_eq_true_eq, decide_eq_false_iff_not, Int.not_lt, Int.not_le] at h; omega))
        | ((first | apply callP | apply callPG | apply callP0); (case' hv => (simp only [go_sem, reduceAdd, reduceSub, reduceMul, reduceEqDiff, reduceLeDiff, Nat.reduceBEq, reduceLT, reduceIte, reduceCtorEq, Int.reduceToNat, s1, s2, w1, w2]; try exact rfl)); (case' hp => (first | refine' v1 | (refine' (fun hg => ?_); refine' v1) | refine' v2 | (refine' (fun hg => ?_); refine' v2) | refine' v3 | (refine' (fun hg => ?_); refine' v3) | refine' v4 | (refine' (fun hg => ?_); refine' v4) | refine' v5 | (refine' (fun hg => ?_); refine' v5) | refine' v6 | (refine' (fun hg => ?_); refine' v6))); (case' h => ((first | refine evOps_fin ?_ | refine And.intro ?_ (evD_fin ?_) | refine evD_fin ?_) <;> simp only [go_sem, reduceAdd, reduceSub, reduceMul, reduceEqDiff, reduceLeDiff, Nat.reduceBEq, reduceLT, reduceIte, reduceCtorEq, Int.reduceToNat, s1, s2, w1, w2])))
        | (refine callX ?_; (first | refine evOps_fin ?_ | refine And.intro ?_ (evD_fin ?_) | refine evD_fin ?_) <;> simp only [go_sem, reduceAdd, reduceSub, reduceMul, reduceEqDiff, reduceLeDiff, Nat.reduceBEq, reduceLT, reduceIte, reduceCtorEq, Int.reduceToNat, s1, s2, w1, w2])
      · rw [prob_no fun hp => by simp [hp.1, hp.2.1] at h]
      · rw [prob_no fun hp => by simp [hp.2.2.2.1.1, hp.2.2.2.1.2, hp.2.2.2.2.1.1, hp.2.2.2.2.1.2] at h]
      · have g1 : (!decide p.f.ok || !decide (scanOk p.s)) = false := by assumption
        simp only [Bool.or_eq_false_iff, Bool.not_eq_false', decide_eq_true_eq, Bool.and_eq_true] at g1 h
        refine bool_dec ?_
        rw [decide_eq_true_eq]
        exact ⟨fun x => ⟨g1.1, g1.2, h3, h.1, h.2, h6, x⟩, fun hp => hp.2.2.2.2.2.2⟩
    · have e6 : (decide (0 ≤ p.re) && decide (p.re ≤ 31)) = false := by rw [Bool.eq_false_iff]; simp only [ne_eq, Bool.and_eq_true, decide_eq_true_eq]; exact h6
      rw [e6] at v6
      rw [decide_eq_false (fun h : p.ok => h6 h.2.2.2.2.2.1)]
      (refine pure_of_ev tt_ok Try.func22 rfl (by decide +kernel) (Nat.le_of_ble_eq_true rfl) ?_; simp only [Try.f22])
      repeat' first
        | refine ev_seq (fun K hK => ?_)
        | ((first | refine evr tt_ok false ?_ | refine ev_skip ?_ | refine ev_ret ?_ | refine ev_exit ?_ | refine evc (fun X Y hX hY => ?_)); simp only [go_sem, reduceAdd, reduceSub, reduceMul, reduceEqDiff, reduceLeDiff, Nat.reduceBEq, reduceLT, reduceIte, reduceCtorEq, Int.reduceToNat]; try (first | (refine ⟨fun h => hX ?_, fun h => hY ?_⟩; clear hX hY) | (refine hX ?_; clear hX hY) | (refine hY ?_; clear hX hY)))
        | refine ev_block ?_
        | (apply hK; clear hK)
        | apply_assumption -exfalso -symm only [*]
        | (refine And.intro ?_ ?_; first | omega | assumption | (unfold maxLen; omega) | (simp only [decide_eq_true_eq, decide_eq_false_iff_not, Int.not_lt, Int.not_le] at h; omega))
        | ((first | apply callP | apply callPG | apply callP0); (case' hv => (simp only [go_sem, reduceAdd, reduceSub, reduceMul, reduceEqDiff, reduceLeDiff, Nat.reduceBEq, reduceLT, reduceIte, reduceCtorEq, Int.reduceToNat]; try exact rfl)); (case' hp => (first | refine' v1 | (refine' (fun hg => ?_); refine' v1) | refine' v2 | (refine' (fun hg => ?_); refine' v2) | refine' v3 | (refine' (fun hg => ?_); refine' v3) | refine' v4 | (refine' (fun hg => ?_); refine' v4) | refine' v5 | (refine' (fun hg => ?_); refine' v5) | refine' v6 | (refine' (fun hg => ?_); refine' v6))); (case' h => ((first | refine evOps_fin ?_ | refine And.intro ?_ (evD_fin ?_) | refine evD_fin ?_) <;> simp only [go_sem, reduceAdd, reduceSub, reduceMul, reduceEqDiff, reduceLeDiff, Nat.reduceBEq, reduceLT, reduceIte, reduceCtorEq, Int.reduceToNat])))
        | (refine callX ?_; (first | refine evOps_fin ?_ | refine And.intro ?_ (evD_fin ?_) | refine evD_fin ?_) <;> simp only [go_sem, reduceAdd, reduceSub, reduceMul, reduceEqDiff, reduceLeDiff, Nat.reduceBEq, reduceLT, reduceIte, reduceCtorEq, Int.reduceToNat])
  · rw [decide_eq_false h3] at v3
    rw [decide_eq_false (fun h : p.ok => h3 h.2.2.1)]
    (refine pure_of_ev tt_ok Try.func22 rfl (by decide +kernel) (Nat.le_of_ble_eq_true rfl) ?_; simp only [Try.f22])
    repeat' first
      | refine ev_seq (fun K hK => ?_)
      | ((first | refine evr tt_ok false ?_ | refine ev_skip ?_ | refine ev_ret ?_ | refine ev_exit ?_ | refine evc (fun X Y hX hY => ?_)); simp only [go_sem, reduceAdd, reduceSub, reduceMul, reduceEqDiff, reduceLeDiff, Nat.reduceBEq, reduceLT, reduceIte, reduceCtorEq, Int.reduceToNat]; try (first | (refine ⟨fun h => hX ?_, fun h => hY ?_⟩; clear hX hY) | (refine hX ?_; clear hX hY) | (refine hY ?_; clear hX hY)))
      | refine ev_block ?_
      | (apply hK; clear hK)
      | apply_assumption -exfalso -symm only [*]
      | (refine And.intro ?_ ?_; first | omega | assumption | (unfold maxLen; omega) | (simp only [decide_eq_true_eq, decide_eq_false_iff_not, Int.not_lt, Int.not_le] at h; omega))
      | ((first | apply callP | apply callPG | apply callP0); (case' hv => (simp only [go_sem, reduceAdd, reduceSub, reduceMul, reduceEqDiff, reduceLeDiff, Nat.reduceBEq, reduceLT, reduceIte, reduceCtorEq, Int.reduceToNat]; try exact rfl)); (case' hp => (first | refine' v1 | (refine' (fun hg => ?_); refine' v1) | refine' v2 | (refine' (fun hg => ?_); refine' v2) | refine' v3 | (refine' (fun hg => ?_); refine' v3))); (case' h => ((first | refine evOps_fin ?_ | refine And.intro ?_ (evD_fin ?_) | refine evD_fin ?_) <;> simp only [go_sem, reduceAdd, reduceSub, reduceMul, reduceEqDiff, reduceLeDiff, Nat.reduceBEq, reduceLT, reduceIte, reduceCtorEq, Int.reduceToNat])))
      | (refine callX ?_; (first | refine evOps_fin ?_ | refine And.intro ?_ (evD_fin ?_) | refine evD_fin ?_) <;> simp only [go_sem, reduceAdd, reduceSub, reduceMul, reduceEqDiff, reduceLeDiff, Nat.reduceBEq, reduceLT, reduceIte, reduceCtorEq, Int.reduceToNat])
theorem rprob_pure (p : Prob) (hl : (p.s.length : Int) < 4611686018427387904) : Pure Try.prog 35 [.agg (encP p)] (.bool (decide p.ok)) := by
  have v1 := rvfield_pure p.f
  have v2 := bscan_pure p.s hl
  have v3 := arcB_pure ⟨p.fr, p.ct⟩
  have v4 := bsize_pure p.cx 262144 (by decide)
  have v5 := bsize_pure p.cy 262144 (by decide)
  simp only [encP]
  by_cases h3 : (Arc.mk p.fr p.ct).ok
  · rw [decide_eq_true h3] at v3
    by_cases h6 : 0 ≤ p.re ∧ p.re ≤ 31
    · have e6 : decide (p.re < 0) = false := decide_eq_false (by omega)
      have e7 : decide (31 < p.re) = false := decide_eq_false (by omega)
      obtain ⟨s1, s2⟩ := side_in h6
      obtain ⟨w1, w2⟩ := win_in (c := p.ct) (r := p.re) ⟨h3.2.2.1, h3.2.2.2.1⟩ h6
      (refine pure_of_ev tt_ok Try.func35 rfl (by decide +kernel) (Nat.le_of_ble_eq_true rfl) ?_; simp only [Try.f35])
      repeat' first
        | refine ev_seq (fun K hK => ?_)
        | ((first | refine evr tt_ok false ?_ | refine ev_skip ?_ | refine ev_ret ?_ | refine ev_exit ?_ | refine evc (fun X Y hX hY => ?_)); simp only [go_sem, reduceAdd, reduceSub, reduceMul, reduceEqDiff, reduceLeDiff, Nat.reduceBEq, reduceLT, reduceIte, reduceCtorEq, Int.reduceToNat, s1, s2, w1, w2, e6, e7]; try (first | (refine ⟨fun h => hX ?_, fun h => hY ?_⟩; clear hX hY) | (refine hX ?_; clear hX hY) | (refine hY ?_; clear hX hY)))
        | refine ev_block ?_
        | (apply hK; clear hK)
        | apply_assumption -exfalso -symm only [*]
        | (refine And.intro ?_ ?_; first | omega | assumption | (unfold maxLen; omega) | (simp only [decide_eq_true_eq, decide_eq_false_iff_not, Int.not_lt, Int.not_le] at h; omega))
        | ((first | apply callP | apply callPG | apply callP0); (case' hv => (simp only [go_sem, reduceAdd, reduceSub, reduceMul, reduceEqDiff, reduceLeDiff, Nat.reduceBEq, reduceLT, reduceIte, reduceCtorEq, Int.reduceToNat, s1, s2, w1, w2, e6, e7]; try exact rfl)); (case' hp => (first | refine' v1 | (refine' (fun hg => ?_); refine' v1) | refine' v2 | (refine' (fun hg => ?_); refine' v2) | refine' v3 | (refine' (fun hg => ?_); refine' v3) | refine' v4 | (refine' (fun hg => ?_); refine' v4) | refine' v5 | (refine' (fun hg => ?_); refine' v5))); (case' h => ((first | refine evOps_fin ?_ | refine And.intro ?_ (evD_fin ?_) | refine evD_fin ?_) <;> simp only [go_sem, reduceAdd, reduceSub, reduceMul, reduceEqDiff, reduceLeDiff, Nat.reduceBEq, reduceLT, reduceIte, reduceCtorEq, Int.reduceToNat, s1, s2, w1, w2, e6, e7])))
        | (refine callX ?_; (first | refine evOps_fin ?_ | refine And.intro ?_ (evD_fin ?_) | refine evD_fin ?_) <;> simp only [go_sem, reduceAdd, reduceSub, reduceMul, reduceEqDiff, reduceLeDiff, Nat.reduceBEq, reduceLT, reduceIte, reduceCtorEq, Int.reduceToNat, s1, s2, w1, w2, e6, e7])
      · rw [prob_no fun hp => by simp [hp.1, hp.2.1] at h]
      · simp only [Bool.or_eq_false_iff, Bool.not_eq_false', decide_eq_true_eq] at h
        refine bool_dec ?_
        simp only [Bool.and_eq_true, decide_eq_true_eq]
        exact ⟨fun x => ⟨h.1, h.2, h3, x.1.1, x.1.2, h6, x.2⟩, fun hp => ⟨⟨hp.2.2.2.1, hp.2.2.2.2.1⟩, hp.2.2.2.2.2.2⟩⟩
    · rw [decide_eq_false (fun h : p.ok => h6 h.2.2.2.2.2.1)]
      have e8 : (decide (p.re < 0) || decide (31 < p.re)) = true := by simp only [Bool.or_eq_true, decide_eq_true_eq]; omega
      (refine pure_of_ev tt_ok Try.func35 rfl (by decide +kernel) (Nat.le_of_ble_eq_true rfl) ?_; simp only [Try.f35])
      repeat' first
        | refine ev_seq (fun K hK => ?_)
        | ((first | refine evr tt_ok false ?_ | refine ev_skip ?_ | refine ev_ret ?_ | refine ev_exit ?_ | refine evc (fun X Y hX hY => ?_)); simp only [go_sem, reduceAdd, reduceSub, reduceMul, reduceEqDiff, reduceLeDiff, Nat.reduceBEq, reduceLT, reduceIte, reduceCtorEq, Int.reduceToNat, Bool.or_assoc, e8]; try (first | (refine ⟨fun h => hX ?_, fun h => hY ?_⟩; clear hX hY) | (refine hX ?_; clear hX hY) | (refine hY ?_; clear hX hY)))
        | refine ev_block ?_
        | (apply hK; clear hK)
        | apply_assumption -exfalso -symm only [*]
        | (refine And.intro ?_ ?_; first | omega | assumption | (unfold maxLen; omega) | (simp only [decide_eq_true_eq, decide_eq_false_iff_not, Int.not_lt, Int.not_le] at h; omega))
        | ((first | apply callP | apply callPG | apply callP0); (case' hv => (simp only [go_sem, reduceAdd, reduceSub, reduceMul, reduceEqDiff, reduceLeDiff, Nat.reduceBEq, reduceLT, reduceIte, reduceCtorEq, Int.reduceToNat, Bool.or_assoc, e8]; try exact rfl)); (case' hp => (first | refine' v1 | (refine' (fun hg => ?_); refine' v1) | refine' v2 | (refine' (fun hg => ?_); refine' v2) | refine' v3 | (refine' (fun hg => ?_); refine' v3))); (case' h => ((first | refine evOps_fin ?_ | refine And.intro ?_ (evD_fin ?_) | refine evD_fin ?_) <;> simp only [go_sem, reduceAdd, reduceSub, reduceMul, reduceEqDiff, reduceLeDiff, Nat.reduceBEq, reduceLT, reduceIte, reduceCtorEq, Int.reduceToNat, Bool.or_assoc, e8])))
        | (refine callX ?_; (first | refine evOps_fin ?_ | refine And.intro ?_ (evD_fin ?_) | refine evD_fin ?_) <;> simp only [go_sem, reduceAdd, reduceSub, reduceMul, reduceEqDiff, reduceLeDiff, Nat.reduceBEq, reduceLT, reduceIte, reduceCtorEq, Int.reduceToNat, Bool.or_assoc, e8])
  · rw [decide_eq_false h3] at v3
    rw [decide_eq_false (fun h : p.ok => h3 h.2.2.1)]
    (refine pure_of_ev tt_ok Try.func35 rfl (by decide +kernel) (Nat.le_of_ble_eq_true rfl) ?_; simp only [Try.f35])
    repeat' first
      | refine ev_seq (fun K hK => ?_)
      | ((first | refine evr tt_ok false ?_ | refine ev_skip ?_ | refine ev_ret ?_ | refine ev_exit ?_ | refine evc (fun X Y hX hY => ?_)); simp only [go_sem, reduceAdd, reduceSub, reduceMul, reduceEqDiff, reduceLeDiff, Nat.reduceBEq, reduceLT, reduceIte, reduceCtorEq, Int.reduceToNat]; try (first | (refine ⟨fun h => hX ?_, fun h => hY ?_⟩; clear hX hY) | (refine hX ?_; clear hX hY) | (refine hY ?_; clear hX hY)))
      | refine ev_block ?_
      | (apply hK; clear hK)
      | apply_assumption -exfalso -symm only [*]
      | (refine And.intro ?_ ?_; first | omega | assumption | (unfold maxLen; omega) | (simp only [decide_eq_true_eq, decide_eq_false_iff_not, Int.not_lt, Int.not_le] at h; omega))
      | ((first | apply callP | apply callPG | apply callP0); (case' hv => (simp only [go_sem, reduceAdd, reduceSub, reduceMul, reduceEqDiff, reduceLeDiff, Nat.reduceBEq, reduceLT, reduceIte, reduceCtorEq, Int.reduceToNat]; try exact rfl)); (case' hp => (first | refine' v1 | (refine' (fun hg => ?_); refine' v1) | refine' v2 | (refine' (fun hg => ?_); refine' v2) | refine' v3 | (refine' (fun hg => ?_); refine' v3))); (case' h => ((first | refine evOps_fin ?_ | refine And.intro ?_ (evD_fin ?_) | refine evD_fin ?_) <;> simp only [go_sem, reduceAdd, reduceSub, reduceMul, reduceEqDiff, reduceLeDiff, Nat.reduceBEq, reduceLT, reduceIte, reduceCtorEq, Int.reduceToNat])))
      | (refine callX ?_; (first | refine evOps_fin ?_ | refine And.intro ?_ (evD_fin ?_) | refine evD_fin ?_) <;> simp only [go_sem, reduceAdd, reduceSub, reduceMul, reduceEqDiff, reduceLeDiff, Nat.reduceBEq, reduceLT, reduceIte, reduceCtorEq, Int.reduceToNat])
/-! ### candidates -/
def inW (p : Prob) (c : Cnd) : Prop := 0 ≤ c.k ∧ c.k < p.ct ∧ -p.re ≤ c.x ∧ c.x ≤ p.re ∧ -p.re ≤ c.y ∧ c.y ≤ p.re
instance (p : Prob) (c : Cnd) : Decidable (inW p c) := by unfold inW; infer_instance
theorem min_pure (p : Prob) (c : Cnd) (h : p.ok) : Pure Try.prog 53 [.agg (encP p), .agg (enC c)] (.bool (decide (inW p c))) := by
  obtain ⟨h1, h2, h3, h4, h5, h6, h7⟩ := id h
  have hc := h3.2.2
  have w1 : IntKind.i64.wrap (p.ct - 1) = p.ct - 1 := w64 (by have := hc.1; simp only at this; omega) (by have := hc.2.1; simp only at this; omega)
  have w2 : IntKind.i64.wrap (0 - p.re) = -p.re := by rw [w64 (by omega) (by omega)]; omega
  have v1 := mwithin_pure c.k 0 (p.ct - 1)
  have v2 := mwithin_pure c.x (-p.re) p.re
  have v3 := mwithin_pure c.y (-p.re) p.re
  have e : ∀ b : Bool, (b = true ↔ inW p c) → Pure Try.prog 53 [.agg (encP p), .agg (enC c)] (.bool b) → Pure Try.prog 53 [.agg (encP p), .agg (enC c)] (.bool (decide (inW p c))) := fun b hb h => by
    rw [show decide (inW p c) = b by rw [Bool.eq_iff_iff, decide_eq_true_eq]; exact hb.symm]; exact h
  by_cases g1 : (decide (0 ≤ c.k) && decide (c.k ≤ p.ct - 1)) = true
  · by_cases g2 : (decide (-p.re ≤ c.x) && decide (c.x ≤ p.re)) = true
    · refine e (decide (-p.re ≤ c.y) && decide (c.y ≤ p.re)) ?_ ?_
      · simp only [Bool.and_eq_true, decide_eq_true_eq, inW] at *; omega
      · rw [g1] at v1
        rw [g2] at v2
        simp only [encP, enC]
        (refine pure_of_ev tt_ok Try.func53 rfl (by decide +kernel) (Nat.le_of_ble_eq_true rfl) ?_; simp only [Try.f53])
        repeat' first
          | refine ev_seq (fun K hK => ?_)
          | ((first | refine evr tt_ok false ?_ | refine ev_skip ?_ | refine ev_ret ?_ | refine ev_exit ?_ | refine evc (fun X Y hX hY => ?_)); simp only [go_sem, reduceAdd, reduceSub, reduceMul, reduceEqDiff, reduceLeDiff, Nat.reduceBEq, reduceLT, reduceIte, reduceCtorEq, Int.reduceToNat, w1, w2]; try (first | (refine ⟨fun h => hX ?_, fun h => hY ?_⟩; clear hX hY) | (refine hX ?_; clear hX hY) | (refine hY ?_; clear hX hY)))
          | refine ev_block ?_
          | (apply hK; clear hK)
          | apply_assumption -exfalso -symm only [*]
          | (refine And.intro ?_ ?_; first | omega | assumption | (unfold maxLen; omega) | (simp only [decide_eq_true_eq, decide_eq_false_iff_not, Int.not_lt, Int.not_le] at h; omega))
          | ((first | apply callP | apply callPG | apply callP0); (case' hv => (simp only [go_sem, reduceAdd, reduceSub, reduceMul, reduceEqDiff, reduceLeDiff, Nat.reduceBEq, reduceLT, reduceIte, reduceCtorEq, Int.reduceToNat, w1, w2]; try exact rfl)); (case' hp => (first | refine' v1 | (refine' (fun hg => ?_); refine' v1) | refine' v2 | (refine' (fun hg => ?_); refine' v2) | refine' v3 | (refine' (fun hg => ?_); refine' v3))); (case' h => ((first | refine evOps_fin ?_ | refine And.intro ?_ (evD_fin ?_) | refine evD_fin ?_) <;> simp only [go_sem, reduceAdd, reduceSub, reduceMul, reduceEqDiff, reduceLeDiff, Nat.reduceBEq, reduceLT, reduceIte, reduceCtorEq, Int.reduceToNat, w1, w2])))
          | (refine callX ?_; (first | refine evOps_fin ?_ | refine And.intro ?_ (evD_fin ?_) | refine evD_fin ?_) <;> simp only [go_sem, reduceAdd, reduceSub, reduceMul, reduceEqDiff, reduceLeDiff, Nat.reduceBEq, reduceLT, reduceIte, reduceCtorEq, Int.reduceToNat, w1, w2])
    · refine e false ?_ ?_
      · simp only [Bool.and_eq_true, decide_eq_true_eq, inW] at *; simp; omega
      · rw [g1] at v1
        rw [Bool.eq_false_iff.2 g2] at v2
        simp only [encP, enC]
        (refine pure_of_ev tt_ok Try.func53 rfl (by decide +kernel) (Nat.le_of_ble_eq_true rfl) ?_; simp only [Try.f53])
        repeat' first
          | refine ev_seq (fun K hK => ?_)
          | ((first | refine evr tt_ok false ?_ | refine ev_skip ?_ | refine ev_ret ?_ | refine ev_exit ?_ | refine evc (fun X Y hX hY => ?_)); simp only [go_sem, reduceAdd, reduceSub, reduceMul, reduceEqDiff, reduceLeDiff, Nat.reduceBEq, reduceLT, reduceIte, reduceCtorEq, Int.reduceToNat, w1, w2]; try (first | (refine ⟨fun h => hX ?_, fun h => hY ?_⟩; clear hX hY) | (refine hX ?_; clear hX hY) | (refine hY ?_; clear hX hY)))
          | refine ev_block ?_
          | (apply hK; clear hK)
          | apply_assumption -exfalso -symm only [*]
          | (refine And.intro ?_ ?_; first | omega | assumption | (unfold maxLen; omega) | (simp only [decide_eq_true_eq, decide_eq_false_iff_not, Int.not_lt, Int.not_le] at h; omega))
          | ((first | apply callP | apply callPG | apply callP0); (case' hv => (simp only [go_sem, reduceAdd, reduceSub, reduceMul, reduceEqDiff, reduceLeDiff, Nat.reduceBEq, reduceLT, reduceIte, reduceCtorEq, Int.reduceToNat, w1, w2]; try exact rfl)); (case' hp => (first | refine' v1 | (refine' (fun hg => ?_); refine' v1) | refine' v2 | (refine' (fun hg => ?_); refine' v2) | refine' v3 | (refine' (fun hg => ?_); refine' v3))); (case' h => ((first | refine evOps_fin ?_ | refine And.intro ?_ (evD_fin ?_) | refine evD_fin ?_) <;> simp only [go_sem, reduceAdd, reduceSub, reduceMul, reduceEqDiff, reduceLeDiff, Nat.reduceBEq, reduceLT, reduceIte, reduceCtorEq, Int.reduceToNat, w1, w2])))
          | (refine callX ?_; (first | refine evOps_fin ?_ | refine And.intro ?_ (evD_fin ?_) | refine evD_fin ?_) <;> simp only [go_sem, reduceAdd, reduceSub, reduceMul, reduceEqDiff, reduceLeDiff, Nat.reduceBEq, reduceLT, reduceIte, reduceCtorEq, Int.reduceToNat, w1, w2])
  · refine e false ?_ ?_
    · simp only [Bool.and_eq_true, decide_eq_true_eq, inW] at *; simp; omega
    · rw [Bool.eq_false_iff.2 g1] at v1
      simp only [encP, enC]
      (refine pure_of_ev tt_ok Try.func53 rfl (by decide +kernel) (Nat.le_of_ble_eq_true rfl) ?_; simp only [Try.f53])
      repeat' first
        | refine ev_seq (fun K hK => ?_)
        | ((first | refine evr tt_ok false ?_ | refine ev_skip ?_ | refine ev_ret ?_ | refine ev_exit ?_ | refine evc (fun X Y hX hY => ?_)); simp only [go_sem, reduceAdd, reduceSub, reduceMul, reduceEqDiff, reduceLeDiff, Nat.reduceBEq, reduceLT, reduceIte, reduceCtorEq, Int.reduceToNat, w1, w2]; try (first | (refine ⟨fun h => hX ?_, fun h => hY ?_⟩; clear hX hY) | (refine hX ?_; clear hX hY) | (refine hY ?_; clear hX hY)))
        | refine ev_block ?_
        | (apply hK; clear hK)
        | apply_assumption -exfalso -symm only [*]
        | (refine And.intro ?_ ?_; first | omega | assumption | (unfold maxLen; omega) | (simp only [decide_eq_true_eq, decide_eq_false_iff_not, Int.not_lt, Int.not_le] at h; omega))
        | ((first | apply callP | apply callPG | apply callP0); (case' hv => (simp only [go_sem, reduceAdd, reduceSub, reduceMul, reduceEqDiff, reduceLeDiff, Nat.reduceBEq, reduceLT, reduceIte, reduceCtorEq, Int.reduceToNat, w1, w2]; try exact rfl)); (case' hp => (first | refine' v1 | (refine' (fun hg => ?_); refine' v1) | refine' v2 | (refine' (fun hg => ?_); refine' v2) | refine' v3 | (refine' (fun hg => ?_); refine' v3))); (case' h => ((first | refine evOps_fin ?_ | refine And.intro ?_ (evD_fin ?_) | refine evD_fin ?_) <;> simp only [go_sem, reduceAdd, reduceSub, reduceMul, reduceEqDiff, reduceLeDiff, Nat.reduceBEq, reduceLT, reduceIte, reduceCtorEq, Int.reduceToNat, w1, w2])))
        | (refine callX ?_; (first | refine evOps_fin ?_ | refine And.intro ?_ (evD_fin ?_) | refine evD_fin ?_) <;> simp only [go_sem, reduceAdd, reduceSub, reduceMul, reduceEqDiff, reduceLeDiff, Nat.reduceBEq, reduceLT, reduceIte, reduceCtorEq, Int.reduceToNat, w1, w2])
theorem rin_pure (p : Prob) (c : Cnd) (h : p.ok) : Pure Try.prog 46 [.agg (encP p), .agg (enC c)] (.bool (decide (inW p c))) := by
  obtain ⟨h1, h2, h3, h4, h5, h6, h7⟩ := id h
  have v2 := bsize_pure c.x p.re (by omega)
  have v3 := bsize_pure c.y p.re (by omega)
  have e : ∀ b : Bool, (b = true ↔ inW p c) → Pure Try.prog 46 [.agg (encP p), .agg (enC c)] (.bool b) → Pure Try.prog 46 [.agg (encP p), .agg (enC c)] (.bool (decide (inW p c))) := fun b hb h => by
    rw [show decide (inW p c) = b by rw [Bool.eq_iff_iff, decide_eq_true_eq]; exact hb.symm]; exact h
  by_cases g0 : 0 ≤ c.k
  · by_cases g1 : c.k < p.ct
    · by_cases g2 : (decide (-p.re ≤ c.x) && decide (c.x ≤ p.re)) = true
      · refine e (decide (-p.re ≤ c.y) && decide (c.y ≤ p.re)) ?_ ?_
        · simp only [Bool.and_eq_true, decide_eq_true_eq, inW] at *; omega
        · rw [g2] at v2
          simp only [encP, enC]
          (refine pure_of_ev tt_ok Try.func46 rfl (by decide +kernel) (Nat.le_of_ble_eq_true rfl) ?_; simp only [Try.f46])
          repeat' first
            | refine ev_seq (fun K hK => ?_)
            | ((first | refine evr tt_ok false ?_ | refine ev_skip ?_ | refine ev_ret ?_ | refine ev_exit ?_ | refine evc (fun X Y hX hY => ?_)); simp only [go_sem, reduceAdd, reduceSub, reduceMul, reduceEqDiff, reduceLeDiff, Nat.reduceBEq, reduceLT, reduceIte, reduceCtorEq, Int.reduceToNat, g0, g1]; try (first | (refine ⟨fun h => hX ?_, fun h => hY ?_⟩; clear hX hY) | (refine hX ?_; clear hX hY) | (refine hY ?_; clear hX hY)))
            | refine ev_block ?_
            | (apply hK; clear hK)
            | apply_assumption -exfalso -symm only [*]
            | (refine And.intro ?_ ?_; first | omega | assumption | (unfold maxLen; omega) | (simp only [decide_eq_true_eq, decide_eq_false_iff_not, Int.not_lt, Int.not_le] at h; omega))
            | ((first | apply callP | apply callPG | apply callP0); (case' hv => (simp only [go_sem, reduceAdd, reduceSub, reduceMul, reduceEqDiff, reduceLeDiff, Nat.reduceBEq, reduceLT, reduceIte, reduceCtorEq, Int.reduceToNat, g0, g1]; try exact rfl)); (case' hp => (first | refine' v2 | (refine' (fun hg => ?_); refine' v2) | refine' v3 | (refine' (fun hg => ?_); refine' v3))); (case' h => ((first | refine evOps_fin ?_ | refine And.intro ?_ (evD_fin ?_) | refine evD_fin ?_) <;> simp only [go_sem, reduceAdd, reduceSub, reduceMul, reduceEqDiff, reduceLeDiff, Nat.reduceBEq, reduceLT, reduceIte, reduceCtorEq, Int.reduceToNat, g0, g1])))
            | (refine callX ?_; (first | refine evOps_fin ?_ | refine And.intro ?_ (evD_fin ?_) | refine evD_fin ?_) <;> simp only [go_sem, reduceAdd, reduceSub, reduceMul, reduceEqDiff, reduceLeDiff, Nat.reduceBEq, reduceLT, reduceIte, reduceCtorEq, Int.reduceToNat, g0, g1])
      · refine e false ?_ ?_
        · simp only [Bool.and_eq_true, decide_eq_true_eq, inW] at *; simp; omega
        · rw [Bool.eq_false_iff.2 g2] at v2
          simp only [encP, enC]
          (refine pure_of_ev tt_ok Try.func46 rfl (by decide +kernel) (Nat.le_of_ble_eq_true rfl) ?_; simp only [Try.f46])
          repeat' first
            | refine ev_seq (fun K hK => ?_)
            | ((first | refine evr tt_ok false ?_ | refine ev_skip ?_ | refine ev_ret ?_ | refine ev_exit ?_ | refine evc (fun X Y hX hY => ?_)); simp only [go_sem, reduceAdd, reduceSub, reduceMul, reduceEqDiff, reduceLeDiff, Nat.reduceBEq, reduceLT, reduceIte, reduceCtorEq, Int.reduceToNat, g0, g1]; try (first | (refine ⟨fun h => hX ?_, fun h => hY ?_⟩; clear hX hY) | (refine hX ?_; clear hX hY) | (refine hY ?_; clear hX hY)))
            | refine ev_block ?_
            | (apply hK; clear hK)
            | apply_assumption -exfalso -symm only [*]
            | (refine And.intro ?_ ?_; first | omega | assumption | (unfold maxLen; omega) | (simp only [decide_eq_true_eq, decide_eq_false_iff_not, Int.not_lt, Int.not_le] at h; omega))
            | ((first | apply callP | apply callPG | apply callP0); (case' hv => (simp only [go_sem, reduceAdd, reduceSub, reduceMul, reduceEqDiff, reduceLeDiff, Nat.reduceBEq, reduceLT, reduceIte, reduceCtorEq, Int.reduceToNat, g0, g1]; try exact rfl)); (case' hp => (first | refine' v2 | (refine' (fun hg => ?_); refine' v2) | refine' v3 | (refine' (fun hg => ?_); refine' v3))); (case' h => ((first | refine evOps_fin ?_ | refine And.intro ?_ (evD_fin ?_) | refine evD_fin ?_) <;> simp only [go_sem, reduceAdd, reduceSub, reduceMul, reduceEqDiff, reduceLeDiff, Nat.reduceBEq, reduceLT, reduceIte, reduceCtorEq, Int.reduceToNat, g0, g1])))
            | (refine callX ?_; (first | refine evOps_fin ?_ | refine And.intro ?_ (evD_fin ?_) | refine evD_fin ?_) <;> simp only [go_sem, reduceAdd, reduceSub, reduceMul, reduceEqDiff, reduceLeDiff, Nat.reduceBEq, reduceLT, reduceIte, reduceCtorEq, Int.reduceToNat, g0, g1])
    · refine e false ?_ ?_
      · simp only [inW]; simp; omega
      · simp only [encP, enC]
        (refine pure_of_ev tt_ok Try.func46 rfl (by decide +kernel) (Nat.le_of_ble_eq_true rfl) ?_; simp only [Try.f46])
        repeat' first
          | refine ev_seq (fun K hK => ?_)
          | ((first | refine evr tt_ok false ?_ | refine ev_skip ?_ | refine ev_ret ?_ | refine ev_exit ?_ | refine evc (fun X Y hX hY => ?_)); simp only [go_sem, reduceAdd, reduceSub, reduceMul, reduceEqDiff, reduceLeDiff, Nat.reduceBEq, reduceLT, reduceIte, reduceCtorEq, Int.reduceToNat, g0, g1]; try (first | (refine ⟨fun h => hX ?_, fun h => hY ?_⟩; clear hX hY) | (refine hX ?_; clear hX hY) | (refine hY ?_; clear hX hY)))
          | refine ev_block ?_
          | (apply hK; clear hK)
          | apply_assumption -exfalso -symm only [*]
          | (refine And.intro ?_ ?_; first | omega | assumption | (unfold maxLen; omega) | (simp only [decide_eq_true_eq, decide_eq_false_iff_not, Int.not_lt, Int.not_le] at h; omega))
          | ((first | apply callP | apply callPG | apply callP0); (case' hv => (simp only [go_sem, reduceAdd, reduceSub, reduceMul, reduceEqDiff, reduceLeDiff, Nat.reduceBEq, reduceLT, reduceIte, reduceCtorEq, Int.reduceToNat, g0, g1]; try exact rfl)); (case' hp => (first | refine' v2 | (refine' (fun hg => ?_); refine' v2) | refine' v3 | (refine' (fun hg => ?_); refine' v3))); (case' h => ((first | refine evOps_fin ?_ | refine And.intro ?_ (evD_fin ?_) | refine evD_fin ?_) <;> simp only [go_sem, reduceAdd, reduceSub, reduceMul, reduceEqDiff, reduceLeDiff, Nat.reduceBEq, reduceLT, reduceIte, reduceCtorEq, Int.reduceToNat, g0, g1])))
          | (refine callX ?_; (first | refine evOps_fin ?_ | refine And.intro ?_ (evD_fin ?_) | refine evD_fin ?_) <;> simp only [go_sem, reduceAdd, reduceSub, reduceMul, reduceEqDiff, reduceLeDiff, Nat.reduceBEq, reduceLT, reduceIte, reduceCtorEq, Int.reduceToNat, g0, g1])
  · refine e false ?_ ?_
    · simp only [inW]; simp; omega
    · simp only [encP, enC]
      (refine pure_of_ev tt_ok Try.func46 rfl (by decide +kernel) (Nat.le_of_ble_eq_true rfl) ?_; simp only [Try.f46])
      repeat' first
        | refine ev_seq (fun K hK => ?_)
        | ((first | refine evr tt_ok false ?_ | refine ev_skip ?_ | refine ev_ret ?_ | refine ev_exit ?_ | refine evc (fun X Y hX hY => ?_)); simp only [go_sem, reduceAdd, reduceSub, reduceMul, reduceEqDiff, reduceLeDiff, Nat.reduceBEq, reduceLT, reduceIte, reduceCtorEq, Int.reduceToNat, g0]; try (first | (refine ⟨fun h => hX ?_, fun h => hY ?_⟩; clear hX hY) | (refine hX ?_; clear hX hY) | (refine hY ?_; clear hX hY)))
        | refine ev_block ?_
        | (apply hK; clear hK)
        | apply_assumption -exfalso -symm only [*]
        | (refine And.intro ?_ ?_; first | omega | assumption | (unfold maxLen; omega) | (simp only [decide_eq_true_eq, decide_eq_false_iff_not, Int.not_lt, Int.not_le] at h; omega))
        | ((first | apply callP | apply callPG | apply callP0); (case' hv => (simp only [go_sem, reduceAdd, reduceSub, reduceMul, reduceEqDiff, reduceLeDiff, Nat.reduceBEq, reduceLT, reduceIte, reduceCtorEq, Int.reduceToNat, g0]; try exact rfl)); (case' hp => (first | refine' v2 | (refine' (fun hg => ?_); refine' v2) | refine' v3 | (refine' (fun hg => ?_); refine' v3))); (case' h => ((first | refine evOps_fin ?_ | refine And.intro ?_ (evD_fin ?_) | refine evD_fin ?_) <;> simp only [go_sem, reduceAdd, reduceSub, reduceMul, reduceEqDiff, reduceLeDiff, Nat.reduceBEq, reduceLT, reduceIte, reduceCtorEq, Int.reduceToNat, g0])))
        | (refine callX ?_; (first | refine evOps_fin ?_ | refine And.intro ?_ (evD_fin ?_) | refine evD_fin ?_) <;> simp only [go_sem, reduceAdd, reduceSub, reduceMul, reduceEqDiff, reduceLeDiff, Nat.reduceBEq, reduceLT, reduceIte, reduceCtorEq, Int.reduceToNat, g0])
end Go.Proofs.Ytokhaefcnbiadaa
