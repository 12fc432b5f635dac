import Derived.Test.YtbibplkhhdomnaaGreatW16
import Derived.Test.YtbibplkhhdomnaaGreatW17
set_option linter.all false
namespace Go.Proofs.YtbibplkhhdomnaaGreat
open Nat (reduceAdd reduceSub reduceMul reduceEqDiff reduceLeDiff reduceLT)
open Go Go.K
set_option maxRecDepth 20000
set_option maxHeartbeats 8000000
theorem side_in {r : Int} (h : 0 ≤ r ∧ r ≤ 31) : IntKind.i64.wrap (2 * r) = 2 * r ∧ IntKind.i64.wrap (2 * r + 1) = 2 * r + 1 := ⟨w64 (by omega) (by omega), w64 (by omega) (by omega)⟩
theorem win_in {c r : Int} (hc : 1 ≤ c ∧ c ≤ 256) (h : 0 ≤ r ∧ r ≤ 31) : IntKind.i64.wrap (c * (2 * r + 1)) = c * (2 * r + 1) ∧ IntKind.i64.wrap (c * (2 * r + 1) * (2 * r + 1)) = c * (2 * r + 1) * (2 * r + 1) := by
  have m1 := mul_small (a := c) (b := 2 * r + 1) (n := 256) (m := 63) (by omega) (by omega) (by omega) (by omega)
  have m2 := mul_small (a := c * (2 * r + 1)) (b := 2 * r + 1) (n := 16128) (m := 63) m1.1 (by omega) (by omega) (by omega)
  exact ⟨w64 (by omega) (by omega), w64 (by omega) (by omega)⟩
theorem prob_no {p : Prob} (h : p.ok → False) : decide p.ok = false := decide_eq_false h
theorem mvalid_pure (p : Prob) (hl : (p.s.length : Int) < 4611686018427387904) : Pure Tryz.prog 14 [.agg (encP p)] (.bool (decide p.ok)) := by
  have v1 := vfield_pure p.f
  have v2 := mscan_pure p.s hl
  have v3 := varc_pure ⟨p.fr, p.ct⟩
  have v4 := mwithin_pure p.cx (-262144) 262144
  have v5 := mwithin_pure p.cy (-262144) 262144
  have v6 := mwithin_pure p.re 0 31
  simp only [encP]
  by_cases h3 : (Arc.mk p.fr p.ct).ok
  · rw [decide_eq_true h3] at v3
    by_cases h6 : 0 ≤ p.re ∧ p.re ≤ 31
    · have e6 : (decide (0 ≤ p.re) && decide (p.re ≤ 31)) = true := by simp only [Bool.and_eq_true, decide_eq_true_eq]; exact h6
      rw [e6] at v6
      obtain ⟨s1, s2⟩ := side_in h6
      obtain ⟨w1, w2⟩ := win_in (c := p.ct) (r := p.re) ⟨h3.2.2.1, h3.2.2.2.1⟩ h6
      (refine pure_of_ev tt_ok Tryz.func14 rfl (by decide +kernel) (Nat.le_of_ble_eq_true rfl) ?_; simp only [Tryz.f14])
      repeat' first
        | refine ev_seq (fun K hK => ?_)
        | ((first | refine evr tt_ok false ?_ | refine ev_skip ?_ | refine ev_ret ?_ | refine ev_exit ?_ | refine evc (fun X Y hX hY => ?_)); simp only [go_sem, reduceAdd, reduceSub, reduceMul, reduceEqDiff, reduceLeDiff, Nat.reduceBEq, reduceLT, reduceIte, reduceCtorEq, Int.reduceToNat, s1, s2, w1, w2]; try (first | (refine ⟨fun h => hX ?_, fun h => hY ?_⟩; clear hX hY) | (refine hX ?_; clear hX hY) | (refine hY ?_; clear hX hY)))
        | refine ev_block ?_
        | (apply hK; clear hK)
        | apply_assumption -exfalso -symm only [*]
        | (refine And.intro ?_ ?_; first | omega | assumption | (unfold maxLen; omega) | (simp only [decide_eq_true_eq, decide_eq_false_iff_not, Int.not_lt, Int.not_le] at h; omega))
        | ((first | apply callP | apply callPG | apply callP0); (case' hv => (simp only [go_sem, reduceAdd, reduceSub, reduceMul, reduceEqDiff, reduceLeDiff, Nat.reduceBEq, reduceLT, reduceIte, reduceCtorEq, Int.reduceToNat, s1, s2, w1, w2]; try exact rfl)); (case' hp => (first | refine' v1 | (refine' (fun hg => ?_); refine' v1) | refine' v2 | (refine' (fun hg => ?_); refine' v2) | refine' v3 | (refine' (fun hg => ?_); refine' v3) | refine' v4 | (refine' (fun hg => ?_); refine' v4) | refine' v5 | (refine' (fun hg => ?_); refine' v5) | refine' v6 | (refine' (fun hg => ?_); refine' v6))); (case' h => ((first | refine evOps_fin ?_ | refine And.intro ?_ (evD_fin ?_) | refine evD_fin ?_) <;> simp only [go_sem, reduceAdd, reduceSub, reduceMul, reduceEqDiff, reduceLeDiff, Nat.reduceBEq, reduceLT, reduceIte, reduceCtorEq, Int.reduceToNat, s1, s2, w1, w2])))
        | (refine callX ?_; (first | refine evOps_fin ?_ | refine And.intro ?_ (evD_fin ?_) | refine evD_fin ?_) <;> simp only [go_sem, reduceAdd, reduceSub, reduceMul, reduceEqDiff, reduceLeDiff, Nat.reduceBEq, reduceLT, reduceIte, reduceCtorEq, Int.reduceToNat, s1, s2, w1, w2])
      · rw [prob_no fun hp => by simp [hp.1, hp.2.1] at h]
      · rw [prob_no fun hp => by simp [hp.2.2.2.1.1, hp.2.2.2.1.2, hp.2.2.2.2.1.1, hp.2.2.2.2.1.2] at h]
      · have g1 : (!decide p.f.ok || !decide (scanOk p.s)) = false := by assumption
        simp only [Bool.or_eq_false_iff, Bool.not_eq_false', decide_eq_true_eq, Bool.and_eq_true] at g1 h
        refine bool_dec ?_
        rw [decide_eq_true_eq]
        exact ⟨fun x => ⟨g1.1, g1.2, h3, h.1, h.2, h6, x⟩, fun hp => hp.2.2.2.2.2.2⟩
    · have e6 : (decide (0 ≤ p.re) && decide (p.re ≤ 31)) = false := by rw [Bool.eq_false_iff]; simp only [ne_eq, Bool.and_eq_true, decide_eq_true_eq]; exact h6
      rw [e6] at v6
      rw [decide_eq_false (fun h : p.ok => h6 h.2.2.2.2.2.1)]
      (refine pure_of_ev tt_ok Tryz.func14 rfl (by decide +kernel) (Nat.le_of_ble_eq_true rfl) ?_; simp only [Tryz.f14])
      repeat' first
        | refine ev_seq (fun K hK => ?_)
        | ((first | refine evr tt_ok false ?_ | refine ev_skip ?_ | refine ev_ret ?_ | refine ev_exit ?_ | refine evc (fun X Y hX hY => ?_)); simp only [go_sem, reduceAdd, reduceSub, reduceMul, reduceEqDiff, reduceLeDiff, Nat.reduceBEq, reduceLT, reduceIte, reduceCtorEq, Int.reduceToNat]; try (first | (refine ⟨fun h => hX ?_, fun h => hY ?_⟩; clear hX hY) | (refine hX ?_; clear hX hY) | (refine hY ?_; clear hX hY)))
        | refine ev_block ?_
        | (apply hK; clear hK)
        | apply_assumption -exfalso -symm only [*]
        | (refine And.intro ?_ ?_; first | omega | assumption | (unfold maxLen; omega) | (simp only [decide_eq_true_eq, decide_eq_false_iff_not, Int.not_lt, Int.not_le] at h; omega))
        | ((first | apply callP | apply callPG | apply callP0); (case' hv => (simp only [go_sem, reduceAdd, reduceSub, reduceMul, reduceEqDiff, reduceLeDiff, Nat.reduceBEq, reduceLT, reduceIte, reduceCtorEq, Int.reduceToNat]; try exact rfl)); (case' hp => (first | refine' v1 | (refine' (fun hg => ?_); refine' v1) | refine' v2 | (refine' (fun hg => ?_); refine' v2) | refine' v3 | (refine' (fun hg => ?_); refine' v3) | refine' v4 | (refine' (fun hg => ?_); refine' v4) | refine' v5 | (refine' (fun hg => ?_); refine' v5) | refine' v6 | (refine' (fun hg => ?_); refine' v6))); (case' h => ((first | refine evOps_fin ?_ | refine And.intro ?_ (evD_fin ?_) | refine evD_fin ?_) <;> simp only [go_sem, reduceAdd, reduceSub, reduceMul, reduceEqDiff, reduceLeDiff, Nat.reduceBEq, reduceLT, reduceIte, reduceCtorEq, Int.reduceToNat])))
        | (refine callX ?_; (first | refine evOps_fin ?_ | refine And.intro ?_ (evD_fin ?_) | refine evD_fin ?_) <;> simp only [go_sem, reduceAdd, reduceSub, reduceMul, reduceEqDiff, reduceLeDiff, Nat.reduceBEq, reduceLT, reduceIte, reduceCtorEq, Int.reduceToNat])
  · rw [decide_eq_false h3] at v3
    rw [decide_eq_false (fun h : p.ok => h3 h.2.2.1)]
    (refine pure_of_ev tt_ok Tryz.func14 rfl (by decide +kernel) (Nat.le_of_ble_eq_true rfl) ?_; simp only [Tryz.f14])
    repeat' first
      | refine ev_seq (fun K hK => ?_)
      | ((first | refine evr tt_ok false ?_ | refine ev_skip ?_ | refine ev_ret ?_ | refine ev_exit ?_ | refine evc (fun X Y hX hY => ?_)); simp only [go_sem, reduceAdd, reduceSub, reduceMul, reduceEqDiff, reduceLeDiff, Nat.reduceBEq, reduceLT, reduceIte, reduceCtorEq, Int.reduceToNat]; try (first | (refine ⟨fun h => hX ?_, fun h => hY ?_⟩; clear hX hY) | (refine hX ?_; clear hX hY) | (refine hY ?_; clear hX hY)))
      | refine ev_block ?_
      | (apply hK; clear hK)
      | apply_assumption -exfalso -symm only [*]
      | (refine And.intro ?_ ?_; first | omega | assumption | (unfold maxLen; omega) | (simp only [decide_eq_true_eq, decide_eq_false_iff_not, Int.not_lt, Int.not_le] at h; omega))
      | ((first | apply callP | apply callPG | apply callP0); (case' hv => (simp only [go_sem, reduceAdd, reduceSub, reduceMul, reduceEqDiff, reduceLeDiff, Nat.reduceBEq, reduceLT, reduceIte, reduceCtorEq, Int.reduceToNat]; try exact rfl)); (case' hp => (first | refine' v1 | (refine' (fun hg => ?_); refine' v1) | refine' v2 | (refine' (fun hg => ?_); refine' v2) | refine' v3 | (refine' (fun hg => ?_); refine' v3))); (case' h => ((first | refine evOps_fin ?_ | refine And.intro ?_ (evD_fin ?_) | refine evD_fin ?_) <;> simp only [go_sem, reduceAdd, reduceSub, reduceMul, reduceEqDiff, reduceLeDiff, Nat.reduceBEq, reduceLT, reduceIte, reduceCtorEq, Int.reduceToNat])))
      | (refine callX ?_; (first | refine evOps_fin ?_ | refine And.intro ?_ (evD_fin ?_) | refine evD_fin ?_) <;> simp only [go_sem, reduceAdd, reduceSub, reduceMul, reduceEqDiff, reduceLeDiff, Nat.reduceBEq, reduceLT, reduceIte, reduceCtorEq, Int.reduceToNat])
def inW (p : Prob) (c : Cnd) : Prop := 0 ≤ c.k ∧ c.k < p.ct ∧ -p.re ≤ c.x ∧ c.x ≤ p.re ∧ -p.re ≤ c.y ∧ c.y ≤ p.re
instance (p : Prob) (c : Cnd) : Decidable (inW p c) := by unfold inW; infer_instance
theorem min_pure (p : Prob) (c : Cnd) (h : p.ok) : Pure Tryz.prog 47 [.agg (encP p), .agg (enC c)] (.bool (decide (inW p c))) := by
  obtain ⟨h1, h2, h3, h4, h5, h6, h7⟩ := id h
  have hc := h3.2.2
  have w1 : IntKind.i64.wrap (p.ct - 1) = p.ct - 1 := w64 (by have := hc.1; simp only at this; omega) (by have := hc.2.1; simp only at this; omega)
  have w2 : IntKind.i64.wrap (0 - p.re) = -p.re := by rw [w64 (by omega) (by omega)]; omega
  have v1 := mwithin_pure c.k 0 (p.ct - 1)
  have v2 := mwithin_pure c.x (-p.re) p.re
  have v3 := mwithin_pure c.y (-p.re) p.re
  have e : ∀ b : Bool, (b = true ↔ inW p c) → Pure Tryz.prog 47 [.agg (encP p), .agg (enC c)] (.bool b) → Pure Tryz.prog 47 [.agg (encP p), .agg (enC c)] (.bool (decide (inW p c))) := fun b hb h => by
    rw [show decide (inW p c) = b by rw [Bool.eq_iff_iff, decide_eq_true_eq]; exact hb.symm]; exact h
  by_cases g1 : (decide (0 ≤ c.k) && decide (c.k ≤ p.ct - 1)) = true
  · by_cases g2 : (decide (-p.re ≤ c.x) && decide (c.x ≤ p.re)) = true
    · refine e (decide (-p.re ≤ c.y) && decide (c.y ≤ p.re)) ?_ ?_
      · simp only [Bool.and_eq_true, decide_eq_true_eq, inW] at *; omega
      · rw [g1] at v1
        rw [g2] at v2
        simp only [encP, enC]
        (refine pure_of_ev tt_ok Tryz.func47 rfl (by decide +kernel) (Nat.le_of_ble_eq_true rfl) ?_; simp only [Tryz.f47])
        repeat' first
          | refine ev_seq (fun K hK => ?_)
          | ((first | refine evr tt_ok false ?_ | refine ev_skip ?_ | refine ev_ret ?_ | refine ev_exit ?_ | refine evc (fun X Y hX hY => ?_)); simp only [go_sem, reduceAdd, reduceSub, reduceMul, reduceEqDiff, reduceLeDiff, Nat.reduceBEq, reduceLT, reduceIte, reduceCtorEq, Int.reduceToNat, w1, w2]; try (first | (refine ⟨fun h => hX ?_, fun h => hY ?_⟩; clear hX hY) | (refine hX ?_; clear hX hY) | (refine hY ?_; clear hX hY)))
          | refine ev_block ?_
          | (apply hK; clear hK)
          | apply_assumption -exfalso -symm only [*]
          | (refine And.intro ?_ ?_; first | omega | assumption | (unfold maxLen; omega) | (simp only [decide_eq_true_eq, decide_eq_false_iff_not, Int.not_lt, Int.not_le] at h; omega))
          | ((first | apply callP | apply callPG | apply callP0); (case' hv => (simp only [go_sem, reduceAdd, reduceSub, reduceMul, reduceEqDiff, reduceLeDiff, Nat.reduceBEq, reduceLT, reduceIte, reduceCtorEq, Int.reduceToNat, w1, w2]; try exact rfl)); (case' hp => (first | refine' v1 | (refine' (fun hg => ?_); refine' v1) | refine' v2 | (refine' (fun hg => ?_); refine' v2) | refine' v3 | (refine' (fun hg => ?_); refine' v3))); (case' h => ((first | refine evOps_fin ?_ | refine And.intro ?_ (evD_fin ?_) | refine evD_fin ?_) <;> simp only [go_sem, reduceAdd, reduceSub, reduceMul, reduceEqDiff, reduceLeDiff, Nat.reduceBEq, reduceLT, reduceIte, reduceCtorEq, Int.reduceToNat, w1, w2])))
          | (refine callX ?_; (first | refine evOps_fin ?_ | refine And.intro ?_ (evD_fin ?_) | refine evD_fin ?_) <;> simp only [go_sem, reduceAdd, reduceSub, reduceMul, reduceEqDiff, reduceLeDiff, Nat.reduceBEq, reduceLT, reduceIte, reduceCtorEq, Int.reduceToNat, w1, w2])
    · refine e false ?_ ?_
      · simp only [Bool.and_eq_true, decide_eq_true_eq, inW] at *; simp; omega
      · rw [g1] at v1
        rw [Bool.eq_false_iff.2 g2] at v2
        simp only [encP, enC]
        (refine pure_of_ev tt_ok Tryz.func47 rfl (by decide +kernel) (Nat.le_of_ble_eq_true rfl) ?_; simp only [Tryz.f47])
        repeat' first
          | refine ev_seq (fun K hK => ?_)
          | ((first | refine evr tt_ok false ?_ | refine ev_skip ?_ | refine ev_ret ?_ | refine ev_exit ?_ | refine evc (fun X Y hX hY => ?_)); simp only [go_sem, reduceAdd, reduceSub, reduceMul, reduceEqDiff, reduceLeDiff, Nat.reduceBEq, reduceLT, reduceIte, reduceCtorEq, Int.reduceToNat, w1, w2]; try (first | (refine ⟨fun h => hX ?_, fun h => hY ?_⟩; clear hX hY) | (refine hX ?_; clear hX hY) | (refine hY ?_; clear hX hY)))
          | refine ev_block ?_
          | (apply hK; clear hK)
          | apply_assumption -exfalso -symm only [*]
          | (refine And.intro ?_ ?_; first | omega | assumption | (unfold maxLen; omega) | (simp only [decide_eq_true_eq, decide_eq_false_iff_not, Int.not_lt, Int.not_le] at h; omega))
          | ((first | apply callP | apply callPG | apply callP0); (case' hv => (simp only [go_sem, reduceAdd, reduceSub, reduceMul, reduceEqDiff, reduceLeDiff, Nat.reduceBEq, reduceLT, reduceIte, reduceCtorEq, Int.reduceToNat, w1, w2]; try exact rfl)); (case' hp => (first | refine' v1 | (refine' (fun hg => ?_); refine' v1) | refine' v2 | (refine' (fun hg => ?_); refine' v2) | refine' v3 | (refine' (fun hg => ?_); refine' v3))); (case' h => ((first | refine evOps_fin ?_ | refine And.intro ?_ (evD_fin ?_) | refine evD_fin ?_) <;> simp only [go_sem, reduceAdd, reduceSub, reduceMul, reduceEqDiff, reduceLeDiff, Nat.reduceBEq, reduceLT, reduceIte, reduceCtorEq, Int.reduceToNat, w1, w2])))
          | (refine callX ?_; (first | refine evOps_fin ?_ | refine And.intro ?_ (evD_fin ?_) | refine evD_fin ?_) <;> simp only [go_sem, reduceAdd, reduceSub, reduceMul, reduceEqDiff, reduceLeDiff, Nat.reduceBEq, reduceLT, reduceIte, reduceCtorEq, Int.reduceToNat, w1, w2])
  · refine e false ?_ ?_
    · simp only [Bool.and_eq_true, decide_eq_true_eq, inW] at *; simp; omega
    · rw [Bool.eq_false_iff.2 g1] at v1
      simp only [encP, enC]
      (refine pure_of_ev tt_ok Tryz.func47 rfl (by decide +kernel) (Nat.le_of_ble_eq_true rfl) ?_; simp only [Tryz.f47])
      repeat' first
        | refine ev_seq (fun K hK => ?_)
        | ((first | refine evr tt_ok false ?_ | refine ev_skip ?_ | refine ev_ret ?_ | refine ev_exit ?_ | refine evc (fun X Y hX hY => ?_)); simp only [go_sem, reduceAdd, reduceSub, reduceMul, reduceEqDiff, reduceLeDiff, Nat.reduceBEq, reduceLT, reduceIte, reduceCtorEq, Int.reduceToNat, w1, w2]; try (first | (refine ⟨fun h => hX ?_, fun h => hY ?_⟩; clear hX hY) | (refine hX ?_; clear hX hY) | (refine hY ?_; clear hX hY)))
        | refine ev_block ?_
        | (apply hK; clear hK)
        | apply_assumption -exfalso -symm only [*]
        | (refine And.intro ?_ ?_; first | omega | assumption | (unfold maxLen; omega) | (simp only [decide_eq_true_eq, decide_eq_false_iff_not, Int.not_lt, Int.not_le] at h; omega))
        | ((first | apply callP | apply callPG | apply callP0); (case' hv => (simp only [go_sem, reduceAdd, reduceSub, reduceMul, reduceEqDiff, reduceLeDiff, Nat.reduceBEq, reduceLT, reduceIte, reduceCtorEq, Int.reduceToNat, w1, w2]; try exact rfl)); (case' hp => (first | refine' v1 | (refine' (fun hg => ?_); refine' v1) | refine' v2 | (refine' (fun hg => ?_); refine' v2) | refine' v3 | (refine' (fun hg => ?_); refine' v3))); (case' h => ((first | refine evOps_fin ?_ | refine And.intro ?_ (evD_fin ?_) | refine evD_fin ?_) <;> simp only [go_sem, reduceAdd, reduceSub, reduceMul, reduceEqDiff, reduceLeDiff, Nat.reduceBEq, reduceLT, reduceIte, reduceCtorEq, Int.reduceToNat, w1, w2])))
        | (refine callX ?_; (first | refine evOps_fin ?_ | refine And.intro ?_ (evD_fin ?_) | refine evD_fin ?_) <;> simp only [go_sem, reduceAdd, reduceSub, reduceMul, reduceEqDiff, reduceLeDiff, Nat.reduceBEq, reduceLT, reduceIte, reduceCtorEq, Int.reduceToNat, w1, w2])
end Go.Proofs.YtbibplkhhdomnaaGreat
namespace Go.Proofs.YtbibplkhhdomnaaGreat
open Nat (reduceAdd reduceSub reduceMul reduceEqDiff reduceLeDiff reduceLT)
open Go Go.K
set_option maxRecDepth 20000
set_option maxHeartbeats 8000000
structure Cel where
  (x y : Int)
def enCl (c : Cel) : List V := [.int .i64 c.x, .int .i64 c.y]
theorem lit_cel (l : List Cel) : litRows (l.map enCl) = true := litRows_map (fun _ => rfl) l
theorem cel_get (L : List Cel) (i : Nat) : (L.map enCl).getD i [.int .i64 0, .int .i64 0] = [.int .i64 (L.getD i ⟨0, 0⟩).x, .int .i64 (L.getD i ⟨0, 0⟩).y] := getD_map (f := enCl) (d := ⟨0, 0⟩) rfl
theorem mfloor_pure (a b : Int) (hb : 0 < b) (ha : -4611686018427387904 ≤ a ∧ a ≤ 4611686018427387904) : Pure Tryz.prog 71 [.int .i64 a, .int .i64 b] (.int .i64 (a / b)) := by
  obtain ⟨hq, q1, q2⟩ := div_cases hb ha
  (refine pure_of_ev tt_ok Tryz.func71 rfl (by decide +kernel) (Nat.le_of_ble_eq_true rfl) ?_; simp only [Tryz.f71])
  repeat' first
    | refine ev_seq (fun K hK => ?_)
    | ((first | refine evr tt_ok false ?_ | refine ev_skip ?_ | refine ev_ret ?_ | refine ev_exit ?_ | refine evc (fun X Y hX hY => ?_)); simp only [go_sem, reduceAdd, reduceSub, reduceMul, reduceEqDiff, reduceLeDiff, Nat.reduceBEq, reduceLT, reduceIte, reduceCtorEq, Int.reduceToNat, hq]; try (first | (refine ⟨fun h => hX ?_, fun h => hY ?_⟩; clear hX hY) | (refine hX ?_; clear hX hY) | (refine hY ?_; clear hX hY)))
    | refine ev_block ?_
    | (apply hK; clear hK)
    | apply_assumption -exfalso -symm only [*]
    | (refine And.intro ?_ ?_; first | omega | assumption | (unfold maxLen; omega) | (simp only [decide_eq_true_eq, decide_eq_false_iff_not, Int.not_lt, Int.not_le] at h; omega))
  · rw [q1 (by simpa using h)]
  · rw [q2 (by simpa using h)]
theorem mmark_pure (p : Prob) (k : Int) (h : 0 ≤ p.fr + k ∧ p.fr + k ≤ 1000) : Pure Tryz.prog 48 [.agg (encP p), .int .i64 k] (.int .i64 ((p.fr + k) % 256)) := by
  have w1 : IntKind.i64.wrap (p.fr + k) = p.fr + k := w64 (by omega) (by omega)
  have w2 : (p.fr + k).tmod 256 = (p.fr + k) % 256 := Int.tmod_eq_emod_of_nonneg h.1
  simp only [encP]
  (refine pure_of_ev tt_ok Tryz.func48 rfl (by decide +kernel) (Nat.le_of_ble_eq_true rfl) ?_; simp only [Tryz.f48])
  repeat' first
    | refine ev_seq (fun K hK => ?_)
    | ((first | refine evr tt_ok false ?_ | refine ev_skip ?_ | refine ev_ret ?_ | refine ev_exit ?_ | refine evc (fun X Y hX hY => ?_)); simp only [go_sem, reduceAdd, reduceSub, reduceMul, reduceEqDiff, reduceLeDiff, Nat.reduceBEq, reduceLT, reduceIte, reduceCtorEq, Int.reduceToNat, w1, w2]; try (first | (refine ⟨fun h => hX ?_, fun h => hY ?_⟩; clear hX hY) | (refine hX ?_; clear hX hY) | (refine hY ?_; clear hX hY)))
    | refine ev_block ?_
    | (apply hK; clear hK)
    | apply_assumption -exfalso -symm only [*]
    | (refine And.intro ?_ ?_; first | omega | assumption | (unfold maxLen; omega) | (simp only [decide_eq_true_eq, decide_eq_false_iff_not, Int.not_lt, Int.not_le] at h; omega))
theorem corner_pure (b : Blc) : Pure Tryz.prog 43 [.agg (enBl b)] (.agg [.int .i64 b.k, .int .i64 b.y, .int .i64 b.x]) := by
  simp only [enBl]
  (refine pure_of_ev tt_ok Tryz.func43 rfl (by decide +kernel) (Nat.le_of_ble_eq_true rfl) ?_; simp only [Tryz.f43])
  repeat' first
    | refine ev_seq (fun K hK => ?_)
    | ((first | refine evr tt_ok false ?_ | refine ev_skip ?_ | refine ev_ret ?_ | refine ev_exit ?_ | refine evc (fun X Y hX hY => ?_)); simp only [go_sem, reduceAdd, reduceSub, reduceMul, reduceEqDiff, reduceLeDiff, Nat.reduceBEq, reduceLT, reduceIte, reduceCtorEq, Int.reduceToNat]; try (first | (refine ⟨fun h => hX ?_, fun h => hY ?_⟩; clear hX hY) | (refine hX ?_; clear hX hY) | (refine hY ?_; clear hX hY)))
    | refine ev_block ?_
    | (apply hK; clear hK)
    | apply_assumption -exfalso -symm only [*]
    | (refine And.intro ?_ ?_; first | omega | assumption | (unfold maxLen; omega) | (simp only [decide_eq_true_eq, decide_eq_false_iff_not, Int.not_lt, Int.not_le] at h; omega))
theorem beam_ok (h m : Int) : (beamM h m).ok := by
  have d1 := dir_d h
  have d2 := dir_d m
  have k1 := dir_ok h
  have k2 := dir_ok m
  have p1 := k1.1
  have p2 := k2.1
  have hp : (mulV (dirM h) (dirM m)).d ≤ 8065 * 8065 := Int.mul_le_mul d1 d2 (by omega) (by omega)
  have hq : 0 < (mulV (dirM h) (dirM m)).d := Int.mul_pos (by omega) (by omega)
  have c := mul_circle (a := dirM h) (b := dirM m) k1.2.2.2.2.2.2 k2.2.2.2.2.2.2
  have cx := circle_le (by omega) c
  have cy := circle_le (x := (mulV (dirM h) (dirM m)).y) (y := (mulV (dirM h) (dirM m)).x) (d := (mulV (dirM h) (dirM m)).d) (by omega) (by omega)
  exact low_ok ⟨by omega, by omega, cx.1, cx.2, cy.1, cy.2, c⟩
theorem beam_mod (h m : Int) : beamM (h % 256) m = beamM h m := by unfold beamM; rw [dir_mod]
def endC (p : Prob) (k : Int) (b : Bem) : Cel := ⟨(p.cx * (beamM (p.fr + k) b.m).d + b.r * (beamM (p.fr + k) b.m).x) / ((beamM (p.fr + k) b.m).d * 64), (p.cy * (beamM (p.fr + k) b.m).d + b.r * (beamM (p.fr + k) b.m).y) / ((beamM (p.fr + k) b.m).d * 64)⟩
def endsN (p : Prob) (k : Int) (i : Nat) : List Cel := ((p.s.take i).filter (fun b => b.r != -1)).map (endC p k)
def endsM (p : Prob) (k : Int) : List Cel := endsN p k p.s.length
theorem endsN_len (p : Prob) (k : Int) (i : Nat) : (endsN p k i).length ≤ i := by
  unfold endsN
  rw [List.length_map]
  exact Nat.le_trans (List.length_filter_le _ _) (by simp; omega)
theorem endsN_yes (p : Prob) (k : Int) {i : Nat} (hi : i < p.s.length) (h : (p.s.getD i ⟨0, 0⟩).r ≠ -1) : endsN p k (i + 1) = endsN p k i ++ [endC p k (p.s.getD i ⟨0, 0⟩)] := by
  unfold endsN
  rw [take_getD hi ⟨0, 0⟩, List.filter_append, List.map_append, List.filter_cons, if_pos (by rw [bne_iff_ne]; exact h)]
  rfl
theorem endsN_no (p : Prob) (k : Int) {i : Nat} (hi : i < p.s.length) (h : (p.s.getD i ⟨0, 0⟩).r = -1) : endsN p k (i + 1) = endsN p k i := by
  unfold endsN
  rw [take_getD hi ⟨0, 0⟩, List.filter_append, List.map_append, List.filter_cons, if_neg (by rw [h]; decide)]
  simp
structure EndW (c d r x : Int) : Prop where
  w1 : IntKind.i64.wrap (c * d) = c * d
  w2 : IntKind.i64.wrap (r * x) = r * x
  w3 : IntKind.i64.wrap (c * d + r * x) = c * d + r * x
  w4 : IntKind.i64.wrap (d * 64) = d * 64
  w5 : IntKind.i64.wrap (64 * d) = d * 64
  w6 : 0 < d * 64
  w7 : -4611686018427387904 ≤ c * d + r * x ∧ c * d + r * x ≤ 4611686018427387904
theorem endW {c d r x : Int} (hc : -262144 ≤ c ∧ c ≤ 262144) (hd : 1 ≤ d ∧ d ≤ 67108864) (hr : -1 ≤ r ∧ r ≤ 1024) (hx : -d ≤ x ∧ x ≤ d) : EndW c d r x := by
  have p1 := prod_le (x := c) (y := d) (k := 67108864) (by omega) (by omega) (by omega) (by omega) (by omega)
  have p2 := prod_le (x := r) (y := x) (k := 67108864) (by omega) (by omega) (by omega) (by omega) (by omega)
  refine ⟨w64 (by omega) (by omega), w64 (by omega) (by omega), w64 (by omega) (by omega), w64 (by omega) (by omega), ?_, by omega, by omega⟩
  rw [w64 (by omega) (by omega)]; omega
theorem endB {c d r x : Int} (hc : -262144 ≤ c ∧ c ≤ 262144) (hd : 1 ≤ d ∧ d ≤ 67108864) (hr : 0 ≤ r ∧ r ≤ 1024) (hx : -d ≤ x ∧ x ≤ d) : -5000 ≤ (c * d + r * x) / (d * 64) ∧ (c * d + r * x) / (d * 64) ≤ 5000 := by
  have a1 : -262144 * d ≤ c * d := Int.mul_le_mul_of_nonneg_right hc.1 (by omega)
  have a2 : c * d ≤ 262144 * d := Int.mul_le_mul_of_nonneg_right hc.2 (by omega)
  have b1 : r * x ≤ r * d := Int.mul_le_mul_of_nonneg_left hx.2 hr.1
  have b2 : r * -d ≤ r * x := Int.mul_le_mul_of_nonneg_left hx.1 hr.1
  have b3 : r * d ≤ 1024 * d := Int.mul_le_mul_of_nonneg_right hr.2 (by omega)
  rw [Int.mul_neg] at b2
  exact ⟨Int.le_ediv_of_mul_le (by omega) (by omega), Int.ediv_le_of_le_mul (by omega) (by omega)⟩
theorem endC_in {p : Prob} (h : p.ok) (k : Int) {b : Bem} (hb : b.ok) (hr : b.r ≠ -1) : -5000 ≤ (endC p k b).x ∧ (endC p k b).x ≤ 5000 ∧ -5000 ≤ (endC p k b).y ∧ (endC p k b).y ≤ 5000 := by
  obtain ⟨v1, v2, v3, v4, v5, v6, _⟩ := beam_ok (p.fr + k) b.m
  obtain ⟨h1, h2, h3, h4, h5, h6, h7⟩ := h
  obtain ⟨b1, b2, b3, b4⟩ := hb
  have e1 := endB h4 ⟨v1, v2⟩ (r := b.r) ⟨by omega, by omega⟩ ⟨v3, v4⟩
  have e2 := endB h5 ⟨v1, v2⟩ (r := b.r) ⟨by omega, by omega⟩ ⟨v5, v6⟩
  exact ⟨e1.1, e1.2, e2.1, e2.2⟩
theorem ends_in {p : Prob} (h : p.ok) (k : Int) : ∀ c ∈ endsM p k, -5000 ≤ c.x ∧ c.x ≤ 5000 ∧ -5000 ≤ c.y ∧ c.y ≤ 5000 := by
  intro c hc
  unfold endsM endsN at hc
  rw [List.take_length] at hc
  obtain ⟨b, hb, rfl⟩ := List.mem_map.1 hc
  obtain ⟨hb1, hb2⟩ := List.mem_filter.1 hb
  refine endC_in h k ?_ (by simpa using hb2)
  obtain ⟨i, hi, rfl⟩ := List.getElem_of_mem hb1
  have := h.2.1.2 i hi
  rwa [List.getD_eq_getElem?_getD, List.getElem?_eq_getElem hi] at this
theorem mends_pure (p : Prob) (h : p.ok) (k : Int) (hk : 0 ≤ k ∧ k < p.ct) : Pure Tryz.prog 40 [.agg (encP p), .int .i64 k] (.sl ((endsM p k).map enCl)) := by
  obtain ⟨h1, h2, h3, h4, h5, h6, h7⟩ := id h
  obtain ⟨a1, a2, a3, a4, a5⟩ := h3
  simp only at a1 a2 a3 a4
  have v1 := mmark_pure p k ⟨by omega, by omega⟩
  have hsl := h2.1
  unfold endsM
  simp only [encP] at *
  (refine pure_of_ev tt_ok Tryz.func40 rfl (by decide +kernel) (Nat.le_of_ble_eq_true rfl) ?_; simp only [Tryz.f40])
  repeat' first
    | refine ev_seq (fun K hK => ?_)
    | ((first | refine evrd (id := 6) hmix tt_ok false [([], true), ([], true), ([], true), ([2], true), ([2], true), ([], true), ([0, 1, 2, 3, 4, 5], false), ([], false)] (by decide +kernel) ?_ | refine evrd (id := 7) hmix tt_ok false [([], true), ([], false), ([], false), ([], false), ([], false), ([], false), ([], false), ([], false), ([], false), ([], false), ([], false), ([], false), ([], false), ([], false), ([], false), ([], false), ([0], true), ([16], false), ([16], false), ([16], false), ([16], false), ([16], false), ([16], false), ([16], false), ([16], false), ([16], false), ([16], false), ([16], false), ([16], false), ([16], false), ([16], false), ([16], false), ([0], false), ([], false), ([0], false), ([], false), ([], false)] (by decide +kernel) ?_ | refine evr tt_ok false ?_ | refine ev_skip ?_ | refine ev_ret ?_ | refine ev_exit ?_ | refine evc (fun X Y hX hY => ?_)); simp only [go_sem, reduceAdd, reduceSub, reduceMul, reduceEqDiff, reduceLeDiff, Nat.reduceBEq, reduceLT, reduceIte, reduceCtorEq, Int.reduceToNat, List.length_map]; try (first | (refine ⟨fun h => hX ?_, fun h => hY ?_⟩; clear hX hY) | (refine hX ?_; clear hX hY) | (refine hY ?_; clear hX hY)))
    | refine ev_block ?_
    | (apply hK; clear hK)
    | apply_assumption -exfalso -symm only [*]
    | (refine And.intro ?_ ?_; first | omega | assumption | (unfold maxLen; omega) | (simp only [decide_eq_true_eq, decide_eq_false_iff_not, Int.not_lt, Int.not_le] at h; omega))
  refine ev_adopt 5 88 2 (by decide) rfl ?_
  refine ev_loop (fun i : Nat => i ≤ p.s.length)
    (fun i => ⟨63, [(12, .int .i64 (i : Int)), (11, .int .i64 (p.s.length : Int)), (10, .sl (p.s.map enBm)), (5, .rs 1 (endsN p k i).length 0 (endsN p k i).length), (2, .own 0 0 0 0), (1, .int .i64 k)],
      [.blk 37 0 11 [[.int .i64 p.f.x, .int .i64 p.f.y, .int .i64 p.f.w, .int .i64 p.f.h, .sl (p.f.v.map enB), .sl (p.s.map enBm), .int .i64 p.cx, .int .i64 p.cy, .int .i64 p.fr, .int .i64 p.ct, .int .i64 p.re]], .blk 88 (endsN p k i).length 2 ((endsN p k i).map enCl)]⟩)
    (fun i => p.s.length - i) 0 (Nat.zero_le _) ?_ ?_
  · simp only [go_sem, reduceAdd, reduceSub, reduceMul, reduceEqDiff, reduceLeDiff, Nat.reduceBEq, reduceLT, reduceIte, reduceCtorEq, Int.reduceToNat, fits, fitT, fitOs, fitO, V.under, unders, rowsUnder]
    repeat' first | rfl | exact rowsUnder_lit _ (lit_cel _) | (simp only [V.under, unders, rowsUnder, Nat.reduceLT]; done) | apply And.intro
  · intro i hi
    have hb0 : 0 ≤ (i : Int) := by omega
    have hw : IntKind.i64.wrap ((i : Int) + 1) = ((i + 1 : Nat) : Int) := by rw [w64] <;> omega
    have hll := endsN_len p k i
    by_cases hlt : (i : Int) < p.s.length
    · have hg := beam_get p.s i
      have hb := h2.2 i (by omega)
      have hyes := endsN_yes p k (i := i) (by omega)
      have hno := endsN_no p k (i := i) (by omega)
      generalize p.s.getD i ⟨0, 0⟩ = b at *
      obtain ⟨b1, b2, b3, b4⟩ := hb
      by_cases hr : b.r = -1
      · have hrr : (b.r == -1) = true := by rw [hr]; rfl
        have hs := hno hr
        repeat' first
          | refine ev_seq (fun K hK => ?_)
          | ((first | refine evrd (id := 6) hmix tt_ok false [([], true), ([], true), ([], true), ([2], true), ([2], true), ([], true), ([0, 1, 2, 3, 4, 5], false), ([], false)] (by decide +kernel) ?_ | refine evrd (id := 7) hmix tt_ok false [([], true), ([], false), ([], false), ([], false), ([], false), ([], false), ([], false), ([], false), ([], false), ([], false), ([], false), ([], false), ([], false), ([], false), ([], false), ([], false), ([0], true), ([16], false), ([16], false), ([16], false), ([16], false), ([16], false), ([16], false), ([16], false), ([16], false), ([16], false), ([16], false), ([16], false), ([16], false), ([16], false), ([16], false), ([16], false), ([0], false), ([], false), ([0], false), ([], false), ([], false)] (by decide +kernel) ?_ | refine evr tt_ok false ?_ | refine ev_skip ?_ | refine ev_ret ?_ | refine ev_exit ?_ | refine evc (fun X Y hX hY => ?_)); simp only [go_sem, reduceAdd, reduceSub, reduceMul, reduceEqDiff, reduceLeDiff, Nat.reduceBEq, reduceLT, reduceIte, reduceCtorEq, Int.reduceToNat, List.length_map, hb0, hw, hlt, hg, hrr, Int.toNat_natCast]; try (first | (refine ⟨fun h => hX ?_, fun h => hY ?_⟩; clear hX hY) | (refine hX ?_; clear hX hY) | (refine hY ?_; clear hX hY)))
          | refine ev_block ?_
          | (apply hK; clear hK)
          | apply_assumption -exfalso -symm only [*]
          | (refine And.intro ?_ ?_; first | omega | assumption | (unfold maxLen; omega) | (simp only [decide_eq_true_eq, decide_eq_false_iff_not, Int.not_lt, Int.not_le] at h; omega))
        refine ⟨i + 1, by omega, ?_, by omega⟩
        rw [hs]
        repeat' first | rfl | exact rowsUnder_lit _ (lit_cel _) | (simp only [V.under, unders, rowsUnder, Nat.reduceLT]; done) | apply And.intro
      · have hrr : (b.r == -1) = false := by rw [beq_eq_false_iff_ne]; exact hr
        have hs := hyes hr
        have v2 := beam_pure ((p.fr + k) % 256) b.m
        rw [beam_mod] at v2
        obtain ⟨m1, m2, m3, m4, m5, m6, _⟩ := beam_ok (p.fr + k) b.m
        obtain ⟨x1, x2, x3, x4, x5, x6, x7⟩ := endW h4 ⟨m1, m2⟩ (r := b.r) ⟨b3, b4⟩ ⟨m3, m4⟩
        obtain ⟨y1, y2, y3, y4, y5, y6, y7⟩ := endW h5 ⟨m1, m2⟩ (r := b.r) ⟨b3, b4⟩ ⟨m5, m6⟩
        have f1 := mfloor_pure _ _ x6 x7
        have f2 := mfloor_pure _ _ y6 y7
        unfold endC at hs
        simp only [encVec] at v2
        generalize beamM (p.fr + k) b.m = v at *
        have hq : 1 ≤ maxLen ∧ (endsN p k i).length + 1 ≤ maxLen ∧ ((endsN p k i).length + 1) * 16 ≤ 140737488355328 := by
          have : maxLen = 9223372036854775807 := rfl
          omega
        generalize endsN p k i = L at *
        repeat' first
          | refine ev_seq (fun K hK => ?_)
          | ((first | refine evrd (id := 6) hmix tt_ok false [([], true), ([], true), ([], true), ([2], true), ([2], true), ([], true), ([0, 1, 2, 3, 4, 5], false), ([], false)] (by decide +kernel) ?_ | refine evrd (id := 7) hmix tt_ok false [([], true), ([], false), ([], false), ([], false), ([], false), ([], false), ([], false), ([], false), ([], false), ([], false), ([], false), ([], false), ([], false), ([], false), ([], false), ([], false), ([0], true), ([16], false), ([16], false), ([16], false), ([16], false), ([16], false), ([16], false), ([16], false), ([16], false), ([16], false), ([16], false), ([16], false), ([16], false), ([16], false), ([16], false), ([16], false), ([0], false), ([], false), ([0], false), ([], false), ([], false)] (by decide +kernel) ?_ | refine evr tt_ok false ?_ | refine ev_skip ?_ | refine ev_ret ?_ | refine ev_exit ?_ | refine evc (fun X Y hX hY => ?_)); simp only [go_sem, reduceAdd, reduceSub, reduceMul, reduceEqDiff, reduceLeDiff, Nat.reduceBEq, reduceLT, reduceIte, reduceCtorEq, Int.reduceToNat, List.length_map, hb0, hw, hlt, hg, hrr, x1, x2, x3, x4, x5, y1, y2, y3, y4, y5, Int.toNat_natCast, Nat.zero_add, Nat.le_refl]; try (first | (refine ⟨fun h => hX ?_, fun h => hY ?_⟩; clear hX hY) | (refine hX ?_; clear hX hY) | (refine hY ?_; clear hX hY)))
          | refine ev_block ?_
          | (apply hK; clear hK)
          | apply_assumption -exfalso -symm only [*]
          | (refine And.intro ?_ ?_; first | omega | assumption | (unfold maxLen; omega) | (simp only [decide_eq_true_eq, decide_eq_false_iff_not, Int.not_lt, Int.not_le] at h; omega))
          | ((first | apply callP | apply callPG | apply callP0); (case' hv => (simp only [go_sem, reduceAdd, reduceSub, reduceMul, reduceEqDiff, reduceLeDiff, Nat.reduceBEq, reduceLT, reduceIte, reduceCtorEq, Int.reduceToNat, List.length_map, hb0, hw, hlt, hg, hrr, x1, x2, x3, x4, x5, y1, y2, y3, y4, y5, Int.toNat_natCast, Nat.zero_add, Nat.le_refl]; try exact rfl)); (case' hp => (first | refine' v1 | (refine' (fun hg => ?_); refine' v1) | refine' v2 | (refine' (fun hg => ?_); refine' v2) | refine' f1 | (refine' (fun hg => ?_); refine' f1) | refine' f2 | (refine' (fun hg => ?_); refine' f2))); (case' h => ((first | refine evOps_fin ?_ | refine And.intro ?_ (evD_fin ?_) | refine evD_fin ?_) <;> simp only [go_sem, reduceAdd, reduceSub, reduceMul, reduceEqDiff, reduceLeDiff, Nat.reduceBEq, reduceLT, reduceIte, reduceCtorEq, Int.reduceToNat, List.length_map, hb0, hw, hlt, hg, hrr, x1, x2, x3, x4, x5, y1, y2, y3, y4, y5, Int.toNat_natCast, Nat.zero_add, Nat.le_refl])))
          | (refine callX ?_; (first | refine evOps_fin ?_ | refine And.intro ?_ (evD_fin ?_) | refine evD_fin ?_) <;> simp only [go_sem, reduceAdd, reduceSub, reduceMul, reduceEqDiff, reduceLeDiff, Nat.reduceBEq, reduceLT, reduceIte, reduceCtorEq, Int.reduceToNat, List.length_map, hb0, hw, hlt, hg, hrr, x1, x2, x3, x4, x5, y1, y2, y3, y4, y5, Int.toNat_natCast, Nat.zero_add, Nat.le_refl])
        refine ⟨i + 1, by omega, ?_, by omega⟩
        rw [hs]
        repeat' first | rfl | exact rowsUnder_lit _ (lit_cel _) | (simp only [List.map_append, List.length_append]; rfl) | (simp only [V.under, unders, rowsUnder, Nat.reduceLT]; done) | apply And.intro
    · obtain rfl : i = p.s.length := by omega
      generalize endsN p k p.s.length = L at *
      have htk : List.take L.length (L.map enCl) = L.map enCl := List.take_of_length_le (by simp)
      repeat' first
        | refine ev_seq (fun K hK => ?_)
        | ((first | refine evrd (id := 6) hmix tt_ok false [([], true), ([], true), ([], true), ([2], true), ([2], true), ([], true), ([0, 1, 2, 3, 4, 5], false), ([], false)] (by decide +kernel) ?_ | refine evrd (id := 7) hmix tt_ok false [([], true), ([], false), ([], false), ([], false), ([], false), ([], false), ([], false), ([], false), ([], false), ([], false), ([], false), ([], false), ([], false), ([], false), ([], false), ([], false), ([0], true), ([16], false), ([16], false), ([16], false), ([16], false), ([16], false), ([16], false), ([16], false), ([16], false), ([16], false), ([16], false), ([16], false), ([16], false), ([16], false), ([16], false), ([16], false), ([0], false), ([], false), ([0], false), ([], false), ([], false)] (by decide +kernel) ?_ | refine evr tt_ok false ?_ | refine ev_skip ?_ | refine ev_ret ?_ | refine ev_exit ?_ | refine evc (fun X Y hX hY => ?_)); simp only [go_sem, reduceAdd, reduceSub, reduceMul, reduceEqDiff, reduceLeDiff, Nat.reduceBEq, reduceLT, reduceIte, reduceCtorEq, Int.reduceToNat, hlt, List.length_map, vrows_lit _ (lit_cel L), Nat.le_refl, Nat.sub_zero, htk]; try (first | (refine ⟨fun h => hX ?_, fun h => hY ?_⟩; clear hX hY) | (refine hX ?_; clear hX hY) | (refine hY ?_; clear hX hY)))
        | refine ev_block ?_
        | (apply hK; clear hK)
        | apply_assumption -exfalso -symm only [*]
        | (refine And.intro ?_ ?_; first | omega | assumption | (unfold maxLen; omega) | (simp only [decide_eq_true_eq, decide_eq_false_iff_not, Int.not_lt, Int.not_le] at h; omega))
      all_goals rfl
end Go.Proofs.YtbibplkhhdomnaaGreat
