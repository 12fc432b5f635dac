import Derived.Test.YtokhaefcnbiadaaMN
set_option linter.all false
namespace Go.Proofs.Ytokhaefcnbiadaa
open Nat (reduceAdd reduceSub reduceMul reduceEqDiff reduceLeDiff reduceLT)
open Go Go.K
set_option maxRecDepth 20000
set_option maxHeartbeats 8000000
def countM (p : Prob) (b : Blc) : Int := if p.ok ∧ blkOk p b then ((wdM p b : Nat) : Int) * ((htM p b : Nat) : Int) else 0
theorem count_pure (p : Prob) (hl : (p.s.length : Int) < 4611686018427387904) (b : Blc) : Pure Try.prog 32 [.agg (encP p), .agg (enBl b)] (.int .i64 (countM p b)) := by
  have v := mvalid_pure p hl
  unfold countM
  by_cases h : p.ok
  · rw [decide_eq_true h] at v
    have vv := cvalid_pure p b h
    by_cases hk : blkOk p b
    · rw [decide_eq_true hk] at vv
      rw [if_pos ⟨h, hk⟩]
      have la := last_pure p b h hk
      obtain ⟨bk, bkk, by', bx, wd, ht, wd1, ht1, wS, hS⟩ := blkW h hk
      obtain ⟨hs, hkk, hn, r0, r1, k1, k2⟩ := winOk h
      obtain ⟨c1, c2, c3, c4, c5, c6⟩ := hk.1
      simp only at c1 c2 c3 c4 c5 c6
      have a1 : IntKind.i64.wrap (lastX p b - b.x) = lastX p b - b.x := w64 (by omega) (by omega)
      have a2 : IntKind.i64.wrap (lastX p b - b.x + 1) = ((wdM p b : Nat) : Int) := by rw [w64 (by omega) (by omega)]; omega
      have a3 : IntKind.i64.wrap (lastY p b - b.y) = lastY p b - b.y := w64 (by omega) (by omega)
      have a4 : IntKind.i64.wrap (lastY p b - b.y + 1) = ((htM p b : Nat) : Int) := by rw [w64 (by omega) (by omega)]; omega
      have pb := mul_small (a := ((wdM p b : Nat) : Int)) (b := ((htM p b : Nat) : Int)) (n := 63) (m := 63) (by omega) (by omega) (by omega) (by omega)
      have a5 : IntKind.i64.wrap (((wdM p b : Nat) : Int) * ((htM p b : Nat) : Int)) = ((wdM p b : Nat) : Int) * ((htM p b : Nat) : Int) := w64 (by omega) (by omega)
      simp only [encP, enBl] at *
      (refine pure_of_ev tt_ok Try.func32 rfl (by decide +kernel) (Nat.le_of_ble_eq_true rfl) ?_; simp only [Try.f32])
      repeat' first
        | refine ev_seq (fun K hK => ?_)
        | ((first | refine evr tt_ok false ?_ | refine ev_skip ?_ | refine ev_ret ?_ | refine ev_exit ?_ | refine evc (fun X Y hX hY => ?_)); simp only [go_sem, reduceAdd, reduceSub, reduceMul, reduceEqDiff, reduceLeDiff, Nat.reduceBEq, reduceLT, reduceIte, reduceCtorEq, Int.reduceToNat, a1, a2, a3, a4, a5]; try (first | (refine ⟨fun h => hX ?_, fun h => hY ?_⟩; clear hX hY) | (refine hX ?_; clear hX hY) | (refine hY ?_; clear hX hY)))
        | refine ev_block ?_
        | (apply hK; clear hK)
        | apply_assumption -exfalso -symm only [*]
        | (refine And.intro ?_ ?_; first | omega | assumption | (unfold maxLen; omega) | (simp only [decide_eq_true_eq, decide_eq_false_iff_not, Int.not_lt, Int.not_le] at h; omega))
        | ((first | apply callP | apply callPG | apply callP0); (case' hv => (simp only [go_sem, reduceAdd, reduceSub, reduceMul, reduceEqDiff, reduceLeDiff, Nat.reduceBEq, reduceLT, reduceIte, reduceCtorEq, Int.reduceToNat, a1, a2, a3, a4, a5]; try exact rfl)); (case' hp => (first | refine' v | (refine' (fun hg => ?_); refine' v) | refine' vv | (refine' (fun hg => ?_); refine' vv) | refine' la | (refine' (fun hg => ?_); refine' la))); (case' h => ((first | refine evOps_fin ?_ | refine And.intro ?_ (evD_fin ?_) | refine evD_fin ?_) <;> simp only [go_sem, reduceAdd, reduceSub, reduceMul, reduceEqDiff, reduceLeDiff, Nat.reduceBEq, reduceLT, reduceIte, reduceCtorEq, Int.reduceToNat, a1, a2, a3, a4, a5])))
        | (refine callX ?_; (first | refine evOps_fin ?_ | refine And.intro ?_ (evD_fin ?_) | refine evD_fin ?_) <;> simp only [go_sem, reduceAdd, reduceSub, reduceMul, reduceEqDiff, reduceLeDiff, Nat.reduceBEq, reduceLT, reduceIte, reduceCtorEq, Int.reduceToNat, a1, a2, a3, a4, a5])
    · rw [decide_eq_false hk] at vv
      rw [if_neg (fun h => hk h.2)]
      simp only [encP, enBl] at *
      (refine pure_of_ev tt_ok Try.func32 rfl (by decide +kernel) (Nat.le_of_ble_eq_true rfl) ?_; simp only [Try.f32])
      repeat' first
        | refine ev_seq (fun K hK => ?_)
        | ((first | refine evr tt_ok false ?_ | refine ev_skip ?_ | refine ev_ret ?_ | refine ev_exit ?_ | refine evc (fun X Y hX hY => ?_)); simp only [go_sem, reduceAdd, reduceSub, reduceMul, reduceEqDiff, reduceLeDiff, Nat.reduceBEq, reduceLT, reduceIte, reduceCtorEq, Int.reduceToNat]; try (first | (refine ⟨fun h => hX ?_, fun h => hY ?_⟩; clear hX hY) | (refine hX ?_; clear hX hY) | (refine hY ?_; clear hX hY)))
        | refine ev_block ?_
        | (apply hK; clear hK)
        | apply_assumption -exfalso -symm only [*]
        | (refine And.intro ?_ ?_; first | omega | assumption | (unfold maxLen; omega) | (simp only [decide_eq_true_eq, decide_eq_false_iff_not, Int.not_lt, Int.not_le] at h; omega))
        | ((first | apply callP | apply callPG | apply callP0); (case' hv => (simp only [go_sem, reduceAdd, reduceSub, reduceMul, reduceEqDiff, reduceLeDiff, Nat.reduceBEq, reduceLT, reduceIte, reduceCtorEq, Int.reduceToNat]; try exact rfl)); (case' hp => (first | refine' v | (refine' (fun hg => ?_); refine' v) | refine' vv | (refine' (fun hg => ?_); refine' vv))); (case' h => ((first | refine evOps_fin ?_ | refine And.intro ?_ (evD_fin ?_) | refine evD_fin ?_) <;> simp only [go_sem, reduceAdd, reduceSub, reduceMul, reduceEqDiff, reduceLeDiff, Nat.reduceBEq, reduceLT, reduceIte, reduceCtorEq, Int.reduceToNat])))
        | (refine callX ?_; (first | refine evOps_fin ?_ | refine And.intro ?_ (evD_fin ?_) | refine evD_fin ?_) <;> simp only [go_sem, reduceAdd, reduceSub, reduceMul, reduceEqDiff, reduceLeDiff, Nat.reduceBEq, reduceLT, reduceIte, reduceCtorEq, Int.reduceToNat])
  · rw [decide_eq_false h] at v
    rw [if_neg (fun h' => h h'.1)]
    simp only [encP, enBl] at *
    (refine pure_of_ev tt_ok Try.func32 rfl (by decide +kernel) (Nat.le_of_ble_eq_true rfl) ?_; simp only [Try.f32])
    repeat' first
      | refine ev_seq (fun K hK => ?_)
      | ((first | refine evr tt_ok false ?_ | refine ev_skip ?_ | refine ev_ret ?_ | refine ev_exit ?_ | refine evc (fun X Y hX hY => ?_)); simp only [go_sem, reduceAdd, reduceSub, reduceMul, reduceEqDiff, reduceLeDiff, Nat.reduceBEq, reduceLT, reduceIte, reduceCtorEq, Int.reduceToNat]; try (first | (refine ⟨fun h => hX ?_, fun h => hY ?_⟩; clear hX hY) | (refine hX ?_; clear hX hY) | (refine hY ?_; clear hX hY)))
      | refine ev_block ?_
      | (apply hK; clear hK)
      | apply_assumption -exfalso -symm only [*]
      | (refine And.intro ?_ ?_; first | omega | assumption | (unfold maxLen; omega) | (simp only [decide_eq_true_eq, decide_eq_false_iff_not, Int.not_lt, Int.not_le] at h; omega))
      | ((first | apply callP | apply callPG | apply callP0); (case' hv => (simp only [go_sem, reduceAdd, reduceSub, reduceMul, reduceEqDiff, reduceLeDiff, Nat.reduceBEq, reduceLT, reduceIte, reduceCtorEq, Int.reduceToNat]; try exact rfl)); (case' hp => (first | refine' v | (refine' (fun hg => ?_); refine' v))); (case' h => ((first | refine evOps_fin ?_ | refine And.intro ?_ (evD_fin ?_) | refine evD_fin ?_) <;> simp only [go_sem, reduceAdd, reduceSub, reduceMul, reduceEqDiff, reduceLeDiff, Nat.reduceBEq, reduceLT, reduceIte, reduceCtorEq, Int.reduceToNat])))
      | (refine callX ?_; (first | refine evOps_fin ?_ | refine And.intro ?_ (evD_fin ?_) | refine evD_fin ?_) <;> simp only [go_sem, reduceAdd, reduceSub, reduceMul, reduceEqDiff, reduceLeDiff, Nat.reduceBEq, reduceLT, reduceIte, reduceCtorEq, Int.reduceToNat])
theorem same_pure (m : Mat) (hl : (m.l.length : Int) < 4611686018427387904) : Pure Try.prog 31 [.agg (encM m), .agg (encM m)] (.bool true) := by
  simp only [encM]
  (refine pure_of_ev tt_ok Try.func31 rfl (by decide +kernel) (Nat.le_of_ble_eq_true rfl) ?_; simp only [Try.f31])
  repeat' first
    | refine ev_seq (fun K hK => ?_)
    | ((first | refine evrd (id := 6) hmix tt_ok false [([], false), ([], false), ([], false), ([], false), ([], false), ([], false), ([], false), ([], false), ([], false), ([], false), ([], false)] (by decide +kernel) ?_ | refine evr tt_ok false ?_ | refine ev_skip ?_ | refine ev_ret ?_ | refine ev_exit ?_ | refine evc (fun X Y hX hY => ?_)); simp only [go_sem, reduceAdd, reduceSub, reduceMul, reduceEqDiff, reduceLeDiff, Nat.reduceBEq, reduceLT, reduceIte, reduceCtorEq, Int.reduceToNat, bne, beq_self_eq_true, bne_self_eq_false, List.length_map]; try (first | (refine ⟨fun h => hX ?_, fun h => hY ?_⟩; clear hX hY) | (refine hX ?_; clear hX hY) | (refine hY ?_; clear hX hY)))
    | refine ev_block ?_
    | (apply hK; clear hK)
    | apply_assumption -exfalso -symm only [*]
    | (refine And.intro ?_ ?_; first | omega | assumption | (unfold maxLen; omega) | (simp only [decide_eq_true_eq, decide_eq_false_iff_not, Int.not_lt, Int.not_le] at h; omega))
  refine ev_loop (fun i : Nat => i ≤ m.l.length)
    (fun i => ⟨52, [(5, .int .i64 (i : Int)), (4, .bool false), (3, .own 1 0 0 0), (2, .own 0 0 0 0)],
      [.blk 41 0 8 [[.int .i64 m.b.k, .int .i64 m.b.y, .int .i64 m.b.x, .int .i64 m.px, .int .i64 m.py, .int .i64 m.ph, .int .i64 m.sc, .sl (m.l.map enBl)]], .blk 41 0 8 [[.int .i64 m.b.k, .int .i64 m.b.y, .int .i64 m.b.x, .int .i64 m.px, .int .i64 m.py, .int .i64 m.ph, .int .i64 m.sc, .sl (m.l.map enBl)]]]⟩)
    (fun i => m.l.length - i) 0 (Nat.zero_le _) ?_ ?_
  · simp only [go_sem, reduceAdd, reduceSub, reduceMul, reduceEqDiff, reduceLeDiff, Nat.reduceBEq, reduceLT, reduceIte, reduceCtorEq, Int.reduceToNat, fits, fitT, fitOs, fitO, V.under, unders, rowsUnder]
    repeat' first | rfl | (simp only [V.under, unders, rowsUnder, Nat.reduceLT]; done) | apply And.intro
  · intro i hi
    have hb0 : 0 ≤ (i : Int) := by omega
    have hw : IntKind.i64.wrap ((i : Int) + 1) = ((i + 1 : Nat) : Int) := by rw [w64] <;> omega
    by_cases hlt : (i : Int) < m.l.length
    · have hg := blc_get m.l i
      generalize m.l.getD i Blc.z = b at *
      repeat' first
        | refine ev_seq (fun K hK => ?_)
        | ((first | refine evrd (id := 6) hmix tt_ok false [([], false), ([], false), ([], false), ([], false), ([], false), ([], false), ([], false), ([], false), ([], false), ([], false), ([], false)] (by decide +kernel) ?_ | refine evr tt_ok false ?_ | refine ev_skip ?_ | refine ev_ret ?_ | refine ev_exit ?_ | refine evc (fun X Y hX hY => ?_)); simp only [go_sem, reduceAdd, reduceSub, reduceMul, reduceEqDiff, reduceLeDiff, Nat.reduceBEq, reduceLT, reduceIte, reduceCtorEq, Int.reduceToNat, bne, beq_self_eq_true, bne_self_eq_false, List.length_map, hlt, hb0, hw, hg, Int.toNat_natCast]; try (first | (refine ⟨fun h => hX ?_, fun h => hY ?_⟩; clear hX hY) | (refine hX ?_; clear hX hY) | (refine hY ?_; clear hX hY)))
        | refine ev_block ?_
        | (apply hK; clear hK)
        | apply_assumption -exfalso -symm only [*]
        | (refine And.intro ?_ ?_; first | omega | assumption | (unfold maxLen; omega) | (simp only [decide_eq_true_eq, decide_eq_false_iff_not, Int.not_lt, Int.not_le] at h; omega))
      exact ⟨i + 1, by omega, by (repeat' first | rfl | apply And.intro), by omega⟩
    · obtain rfl : i = m.l.length := by omega
      repeat' first
        | refine ev_seq (fun K hK => ?_)
        | ((first | refine evrd (id := 6) hmix tt_ok false [([], false), ([], false), ([], false), ([], false), ([], false), ([], false), ([], false), ([], false), ([], false), ([], false), ([], false)] (by decide +kernel) ?_ | refine evr tt_ok false ?_ | refine ev_skip ?_ | refine ev_ret ?_ | refine ev_exit ?_ | refine evc (fun X Y hX hY => ?_)); simp only [go_sem, reduceAdd, reduceSub, reduceMul, reduceEqDiff, reduceLeDiff, Nat.reduceBEq, reduceLT, reduceIte, reduceCtorEq, Int.reduceToNat, List.length_map, hlt]; try (first | (refine ⟨fun h => hX ?_, fun h => hY ?_⟩; clear hX hY) | (refine hX ?_; clear hX hY) | (refine hY ?_; clear hX hY)))
        | refine ev_block ?_
        | (apply hK; clear hK)
        | apply_assumption -exfalso -symm only [*]
        | (refine And.intro ?_ ?_; first | omega | assumption | (unfold maxLen; omega) | (simp only [decide_eq_true_eq, decide_eq_false_iff_not, Int.not_lt, Int.not_le] at h; omega))
def fewP (p : Prob) (n : Nat) : Prop := (p.f.v.length : Int) ≤ 5000 ∧ (p.s.length : Int) ≤ 40 ∧ (n : Int) ≤ 20000 ∧ (p.ok → ((p.N : Nat) : Int) ≤ 300 ∧ ((n : Int) ≤ 400 ∨ 16384 < (n : Int)))
instance (p : Prob) (n : Nat) : Decidable (fewP p n) := by unfold fewP; infer_instance
theorem winN {p : Prob} (h : p.ok) : p.ct * (2 * p.re + 1) * (2 * p.re + 1) = ((p.N : Nat) : Int) := by
  obtain ⟨hs, hk, hn, r0, r1, k1, k2⟩ := winOk h
  unfold Prob.N
  rw [Int.natCast_mul, Int.natCast_mul, hs, hk, Int.mul_comm (2 * p.re + 1) ((2 * p.re + 1) * p.ct), Int.mul_comm (2 * p.re + 1) p.ct]
theorem few20_pure (p : Prob) (c0 c1 c2 c3 c4 c5 c6 : Int) : Pure Try.prog 28 [.agg (encP p), .agg [.int .i64 c0, .int .i64 c1, .int .i64 c2, .int .i64 c3, .int .i64 c4, .int .i64 c5, .int .i64 c6, .emp]] (.bool (decide (fewP p 0))) := by
  have hv : ∀ b : Bool, (b = true ↔ fewP p 0) → Pure Try.prog 28 [.agg (encP p), .agg [.int .i64 c0, .int .i64 c1, .int .i64 c2, .int .i64 c3, .int .i64 c4, .int .i64 c5, .int .i64 c6, .emp]] (.bool b) → Pure Try.prog 28 [.agg (encP p), .agg [.int .i64 c0, .int .i64 c1, .int .i64 c2, .int .i64 c3, .int .i64 c4, .int .i64 c5, .int .i64 c6, .emp]] (.bool (decide (fewP p 0))) := fun b hb h => by
    rw [show decide (fewP p 0) = b by rw [Bool.eq_iff_iff, decide_eq_true_eq]; exact hb.symm]; exact h
  by_cases h1 : (5000 : Int) < p.f.v.length
  · refine hv false ⟨fun h => (by cases h), fun h => absurd h.1 (by omega)⟩ ?_
    simp only [encP]
    (refine pure_of_ev tt_ok Try.func28 rfl (by decide +kernel) (Nat.le_of_ble_eq_true rfl) ?_; simp only [Try.f28])
    repeat' first
      | refine ev_seq (fun K hK => ?_)
      | ((first | refine evr tt_ok false ?_ | refine ev_skip ?_ | refine ev_ret ?_ | refine ev_exit ?_ | refine evc (fun X Y hX hY => ?_)); simp only [go_sem, reduceAdd, reduceSub, reduceMul, reduceEqDiff, reduceLeDiff, Nat.reduceBEq, reduceLT, reduceIte, reduceCtorEq, Int.reduceToNat, h1, List.length_map]; try (first | (refine ⟨fun h => hX ?_, fun h => hY ?_⟩; clear hX hY) | (refine hX ?_; clear hX hY) | (refine hY ?_; clear hX hY)))
      | refine ev_block ?_
      | (apply hK; clear hK)
      | apply_assumption -exfalso -symm only [*]
      | (refine And.intro ?_ ?_; first | omega | assumption | (unfold maxLen; omega) | (simp only [decide_eq_true_eq, decide_eq_false_iff_not, Int.not_lt, Int.not_le] at h; omega))
  · by_cases h2 : (40 : Int) < p.s.length
    · refine hv false ⟨fun h => (by cases h), fun h => absurd h.2.1 (by omega)⟩ ?_
      simp only [encP]
      (refine pure_of_ev tt_ok Try.func28 rfl (by decide +kernel) (Nat.le_of_ble_eq_true rfl) ?_; simp only [Try.f28])
      repeat' first
        | refine ev_seq (fun K hK => ?_)
        | ((first | refine evr tt_ok false ?_ | refine ev_skip ?_ | refine ev_ret ?_ | refine ev_exit ?_ | refine evc (fun X Y hX hY => ?_)); simp only [go_sem, reduceAdd, reduceSub, reduceMul, reduceEqDiff, reduceLeDiff, Nat.reduceBEq, reduceLT, reduceIte, reduceCtorEq, Int.reduceToNat, h1, h2, List.length_map]; try (first | (refine ⟨fun h => hX ?_, fun h => hY ?_⟩; clear hX hY) | (refine hX ?_; clear hX hY) | (refine hY ?_; clear hX hY)))
        | refine ev_block ?_
        | (apply hK; clear hK)
        | apply_assumption -exfalso -symm only [*]
        | (refine And.intro ?_ ?_; first | omega | assumption | (unfold maxLen; omega) | (simp only [decide_eq_true_eq, decide_eq_false_iff_not, Int.not_lt, Int.not_le] at h; omega))
    · have v := rprob_pure p (by omega)
      by_cases h3 : ((0 : Nat) : Int) ≤ 20000
      · by_cases h : p.ok
        · rw [decide_eq_true h] at v
          obtain ⟨hs, hkk, hn, r0, r1, k1, k2⟩ := winOk h
          obtain ⟨s1, s2⟩ := side_in (r := p.re) ⟨r0, r1⟩
          obtain ⟨w1, w2⟩ := win_in (c := p.ct) (r := p.re) ⟨by omega, by omega⟩ ⟨r0, r1⟩
          have w3 := w2.trans (winN h)
          by_cases h4 : ((p.N : Nat) : Int) ≤ 300
          · refine hv (decide (((0 : Nat) : Int) ≤ 400) || decide (16384 < ((0 : Nat) : Int))) ?_ ?_
            · simp only [Bool.or_eq_true, decide_eq_true_eq, fewP]
              exact ⟨fun h' => ⟨by omega, by omega, h3, fun _ => ⟨h4, h'⟩⟩, fun h' => (h'.2.2.2 h).2⟩
            · simp only [encP] at *
              (refine pure_of_ev tt_ok Try.func28 rfl (by decide +kernel) (Nat.le_of_ble_eq_true rfl) ?_; simp only [Try.f28])
              repeat' first
                | refine ev_seq (fun K hK => ?_)
                | ((first | refine evr tt_ok false ?_ | refine ev_skip ?_ | refine ev_ret ?_ | refine ev_exit ?_ | refine evc (fun X Y hX hY => ?_)); simp only [go_sem, reduceAdd, reduceSub, reduceMul, reduceEqDiff, reduceLeDiff, Nat.reduceBEq, reduceLT, reduceIte, reduceCtorEq, Int.reduceToNat, h1, h2, h4, s1, s2, w1, w3, List.length_map]; try (first | (refine ⟨fun h => hX ?_, fun h => hY ?_⟩; clear hX hY) | (refine hX ?_; clear hX hY) | (refine hY ?_; clear hX hY)))
                | refine ev_block ?_
                | (apply hK; clear hK)
                | apply_assumption -exfalso -symm only [*]
                | (refine And.intro ?_ ?_; first | omega | assumption | (unfold maxLen; omega) | (simp only [decide_eq_true_eq, decide_eq_false_iff_not, Int.not_lt, Int.not_le] at h; omega))
                | ((first | apply callP | apply callPG | apply callP0); (case' hv => (simp only [go_sem, reduceAdd, reduceSub, reduceMul, reduceEqDiff, reduceLeDiff, Nat.reduceBEq, reduceLT, reduceIte, reduceCtorEq, Int.reduceToNat, h1, h2, h4, s1, s2, w1, w3, List.length_map]; try exact rfl)); (case' hp => (first | refine' v | (refine' (fun hg => ?_); refine' v))); (case' h => ((first | refine evOps_fin ?_ | refine And.intro ?_ (evD_fin ?_) | refine evD_fin ?_) <;> simp only [go_sem, reduceAdd, reduceSub, reduceMul, reduceEqDiff, reduceLeDiff, Nat.reduceBEq, reduceLT, reduceIte, reduceCtorEq, Int.reduceToNat, h1, h2, h4, s1, s2, w1, w3, List.length_map])))
                | (refine callX ?_; (first | refine evOps_fin ?_ | refine And.intro ?_ (evD_fin ?_) | refine evD_fin ?_) <;> simp only [go_sem, reduceAdd, reduceSub, reduceMul, reduceEqDiff, reduceLeDiff, Nat.reduceBEq, reduceLT, reduceIte, reduceCtorEq, Int.reduceToNat, h1, h2, h4, s1, s2, w1, w3, List.length_map])
              all_goals rfl
          · refine hv false ⟨fun h => (by cases h), fun h' => absurd (h'.2.2.2 h).1 h4⟩ ?_
            simp only [encP] at *
            (refine pure_of_ev tt_ok Try.func28 rfl (by decide +kernel) (Nat.le_of_ble_eq_true rfl) ?_; simp only [Try.f28])
            repeat' first
              | refine ev_seq (fun K hK => ?_)
              | ((first | refine evr tt_ok false ?_ | refine ev_skip ?_ | refine ev_ret ?_ | refine ev_exit ?_ | refine evc (fun X Y hX hY => ?_)); simp only [go_sem, reduceAdd, reduceSub, reduceMul, reduceEqDiff, reduceLeDiff, Nat.reduceBEq, reduceLT, reduceIte, reduceCtorEq, Int.reduceToNat, h1, h2, h4, s1, s2, w1, w3, List.length_map]; try (first | (refine ⟨fun h => hX ?_, fun h => hY ?_⟩; clear hX hY) | (refine hX ?_; clear hX hY) | (refine hY ?_; clear hX hY)))
              | refine ev_block ?_
              | (apply hK; clear hK)
              | apply_assumption -exfalso -symm only [*]
              | (refine And.intro ?_ ?_; first | omega | assumption | (unfold maxLen; omega) | (simp only [decide_eq_true_eq, decide_eq_false_iff_not, Int.not_lt, Int.not_le] at h; omega))
              | ((first | apply callP | apply callPG | apply callP0); (case' hv => (simp only [go_sem, reduceAdd, reduceSub, reduceMul, reduceEqDiff, reduceLeDiff, Nat.reduceBEq, reduceLT, reduceIte, reduceCtorEq, Int.reduceToNat, h1, h2, h4, s1, s2, w1, w3, List.length_map]; try exact rfl)); (case' hp => (first | refine' v | (refine' (fun hg => ?_); refine' v))); (case' h => ((first | refine evOps_fin ?_ | refine And.intro ?_ (evD_fin ?_) | refine evD_fin ?_) <;> simp only [go_sem, reduceAdd, reduceSub, reduceMul, reduceEqDiff, reduceLeDiff, Nat.reduceBEq, reduceLT, reduceIte, reduceCtorEq, Int.reduceToNat, h1, h2, h4, s1, s2, w1, w3, List.length_map])))
              | (refine callX ?_; (first | refine evOps_fin ?_ | refine And.intro ?_ (evD_fin ?_) | refine evD_fin ?_) <;> simp only [go_sem, reduceAdd, reduceSub, reduceMul, reduceEqDiff, reduceLeDiff, Nat.reduceBEq, reduceLT, reduceIte, reduceCtorEq, Int.reduceToNat, h1, h2, h4, s1, s2, w1, w3, List.length_map])
        · rw [decide_eq_false h] at v
          refine hv true ⟨fun _ => ⟨by omega, by omega, h3, fun h' => absurd h' h⟩, fun _ => rfl⟩ ?_
          simp only [encP] at *
          (refine pure_of_ev tt_ok Try.func28 rfl (by decide +kernel) (Nat.le_of_ble_eq_true rfl) ?_; simp only [Try.f28])
          repeat' first
            | refine ev_seq (fun K hK => ?_)
            | ((first | refine evr tt_ok false ?_ | refine ev_skip ?_ | refine ev_ret ?_ | refine ev_exit ?_ | refine evc (fun X Y hX hY => ?_)); simp only [go_sem, reduceAdd, reduceSub, reduceMul, reduceEqDiff, reduceLeDiff, Nat.reduceBEq, reduceLT, reduceIte, reduceCtorEq, Int.reduceToNat, h1, h2, List.length_map]; try (first | (refine ⟨fun h => hX ?_, fun h => hY ?_⟩; clear hX hY) | (refine hX ?_; clear hX hY) | (refine hY ?_; clear hX hY)))
            | refine ev_block ?_
            | (apply hK; clear hK)
            | apply_assumption -exfalso -symm only [*]
            | (refine And.intro ?_ ?_; first | omega | assumption | (unfold maxLen; omega) | (simp only [decide_eq_true_eq, decide_eq_false_iff_not, Int.not_lt, Int.not_le] at h; omega))
            | ((first | apply callP | apply callPG | apply callP0); (case' hv => (simp only [go_sem, reduceAdd, reduceSub, reduceMul, reduceEqDiff, reduceLeDiff, Nat.reduceBEq, reduceLT, reduceIte, reduceCtorEq, Int.reduceToNat, h1, h2, List.length_map]; try exact rfl)); (case' hp => (first | refine' v | (refine' (fun hg => ?_); refine' v))); (case' h => ((first | refine evOps_fin ?_ | refine And.intro ?_ (evD_fin ?_) | refine evD_fin ?_) <;> simp only [go_sem, reduceAdd, reduceSub, reduceMul, reduceEqDiff, reduceLeDiff, Nat.reduceBEq, reduceLT, reduceIte, reduceCtorEq, Int.reduceToNat, h1, h2, List.length_map])))
            | (refine callX ?_; (first | refine evOps_fin ?_ | refine And.intro ?_ (evD_fin ?_) | refine evD_fin ?_) <;> simp only [go_sem, reduceAdd, reduceSub, reduceMul, reduceEqDiff, reduceLeDiff, Nat.reduceBEq, reduceLT, reduceIte, reduceCtorEq, Int.reduceToNat, h1, h2, List.length_map])
          all_goals rfl
      · exact absurd (show ((0 : Nat) : Int) ≤ 20000 by decide) h3
def fld20 : Fld := ⟨0, 0, 1, 1, [9]⟩
def pro20 : Prob := ⟨fld20, [⟨0, 0⟩], 32, 32, 0, 1, 0⟩
theorem small_pure : Pure Try.prog 67 [] (.agg [.int .i64 0, .int .i64 0, .int .i64 1, .int .i64 1, .sl [[.int .u8 9]], .sl [[.int .i64 0, .int .i64 0]], .int .i64 32, .int .i64 32, .int .i64 0, .int .i64 1, .int .i64 0]) := by
  (refine pure_of_ev tt_ok Try.func67 rfl (by decide +kernel) (Nat.le_of_ble_eq_true rfl) ?_; simp only [Try.f67])
  repeat' first
    | refine ev_seq (fun K hK => ?_)
    | ((first | refine evr tt_ok false ?_ | refine ev_skip ?_ | refine ev_ret ?_ | refine ev_exit ?_ | refine evc (fun X Y hX hY => ?_)); simp only [go_sem, reduceAdd, reduceSub, reduceMul, reduceEqDiff, reduceLeDiff, Nat.reduceBEq, reduceLT, reduceIte, reduceCtorEq, Int.reduceToNat]; try (first | (refine ⟨fun h => hX ?_, fun h => hY ?_⟩; clear hX hY) | (refine hX ?_; clear hX hY) | (refine hY ?_; clear hX hY)))
    | refine ev_block ?_
    | (apply hK; clear hK)
    | apply_assumption -exfalso -symm only [*]
    | (refine And.intro ?_ ?_; first | omega | assumption | (unfold maxLen; omega) | (simp only [decide_eq_true_eq, decide_eq_false_iff_not, Int.not_lt, Int.not_le] at h; omega))
  all_goals rfl
end Go.Proofs.Ytokhaefcnbiadaa
