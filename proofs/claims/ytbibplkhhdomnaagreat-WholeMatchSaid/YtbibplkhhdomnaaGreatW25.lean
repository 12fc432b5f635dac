import Derived.Test.YtbibplkhhdomnaaGreatW24
set_option linter.all false
namespace Go.Proofs.YtbibplkhhdomnaaGreat
open Nat (reduceAdd reduceSub reduceMul reduceEqDiff reduceLeDiff reduceLT)
open Go Go.K
set_option maxRecDepth 20000
set_option maxHeartbeats 8000000
def poseOk (p : Prob) (m : Mat) : Prop := m.px = p.cx + 64 * m.b.x ∧ m.py = p.cy + 64 * m.b.y ∧ m.ph = (p.fr + m.b.k) % 256
instance (p : Prob) (m : Mat) : Decidable (poseOk p m) := by unfold poseOk; infer_instance
def badB (p : Prob) (m : Mat) (b : Blc) : Prop := m.sc < boundM p b ∨ boundM p b = m.sc ∧ befM ⟨b.k, b.y, b.x⟩ m.b
instance (p : Prob) (m : Mat) (b : Blc) : Decidable (badB p m b) := by unfold badB; infer_instance
def allOk (p : Prob) (m : Mat) : Prop := ∀ i, i < m.l.length → blkOk p (m.l.getD i Blc.z)
instance (p : Prob) (m : Mat) : Decidable (allOk p m) := by unfold allOk; infer_instance
def noBad (p : Prob) (m : Mat) : Prop := ∀ i, i < m.l.length → ¬ badB p m (m.l.getD i Blc.z)
instance (p : Prob) (m : Mat) : Decidable (noBad p m) := by unfold noBad; infer_instance
def check3 (p : Prob) (m : Mat) : Int := if allOk p m then (if partM p m.l = true then (if noBad p m then 0 else 9) else 11) else 2
theorem check3_2 {p : Prob} {m : Mat} (h : ¬ allOk p m) : check3 p m = 2 := if_neg h
theorem check3_11 {p : Prob} {m : Mat} (h : allOk p m) (h2 : ¬ partM p m.l = true) : check3 p m = 11 := by unfold check3; rw [if_pos h, if_neg h2]
theorem check3_9 {p : Prob} {m : Mat} (h : allOk p m) (h2 : partM p m.l = true) (h3 : ¬ noBad p m) : check3 p m = 9 := by unfold check3; rw [if_pos h, if_pos h2, if_neg h3]
theorem check3_0 {p : Prob} {m : Mat} (h : allOk p m) (h2 : partM p m.l = true) (h3 : noBad p m) : check3 p m = 0 := by unfold check3; rw [if_pos h, if_pos h2, if_pos h3]
def check2 (p : Prob) (m : Mat) : Int := if (m.l.length : Int) ≤ 16384 then check3 p m else 6
def check1 (p : Prob) (m : Mat) : Int := if poseOk p m ∧ m.sc = boundM p (toB m.b) then check2 p m else 9
def checkM (p : Prob) (m : Mat) : Int := if p.ok then (if inW p m.b then check1 p m else 2) else 1
theorem check_pure (p : Prob) (hb : bytesL p.f.v) (hl : (p.s.length : Int) < 4611686018427387904) (m : Mat) : Pure Tryz.prog 8 [.agg (encP p), .agg (encM m)] (.int .i64 (checkM p m)) := by
  have v := mvalid_pure p hl
  unfold checkM
  by_cases h : p.ok
  · rw [decide_eq_true h] at v
    rw [if_pos h]
    have vi := cin_pure p m.b h
    by_cases hc : inW p m.b
    · rw [decide_eq_true hc] at vi
      rw [if_pos hc]
      have vp := mpose_pure p hl m.b
      unfold poseM at vp
      rw [if_pos h, if_pos hc] at vp
      have vs := Score_pure p hb hl m.b
      unfold boundR at vs
      rw [if_pos h, if_pos ⟨hc, Int.le_refl 0, by show (0 : Int) ≤ 6; decide⟩] at vs
      have eT : (Blc.mk m.b.k m.b.y m.b.x 0) = toB m.b := rfl
      rw [eT] at vs
      unfold check1
      by_cases hq : poseOk p m ∧ m.sc = boundM p (toB m.b)
      · rw [if_pos hq]
        obtain ⟨⟨q1, q2, q3⟩, q4⟩ := hq
        rw [← q4] at vs
        rw [← q1, ← q2, ← q3] at vp
        unfold check2
        by_cases hn : (m.l.length : Int) ≤ 16384
        · rw [if_pos hn]
          have hn2 : ¬ (16384 : Int) < m.l.length := by omega
          have vv := fun b => cvalid_pure p b h
          have vpt := fun hall => part_pure p h m.l (by omega) hall
          have vB := fun b hbo => by
            have := Bound_pure p hb hl b
            unfold boundR at this
            rw [if_pos h, if_pos hbo] at this
            exact this
          have vf := first_pure
          have vbf := fun b : Blc => before_pure ⟨b.k, b.y, b.x⟩ m.b
          have hlen : m.l.length ≤ 16384 := by omega
          simp only [encP, encM, enC, encPo, encNu] at *
          (refine pure_of_ev tt_ok Tryz.func8 rfl (by decide +kernel) (Nat.le_of_ble_eq_true rfl) ?_; simp only [Tryz.f8])
          repeat' first
            | refine ev_seq (fun K hK => ?_)
            | ((first | refine evrd (id := 23) hmix tt_ok false [([], false), ([], false), ([], false), ([], false), ([], false), ([], false), ([], false), ([], false), ([], false), ([], false), ([], false), ([], true), ([11], false), ([11], false), ([], false), ([], false), ([], false)] (by decide +kernel) ?_ | refine evr tt_ok false ?_ | refine ev_skip ?_ | refine ev_ret ?_ | refine ev_exit ?_ | refine evc (fun X Y hX hY => ?_)); simp only [go_sem, reduceAdd, reduceSub, reduceMul, reduceEqDiff, reduceLeDiff, Nat.reduceBEq, reduceLT, reduceIte, reduceCtorEq, Int.reduceToNat, hn2, List.length_map, bne, beq_self_eq_true]; try (first | (refine ⟨fun h => hX ?_, fun h => hY ?_⟩; clear hX hY) | (refine hX ?_; clear hX hY) | (refine hY ?_; clear hX hY)))
            | refine ev_block ?_
            | (apply hK; clear hK)
            | apply_assumption -exfalso -symm only [*]
            | (refine And.intro ?_ ?_; first | omega | assumption | (unfold maxLen; omega) | (simp only [decide_eq_true_eq, decide_eq_false_iff_not, Int.not_lt, Int.not_le] at h; omega))
            | ((first | apply callP | apply callPG | apply callP0); (case' hv => (simp only [go_sem, reduceAdd, reduceSub, reduceMul, reduceEqDiff, reduceLeDiff, Nat.reduceBEq, reduceLT, reduceIte, reduceCtorEq, Int.reduceToNat, hn2, List.length_map, bne, beq_self_eq_true]; try exact rfl)); (case' hp => (first | refine' v | (refine' (fun hg => ?_); refine' v) | refine' vi | (refine' (fun hg => ?_); refine' vi) | refine' vp | (refine' (fun hg => ?_); refine' vp) | refine' vs | (refine' (fun hg => ?_); refine' vs))); (case' h => ((first | refine evOps_fin ?_ | refine And.intro ?_ (evD_fin ?_) | refine evD_fin ?_) <;> simp only [go_sem, reduceAdd, reduceSub, reduceMul, reduceEqDiff, reduceLeDiff, Nat.reduceBEq, reduceLT, reduceIte, reduceCtorEq, Int.reduceToNat, hn2, List.length_map, bne, beq_self_eq_true])))
            | (refine callX ?_; (first | refine evOps_fin ?_ | refine And.intro ?_ (evD_fin ?_) | refine evD_fin ?_) <;> simp only [go_sem, reduceAdd, reduceSub, reduceMul, reduceEqDiff, reduceLeDiff, Nat.reduceBEq, reduceLT, reduceIte, reduceCtorEq, Int.reduceToNat, hn2, List.length_map, bne, beq_self_eq_true])
          refine ev_loop (fun i : Nat => i ≤ m.l.length ∧ ∀ j, j < i → blkOk p (m.l.getD j Blc.z))
            (fun i => ⟨99, [(54, .int .i64 (i : Int)), (53, .int .i64 (m.l.length : Int)), (52, .sl (m.l.map enBl)), (3, .own 1 0 0 0), (2, .own 0 0 0 0)],
              [.blk 37 0 11 [[.int .i64 p.f.x, .int .i64 p.f.y, .int .i64 p.f.w, .int .i64 p.f.h, .sl (p.f.v.map enB), .sl (p.s.map enBm), .int .i64 p.cx, .int .i64 p.cy, .int .i64 p.fr, .int .i64 p.ct, .int .i64 p.re]],
               .blk 46 0 8 [[.int .i64 m.b.k, .int .i64 m.b.y, .int .i64 m.b.x, .int .i64 m.px, .int .i64 m.py, .int .i64 m.ph, .int .i64 m.sc, .sl (m.l.map enBl)]]]⟩)
            (fun i => m.l.length - i) 0 ⟨Nat.zero_le _, fun j hj => by omega⟩ ?_ ?_
          · simp only [go_sem, reduceAdd, reduceSub, reduceMul, reduceEqDiff, reduceLeDiff, Nat.reduceBEq, reduceLT, reduceIte, reduceCtorEq, Int.reduceToNat, fits, fitT, fitOs, fitO, V.under, unders, rowsUnder]
            repeat' first | rfl | (simp only [V.under, unders, rowsUnder, Nat.reduceLT]; done) | apply And.intro
          · rintro i ⟨hi, hall⟩
            have hb0 : 0 ≤ (i : Int) := by omega
            have hw : IntKind.i64.wrap ((i : Int) + 1) = ((i + 1 : Nat) : Int) := by rw [w64] <;> omega
            by_cases hlt : (i : Int) < m.l.length
            · have hg := blc_get m.l i
              have v1 := vv (m.l.getD i Blc.z)
              by_cases hk : blkOk p (m.l.getD i Blc.z)
              · rw [decide_eq_true hk] at v1
                have hall2 : ∀ j, j < i + 1 → blkOk p (m.l.getD j Blc.z) := fun j hj => by
                  by_cases e : j = i
                  · subst e; exact hk
                  · exact hall j (by omega)
                clear hall hk
                generalize m.l.getD i Blc.z = b at hg v1
                simp only [enBl] at v1
                repeat' first
                  | refine ev_seq (fun K hK => ?_)
                  | ((first | refine evrd (id := 23) hmix tt_ok false [([], false), ([], false), ([], false), ([], false), ([], false), ([], false), ([], false), ([], false), ([], false), ([], false), ([], false), ([], true), ([11], false), ([11], false), ([], false), ([], false), ([], false)] (by decide +kernel) ?_ | refine evr tt_ok false ?_ | refine ev_skip ?_ | refine ev_ret ?_ | refine ev_exit ?_ | refine evc (fun X Y hX hY => ?_)); simp only [go_sem, reduceAdd, reduceSub, reduceMul, reduceEqDiff, reduceLeDiff, Nat.reduceBEq, reduceLT, reduceIte, reduceCtorEq, Int.reduceToNat, hlt, hb0, hw, hg, List.length_map, Int.toNat_natCast]; try (first | (refine ⟨fun h => hX ?_, fun h => hY ?_⟩; clear hX hY) | (refine hX ?_; clear hX hY) | (refine hY ?_; clear hX hY)))
                  | refine ev_block ?_
                  | (apply hK; clear hK)
                  | apply_assumption -exfalso -symm only [*]
                  | (refine And.intro ?_ ?_; first | omega | assumption | (unfold maxLen; omega) | (simp only [decide_eq_true_eq, decide_eq_false_iff_not, Int.not_lt, Int.not_le] at h; omega))
                  | ((first | apply callP | apply callPG | apply callP0); (case' hv => (simp only [go_sem, reduceAdd, reduceSub, reduceMul, reduceEqDiff, reduceLeDiff, Nat.reduceBEq, reduceLT, reduceIte, reduceCtorEq, Int.reduceToNat, hlt, hb0, hw, hg, List.length_map, Int.toNat_natCast]; try exact rfl)); (case' hp => (first | refine' v1 | (refine' (fun hg => ?_); refine' v1))); (case' h => ((first | refine evOps_fin ?_ | refine And.intro ?_ (evD_fin ?_) | refine evD_fin ?_) <;> simp only [go_sem, reduceAdd, reduceSub, reduceMul, reduceEqDiff, reduceLeDiff, Nat.reduceBEq, reduceLT, reduceIte, reduceCtorEq, Int.reduceToNat, hlt, hb0, hw, hg, List.length_map, Int.toNat_natCast])))
                  | (refine callX ?_; (first | refine evOps_fin ?_ | refine And.intro ?_ (evD_fin ?_) | refine evD_fin ?_) <;> simp only [go_sem, reduceAdd, reduceSub, reduceMul, reduceEqDiff, reduceLeDiff, Nat.reduceBEq, reduceLT, reduceIte, reduceCtorEq, Int.reduceToNat, hlt, hb0, hw, hg, List.length_map, Int.toNat_natCast])
                exact ⟨i + 1, ⟨by omega, hall2⟩, by (repeat' first | rfl | apply And.intro), by omega⟩
              · rw [decide_eq_false hk] at v1
                have hno : ¬ allOk p m := fun h => hk (h i (by omega))
                have hres := check3_2 hno
                clear hall hk hno
                generalize m.l.getD i Blc.z = b at hg v1
                simp only [enBl] at v1
                repeat' first
                  | refine ev_seq (fun K hK => ?_)
                  | ((first | refine evrd (id := 23) hmix tt_ok false [([], false), ([], false), ([], false), ([], false), ([], false), ([], false), ([], false), ([], false), ([], false), ([], false), ([], false), ([], true), ([11], false), ([11], false), ([], false), ([], false), ([], false)] (by decide +kernel) ?_ | refine evr tt_ok false ?_ | refine ev_skip ?_ | refine ev_ret ?_ | refine ev_exit ?_ | refine evc (fun X Y hX hY => ?_)); simp only [go_sem, reduceAdd, reduceSub, reduceMul, reduceEqDiff, reduceLeDiff, Nat.reduceBEq, reduceLT, reduceIte, reduceCtorEq, Int.reduceToNat, hlt, hb0, hw, hg, List.length_map, Int.toNat_natCast]; try (first | (refine ⟨fun h => hX ?_, fun h => hY ?_⟩; clear hX hY) | (refine hX ?_; clear hX hY) | (refine hY ?_; clear hX hY)))
                  | refine ev_block ?_
                  | (apply hK; clear hK)
                  | apply_assumption -exfalso -symm only [*]
                  | (refine And.intro ?_ ?_; first | omega | assumption | (unfold maxLen; omega) | (simp only [decide_eq_true_eq, decide_eq_false_iff_not, Int.not_lt, Int.not_le] at h; omega))
                  | ((first | apply callP | apply callPG | apply callP0); (case' hv => (simp only [go_sem, reduceAdd, reduceSub, reduceMul, reduceEqDiff, reduceLeDiff, Nat.reduceBEq, reduceLT, reduceIte, reduceCtorEq, Int.reduceToNat, hlt, hb0, hw, hg, List.length_map, Int.toNat_natCast]; try exact rfl)); (case' hp => (first | refine' v1 | (refine' (fun hg => ?_); refine' v1))); (case' h => ((first | refine evOps_fin ?_ | refine And.intro ?_ (evD_fin ?_) | refine evD_fin ?_) <;> simp only [go_sem, reduceAdd, reduceSub, reduceMul, reduceEqDiff, reduceLeDiff, Nat.reduceBEq, reduceLT, reduceIte, reduceCtorEq, Int.reduceToNat, hlt, hb0, hw, hg, List.length_map, Int.toNat_natCast])))
                  | (refine callX ?_; (first | refine evOps_fin ?_ | refine And.intro ?_ (evD_fin ?_) | refine evD_fin ?_) <;> simp only [go_sem, reduceAdd, reduceSub, reduceMul, reduceEqDiff, reduceLeDiff, Nat.reduceBEq, reduceLT, reduceIte, reduceCtorEq, Int.reduceToNat, hlt, hb0, hw, hg, List.length_map, Int.toNat_natCast])
                rw [hres]
            · obtain rfl : i = m.l.length := by omega
              have hyes : allOk p m := hall
              have vpp := vpt hall
              by_cases hp : partM p m.l = true
              · rw [hp] at vpp
                repeat' first
                  | refine ev_seq (fun K hK => ?_)
                  | ((first | refine evrd (id := 23) hmix tt_ok false [([], false), ([], false), ([], false), ([], false), ([], false), ([], false), ([], false), ([], false), ([], false), ([], false), ([], false), ([], true), ([11], false), ([11], false), ([], false), ([], false), ([], false)] (by decide +kernel) ?_ | refine evr tt_ok false ?_ | refine ev_skip ?_ | refine ev_ret ?_ | refine ev_exit ?_ | refine evc (fun X Y hX hY => ?_)); simp only [go_sem, reduceAdd, reduceSub, reduceMul, reduceEqDiff, reduceLeDiff, Nat.reduceBEq, reduceLT, reduceIte, reduceCtorEq, Int.reduceToNat, hlt, List.length_map]; try (first | (refine ⟨fun h => hX ?_, fun h => hY ?_⟩; clear hX hY) | (refine hX ?_; clear hX hY) | (refine hY ?_; clear hX hY)))
                  | refine ev_block ?_
                  | (apply hK; clear hK)
                  | apply_assumption -exfalso -symm only [*]
                  | (refine And.intro ?_ ?_; first | omega | assumption | (unfold maxLen; omega) | (simp only [decide_eq_true_eq, decide_eq_false_iff_not, Int.not_lt, Int.not_le] at h; omega))
                  | ((first | apply callP | apply callPG | apply callP0); (case' hv => (simp only [go_sem, reduceAdd, reduceSub, reduceMul, reduceEqDiff, reduceLeDiff, Nat.reduceBEq, reduceLT, reduceIte, reduceCtorEq, Int.reduceToNat, hlt, List.length_map]; try exact rfl)); (case' hp => (first | refine' vpp | (refine' (fun hg => ?_); refine' vpp))); (case' h => ((first | refine evOps_fin ?_ | refine And.intro ?_ (evD_fin ?_) | refine evD_fin ?_) <;> simp only [go_sem, reduceAdd, reduceSub, reduceMul, reduceEqDiff, reduceLeDiff, Nat.reduceBEq, reduceLT, reduceIte, reduceCtorEq, Int.reduceToNat, hlt, List.length_map])))
                  | (refine callX ?_; (first | refine evOps_fin ?_ | refine And.intro ?_ (evD_fin ?_) | refine evD_fin ?_) <;> simp only [go_sem, reduceAdd, reduceSub, reduceMul, reduceEqDiff, reduceLeDiff, Nat.reduceBEq, reduceLT, reduceIte, reduceCtorEq, Int.reduceToNat, hlt, List.length_map])
                refine ev_loop (fun i : Nat => i ≤ m.l.length ∧ ∀ j, j < i → ¬ badB p m (m.l.getD j Blc.z))
                  (fun i => ⟨99, [(71, .int .i64 (i : Int)), (70, .int .i64 (m.l.length : Int)), (69, .sl (m.l.map enBl)), (3, .own 1 0 0 0), (2, .own 0 0 0 0)],
                    [.blk 37 0 11 [[.int .i64 p.f.x, .int .i64 p.f.y, .int .i64 p.f.w, .int .i64 p.f.h, .sl (p.f.v.map enB), .sl (p.s.map enBm), .int .i64 p.cx, .int .i64 p.cy, .int .i64 p.fr, .int .i64 p.ct, .int .i64 p.re]],
                     .blk 46 0 8 [[.int .i64 m.b.k, .int .i64 m.b.y, .int .i64 m.b.x, .int .i64 m.px, .int .i64 m.py, .int .i64 m.ph, .int .i64 m.sc, .sl (m.l.map enBl)]]]⟩)
                  (fun i => m.l.length - i) 0 ⟨Nat.zero_le _, fun j hj => by omega⟩ ?_ ?_
                · simp only [go_sem, reduceAdd, reduceSub, reduceMul, reduceEqDiff, reduceLeDiff, Nat.reduceBEq, reduceLT, reduceIte, reduceCtorEq, Int.reduceToNat, fits, fitT, fitOs, fitO, V.under, unders, rowsUnder]
                  repeat' first | rfl | (simp only [V.under, unders, rowsUnder, Nat.reduceLT]; done) | apply And.intro
                · rintro i ⟨hi, hnb⟩
                  have hb0 : 0 ≤ (i : Int) := by omega
                  have hw : IntKind.i64.wrap ((i : Int) + 1) = ((i + 1 : Nat) : Int) := by rw [w64] <;> omega
                  by_cases hlt : (i : Int) < m.l.length
                  · have hg := blc_get m.l i
                    have v1 := vB (m.l.getD i Blc.z) (hall i (by omega))
                    have v2 := vf (m.l.getD i Blc.z)
                    have v3 := vbf (m.l.getD i Blc.z)
                    by_cases hbd : badB p m (m.l.getD i Blc.z)
                    · have hno : ¬ noBad p m := fun h => h i (by omega) hbd
                      have hres := check3_9 hyes hp hno
                      clear hnb hno
                      unfold badB at hbd
                      generalize m.l.getD i Blc.z = b at hg v1 v2 v3 hbd
                      simp only [enBl] at v1 v2
                      generalize boundM p b = bd at v1 hbd
                      by_cases hgt : m.sc < bd
                      · repeat' first
                        | refine ev_seq (fun K hK => ?_)
                        | ((first | refine evrd (id := 23) hmix tt_ok false [([], false), ([], false), ([], false), ([], false), ([], false), ([], false), ([], false), ([], false), ([], false), ([], false), ([], false), ([], true), ([11], false), ([11], false), ([], false), ([], false), ([], false)] (by decide +kernel) ?_ | refine evr tt_ok false ?_ | refine ev_skip ?_ | refine ev_ret ?_ | refine ev_exit ?_ | refine evc (fun X Y hX hY => ?_)); simp only [go_sem, reduceAdd, reduceSub, reduceMul, reduceEqDiff, reduceLeDiff, Nat.reduceBEq, reduceLT, reduceIte, reduceCtorEq, Int.reduceToNat, hlt, hb0, hw, hg, hgt, List.length_map, Int.toNat_natCast]; try (first | (refine ⟨fun h => hX ?_, fun h => hY ?_⟩; clear hX hY) | (refine hX ?_; clear hX hY) | (refine hY ?_; clear hX hY)))
                        | refine ev_block ?_
                        | (apply hK; clear hK)
                        | apply_assumption -exfalso -symm only [*]
                        | (refine And.intro ?_ ?_; first | omega | assumption | (unfold maxLen; omega) | (simp only [decide_eq_true_eq, decide_eq_false_iff_not, Int.not_lt, Int.not_le] at h; omega))
                        | ((first | apply callP | apply callPG | apply callP0); (case' hv => (simp only [go_sem, reduceAdd, reduceSub, reduceMul, reduceEqDiff, reduceLeDiff, Nat.reduceBEq, reduceLT, reduceIte, reduceCtorEq, Int.reduceToNat, hlt, hb0, hw, hg, hgt, List.length_map, Int.toNat_natCast]; try exact rfl)); (case' hp => (first | refine' v1 | (refine' (fun hg => ?_); refine' v1) | refine' v2 | (refine' (fun hg => ?_); refine' v2) | refine' v3 | (refine' (fun hg => ?_); refine' v3))); (case' h => ((first | refine evOps_fin ?_ | refine And.intro ?_ (evD_fin ?_) | refine evD_fin ?_) <;> simp only [go_sem, reduceAdd, reduceSub, reduceMul, reduceEqDiff, reduceLeDiff, Nat.reduceBEq, reduceLT, reduceIte, reduceCtorEq, Int.reduceToNat, hlt, hb0, hw, hg, hgt, List.length_map, Int.toNat_natCast])))
                        | (refine callX ?_; (first | refine evOps_fin ?_ | refine And.intro ?_ (evD_fin ?_) | refine evD_fin ?_) <;> simp only [go_sem, reduceAdd, reduceSub, reduceMul, reduceEqDiff, reduceLeDiff, Nat.reduceBEq, reduceLT, reduceIte, reduceCtorEq, Int.reduceToNat, hlt, hb0, hw, hg, hgt, List.length_map, Int.toNat_natCast])
                        rw [hres]
                      · rcases hbd with hbd | ⟨e, hbf⟩
                        · exact absurd hbd hgt
                        · rw [decide_eq_true hbf] at v3
                          have ee : (bd == m.sc) = true := by rw [e]; exact beq_self_eq_true _
                          repeat' first
                            | refine ev_seq (fun K hK => ?_)
                            | ((first | refine evrd (id := 23) hmix tt_ok false [([], false), ([], false), ([], false), ([], false), ([], false), ([], false), ([], false), ([], false), ([], false), ([], false), ([], false), ([], true), ([11], false), ([11], false), ([], false), ([], false), ([], false)] (by decide +kernel) ?_ | refine evr tt_ok false ?_ | refine ev_skip ?_ | refine ev_ret ?_ | refine ev_exit ?_ | refine evc (fun X Y hX hY => ?_)); simp only [go_sem, reduceAdd, reduceSub, reduceMul, reduceEqDiff, reduceLeDiff, Nat.reduceBEq, reduceLT, reduceIte, reduceCtorEq, Int.reduceToNat, hlt, hb0, hw, hg, hgt, ee, List.length_map, Int.toNat_natCast]; try (first | (refine ⟨fun h => hX ?_, fun h => hY ?_⟩; clear hX hY) | (refine hX ?_; clear hX hY) | (refine hY ?_; clear hX hY)))
                            | refine ev_block ?_
                            | (apply hK; clear hK)
                            | apply_assumption -exfalso -symm only [*]
                            | (refine And.intro ?_ ?_; first | omega | assumption | (unfold maxLen; omega) | (simp only [decide_eq_true_eq, decide_eq_false_iff_not, Int.not_lt, Int.not_le] at h; omega))
                            | ((first | apply callP | apply callPG | apply callP0); (case' hv => (simp only [go_sem, reduceAdd, reduceSub, reduceMul, reduceEqDiff, reduceLeDiff, Nat.reduceBEq, reduceLT, reduceIte, reduceCtorEq, Int.reduceToNat, hlt, hb0, hw, hg, hgt, ee, List.length_map, Int.toNat_natCast]; try exact rfl)); (case' hp => (first | refine' v1 | (refine' (fun hg => ?_); refine' v1) | refine' v2 | (refine' (fun hg => ?_); refine' v2) | refine' v3 | (refine' (fun hg => ?_); refine' v3))); (case' h => ((first | refine evOps_fin ?_ | refine And.intro ?_ (evD_fin ?_) | refine evD_fin ?_) <;> simp only [go_sem, reduceAdd, reduceSub, reduceMul, reduceEqDiff, reduceLeDiff, Nat.reduceBEq, reduceLT, reduceIte, reduceCtorEq, Int.reduceToNat, hlt, hb0, hw, hg, hgt, ee, List.length_map, Int.toNat_natCast])))
                            | (refine callX ?_; (first | refine evOps_fin ?_ | refine And.intro ?_ (evD_fin ?_) | refine evD_fin ?_) <;> simp only [go_sem, reduceAdd, reduceSub, reduceMul, reduceEqDiff, reduceLeDiff, Nat.reduceBEq, reduceLT, reduceIte, reduceCtorEq, Int.reduceToNat, hlt, hb0, hw, hg, hgt, ee, List.length_map, Int.toNat_natCast])
                          rw [hres]
                    · have hnb2 : ∀ j, j < i + 1 → ¬ badB p m (m.l.getD j Blc.z) := fun j hj => by
                        by_cases e : j = i
                        · subst e; exact hbd
                        · exact hnb j (by omega)
                      clear hnb
                      unfold badB at hbd
                      generalize m.l.getD i Blc.z = b at hg v1 v2 v3 hbd
                      simp only [enBl] at v1 v2
                      generalize boundM p b = bd at v1 hbd
                      have hgt : ¬ m.sc < bd := fun h => hbd (.inl h)
                      by_cases e : bd = m.sc
                      · have ee : (bd == m.sc) = true := by rw [e]; exact beq_self_eq_true _
                        have hbf : ¬ befM ⟨b.k, b.y, b.x⟩ m.b := fun h => hbd (.inr ⟨e, h⟩)
                        rw [decide_eq_false hbf] at v3
                        repeat' first
                          | refine ev_seq (fun K hK => ?_)
                          | ((first | refine evrd (id := 23) hmix tt_ok false [([], false), ([], false), ([], false), ([], false), ([], false), ([], false), ([], false), ([], false), ([], false), ([], false), ([], false), ([], true), ([11], false), ([11], false), ([], false), ([], false), ([], false)] (by decide +kernel) ?_ | refine evr tt_ok false ?_ | refine ev_skip ?_ | refine ev_ret ?_ | refine ev_exit ?_ | refine evc (fun X Y hX hY => ?_)); simp only [go_sem, reduceAdd, reduceSub, reduceMul, reduceEqDiff, reduceLeDiff, Nat.reduceBEq, reduceLT, reduceIte, reduceCtorEq, Int.reduceToNat, hlt, hb0, hw, hg, hgt, ee, List.length_map, Int.toNat_natCast]; try (first | (refine ⟨fun h => hX ?_, fun h => hY ?_⟩; clear hX hY) | (refine hX ?_; clear hX hY) | (refine hY ?_; clear hX hY)))
                          | refine ev_block ?_
                          | (apply hK; clear hK)
                          | apply_assumption -exfalso -symm only [*]
                          | (refine And.intro ?_ ?_; first | omega | assumption | (unfold maxLen; omega) | (simp only [decide_eq_true_eq, decide_eq_false_iff_not, Int.not_lt, Int.not_le] at h; omega))
                          | ((first | apply callP | apply callPG | apply callP0); (case' hv => (simp only [go_sem, reduceAdd, reduceSub, reduceMul, reduceEqDiff, reduceLeDiff, Nat.reduceBEq, reduceLT, reduceIte, reduceCtorEq, Int.reduceToNat, hlt, hb0, hw, hg, hgt, ee, List.length_map, Int.toNat_natCast]; try exact rfl)); (case' hp => (first | refine' v1 | (refine' (fun hg => ?_); refine' v1) | refine' v2 | (refine' (fun hg => ?_); refine' v2) | refine' v3 | (refine' (fun hg => ?_); refine' v3))); (case' h => ((first | refine evOps_fin ?_ | refine And.intro ?_ (evD_fin ?_) | refine evD_fin ?_) <;> simp only [go_sem, reduceAdd, reduceSub, reduceMul, reduceEqDiff, reduceLeDiff, Nat.reduceBEq, reduceLT, reduceIte, reduceCtorEq, Int.reduceToNat, hlt, hb0, hw, hg, hgt, ee, List.length_map, Int.toNat_natCast])))
                          | (refine callX ?_; (first | refine evOps_fin ?_ | refine And.intro ?_ (evD_fin ?_) | refine evD_fin ?_) <;> simp only [go_sem, reduceAdd, reduceSub, reduceMul, reduceEqDiff, reduceLeDiff, Nat.reduceBEq, reduceLT, reduceIte, reduceCtorEq, Int.reduceToNat, hlt, hb0, hw, hg, hgt, ee, List.length_map, Int.toNat_natCast])
                        exact ⟨i + 1, ⟨by omega, hnb2⟩, by (repeat' first | rfl | apply And.intro), by omega⟩
                      · have ee : (bd == m.sc) = false := by rw [beq_eq_false_iff_ne]; exact e
                        repeat' first
                          | refine ev_seq (fun K hK => ?_)
                          | ((first | refine evrd (id := 23) hmix tt_ok false [([], false), ([], false), ([], false), ([], false), ([], false), ([], false), ([], false), ([], false), ([], false), ([], false), ([], false), ([], true), ([11], false), ([11], false), ([], false), ([], false), ([], false)] (by decide +kernel) ?_ | refine evr tt_ok false ?_ | refine ev_skip ?_ | refine ev_ret ?_ | refine ev_exit ?_ | refine evc (fun X Y hX hY => ?_)); simp only [go_sem, reduceAdd, reduceSub, reduceMul, reduceEqDiff, reduceLeDiff, Nat.reduceBEq, reduceLT, reduceIte, reduceCtorEq, Int.reduceToNat, hlt, hb0, hw, hg, hgt, ee, List.length_map, Int.toNat_natCast]; try (first | (refine ⟨fun h => hX ?_, fun h => hY ?_⟩; clear hX hY) | (refine hX ?_; clear hX hY) | (refine hY ?_; clear hX hY)))
                          | refine ev_block ?_
                          | (apply hK; clear hK)
                          | apply_assumption -exfalso -symm only [*]
                          | (refine And.intro ?_ ?_; first | omega | assumption | (unfold maxLen; omega) | (simp only [decide_eq_true_eq, decide_eq_false_iff_not, Int.not_lt, Int.not_le] at h; omega))
                          | ((first | apply callP | apply callPG | apply callP0); (case' hv => (simp only [go_sem, reduceAdd, reduceSub, reduceMul, reduceEqDiff, reduceLeDiff, Nat.reduceBEq, reduceLT, reduceIte, reduceCtorEq, Int.reduceToNat, hlt, hb0, hw, hg, hgt, ee, List.length_map, Int.toNat_natCast]; try exact rfl)); (case' hp => (first | refine' v1 | (refine' (fun hg => ?_); refine' v1) | refine' v2 | (refine' (fun hg => ?_); refine' v2) | refine' v3 | (refine' (fun hg => ?_); refine' v3))); (case' h => ((first | refine evOps_fin ?_ | refine And.intro ?_ (evD_fin ?_) | refine evD_fin ?_) <;> simp only [go_sem, reduceAdd, reduceSub, reduceMul, reduceEqDiff, reduceLeDiff, Nat.reduceBEq, reduceLT, reduceIte, reduceCtorEq, Int.reduceToNat, hlt, hb0, hw, hg, hgt, ee, List.length_map, Int.toNat_natCast])))
                          | (refine callX ?_; (first | refine evOps_fin ?_ | refine And.intro ?_ (evD_fin ?_) | refine evD_fin ?_) <;> simp only [go_sem, reduceAdd, reduceSub, reduceMul, reduceEqDiff, reduceLeDiff, Nat.reduceBEq, reduceLT, reduceIte, reduceCtorEq, Int.reduceToNat, hlt, hb0, hw, hg, hgt, ee, List.length_map, Int.toNat_natCast])
                        exact ⟨i + 1, ⟨by omega, hnb2⟩, by (repeat' first | rfl | apply And.intro), by omega⟩
                  · obtain rfl : i = m.l.length := by omega
                    have hres := check3_0 hyes hp hnb
                    repeat' first
                      | refine ev_seq (fun K hK => ?_)
                      | ((first | refine evrd (id := 23) hmix tt_ok false [([], false), ([], false), ([], false), ([], false), ([], false), ([], false), ([], false), ([], false), ([], false), ([], false), ([], false), ([], true), ([11], false), ([11], false), ([], false), ([], false), ([], false)] (by decide +kernel) ?_ | refine evr tt_ok false ?_ | refine ev_skip ?_ | refine ev_ret ?_ | refine ev_exit ?_ | refine evc (fun X Y hX hY => ?_)); simp only [go_sem, reduceAdd, reduceSub, reduceMul, reduceEqDiff, reduceLeDiff, Nat.reduceBEq, reduceLT, reduceIte, reduceCtorEq, Int.reduceToNat, hlt, List.length_map]; try (first | (refine ⟨fun h => hX ?_, fun h => hY ?_⟩; clear hX hY) | (refine hX ?_; clear hX hY) | (refine hY ?_; clear hX hY)))
                      | refine ev_block ?_
                      | (apply hK; clear hK)
                      | apply_assumption -exfalso -symm only [*]
                      | (refine And.intro ?_ ?_; first | omega | assumption | (unfold maxLen; omega) | (simp only [decide_eq_true_eq, decide_eq_false_iff_not, Int.not_lt, Int.not_le] at h; omega))
                    rw [hres]
              · have hres := check3_11 hyes hp
                rw [Bool.eq_false_iff.2 hp] at vpp
                repeat' first
                  | refine ev_seq (fun K hK => ?_)
                  | ((first | refine evrd (id := 23) hmix tt_ok false [([], false), ([], false), ([], false), ([], false), ([], false), ([], false), ([], false), ([], false), ([], false), ([], false), ([], false), ([], true), ([11], false), ([11], false), ([], false), ([], false), ([], false)] (by decide +kernel) ?_ | refine evr tt_ok false ?_ | refine ev_skip ?_ | refine ev_ret ?_ | refine ev_exit ?_ | refine evc (fun X Y hX hY => ?_)); simp only [go_sem, reduceAdd, reduceSub, reduceMul, reduceEqDiff, reduceLeDiff, Nat.reduceBEq, reduceLT, reduceIte, reduceCtorEq, Int.reduceToNat, hlt, List.length_map]; try (first | (refine ⟨fun h => hX ?_, fun h => hY ?_⟩; clear hX hY) | (refine hX ?_; clear hX hY) | (refine hY ?_; clear hX hY)))
                  | refine ev_block ?_
                  | (apply hK; clear hK)
                  | apply_assumption -exfalso -symm only [*]
                  | (refine And.intro ?_ ?_; first | omega | assumption | (unfold maxLen; omega) | (simp only [decide_eq_true_eq, decide_eq_false_iff_not, Int.not_lt, Int.not_le] at h; omega))
                  | ((first | apply callP | apply callPG | apply callP0); (case' hv => (simp only [go_sem, reduceAdd, reduceSub, reduceMul, reduceEqDiff, reduceLeDiff, Nat.reduceBEq, reduceLT, reduceIte, reduceCtorEq, Int.reduceToNat, hlt, List.length_map]; try exact rfl)); (case' hp => (first | refine' vpp | (refine' (fun hg => ?_); refine' vpp))); (case' h => ((first | refine evOps_fin ?_ | refine And.intro ?_ (evD_fin ?_) | refine evD_fin ?_) <;> simp only [go_sem, reduceAdd, reduceSub, reduceMul, reduceEqDiff, reduceLeDiff, Nat.reduceBEq, reduceLT, reduceIte, reduceCtorEq, Int.reduceToNat, hlt, List.length_map])))
                  | (refine callX ?_; (first | refine evOps_fin ?_ | refine And.intro ?_ (evD_fin ?_) | refine evD_fin ?_) <;> simp only [go_sem, reduceAdd, reduceSub, reduceMul, reduceEqDiff, reduceLeDiff, Nat.reduceBEq, reduceLT, reduceIte, reduceCtorEq, Int.reduceToNat, hlt, List.length_map])
                rw [hres]
        · rw [if_neg hn]
          have hn2 : (16384 : Int) < m.l.length := by omega
          simp only [encP, encM, enC, encPo, encNu] at *
          (refine pure_of_ev tt_ok Tryz.func8 rfl (by decide +kernel) (Nat.le_of_ble_eq_true rfl) ?_; simp only [Tryz.f8])
          repeat' first
            | refine ev_seq (fun K hK => ?_)
            | ((first | refine evrd (id := 23) hmix tt_ok false [([], false), ([], false), ([], false), ([], false), ([], false), ([], false), ([], false), ([], false), ([], false), ([], false), ([], false), ([], true), ([11], false), ([11], false), ([], false), ([], false), ([], false)] (by decide +kernel) ?_ | refine evr tt_ok false ?_ | refine ev_skip ?_ | refine ev_ret ?_ | refine ev_exit ?_ | refine evc (fun X Y hX hY => ?_)); simp only [go_sem, reduceAdd, reduceSub, reduceMul, reduceEqDiff, reduceLeDiff, Nat.reduceBEq, reduceLT, reduceIte, reduceCtorEq, Int.reduceToNat, hn2, List.length_map, bne, beq_self_eq_true]; try (first | (refine ⟨fun h => hX ?_, fun h => hY ?_⟩; clear hX hY) | (refine hX ?_; clear hX hY) | (refine hY ?_; clear hX hY)))
            | refine ev_block ?_
            | (apply hK; clear hK)
            | apply_assumption -exfalso -symm only [*]
            | (refine And.intro ?_ ?_; first | omega | assumption | (unfold maxLen; omega) | (simp only [decide_eq_true_eq, decide_eq_false_iff_not, Int.not_lt, Int.not_le] at h; omega))
            | ((first | apply callP | apply callPG | apply callP0); (case' hv => (simp only [go_sem, reduceAdd, reduceSub, reduceMul, reduceEqDiff, reduceLeDiff, Nat.reduceBEq, reduceLT, reduceIte, reduceCtorEq, Int.reduceToNat, hn2, List.length_map, bne, beq_self_eq_true]; try exact rfl)); (case' hp => (first | refine' v | (refine' (fun hg => ?_); refine' v) | refine' vi | (refine' (fun hg => ?_); refine' vi) | refine' vp | (refine' (fun hg => ?_); refine' vp) | refine' vs | (refine' (fun hg => ?_); refine' vs))); (case' h => ((first | refine evOps_fin ?_ | refine And.intro ?_ (evD_fin ?_) | refine evD_fin ?_) <;> simp only [go_sem, reduceAdd, reduceSub, reduceMul, reduceEqDiff, reduceLeDiff, Nat.reduceBEq, reduceLT, reduceIte, reduceCtorEq, Int.reduceToNat, hn2, List.length_map, bne, beq_self_eq_true])))
            | (refine callX ?_; (first | refine evOps_fin ?_ | refine And.intro ?_ (evD_fin ?_) | refine evD_fin ?_) <;> simp only [go_sem, reduceAdd, reduceSub, reduceMul, reduceEqDiff, reduceLeDiff, Nat.reduceBEq, reduceLT, reduceIte, reduceCtorEq, Int.reduceToNat, hn2, List.length_map, bne, beq_self_eq_true])
      · rw [if_neg hq]
        simp only [encP, encM, enC, encPo, encNu] at *
        by_cases hpo : poseOk p m
        · have hsc : (boundM p (toB m.b) == m.sc) = false := by rw [beq_eq_false_iff_ne]; exact fun e => hq ⟨hpo, e.symm⟩
          obtain ⟨q1, q2, q3⟩ := hpo
          rw [← q1, ← q2, ← q3] at vp
          generalize boundM p (toB m.b) = sc at *
          (refine pure_of_ev tt_ok Tryz.func8 rfl (by decide +kernel) (Nat.le_of_ble_eq_true rfl) ?_; simp only [Tryz.f8])
          repeat' first
            | refine ev_seq (fun K hK => ?_)
            | ((first | refine evrd (id := 23) hmix tt_ok false [([], false), ([], false), ([], false), ([], false), ([], false), ([], false), ([], false), ([], false), ([], false), ([], false), ([], false), ([], true), ([11], false), ([11], false), ([], false), ([], false), ([], false)] (by decide +kernel) ?_ | refine evr tt_ok false ?_ | refine ev_skip ?_ | refine ev_ret ?_ | refine ev_exit ?_ | refine evc (fun X Y hX hY => ?_)); simp only [go_sem, reduceAdd, reduceSub, reduceMul, reduceEqDiff, reduceLeDiff, Nat.reduceBEq, reduceLT, reduceIte, reduceCtorEq, Int.reduceToNat, bne, beq_self_eq_true, hsc]; try (first | (refine ⟨fun h => hX ?_, fun h => hY ?_⟩; clear hX hY) | (refine hX ?_; clear hX hY) | (refine hY ?_; clear hX hY)))
            | refine ev_block ?_
            | (apply hK; clear hK)
            | apply_assumption -exfalso -symm only [*]
            | (refine And.intro ?_ ?_; first | omega | assumption | (unfold maxLen; omega) | (simp only [decide_eq_true_eq, decide_eq_false_iff_not, Int.not_lt, Int.not_le] at h; omega))
            | ((first | apply callP | apply callPG | apply callP0); (case' hv => (simp only [go_sem, reduceAdd, reduceSub, reduceMul, reduceEqDiff, reduceLeDiff, Nat.reduceBEq, reduceLT, reduceIte, reduceCtorEq, Int.reduceToNat, bne, beq_self_eq_true, hsc]; try exact rfl)); (case' hp => (first | refine' v | (refine' (fun hg => ?_); refine' v) | refine' vi | (refine' (fun hg => ?_); refine' vi) | refine' vp | (refine' (fun hg => ?_); refine' vp) | refine' vs | (refine' (fun hg => ?_); refine' vs))); (case' h => ((first | refine evOps_fin ?_ | refine And.intro ?_ (evD_fin ?_) | refine evD_fin ?_) <;> simp only [go_sem, reduceAdd, reduceSub, reduceMul, reduceEqDiff, reduceLeDiff, Nat.reduceBEq, reduceLT, reduceIte, reduceCtorEq, Int.reduceToNat, bne, beq_self_eq_true, hsc])))
            | (refine callX ?_; (first | refine evOps_fin ?_ | refine And.intro ?_ (evD_fin ?_) | refine evD_fin ?_) <;> simp only [go_sem, reduceAdd, reduceSub, reduceMul, reduceEqDiff, reduceLeDiff, Nat.reduceBEq, reduceLT, reduceIte, reduceCtorEq, Int.reduceToNat, bne, beq_self_eq_true, hsc])
        · have hsc : (((p.cx + 64 * m.b.x == m.px) && (p.cy + 64 * m.b.y == m.py)) && ((p.fr + m.b.k) % 256 == m.ph)) = false := by
            rw [Bool.eq_false_iff]
            simp only [ne_eq, Bool.and_eq_true, beq_iff_eq]
            exact fun e => hpo ⟨e.1.1.symm, e.1.2.symm, e.2.symm⟩
          have hsc2 : ((p.cx + 64 * m.b.x == m.px) && ((p.cy + 64 * m.b.y == m.py) && ((p.fr + m.b.k) % 256 == m.ph))) = false := by
            rw [← Bool.and_assoc]; exact hsc
          generalize boundM p (toB m.b) = sc at *
          (refine pure_of_ev tt_ok Tryz.func8 rfl (by decide +kernel) (Nat.le_of_ble_eq_true rfl) ?_; simp only [Tryz.f8])
          repeat' first
            | refine ev_seq (fun K hK => ?_)
            | ((first | refine evrd (id := 23) hmix tt_ok false [([], false), ([], false), ([], false), ([], false), ([], false), ([], false), ([], false), ([], false), ([], false), ([], false), ([], false), ([], true), ([11], false), ([11], false), ([], false), ([], false), ([], false)] (by decide +kernel) ?_ | refine evr tt_ok false ?_ | refine ev_skip ?_ | refine ev_ret ?_ | refine ev_exit ?_ | refine evc (fun X Y hX hY => ?_)); simp only [go_sem, reduceAdd, reduceSub, reduceMul, reduceEqDiff, reduceLeDiff, Nat.reduceBEq, reduceLT, reduceIte, reduceCtorEq, Int.reduceToNat, bne, hsc, hsc2]; try (first | (refine ⟨fun h => hX ?_, fun h => hY ?_⟩; clear hX hY) | (refine hX ?_; clear hX hY) | (refine hY ?_; clear hX hY)))
            | refine ev_block ?_
            | (apply hK; clear hK)
            | apply_assumption -exfalso -symm only [*]
            | (refine And.intro ?_ ?_; first | omega | assumption | (unfold maxLen; omega) | (simp only [decide_eq_true_eq, decide_eq_false_iff_not, Int.not_lt, Int.not_le] at h; omega))
            | ((first | apply callP | apply callPG | apply callP0); (case' hv => (simp only [go_sem, reduceAdd, reduceSub, reduceMul, reduceEqDiff, reduceLeDiff, Nat.reduceBEq, reduceLT, reduceIte, reduceCtorEq, Int.reduceToNat, bne, hsc, hsc2]; try exact rfl)); (case' hp => (first | refine' v | (refine' (fun hg => ?_); refine' v) | refine' vi | (refine' (fun hg => ?_); refine' vi) | refine' vp | (refine' (fun hg => ?_); refine' vp) | refine' vs | (refine' (fun hg => ?_); refine' vs))); (case' h => ((first | refine evOps_fin ?_ | refine And.intro ?_ (evD_fin ?_) | refine evD_fin ?_) <;> simp only [go_sem, reduceAdd, reduceSub, reduceMul, reduceEqDiff, reduceLeDiff, Nat.reduceBEq, reduceLT, reduceIte, reduceCtorEq, Int.reduceToNat, bne, hsc, hsc2])))
            | (refine callX ?_; (first | refine evOps_fin ?_ | refine And.intro ?_ (evD_fin ?_) | refine evD_fin ?_) <;> simp only [go_sem, reduceAdd, reduceSub, reduceMul, reduceEqDiff, reduceLeDiff, Nat.reduceBEq, reduceLT, reduceIte, reduceCtorEq, Int.reduceToNat, bne, hsc, hsc2])
    · rw [decide_eq_false hc] at vi
      rw [if_neg hc]
      simp only [encP, encM, enC] at *
      (refine pure_of_ev tt_ok Tryz.func8 rfl (by decide +kernel) (Nat.le_of_ble_eq_true rfl) ?_; simp only [Tryz.f8])
      repeat' first
        | refine ev_seq (fun K hK => ?_)
        | ((first | refine evrd (id := 23) hmix tt_ok false [([], false), ([], false), ([], false), ([], false), ([], false), ([], false), ([], false), ([], false), ([], false), ([], false), ([], false), ([], true), ([11], false), ([11], false), ([], false), ([], false), ([], false)] (by decide +kernel) ?_ | refine evr tt_ok false ?_ | refine ev_skip ?_ | refine ev_ret ?_ | refine ev_exit ?_ | refine evc (fun X Y hX hY => ?_)); simp only [go_sem, reduceAdd, reduceSub, reduceMul, reduceEqDiff, reduceLeDiff, Nat.reduceBEq, reduceLT, reduceIte, reduceCtorEq, Int.reduceToNat]; try (first | (refine ⟨fun h => hX ?_, fun h => hY ?_⟩; clear hX hY) | (refine hX ?_; clear hX hY) | (refine hY ?_; clear hX hY)))
        | refine ev_block ?_
        | (apply hK; clear hK)
        | apply_assumption -exfalso -symm only [*]
        | (refine And.intro ?_ ?_; first | omega | assumption | (unfold maxLen; omega) | (simp only [decide_eq_true_eq, decide_eq_false_iff_not, Int.not_lt, Int.not_le] at h; omega))
        | ((first | apply callP | apply callPG | apply callP0); (case' hv => (simp only [go_sem, reduceAdd, reduceSub, reduceMul, reduceEqDiff, reduceLeDiff, Nat.reduceBEq, reduceLT, reduceIte, reduceCtorEq, Int.reduceToNat]; try exact rfl)); (case' hp => (first | refine' v | (refine' (fun hg => ?_); refine' v) | refine' vi | (refine' (fun hg => ?_); refine' vi))); (case' h => ((first | refine evOps_fin ?_ | refine And.intro ?_ (evD_fin ?_) | refine evD_fin ?_) <;> simp only [go_sem, reduceAdd, reduceSub, reduceMul, reduceEqDiff, reduceLeDiff, Nat.reduceBEq, reduceLT, reduceIte, reduceCtorEq, Int.reduceToNat])))
        | (refine callX ?_; (first | refine evOps_fin ?_ | refine And.intro ?_ (evD_fin ?_) | refine evD_fin ?_) <;> simp only [go_sem, reduceAdd, reduceSub, reduceMul, reduceEqDiff, reduceLeDiff, Nat.reduceBEq, reduceLT, reduceIte, reduceCtorEq, Int.reduceToNat])
  · rw [decide_eq_false h] at v
    rw [if_neg h]
    simp only [encP, encM] at *
    (refine pure_of_ev tt_ok Tryz.func8 rfl (by decide +kernel) (Nat.le_of_ble_eq_true rfl) ?_; simp only [Tryz.f8])
    repeat' first
      | refine ev_seq (fun K hK => ?_)
      | ((first | refine evrd (id := 23) hmix tt_ok false [([], false), ([], false), ([], false), ([], false), ([], false), ([], false), ([], false), ([], false), ([], false), ([], false), ([], false), ([], true), ([11], false), ([11], false), ([], false), ([], false), ([], false)] (by decide +kernel) ?_ | refine evr tt_ok false ?_ | refine ev_skip ?_ | refine ev_ret ?_ | refine ev_exit ?_ | refine evc (fun X Y hX hY => ?_)); simp only [go_sem, reduceAdd, reduceSub, reduceMul, reduceEqDiff, reduceLeDiff, Nat.reduceBEq, reduceLT, reduceIte, reduceCtorEq, Int.reduceToNat]; try (first | (refine ⟨fun h => hX ?_, fun h => hY ?_⟩; clear hX hY) | (refine hX ?_; clear hX hY) | (refine hY ?_; clear hX hY)))
      | refine ev_block ?_
      | (apply hK; clear hK)
      | apply_assumption -exfalso -symm only [*]
      | (refine And.intro ?_ ?_; first | omega | assumption | (unfold maxLen; omega) | (simp only [decide_eq_true_eq, decide_eq_false_iff_not, Int.not_lt, Int.not_le] at h; omega))
      | ((first | apply callP | apply callPG | apply callP0); (case' hv => (simp only [go_sem, reduceAdd, reduceSub, reduceMul, reduceEqDiff, reduceLeDiff, Nat.reduceBEq, reduceLT, reduceIte, reduceCtorEq, Int.reduceToNat]; try exact rfl)); (case' hp => (first | refine' v | (refine' (fun hg => ?_); refine' v))); (case' h => ((first | refine evOps_fin ?_ | refine And.intro ?_ (evD_fin ?_) | refine evD_fin ?_) <;> simp only [go_sem, reduceAdd, reduceSub, reduceMul, reduceEqDiff, reduceLeDiff, Nat.reduceBEq, reduceLT, reduceIte, reduceCtorEq, Int.reduceToNat])))
      | (refine callX ?_; (first | refine evOps_fin ?_ | refine And.intro ?_ (evD_fin ?_) | refine evD_fin ?_) <;> simp only [go_sem, reduceAdd, reduceSub, reduceMul, reduceEqDiff, reduceLeDiff, Nat.reduceBEq, reduceLT, reduceIte, reduceCtorEq, Int.reduceToNat])
end Go.Proofs.YtbibplkhhdomnaaGreat
