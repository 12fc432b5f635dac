import Derived.Test.YtokhaefcnbiadaaMJ
set_option linter.all false
namespace Go.Proofs.Ytokhaefcnbiadaa
open Nat (reduceAdd reduceSub reduceMul reduceEqDiff reduceLeDiff reduceLT)
open Go Go.K
set_option maxRecDepth 20000
set_option maxHeartbeats 8000000
theorem triv_pure (p : Prob) (hb : bytesL p.f.v) (hl : (p.s.length : Int) < 4611686018427387904) (c : Cnd) : Pure Try.prog 25 [.agg (encP p), .agg (enC c)] (encMa (trivM p c)) := by
  have v := mvalid_pure p hl
  unfold trivM
  by_cases h : p.ok
  · rw [decide_eq_true h] at v
    rw [if_pos h]
    have vi := cin_pure p c h
    by_cases hc : inW p c
    · rw [decide_eq_true hc] at vi
      rw [if_pos hc]
      have vp := mpose_pure p hl c
      unfold poseM at vp
      rw [if_pos h, if_pos hc] at vp
      have vs := Score_pure p hb hl c
      unfold boundR at vs
      rw [if_pos h, if_pos ⟨hc, Int.le_refl 0, by show (0 : Int) ≤ 6; decide⟩] at vs
      obtain ⟨hs, hk, hn, r0, r1, k1, k2⟩ := winOk h
      have w2 : IntKind.i64.wrap (0 - p.re) = ((0 : Nat) : Int) - p.re := w64 (by omega) (by omega)
      have i0 : (0 : Nat) = ix p.S 0 0 0 := by simp [ix]
      have hstep := @allB_stepx p
      have hlen := allN_len p
      have hlt' := @ix_lt p.S p.K
      have hc' := ix_c p.S
      have hr' := ix_r p.S
      have ha' := ix_all p.S p.K
      simp only [encMa, encM, enCB_map]
      generalize boundM p ⟨c.k, c.y, c.x, 0⟩ = sc at *
      unfold allL
      have hN : p.N = p.S * (p.S * p.K) := rfl
      rw [hN] at hn ⊢
      generalize p.S = Sd at *
      generalize p.K = Kc at *
      obtain ⟨z, hz⟩ : ∃ z, z = V.agg (encP p) := ⟨_, rfl⟩
      simp only [encP, enC, encPo, encNu] at *
      clear hz
      (refine pure_of_ev tt_ok Try.func25 rfl (by decide +kernel) (Nat.le_of_ble_eq_true rfl) ?_; simp only [Try.f25])
      repeat' first
        | refine ev_seq (fun K hK => ?_)
        | ((first | refine evr tt_ok false ?_ | refine ev_skip ?_ | refine ev_ret ?_ | refine ev_exit ?_ | refine evc (fun X Y hX hY => ?_)); simp only [go_sem, reduceAdd, reduceSub, reduceMul, reduceEqDiff, reduceLeDiff, Nat.reduceBEq, reduceLT, reduceIte, reduceCtorEq, Int.reduceToNat]; try (first | (refine ⟨fun h => hX ?_, fun h => hY ?_⟩; clear hX hY) | (refine hX ?_; clear hX hY) | (refine hY ?_; clear hX hY)))
        | refine ev_block ?_
        | (apply hK; clear hK)
        | apply_assumption -exfalso -symm only [*]
        | (refine And.intro ?_ ?_; first | omega | assumption | (unfold maxLen; omega) | (simp only [decide_eq_true_eq, decide_eq_false_iff_not, Int.not_lt, Int.not_le] at h; omega))
        | ((first | apply callP | apply callPG | apply callP0); (case' hv => (simp only [go_sem, reduceAdd, reduceSub, reduceMul, reduceEqDiff, reduceLeDiff, Nat.reduceBEq, reduceLT, reduceIte, reduceCtorEq, Int.reduceToNat]; try exact rfl)); (case' hp => (first | refine' v | (refine' (fun hg => ?_); refine' v) | refine' vi | (refine' (fun hg => ?_); refine' vi) | refine' vp | (refine' (fun hg => ?_); refine' vp) | refine' vs | (refine' (fun hg => ?_); refine' vs))); (case' h => ((first | refine evOps_fin ?_ | refine And.intro ?_ (evD_fin ?_) | refine evD_fin ?_) <;> simp only [go_sem, reduceAdd, reduceSub, reduceMul, reduceEqDiff, reduceLeDiff, Nat.reduceBEq, reduceLT, reduceIte, reduceCtorEq, Int.reduceToNat])))
        | (refine callX ?_; (first | refine evOps_fin ?_ | refine And.intro ?_ (evD_fin ?_) | refine evD_fin ?_) <;> simp only [go_sem, reduceAdd, reduceSub, reduceMul, reduceEqDiff, reduceLeDiff, Nat.reduceBEq, reduceLT, reduceIte, reduceCtorEq, Int.reduceToNat])
      refine ev_adoptC 3 0 7 56 4 (by decide) rfl rfl rfl ?_
      refine ev_loop (fun k : Nat => k ≤ Kc)
        (fun k => ⟨70, [(38, .int .i64 (k : Int)), (37, .int .i64 p.ct), (6, .own 3 0 0 0), (4, .own 2 0 0 0), (2, .own 0 0 0 0)],
          [.blk 31 0 11 [[.int .i64 p.f.x, .int .i64 p.f.y, .int .i64 p.f.w, .int .i64 p.f.h, .sl (p.f.v.map enB), .sl (p.s.map enBm), .int .i64 p.cx, .int .i64 p.cy, .int .i64 p.fr, .int .i64 p.ct, .int .i64 p.re]],
           .blk 33 0 3 [[.int .i64 c.k, .int .i64 c.y, .int .i64 c.x]],
           .blk 41 0 8 [[.int .i64 0, .int .i64 0, .int .i64 0, .int .i64 0, .int .i64 0, .int .i64 0, .int .i64 0, .emp]],
           .blk 41 0 8 [[.int .i64 c.k, .int .i64 c.y, .int .i64 c.x, .int .i64 (p.cx + 64 * c.x), .int .i64 (p.cy + 64 * c.y), .int .i64 ((p.fr + c.k) % 256), .int .i64 sc, .rs 4 (ix Sd k 0 0) 0 (ix Sd k 0 0)]],
           .blk 56 (ix Sd k 0 0) 4 ((allN p (ix Sd k 0 0)).map enCB)]⟩)
        (fun k => Kc - k) 0 (Nat.zero_le _) ?_ ?_
      · rw [← i0]
        simp only [go_sem, reduceAdd, reduceSub, reduceMul, reduceEqDiff, reduceLeDiff, Nat.reduceBEq, reduceLT, reduceIte, reduceCtorEq, Int.reduceToNat, fits, fitT, fitOs, fitO, V.under, unders, rowsUnder]
        repeat' first | rfl | exact rowsUnder_lit _ (lit_enCB _) | (simp only [V.under, unders, rowsUnder, Nat.reduceLT]; done) | apply And.intro
      · intro k hkk
        have hk1 : IntKind.i64.wrap ((k : Int) + 1) = ((k + 1 : Nat) : Int) := by rw [w64] <;> omega
        by_cases hkl : (k : Int) < p.ct
        · repeat' first
          | refine ev_seq (fun K hK => ?_)
          | ((first | refine evr tt_ok false ?_ | refine ev_skip ?_ | refine ev_ret ?_ | refine ev_exit ?_ | refine evc (fun X Y hX hY => ?_)); simp only [go_sem, reduceAdd, reduceSub, reduceMul, reduceEqDiff, reduceLeDiff, Nat.reduceBEq, reduceLT, reduceIte, reduceCtorEq, Int.reduceToNat, hkl, w2]; try (first | (refine ⟨fun h => hX ?_, fun h => hY ?_⟩; clear hX hY) | (refine hX ?_; clear hX hY) | (refine hY ?_; clear hX hY)))
          | refine ev_block ?_
          | (apply hK; clear hK)
          | apply_assumption -exfalso -symm only [*]
          | (refine And.intro ?_ ?_; first | omega | assumption | (unfold maxLen; omega) | (simp only [decide_eq_true_eq, decide_eq_false_iff_not, Int.not_lt, Int.not_le] at h; omega))
          refine ev_loop (fun r : Nat => r ≤ Sd)
            (fun r => ⟨70, [(8, .int .i64 ((r : Int) - p.re)), (7, .int .i64 (k : Int)), (38, .int .i64 (k : Int)), (37, .int .i64 p.ct), (6, .own 3 0 0 0), (4, .own 2 0 0 0), (2, .own 0 0 0 0)],
              [.blk 31 0 11 [[.int .i64 p.f.x, .int .i64 p.f.y, .int .i64 p.f.w, .int .i64 p.f.h, .sl (p.f.v.map enB), .sl (p.s.map enBm), .int .i64 p.cx, .int .i64 p.cy, .int .i64 p.fr, .int .i64 p.ct, .int .i64 p.re]],
               .blk 33 0 3 [[.int .i64 c.k, .int .i64 c.y, .int .i64 c.x]],
               .blk 41 0 8 [[.int .i64 0, .int .i64 0, .int .i64 0, .int .i64 0, .int .i64 0, .int .i64 0, .int .i64 0, .emp]],
               .blk 41 0 8 [[.int .i64 c.k, .int .i64 c.y, .int .i64 c.x, .int .i64 (p.cx + 64 * c.x), .int .i64 (p.cy + 64 * c.y), .int .i64 ((p.fr + c.k) % 256), .int .i64 sc, .rs 4 (ix Sd k r 0) 0 (ix Sd k r 0)]],
               .blk 56 (ix Sd k r 0) 4 ((allN p (ix Sd k r 0)).map enCB)]⟩)
            (fun r => Sd - r) 0 (Nat.zero_le _) ?_ ?_
          · simp only [go_sem, reduceAdd, reduceSub, reduceMul, reduceEqDiff, reduceLeDiff, Nat.reduceBEq, reduceLT, reduceIte, reduceCtorEq, Int.reduceToNat, fits, fitT, fitOs, fitO, V.under, unders, rowsUnder]
            repeat' first | rfl | exact rowsUnder_lit _ (lit_enCB _) | (simp only [V.under, unders, rowsUnder, Nat.reduceLT]; done) | apply And.intro
          · intro r hrr
            have hr1 : IntKind.i64.wrap ((r : Int) - p.re + 1) = ((r + 1 : Nat) : Int) - p.re := by rw [w64] <;> omega
            by_cases hrl : (r : Int) - p.re ≤ p.re
            · repeat' first
              | refine ev_seq (fun K hK => ?_)
              | ((first | refine evr tt_ok false ?_ | refine ev_skip ?_ | refine ev_ret ?_ | refine ev_exit ?_ | refine evc (fun X Y hX hY => ?_)); simp only [go_sem, reduceAdd, reduceSub, reduceMul, reduceEqDiff, reduceLeDiff, Nat.reduceBEq, reduceLT, reduceIte, reduceCtorEq, Int.reduceToNat, hrl, w2]; try (first | (refine ⟨fun h => hX ?_, fun h => hY ?_⟩; clear hX hY) | (refine hX ?_; clear hX hY) | (refine hY ?_; clear hX hY)))
              | refine ev_block ?_
              | (apply hK; clear hK)
              | apply_assumption -exfalso -symm only [*]
              | (refine And.intro ?_ ?_; first | omega | assumption | (unfold maxLen; omega) | (simp only [decide_eq_true_eq, decide_eq_false_iff_not, Int.not_lt, Int.not_le] at h; omega))
              refine ev_loop (fun q : Nat => q ≤ Sd)
                (fun q => ⟨70, [(9, .int .i64 ((q : Int) - p.re)), (8, .int .i64 ((r : Int) - p.re)), (7, .int .i64 (k : Int)), (38, .int .i64 (k : Int)), (37, .int .i64 p.ct), (6, .own 3 0 0 0), (4, .own 2 0 0 0), (2, .own 0 0 0 0)],
                  [.blk 31 0 11 [[.int .i64 p.f.x, .int .i64 p.f.y, .int .i64 p.f.w, .int .i64 p.f.h, .sl (p.f.v.map enB), .sl (p.s.map enBm), .int .i64 p.cx, .int .i64 p.cy, .int .i64 p.fr, .int .i64 p.ct, .int .i64 p.re]],
                   .blk 33 0 3 [[.int .i64 c.k, .int .i64 c.y, .int .i64 c.x]],
                   .blk 41 0 8 [[.int .i64 0, .int .i64 0, .int .i64 0, .int .i64 0, .int .i64 0, .int .i64 0, .int .i64 0, .emp]],
                   .blk 41 0 8 [[.int .i64 c.k, .int .i64 c.y, .int .i64 c.x, .int .i64 (p.cx + 64 * c.x), .int .i64 (p.cy + 64 * c.y), .int .i64 ((p.fr + c.k) % 256), .int .i64 sc, .rs 4 (ix Sd k r q) 0 (ix Sd k r q)]],
                   .blk 56 (ix Sd k r q) 4 ((allN p (ix Sd k r q)).map enCB)]⟩)
                (fun q => Sd - q) 0 (Nat.zero_le _) ?_ ?_
              · simp only [go_sem, reduceAdd, reduceSub, reduceMul, reduceEqDiff, reduceLeDiff, Nat.reduceBEq, reduceLT, reduceIte, reduceCtorEq, Int.reduceToNat, fits, fitT, fitOs, fitO, V.under, unders, rowsUnder]
                repeat' first | rfl | exact rowsUnder_lit _ (lit_enCB _) | (simp only [V.under, unders, rowsUnder, Nat.reduceLT]; done) | apply And.intro
              · intro q hcc
                have hc1 : IntKind.i64.wrap ((q : Int) - p.re + 1) = ((q + 1 : Nat) : Int) - p.re := by rw [w64] <;> omega
                by_cases hcl : (q : Int) - p.re ≤ p.re
                · have hst := hstep (k := k) (r := r) (c := q) (by omega) (by omega)
                  have hll := hlen (ix Sd k r q)
                  have hbx := hlt' (k := k) (r := r) (c := q) (by omega) (by omega) (by omega)
                  have hix : ix Sd k r (q + 1) = ix Sd k r q + 1 := rfl
                  generalize ix Sd k r q = n at *
                  have hq : 1 ≤ maxLen ∧ n + 1 ≤ maxLen ∧ (n + 1) * 32 ≤ 140737488355328 := by
                    have : maxLen = 9223372036854775807 := rfl
                    omega
                  repeat' first
                    | refine ev_seq (fun K hK => ?_)
                    | ((first | refine evr tt_ok false ?_ | refine ev_skip ?_ | refine ev_ret ?_ | refine ev_exit ?_ | refine evc (fun X Y hX hY => ?_)); simp only [go_sem, reduceAdd, reduceSub, reduceMul, reduceEqDiff, reduceLeDiff, Nat.reduceBEq, reduceLT, reduceIte, reduceCtorEq, Int.reduceToNat, hcl, hc1, hll, List.length_map, Int.toNat_natCast, Nat.zero_add, Nat.le_refl]; try (first | (refine ⟨fun h => hX ?_, fun h => hY ?_⟩; clear hX hY) | (refine hX ?_; clear hX hY) | (refine hY ?_; clear hX hY)))
                    | refine ev_block ?_
                    | (apply hK; clear hK)
                    | apply_assumption -exfalso -symm only [*]
                    | (refine And.intro ?_ ?_; first | omega | assumption | (unfold maxLen; omega) | (simp only [decide_eq_true_eq, decide_eq_false_iff_not, Int.not_lt, Int.not_le] at h; omega))
                  refine ⟨q + 1, by omega, ?_, by omega⟩
                  rw [hix]
                  repeat' first | rfl | exact rowsUnder_lit _ (lit_enCB _) | exact hst | (rw [hst]; rfl) | (simp only [V.under, unders, rowsUnder, Nat.reduceLT]; done) | apply And.intro
                · obtain rfl : q = Sd := by omega
                  have he := hc' k r
                  rw [he]
                  repeat' first
                    | refine ev_seq (fun K hK => ?_)
                    | ((first | refine evr tt_ok false ?_ | refine ev_skip ?_ | refine ev_ret ?_ | refine ev_exit ?_ | refine evc (fun X Y hX hY => ?_)); simp only [go_sem, reduceAdd, reduceSub, reduceMul, reduceEqDiff, reduceLeDiff, Nat.reduceBEq, reduceLT, reduceIte, reduceCtorEq, Int.reduceToNat, hcl, hr1]; try (first | (refine ⟨fun h => hX ?_, fun h => hY ?_⟩; clear hX hY) | (refine hX ?_; clear hX hY) | (refine hY ?_; clear hX hY)))
                    | refine ev_block ?_
                    | (apply hK; clear hK)
                    | apply_assumption -exfalso -symm only [*]
                    | (refine And.intro ?_ ?_; first | omega | assumption | (unfold maxLen; omega) | (simp only [decide_eq_true_eq, decide_eq_false_iff_not, Int.not_lt, Int.not_le] at h; omega))
                  refine ⟨r + 1, by omega, ?_, by omega⟩
                  repeat' first | rfl | exact rowsUnder_lit _ (lit_enCB _) | (simp only [V.under, unders, rowsUnder, Nat.reduceLT]; done) | apply And.intro
            · obtain rfl : r = Sd := by omega
              have he := hr' k
              rw [he]
              repeat' first
                | refine ev_seq (fun K hK => ?_)
                | ((first | refine evr tt_ok false ?_ | refine ev_skip ?_ | refine ev_ret ?_ | refine ev_exit ?_ | refine evc (fun X Y hX hY => ?_)); simp only [go_sem, reduceAdd, reduceSub, reduceMul, reduceEqDiff, reduceLeDiff, Nat.reduceBEq, reduceLT, reduceIte, reduceCtorEq, Int.reduceToNat, hrl, hk1]; try (first | (refine ⟨fun h => hX ?_, fun h => hY ?_⟩; clear hX hY) | (refine hX ?_; clear hX hY) | (refine hY ?_; clear hX hY)))
                | refine ev_block ?_
                | (apply hK; clear hK)
                | apply_assumption -exfalso -symm only [*]
                | (refine And.intro ?_ ?_; first | omega | assumption | (unfold maxLen; omega) | (simp only [decide_eq_true_eq, decide_eq_false_iff_not, Int.not_lt, Int.not_le] at h; omega))
              refine ⟨k + 1, by omega, ?_, by omega⟩
              repeat' first | rfl | exact rowsUnder_lit _ (lit_enCB _) | (simp only [V.under, unders, rowsUnder, Nat.reduceLT]; done) | apply And.intro
        · obtain rfl : k = Kc := by omega
          rw [ha']
          have hll := hlen (Sd * (Sd * k))
          have htk : List.take (Sd * (Sd * k)) ((allN p (Sd * (Sd * k))).map enCB) = (allN p (Sd * (Sd * k))).map enCB := List.take_of_length_le (by simp [hll])
          repeat' first
            | refine ev_seq (fun K hK => ?_)
            | ((first | refine evr tt_ok false ?_ | refine ev_skip ?_ | refine ev_ret ?_ | refine ev_exit ?_ | refine evc (fun X Y hX hY => ?_)); simp only [go_sem, reduceAdd, reduceSub, reduceMul, reduceEqDiff, reduceLeDiff, Nat.reduceBEq, reduceLT, reduceIte, reduceCtorEq, Int.reduceToNat, hkl, hll, List.length_map, vrows_lit _ (lit_enCB (allN p (Sd * (Sd * k)))), Nat.le_refl, Nat.sub_zero, htk]; try (first | (refine ⟨fun h => hX ?_, fun h => hY ?_⟩; clear hX hY) | (refine hX ?_; clear hX hY) | (refine hY ?_; clear hX hY)))
            | refine ev_block ?_
            | (apply hK; clear hK)
            | apply_assumption -exfalso -symm only [*]
            | (refine And.intro ?_ ?_; first | omega | assumption | (unfold maxLen; omega) | (simp only [decide_eq_true_eq, decide_eq_false_iff_not, Int.not_lt, Int.not_le] at h; omega))
          all_goals rfl
    · rw [decide_eq_false hc] at vi
      rw [if_neg hc]
      simp only [encMa, encM, encP, enC, Mat.zero, List.map_nil] at *
      (refine pure_of_ev tt_ok Try.func25 rfl (by decide +kernel) (Nat.le_of_ble_eq_true rfl) ?_; simp only [Try.f25])
      repeat' first
        | refine ev_seq (fun K hK => ?_)
        | ((first | refine evr tt_ok false ?_ | refine ev_skip ?_ | refine ev_exit ?_ | refine evc (fun X Y hX hY => ?_)); simp only [go_sem, reduceAdd, reduceSub, reduceMul, reduceEqDiff, reduceLeDiff, Nat.reduceBEq, reduceLT, reduceIte, reduceCtorEq, Int.reduceToNat]; try (first | (refine ⟨fun h => hX ?_, fun h => hY ?_⟩; clear hX hY) | (refine hX ?_; clear hX hY) | (refine hY ?_; clear hX hY)))
        | refine ev_block ?_
        | (apply hK; clear hK)
        | apply_assumption -exfalso -symm only [*]
        | (refine And.intro ?_ ?_; first | omega | assumption | (unfold maxLen; omega) | (simp only [decide_eq_true_eq, decide_eq_false_iff_not, Int.not_lt, Int.not_le] at h; omega))
        | ((first | apply callP | apply callPG | apply callP0); (case' hv => (simp only [go_sem, reduceAdd, reduceSub, reduceMul, reduceEqDiff, reduceLeDiff, Nat.reduceBEq, reduceLT, reduceIte, reduceCtorEq, Int.reduceToNat]; try exact rfl)); (case' hp => (first | refine' v | (refine' (fun hg => ?_); refine' v) | refine' vi | (refine' (fun hg => ?_); refine' vi))); (case' h => ((first | refine evOps_fin ?_ | refine And.intro ?_ (evD_fin ?_) | refine evD_fin ?_) <;> simp only [go_sem, reduceAdd, reduceSub, reduceMul, reduceEqDiff, reduceLeDiff, Nat.reduceBEq, reduceLT, reduceIte, reduceCtorEq, Int.reduceToNat])))
        | (refine callX ?_; (first | refine evOps_fin ?_ | refine And.intro ?_ (evD_fin ?_) | refine evD_fin ?_) <;> simp only [go_sem, reduceAdd, reduceSub, reduceMul, reduceEqDiff, reduceLeDiff, Nat.reduceBEq, reduceLT, reduceIte, reduceCtorEq, Int.reduceToNat])
      refine ev_adoptC 2 0 7 56 4 (by decide) rfl rfl rfl ?_
      repeat' first
        | refine ev_seq (fun K hK => ?_)
        | ((first | refine evr tt_ok false ?_ | refine ev_skip ?_ | refine ev_ret ?_ | refine ev_exit ?_ | refine evc (fun X Y hX hY => ?_)); simp only [go_sem, reduceAdd, reduceSub, reduceMul, reduceEqDiff, reduceLeDiff, Nat.reduceBEq, reduceLT, reduceIte, reduceCtorEq, Int.reduceToNat]; try (first | (refine ⟨fun h => hX ?_, fun h => hY ?_⟩; clear hX hY) | (refine hX ?_; clear hX hY) | (refine hY ?_; clear hX hY)))
        | refine ev_block ?_
        | (apply hK; clear hK)
        | apply_assumption -exfalso -symm only [*]
        | (refine And.intro ?_ ?_; first | omega | assumption | (unfold maxLen; omega) | (simp only [decide_eq_true_eq, decide_eq_false_iff_not, Int.not_lt, Int.not_le] at h; omega))
      all_goals rfl
  · rw [decide_eq_false h] at v
    rw [if_neg h]
    simp only [encMa, encM, encP, enC, Mat.zero, List.map_nil] at *
    (refine pure_of_ev tt_ok Try.func25 rfl (by decide +kernel) (Nat.le_of_ble_eq_true rfl) ?_; simp only [Try.f25])
    repeat' first
      | refine ev_seq (fun K hK => ?_)
      | ((first | refine evr tt_ok false ?_ | refine ev_skip ?_ | refine ev_exit ?_ | refine evc (fun X Y hX hY => ?_)); simp only [go_sem, reduceAdd, reduceSub, reduceMul, reduceEqDiff, reduceLeDiff, Nat.reduceBEq, reduceLT, reduceIte, reduceCtorEq, Int.reduceToNat]; try (first | (refine ⟨fun h => hX ?_, fun h => hY ?_⟩; clear hX hY) | (refine hX ?_; clear hX hY) | (refine hY ?_; clear hX hY)))
      | refine ev_block ?_
      | (apply hK; clear hK)
      | apply_assumption -exfalso -symm only [*]
      | (refine And.intro ?_ ?_; first | omega | assumption | (unfold maxLen; omega) | (simp only [decide_eq_true_eq, decide_eq_false_iff_not, Int.not_lt, Int.not_le] at h; omega))
      | ((first | apply callP | apply callPG | apply callP0); (case' hv => (simp only [go_sem, reduceAdd, reduceSub, reduceMul, reduceEqDiff, reduceLeDiff, Nat.reduceBEq, reduceLT, reduceIte, reduceCtorEq, Int.reduceToNat]; try exact rfl)); (case' hp => (first | refine' v | (refine' (fun hg => ?_); refine' v))); (case' h => ((first | refine evOps_fin ?_ | refine And.intro ?_ (evD_fin ?_) | refine evD_fin ?_) <;> simp only [go_sem, reduceAdd, reduceSub, reduceMul, reduceEqDiff, reduceLeDiff, Nat.reduceBEq, reduceLT, reduceIte, reduceCtorEq, Int.reduceToNat])))
      | (refine callX ?_; (first | refine evOps_fin ?_ | refine And.intro ?_ (evD_fin ?_) | refine evD_fin ?_) <;> simp only [go_sem, reduceAdd, reduceSub, reduceMul, reduceEqDiff, reduceLeDiff, Nat.reduceBEq, reduceLT, reduceIte, reduceCtorEq, Int.reduceToNat])
    refine ev_adoptC 2 0 7 56 4 (by decide) rfl rfl rfl ?_
    repeat' first
      | refine ev_seq (fun K hK => ?_)
      | ((first | refine evr tt_ok false ?_ | refine ev_skip ?_ | refine ev_ret ?_ | refine ev_exit ?_ | refine evc (fun X Y hX hY => ?_)); simp only [go_sem, reduceAdd, reduceSub, reduceMul, reduceEqDiff, reduceLeDiff, Nat.reduceBEq, reduceLT, reduceIte, reduceCtorEq, Int.reduceToNat]; try (first | (refine ⟨fun h => hX ?_, fun h => hY ?_⟩; clear hX hY) | (refine hX ?_; clear hX hY) | (refine hY ?_; clear hX hY)))
      | refine ev_block ?_
      | (apply hK; clear hK)
      | apply_assumption -exfalso -symm only [*]
      | (refine And.intro ?_ ?_; first | omega | assumption | (unfold maxLen; omega) | (simp only [decide_eq_true_eq, decide_eq_false_iff_not, Int.not_lt, Int.not_le] at h; omega))
    all_goals rfl
end Go.Proofs.Ytokhaefcnbiadaa
