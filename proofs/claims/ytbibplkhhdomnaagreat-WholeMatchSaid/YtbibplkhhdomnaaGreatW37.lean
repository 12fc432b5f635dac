import Derived.Test.YtbibplkhhdomnaaGreatW36
set_option linter.all false
namespace Go.Proofs.YtbibplkhhdomnaaGreat
open Nat (reduceAdd reduceSub reduceMul reduceEqDiff reduceLeDiff reduceLT)
open Go Go.K
set_option maxRecDepth 20000
set_option maxHeartbeats 32000000
def entsX (n : Nat) (z : V) : Prop := ∃ (L : List Ent) (e : Int), L.length ≤ n ∧ z = .tup [.sl (L.map encE), .int .i64 e]
theorem of_x (x y hd : Int) (l : List Bem) (hl : (l.length : Int) < 4611686018427387904) : PureX Tryz.prog 10 [.agg [.int .i64 x, .int .i64 y, .int .i64 hd], .sl (l.map enBm)] (entsX 200000) := by
  obtain ⟨b, vs⟩ := scanned_x l hl
  refine PureX.weak (X := fun z => (∃ e, z = .tup [.emp, .int .i64 e]) ∨ entsX 200000 z) ?_ ?_
  · refine pureX_of_ev tt_ok Tryz.func10 rfl (by decide +kernel) (Nat.le_of_ble_eq_true rfl) ?_
    simp only [Tryz.f10]
    repeat' first
      | refine ev_seq (fun K hK => ?_)
      | refine ev_held (id := 3) ?_
      | ((first | refine evr tt_ok false ?_ | refine ev_skip ?_ | refine ev_ret ?_ | refine ev_exit ?_ | refine evc (fun X Y hX hY => ?_)); simp only [go_sem, reduceAdd, reduceSub, reduceMul, reduceEqDiff, reduceLeDiff, Nat.reduceBEq, reduceLT, reduceIte, reduceCtorEq, Int.reduceToNat]; try (first | (refine ⟨fun h => hX ?_, fun h => hY ?_⟩; clear hX hY) | (refine hX ?_; clear hX hY) | (refine hY ?_; clear hX hY)))
      | refine ev_block ?_
      | (apply hK; clear hK)
      | apply_assumption -exfalso -symm only [*]
      | (refine And.intro ?_ ?_; first | omega | assumption | (unfold maxLen; omega) | (simp only [decide_eq_true_eq, decide_eq_false_iff_not, Int.not_lt, Int.not_le] at h; omega))
      | ((first | apply callP | apply callPG | apply callP0); (case' hv => (simp only [go_sem, reduceAdd, reduceSub, reduceMul, reduceEqDiff, reduceLeDiff, Nat.reduceBEq, reduceLT, reduceIte, reduceCtorEq, Int.reduceToNat]; try exact rfl)); (case' hp => (first | refine' ewithin_pure _ _ (by omega) | (refine' (fun hg => ?_); refine' ewithin_pure _ _ (by omega)) | refine' ewithin_pure _ _ (by omega) | (refine' (fun hg => ?_); refine' ewithin_pure _ _ (by omega)) | refine' vs | (refine' (fun hg => ?_); refine' vs))); (case' h => ((first | refine evOps_fin ?_ | refine And.intro ?_ (evD_fin ?_) | refine evD_fin ?_) <;> simp only [go_sem, reduceAdd, reduceSub, reduceMul, reduceEqDiff, reduceLeDiff, Nat.reduceBEq, reduceLT, reduceIte, reduceCtorEq, Int.reduceToNat])))
      | (refine callX ?_; (first | refine evOps_fin ?_ | refine And.intro ?_ (evD_fin ?_) | refine evD_fin ?_) <;> simp only [go_sem, reduceAdd, reduceSub, reduceMul, reduceEqDiff, reduceLeDiff, Nat.reduceBEq, reduceLT, reduceIte, reduceCtorEq, Int.reduceToNat])
    · refine ⟨_, .inl ⟨_, rfl⟩, ?_, rfl⟩
      simp only [go_sem, reduceAdd, reduceSub, reduceMul, reduceEqDiff, reduceLeDiff, Nat.reduceBEq, reduceLT, reduceIte, reduceCtorEq, Int.reduceToNat]
    · have hv0 : (decide (l.length ≤ 32) && b) = true := by
        cases hc : (decide (l.length ≤ 32) && b) with
        | true => rfl
        | false => rw [hc] at h; simp at h
      have h32 : l.length ≤ 32 := by
        simp only [Bool.and_eq_true, decide_eq_true_eq] at hv0
        exact hv0.1
      refine Held.mk ?_
      refine ev_free ?_
      refine ev_region3 tt_ok false ?_
      simp only [go_sem, reduceAdd, reduceSub, reduceMul, reduceEqDiff, reduceLeDiff, Nat.reduceBEq, reduceLT, reduceIte, reduceCtorEq, Int.reduceToNat]
      refine ev3_spec rfl (by simp only [go_sem, reduceAdd, reduceSub, reduceMul, reduceEqDiff, reduceLeDiff, Nat.reduceBEq, reduceLT, reduceIte, reduceCtorEq, Int.reduceToNat]) (spec_makeMap (id := 1) (φ := MapOk 0) rfl ⟨by simp, by simp, by simp⟩) ?_
      rintro z rfl
      simp only [go_sem, reduceAdd, reduceSub, reduceMul, reduceEqDiff, reduceLeDiff, Nat.reduceBEq, reduceLT, reduceIte, reduceCtorEq, Int.reduceToNat]
      iterate 1 (refine ev3_step ?_; simp only [go_sem, reduceAdd, reduceSub, reduceMul, reduceEqDiff, reduceLeDiff, Nat.reduceBEq, reduceLT, reduceIte, reduceCtorEq, Int.reduceToNat])
      refine ev3_nil ?_
      apply hK; clear hK
      repeat' first
        | refine ev_seq (fun K hK => ?_)
        | ((first | refine evr tt_ok false ?_ | refine ev_skip ?_ | refine ev_ret ?_ | refine ev_exit ?_ | refine evc (fun X Y hX hY => ?_)); simp only [go_sem, reduceAdd, reduceSub, reduceMul, reduceEqDiff, reduceLeDiff, Nat.reduceBEq, reduceLT, reduceIte, reduceCtorEq, Int.reduceToNat, List.length_map]; try (first | (refine ⟨fun h => hX ?_, fun h => hY ?_⟩; clear hX hY) | (refine hX ?_; clear hX hY) | (refine hY ?_; clear hX hY)))
        | refine ev_block ?_
        | (apply hK; clear hK)
        | apply_assumption -exfalso -symm only [*]
        | (refine And.intro ?_ ?_; first | omega | assumption | (unfold maxLen; omega) | (simp only [decide_eq_true_eq, decide_eq_false_iff_not, Int.not_lt, Int.not_le] at h; omega))
      refine ev_loop (fun z : Nat × Nat => z.1 ≤ l.length ∧ z.2 ≤ 4761 * z.1)
        (fun z => ⟨97, [(50, .int .i64 ((z.1 : Nat) : Int)), (49, .int .i64 (l.length : Int)), (48, .sl (l.map enBm)), (7, .own 2 0 0 0), (6, .mp 1), (2, .own 0 0 0 0)], [.blk 43 0 3 [[.int .i64 x, .int .i64 y, .int .i64 hd]], .mp (MapOk z.2), .blk 26 0 2 [[.int .i64 x, .int .i64 y]]]⟩)
        (fun z => l.length - z.1) (0, 0) ⟨by simp, by simp⟩ ?_ ?_
      · simp only [go_sem, reduceAdd, reduceSub, reduceMul, reduceEqDiff, reduceLeDiff, Nat.reduceBEq, reduceLT, reduceIte, reduceCtorEq, Int.reduceToNat, fits, fitT, fitOs, fitO, V.under, unders, rowsUnder]
        repeat' first | rfl | apply And.intro
      · rintro ⟨i, n⟩ ⟨hi, hn⟩
        simp only at hi hn
        have hb0 : 0 ≤ (i : Int) := by omega
        have hw : IntKind.i64.wrap ((i : Int) + 1) = ((i + 1 : Nat) : Int) := by rw [w64] <;> omega
        by_cases hlt : (i : Int) < ((l.length : Nat) : Int)
        · have hgt := beam_get l i
          generalize l.getD i ⟨0, 0⟩ = q at *
          have vb := beam_pure hd q.m
          generalize beamM hd q.m = bv at *
          simp only [encVec] at vb
          repeat' first
            | refine ev_seq (fun K hK => ?_)
            | refine ev_held (id := 13) ?_
            | refine ev_held (id := 14) ?_
            | ((first | refine evr tt_ok false ?_ | refine ev_skip ?_ | refine ev_ret ?_ | refine ev_exit ?_ | refine evc (fun X Y hX hY => ?_)); simp only [go_sem, reduceAdd, reduceSub, reduceMul, reduceEqDiff, reduceLeDiff, Nat.reduceBEq, reduceLT, reduceIte, reduceCtorEq, Int.reduceToNat, hb0, hlt, hgt, List.length_map, Int.toNat_natCast]; try (first | (refine ⟨fun h => hX ?_, fun h => hY ?_⟩; clear hX hY) | (refine hX ?_; clear hX hY) | (refine hY ?_; clear hX hY)))
            | refine ev_block ?_
            | (apply hK; clear hK)
            | apply_assumption -exfalso -symm only [*]
            | (refine And.intro ?_ ?_; first | omega | assumption | (unfold maxLen; omega) | (simp only [decide_eq_true_eq, decide_eq_false_iff_not, Int.not_lt, Int.not_le] at h; omega))
            | ((first | apply callP | apply callPG | apply callP0); (case' hv => (simp only [go_sem, reduceAdd, reduceSub, reduceMul, reduceEqDiff, reduceLeDiff, Nat.reduceBEq, reduceLT, reduceIte, reduceCtorEq, Int.reduceToNat, hb0, hlt, hgt, List.length_map, Int.toNat_natCast]; try exact rfl)); (case' hp => (first | refine' vb | (refine' (fun hg => ?_); refine' vb))); (case' h => ((first | refine evOps_fin ?_ | refine And.intro ?_ (evD_fin ?_) | refine evD_fin ?_) <;> simp only [go_sem, reduceAdd, reduceSub, reduceMul, reduceEqDiff, reduceLeDiff, Nat.reduceBEq, reduceLT, reduceIte, reduceCtorEq, Int.reduceToNat, hb0, hlt, hgt, List.length_map, Int.toNat_natCast])))
            | (refine callX ?_; (first | refine evOps_fin ?_ | refine And.intro ?_ (evD_fin ?_) | refine evD_fin ?_) <;> simp only [go_sem, reduceAdd, reduceSub, reduceMul, reduceEqDiff, reduceLeDiff, Nat.reduceBEq, reduceLT, reduceIte, reduceCtorEq, Int.reduceToNat, hb0, hlt, hgt, List.length_map, Int.toNat_natCast])
          all_goals first
            | (refine Held.mk ?_
               refine ev_region3 tt_ok false ?_
               simp only [go_sem, reduceAdd, reduceSub, reduceMul, reduceEqDiff, reduceLeDiff, Nat.reduceBEq, reduceLT, reduceIte, reduceCtorEq, Int.reduceToNat]
               iterate 4 (refine ev3_step ?_; simp only [go_sem, reduceAdd, reduceSub, reduceMul, reduceEqDiff, reduceLeDiff, Nat.reduceBEq, reduceLT, reduceIte, reduceCtorEq, Int.reduceToNat])
               refine ev3_spec rfl (by simp only [go_sem, reduceAdd, reduceSub, reduceMul, reduceEqDiff, reduceLeDiff, Nat.reduceBEq, reduceLT, reduceIte, reduceCtorEq, Int.reduceToNat]) (specS_pure (traced_x _ _ _ _ _ _ _) (by simp only [go_sem, reduceAdd, reduceSub, reduceMul, reduceEqDiff, reduceLeDiff, Nat.reduceBEq, reduceLT, reduceIte, reduceCtorEq, Int.reduceToNat]; rfl) (by simp only [go_sem, reduceAdd, reduceSub, reduceMul, reduceEqDiff, reduceLeDiff, Nat.reduceBEq, reduceLT, reduceIte, reduceCtorEq, Int.reduceToNat]) (by simp only [go_sem, reduceAdd, reduceSub, reduceMul, reduceEqDiff, reduceLeDiff, Nat.reduceBEq, reduceLT, reduceIte, reduceCtorEq, Int.reduceToNat]; rfl)) ?_
               rintro z ⟨_, ⟨L0, e0, hL0, rfl⟩, rfl⟩
               simp only [go_sem, reduceAdd, reduceSub, reduceMul, reduceEqDiff, reduceLeDiff, Nat.reduceBEq, reduceLT, reduceIte, reduceCtorEq, Int.reduceToNat]
               iterate 4 (refine ev3_step ?_; simp only [go_sem, reduceAdd, reduceSub, reduceMul, reduceEqDiff, reduceLeDiff, Nat.reduceBEq, reduceLT, reduceIte, reduceCtorEq, Int.reduceToNat])
               refine ev3_nil ?_
               apply hK; clear hK
               repeat' first
                 | refine ev_seq (fun K hK => ?_)
                 | refine ev_held (id := 14) ?_
                 | ((first | refine evr tt_ok false ?_ | refine ev_skip ?_ | refine ev_ret ?_ | refine ev_exit ?_ | refine evc (fun X Y hX hY => ?_)); simp only [go_sem, reduceAdd, reduceSub, reduceMul, reduceEqDiff, reduceLeDiff, Nat.reduceBEq, reduceLT, reduceIte, reduceCtorEq, Int.reduceToNat]; try (first | (refine ⟨fun h => hX ?_, fun h => hY ?_⟩; clear hX hY) | (refine hX ?_; clear hX hY) | (refine hY ?_; clear hX hY)))
                 | refine ev_block ?_
                 | (apply hK; clear hK)
                 | apply_assumption -exfalso -symm only [*]
                 | (refine And.intro ?_ ?_; first | omega | assumption | (unfold maxLen; omega) | (simp only [decide_eq_true_eq, decide_eq_false_iff_not, Int.not_lt, Int.not_le] at h; omega))
               refine Held.mk ?_)
            | (refine Held.mk ?_
               refine ev_like 12 (y := .sl (([] : List (Int × Int)).map encC)) (fun E L v hv => emp_sl hv) ?_
               have hL0 : ([] : List (Int × Int)).length ≤ 4761 := by simp
               generalize ([] : List (Int × Int)) = L0 at *)
          all_goals
            refine ev_region3 tt_ok false ?_
            simp only [go_sem, reduceAdd, reduceSub, reduceMul, reduceEqDiff, reduceLeDiff, Nat.reduceBEq, reduceLT, reduceIte, reduceCtorEq, Int.reduceToNat]
            iterate 3 (refine ev3_step ?_; simp only [go_sem, reduceAdd, reduceSub, reduceMul, reduceEqDiff, reduceLeDiff, Nat.reduceBEq, reduceLT, reduceIte, reduceCtorEq, Int.reduceToNat])
            refine ev3_spec rfl (by simp only [go_sem, reduceAdd, reduceSub, reduceMul, reduceEqDiff, reduceLeDiff, Nat.reduceBEq, reduceLT, reduceIte, reduceCtorEq, Int.reduceToNat]) (specS_pure (traced_x _ _ _ _ _ _ _) (by simp only [go_sem, reduceAdd, reduceSub, reduceMul, reduceEqDiff, reduceLeDiff, Nat.reduceBEq, reduceLT, reduceIte, reduceCtorEq, Int.reduceToNat]; rfl) (by simp only [go_sem, reduceAdd, reduceSub, reduceMul, reduceEqDiff, reduceLeDiff, Nat.reduceBEq, reduceLT, reduceIte, reduceCtorEq, Int.reduceToNat]) (by simp only [go_sem, reduceAdd, reduceSub, reduceMul, reduceEqDiff, reduceLeDiff, Nat.reduceBEq, reduceLT, reduceIte, reduceCtorEq, Int.reduceToNat]; rfl)) ?_
            rintro z ⟨_, ⟨L1, e1, hL1, rfl⟩, rfl⟩
            simp only [go_sem, reduceAdd, reduceSub, reduceMul, reduceEqDiff, reduceLeDiff, Nat.reduceBEq, reduceLT, reduceIte, reduceCtorEq, Int.reduceToNat]
            iterate 5 (refine ev3_step ?_; simp only [go_sem, reduceAdd, reduceSub, reduceMul, reduceEqDiff, reduceLeDiff, Nat.reduceBEq, reduceLT, reduceIte, reduceCtorEq, Int.reduceToNat])
            refine ev3_nil ?_
            apply hK; clear hK
            repeat' first
              | refine ev_seq (fun K hK => ?_)
              | ((first | refine evr tt_ok false ?_ | refine ev_skip ?_ | refine ev_ret ?_ | refine ev_exit ?_ | refine evc (fun X Y hX hY => ?_)); simp only [go_sem, reduceAdd, reduceSub, reduceMul, reduceEqDiff, reduceLeDiff, Nat.reduceBEq, reduceLT, reduceIte, reduceCtorEq, Int.reduceToNat, List.length_map]; try (first | (refine ⟨fun h => hX ?_, fun h => hY ?_⟩; clear hX hY) | (refine hX ?_; clear hX hY) | (refine hY ?_; clear hX hY)))
              | refine ev_block ?_
              | (apply hK; clear hK)
              | apply_assumption -exfalso -symm only [*]
              | (refine And.intro ?_ ?_; first | omega | assumption | (unfold maxLen; omega) | (simp only [decide_eq_true_eq, decide_eq_false_iff_not, Int.not_lt, Int.not_le] at h; omega))
            refine ev_loop (fun z : Nat × Nat => z.1 ≤ L1.length ∧ z.2 ≤ 4761 * i + z.1)
              (fun z => ⟨97, [(80, .int .i64 ((z.1 : Nat) : Int)), (79, .int .i64 (L1.length : Int)), (78, .sl (L1.map encC)), (12, .sl (L0.map encC)), (50, .int .i64 (i : Int)), (49, .int .i64 (l.length : Int)), (48, .sl (l.map enBm)), (7, .own 2 0 0 0), (6, .mp 1), (2, .own 0 0 0 0)], [.blk 43 0 3 [[.int .i64 x, .int .i64 y, .int .i64 hd]], .mp (MapOk z.2), .blk 26 0 2 [[.int .i64 x, .int .i64 y]]]⟩)
              (fun z => L1.length - z.1) (0, n) ⟨by simp, by simp only; omega⟩ ?_ ?_
            · simp only [go_sem, reduceAdd, reduceSub, reduceMul, reduceEqDiff, reduceLeDiff, Nat.reduceBEq, reduceLT, reduceIte, reduceCtorEq, Int.reduceToNat, fits, fitT, fitOs, fitO, V.under, unders, rowsUnder]
              repeat' first | rfl | apply And.intro
            · rintro ⟨j, n2⟩ ⟨hj, hn2⟩
              simp only at hj hn2
              have hbj : 0 ≤ (j : Int) := by omega
              have hwj : IntKind.i64.wrap ((j : Int) + 1) = ((j + 1 : Nat) : Int) := by rw [w64] <;> omega
              by_cases hlj : (j : Int) < ((L1.length : Nat) : Int)
              · have hgc := cll_get L1 j
                generalize L1.getD j (0, 0) = c at *
                simp only [encC] at hgc
                repeat' first
                  | refine ev_seq (fun K hK => ?_)
                  | refine ev_held (id := 18) ?_
                  | ((first | refine evr tt_ok false ?_ | refine ev_skip ?_ | refine ev_ret ?_ | refine ev_exit ?_ | refine evc (fun X Y hX hY => ?_)); simp only [go_sem, reduceAdd, reduceSub, reduceMul, reduceEqDiff, reduceLeDiff, Nat.reduceBEq, reduceLT, reduceIte, reduceCtorEq, Int.reduceToNat, hbj, hlj, hgc, List.length_map, Int.toNat_natCast]; try (first | (refine ⟨fun h => hX ?_, fun h => hY ?_⟩; clear hX hY) | (refine hX ?_; clear hX hY) | (refine hY ?_; clear hX hY)))
                  | refine ev_block ?_
                  | (apply hK; clear hK)
                  | apply_assumption -exfalso -symm only [*]
                  | (refine And.intro ?_ ?_; first | omega | assumption | (unfold maxLen; omega) | (simp only [decide_eq_true_eq, decide_eq_false_iff_not, Int.not_lt, Int.not_le] at h; omega))
                refine Held.mk ?_
                refine ev_region3 tt_ok false ?_
                simp only [go_sem, reduceAdd, reduceSub, reduceMul, reduceEqDiff, reduceLeDiff, Nat.reduceBEq, reduceLT, reduceIte, reduceCtorEq, Int.reduceToNat]
                iterate 2 (refine ev3_step ?_; simp only [go_sem, reduceAdd, reduceSub, reduceMul, reduceEqDiff, reduceLeDiff, Nat.reduceBEq, reduceLT, reduceIte, reduceCtorEq, Int.reduceToNat])
                refine ev3_spec rfl (by simp only [go_sem, reduceAdd, reduceSub, reduceMul, reduceEqDiff, reduceLeDiff, Nat.reduceBEq, reduceLT, reduceIte, reduceCtorEq, Int.reduceToNat]) (specS_pure (ccontains_x L0 hL0 c.1 c.2) (by simp only [go_sem, reduceAdd, reduceSub, reduceMul, reduceEqDiff, reduceLeDiff, Nat.reduceBEq, reduceLT, reduceIte, reduceCtorEq, Int.reduceToNat]; rfl) (by simp only [go_sem, reduceAdd, reduceSub, reduceMul, reduceEqDiff, reduceLeDiff, Nat.reduceBEq, reduceLT, reduceIte, reduceCtorEq, Int.reduceToNat]) (by simp only [go_sem, reduceAdd, reduceSub, reduceMul, reduceEqDiff, reduceLeDiff, Nat.reduceBEq, reduceLT, reduceIte, reduceCtorEq, Int.reduceToNat])) ?_
                rintro z ⟨_, ⟨b2, rfl⟩, rfl⟩
                simp only [go_sem, reduceAdd, reduceSub, reduceMul, reduceEqDiff, reduceLeDiff, Nat.reduceBEq, reduceLT, reduceIte, reduceCtorEq, Int.reduceToNat]
                refine ev3_nil ?_
                apply hK; clear hK
                repeat' first
                  | refine ev_seq (fun K hK => ?_)
                  | refine ev_held (id := 19) ?_
                  | refine ev_held (id := 20) ?_
                  | ((first | refine evr tt_ok false ?_ | refine ev_skip ?_ | refine ev_ret ?_ | refine ev_exit ?_ | refine evc (fun X Y hX hY => ?_)); simp only [go_sem, reduceAdd, reduceSub, reduceMul, reduceEqDiff, reduceLeDiff, Nat.reduceBEq, reduceLT, reduceIte, reduceCtorEq, Int.reduceToNat]; try (first | (refine ⟨fun h => hX ?_, fun h => hY ?_⟩; clear hX hY) | (refine hX ?_; clear hX hY) | (refine hY ?_; clear hX hY)))
                  | refine ev_block ?_
                  | (apply hK; clear hK)
                  | apply_assumption -exfalso -symm only [*]
                  | (refine And.intro ?_ ?_; first | omega | assumption | (unfold maxLen; omega) | (simp only [decide_eq_true_eq, decide_eq_false_iff_not, Int.not_lt, Int.not_le] at h; omega))
                all_goals
                  refine Held.mk ?_
                  refine ev_region3 tt_ok false ?_
                  simp only [go_sem, reduceAdd, reduceSub, reduceMul, reduceEqDiff, reduceLeDiff, Nat.reduceBEq, reduceLT, reduceIte, reduceCtorEq, Int.reduceToNat]
                  iterate 2 (refine ev3_step ?_; simp only [go_sem, reduceAdd, reduceSub, reduceMul, reduceEqDiff, reduceLeDiff, Nat.reduceBEq, reduceLT, reduceIte, reduceCtorEq, Int.reduceToNat])
                  refine ev3_spec rfl (by simp only [go_sem, reduceAdd, reduceSub, reduceMul, reduceEqDiff, reduceLeDiff, Nat.reduceBEq, reduceLT, reduceIte, reduceCtorEq, Int.reduceToNat]) (specS_call (add_run (j := 1) (n := n2) (by simp only [go_sem, reduceAdd, reduceSub, reduceMul, reduceEqDiff, reduceLeDiff, Nat.reduceBEq, reduceLT, reduceIte, reduceCtorEq, Int.reduceToNat]) c.1 c.2 _ _) (by simp only [go_sem, reduceAdd, reduceSub, reduceMul, reduceEqDiff, reduceLeDiff, Nat.reduceBEq, reduceLT, reduceIte, reduceCtorEq, Int.reduceToNat]; rfl) (by simp only [go_sem, reduceAdd, reduceSub, reduceMul, reduceEqDiff, reduceLeDiff, Nat.reduceBEq, reduceLT, reduceIte, reduceCtorEq, Int.reduceToNat])) ?_
                  rintro z rfl
                  simp only [go_sem, reduceAdd, reduceSub, reduceMul, reduceEqDiff, reduceLeDiff, Nat.reduceBEq, reduceLT, reduceIte, reduceCtorEq, Int.reduceToNat]
                  refine ev3_nil ?_
                  apply hK; clear hK
                  repeat' first
                    | refine ev_seq (fun K hK => ?_)
                    | ((first | refine evr tt_ok false ?_ | refine ev_skip ?_ | refine ev_ret ?_ | refine ev_exit ?_ | refine evc (fun X Y hX hY => ?_)); simp only [go_sem, reduceAdd, reduceSub, reduceMul, reduceEqDiff, reduceLeDiff, Nat.reduceBEq, reduceLT, reduceIte, reduceCtorEq, Int.reduceToNat, hwj]; try (first | (refine ⟨fun h => hX ?_, fun h => hY ?_⟩; clear hX hY) | (refine hX ?_; clear hX hY) | (refine hY ?_; clear hX hY)))
                    | refine ev_block ?_
                    | (apply hK; clear hK)
                    | apply_assumption -exfalso -symm only [*]
                    | (refine And.intro ?_ ?_; first | omega | assumption | (unfold maxLen; omega) | (simp only [decide_eq_true_eq, decide_eq_false_iff_not, Int.not_lt, Int.not_le] at h; omega))
                  exact ⟨(j + 1, n2 + 1), ⟨by simp only; omega, by simp only; omega⟩, by (repeat' first | rfl | apply And.intro), by simp only; omega⟩
              · repeat' first
                | refine ev_seq (fun K hK => ?_)
                | ((first | refine evr tt_ok false ?_ | refine ev_skip ?_ | refine ev_ret ?_ | refine ev_exit ?_ | refine evc (fun X Y hX hY => ?_)); simp only [go_sem, reduceAdd, reduceSub, reduceMul, reduceEqDiff, reduceLeDiff, Nat.reduceBEq, reduceLT, reduceIte, reduceCtorEq, Int.reduceToNat, hbj, hlj, hw]; try (first | (refine ⟨fun h => hX ?_, fun h => hY ?_⟩; clear hX hY) | (refine hX ?_; clear hX hY) | (refine hY ?_; clear hX hY)))
                | refine ev_block ?_
                | (apply hK; clear hK)
                | apply_assumption -exfalso -symm only [*]
                | (refine And.intro ?_ ?_; first | omega | assumption | (unfold maxLen; omega) | (simp only [decide_eq_true_eq, decide_eq_false_iff_not, Int.not_lt, Int.not_le] at h; omega))
                exact ⟨(i + 1, n2), ⟨by simp only; omega, by simp only; omega⟩, by (repeat' first | rfl | apply And.intro), by simp only; omega⟩
        · repeat' first
          | refine ev_seq (fun K hK => ?_)
          | refine ev_held (id := 23) ?_
          | ((first | refine evr tt_ok false ?_ | refine ev_skip ?_ | refine ev_ret ?_ | refine ev_exit ?_ | refine evc (fun X Y hX hY => ?_)); simp only [go_sem, reduceAdd, reduceSub, reduceMul, reduceEqDiff, reduceLeDiff, Nat.reduceBEq, reduceLT, reduceIte, reduceCtorEq, Int.reduceToNat, hb0, hlt]; try (first | (refine ⟨fun h => hX ?_, fun h => hY ?_⟩; clear hX hY) | (refine hX ?_; clear hX hY) | (refine hY ?_; clear hX hY)))
          | refine ev_block ?_
          | (apply hK; clear hK)
          | apply_assumption -exfalso -symm only [*]
          | (refine And.intro ?_ ?_; first | omega | assumption | (unfold maxLen; omega) | (simp only [decide_eq_true_eq, decide_eq_false_iff_not, Int.not_lt, Int.not_le] at h; omega))
          refine Held.mk ?_
          refine ev_region3 tt_ok true ?_
          simp only [go_sem, reduceAdd, reduceSub, reduceMul, reduceEqDiff, reduceLeDiff, Nat.reduceBEq, reduceLT, reduceIte, reduceCtorEq, Int.reduceToNat]
          iterate 1 (refine ev3_step ?_; simp only [go_sem, reduceAdd, reduceSub, reduceMul, reduceEqDiff, reduceLeDiff, Nat.reduceBEq, reduceLT, reduceIte, reduceCtorEq, Int.reduceToNat])
          refine ev3_spec rfl (by simp only [go_sem, reduceAdd, reduceSub, reduceMul, reduceEqDiff, reduceLeDiff, Nat.reduceBEq, reduceLT, reduceIte, reduceCtorEq, Int.reduceToNat]) (specS_call (list_run (id := 3) (j := 1) (n := n) (by simp only [go_sem, reduceAdd, reduceSub, reduceMul, reduceEqDiff, reduceLeDiff, Nat.reduceBEq, reduceLT, reduceIte, reduceCtorEq, Int.reduceToNat]) (by simp only [go_sem, reduceAdd, reduceSub, reduceMul, reduceEqDiff, reduceLeDiff, Nat.reduceBEq, reduceLT, reduceIte, reduceCtorEq, Int.reduceToNat]) (by omega)) (by simp only [go_sem, reduceAdd, reduceSub, reduceMul, reduceEqDiff, reduceLeDiff, Nat.reduceBEq, reduceLT, reduceIte, reduceCtorEq, Int.reduceToNat]) (by simp only [go_sem, reduceAdd, reduceSub, reduceMul, reduceEqDiff, reduceLeDiff, Nat.reduceBEq, reduceLT, reduceIte, reduceCtorEq, Int.reduceToNat])) ?_
          rintro z ⟨L1, m, hL1, hm, rfl⟩
          simp only [go_sem, reduceAdd, reduceSub, reduceMul, reduceEqDiff, reduceLeDiff, Nat.reduceBEq, reduceLT, reduceIte, reduceCtorEq, Int.reduceToNat]
          iterate 2 (refine ev3_step ?_; simp only [go_sem, reduceAdd, reduceSub, reduceMul, reduceEqDiff, reduceLeDiff, Nat.reduceBEq, reduceLT, reduceIte, reduceCtorEq, Int.reduceToNat])
          refine ev3_nil ?_
          apply hK; clear hK
          refine ev_ret ?_
          have htk : List.take m (L1.map encE) = (L1.take m).map encE := by rw [List.map_take]
          refine ⟨_, .inr ⟨L1.take m, 0, by rw [List.length_take]; omega, rfl⟩, ?_⟩
          simp only [go_sem, reduceAdd, reduceSub, reduceMul, reduceEqDiff, reduceLeDiff, Nat.reduceBEq, reduceLT, reduceIte, reduceCtorEq, Int.reduceToNat, List.length_map, htk, vrows_lit _ (lit_encE (L1.take m)), hm, List.drop_zero, Nat.zero_add, Nat.sub_zero, Nat.zero_le, Nat.le_refl]
  · rintro z (⟨e, rfl⟩ | h)
    · exact ⟨_, ⟨[], e, by simp, rfl⟩, fun E v hv => tup_fst hv fun u hu => emp_sl hu⟩
    · exact ⟨_, h, fun E v hv => hv⟩
end Go.Proofs.YtbibplkhhdomnaaGreat
