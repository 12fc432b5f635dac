import Derived.Test.YtbibplkhhdomnaaGreatW35
set_option linter.all false
namespace Go.Proofs.YtbibplkhhdomnaaGreat
open Nat (reduceAdd reduceSub reduceMul reduceEqDiff reduceLeDiff reduceLT)
open Go Go.K
set_option maxRecDepth 20000
set_option maxHeartbeats 16000000
def encC (c : Int × Int) : List V := [.int .i64 c.1, .int .i64 c.2]
theorem lit_encC (l : List (Int × Int)) : litRows (l.map encC) = true := litRows_map (fun _ => rfl) l
def cellsX (z : V) : Prop := ∃ L : List (Int × Int), L.length ≤ 4761 ∧ z = .sl (L.map encC)
theorem sweep_x (x y vx vy d n f : Int) (hx : -1048576 ≤ x ∧ x ≤ 1048576) (hy : -1048576 ≤ y ∧ y ≤ 1048576) (hd : 1 ≤ d ∧ d ≤ 67108864) (hvx : -d ≤ vx ∧ vx ≤ d) (hvy : -d ≤ vy ∧ vy ≤ d) (hn : 0 ≤ n ∧ n ≤ 2048) (hf : 0 ≤ f ∧ f ≤ 2048) :
    PureX Tryz.prog 56 [.agg [.int .i64 x, .int .i64 y, .int .i64 x, .int .i64 y], .agg [.int .i64 vx, .int .i64 vy, .int .i64 d], .int .i64 n, .int .i64 f] cellsX := by
  obtain ⟨lx, hx', cx, bx1, bx2⟩ := reach_x x x vx d n f hx hx hd hvx hn hf
  obtain ⟨ly, hy', cy, by1, by2⟩ := reach_x y y vy d n f hy hy hd hvy hn hf
  have sx := span_pure lx hx' (by omega) (by omega)
  have sy := span_pure ly hy' (by omega) (by omega)
  obtain ⟨x0, hx0⟩ : ∃ q, -(-lx / 64) - 1 = q := ⟨_, rfl⟩
  obtain ⟨x1, hx1⟩ : ∃ q, hx' / 64 = q := ⟨_, rfl⟩
  obtain ⟨y0, hy0⟩ : ∃ q, -(-ly / 64) - 1 = q := ⟨_, rfl⟩
  obtain ⟨y1, hy1⟩ : ∃ q, hy' / 64 = q := ⟨_, rfl⟩
  rw [hx0, hx1] at sx
  rw [hy0, hy1] at sy
  have wx : x1 - x0 ≤ 68 ∧ -20000 ≤ x0 ∧ x1 ≤ 20000 := by omega
  have wy : y1 - y0 ≤ 68 ∧ -20000 ≤ y0 ∧ y1 ≤ 20000 := by omega
  clear hx0 hx1 hy0 hy1 bx1 bx2 by1 by2 hx hy hd hvx hvy hn hf
  refine pureX_of_ev tt_ok Tryz.func56 rfl (by decide +kernel) (Nat.le_of_ble_eq_true rfl) ?_
  simp only [Tryz.f56]
  repeat' first
    | refine ev_seq (fun K hK => ?_)
    | ((first | refine evrd (id := 13) hmix tt_ok false [([], true), ([], true), ([1], true), ([], true), ([], true), ([], true), ([], true), ([0, 1, 2, 3, 4, 5, 6], false), ([6], false), ([], false)] (by decide +kernel) ?_ | refine evr tt_ok false ?_ | refine ev_skip ?_ | refine ev_ret ?_ | refine ev_exit ?_ | refine evc (fun X Y hX hY => ?_)); simp only [go_sem, reduceAdd, reduceSub, reduceMul, reduceEqDiff, reduceLeDiff, Nat.reduceBEq, reduceLT, reduceIte, reduceCtorEq, Int.reduceToNat]; try (first | (refine ⟨fun h => hX ?_, fun h => hY ?_⟩; clear hX hY) | (refine hX ?_; clear hX hY) | (refine hY ?_; clear hX hY)))
    | refine ev_block ?_
    | (apply hK; clear hK)
    | apply_assumption -exfalso -symm only [*]
    | (refine And.intro ?_ ?_; first | omega | assumption | (unfold maxLen; omega) | (simp only [decide_eq_true_eq, decide_eq_false_iff_not, Int.not_lt, Int.not_le] at h; omega))
    | ((first | apply callP | apply callPG | apply callP0); (case' hv => (simp only [go_sem, reduceAdd, reduceSub, reduceMul, reduceEqDiff, reduceLeDiff, Nat.reduceBEq, reduceLT, reduceIte, reduceCtorEq, Int.reduceToNat]; try exact rfl)); (case' hp => (first | refine' cx | (refine' (fun hg => ?_); refine' cx) | refine' cy | (refine' (fun hg => ?_); refine' cy) | refine' sx | (refine' (fun hg => ?_); refine' sx) | refine' sy | (refine' (fun hg => ?_); refine' sy))); (case' h => ((first | refine evOps_fin ?_ | refine And.intro ?_ (evD_fin ?_) | refine evD_fin ?_) <;> simp only [go_sem, reduceAdd, reduceSub, reduceMul, reduceEqDiff, reduceLeDiff, Nat.reduceBEq, reduceLT, reduceIte, reduceCtorEq, Int.reduceToNat])))
    | (refine callX ?_; (first | refine evOps_fin ?_ | refine And.intro ?_ (evD_fin ?_) | refine evD_fin ?_) <;> simp only [go_sem, reduceAdd, reduceSub, reduceMul, reduceEqDiff, reduceLeDiff, Nat.reduceBEq, reduceLT, reduceIte, reduceCtorEq, Int.reduceToNat])
  refine ev_adopt 17 88 2 (by decide) rfl ?_
  refine ev_loop (fun z : Nat × List (Int × Int) => z.1 ≤ 69 ∧ z.2.length ≤ 69 * z.1)
    (fun z => ⟨99, [(18, .int .i64 (y0 + (z.1 : Nat))), (17, .rs 2 z.2.length 0 z.2.length), (13, .int .i64 x0), (14, .int .i64 x1), (16, .int .i64 y1), (2, .int .i64 n), (3, .int .i64 f), (4, .own 0 0 0 0), (5, .own 1 0 0 0)],
      [.blk 124 0 4 [[.int .i64 x, .int .i64 y, .int .i64 x, .int .i64 y]], .blk 83 0 3 [[.int .i64 vx, .int .i64 vy, .int .i64 d]], .blk 88 z.2.length 2 (z.2.map encC)]⟩)
    (fun z => 70 - z.1) (0, []) ⟨by simp, by simp⟩ ?_ ?_
  · simp only [go_sem, reduceAdd, reduceSub, reduceMul, reduceEqDiff, reduceLeDiff, Nat.reduceBEq, reduceLT, reduceIte, reduceCtorEq, Int.reduceToNat, fits, fitT, fitOs, fitO, V.under, unders, rowsUnder]
    repeat' first | rfl | exact congrArg (V.int .i64) (by omega) | apply And.intro
  · rintro ⟨i, L⟩ ⟨hi, hL⟩
    simp only at hi hL
    by_cases hj : y0 + (i : Int) ≤ y1
    · have hwy : IntKind.i64.wrap (y0 + (i : Int) + 1) = y0 + ((i + 1 : Nat) : Int) := by rw [w64] <;> omega
      repeat' first
        | refine ev_seq (fun K hK => ?_)
        | ((first | refine evrd (id := 13) hmix tt_ok false [([], true), ([], true), ([1], true), ([], true), ([], true), ([], true), ([], true), ([0, 1, 2, 3, 4, 5, 6], false), ([6], false), ([], false)] (by decide +kernel) ?_ | refine evr tt_ok false ?_ | refine ev_skip ?_ | refine ev_ret ?_ | refine ev_exit ?_ | refine evc (fun X Y hX hY => ?_)); simp only [go_sem, reduceAdd, reduceSub, reduceMul, reduceEqDiff, reduceLeDiff, Nat.reduceBEq, reduceLT, reduceIte, reduceCtorEq, Int.reduceToNat, hj]; try (first | (refine ⟨fun h => hX ?_, fun h => hY ?_⟩; clear hX hY) | (refine hX ?_; clear hX hY) | (refine hY ?_; clear hX hY)))
        | refine ev_block ?_
        | (apply hK; clear hK)
        | apply_assumption -exfalso -symm only [*]
        | (refine And.intro ?_ ?_; first | omega | assumption | (unfold maxLen; omega) | (simp only [decide_eq_true_eq, decide_eq_false_iff_not, Int.not_lt, Int.not_le] at h; omega))
      refine ev_loop (fun z : Nat × List (Int × Int) => z.1 ≤ 69 ∧ z.2.length ≤ 69 * i + z.1)
        (fun z => ⟨99, [(19, .int .i64 (x0 + (z.1 : Nat))), (18, .int .i64 (y0 + (i : Nat))), (17, .rs 2 z.2.length 0 z.2.length), (13, .int .i64 x0), (14, .int .i64 x1), (16, .int .i64 y1), (2, .int .i64 n), (3, .int .i64 f), (4, .own 0 0 0 0), (5, .own 1 0 0 0)],
          [.blk 124 0 4 [[.int .i64 x, .int .i64 y, .int .i64 x, .int .i64 y]], .blk 83 0 3 [[.int .i64 vx, .int .i64 vy, .int .i64 d]], .blk 88 z.2.length 2 (z.2.map encC)]⟩)
        (fun z => 70 - z.1) (0, L) ⟨by simp, by simp; omega⟩ ?_ ?_
      · simp only [go_sem, reduceAdd, reduceSub, reduceMul, reduceEqDiff, reduceLeDiff, Nat.reduceBEq, reduceLT, reduceIte, reduceCtorEq, Int.reduceToNat, fits, fitT, fitOs, fitO, V.under, unders, rowsUnder]
        repeat' first | rfl | exact congrArg (V.int .i64) (by omega) | exact rowsUnder_lit _ (lit_encC _) | apply And.intro
        all_goals trace_state
      · rintro ⟨k, L2⟩ ⟨hk, hL2⟩
        simp only at hk hL2
        by_cases hk2 : x0 + (k : Int) ≤ x1
        · have hwx : IntKind.i64.wrap (x0 + (k : Int) + 1) = x0 + ((k + 1 : Nat) : Int) := by rw [w64] <;> omega
          obtain ⟨m0, m1, m2, m3, t, hm⟩ := minus_x (IntKind.i64.wrap ((x0 + (k : Int)) * 64)) (IntKind.i64.wrap ((y0 + (i : Int)) * 64)) (IntKind.i64.wrap (IntKind.i64.wrap ((x0 + (k : Int)) * 64) + 64)) (IntKind.i64.wrap (IntKind.i64.wrap ((y0 + (i : Int)) * 64) + 64)) x y x y
          repeat' first
            | refine ev_seq (fun K hK => ?_)
            | refine ev_held (id := 14) ?_
            | ((first | refine evrd (id := 13) hmix tt_ok false [([], true), ([], true), ([1], true), ([], true), ([], true), ([], true), ([], true), ([0, 1, 2, 3, 4, 5, 6], false), ([6], false), ([], false)] (by decide +kernel) ?_ | refine evr tt_ok false ?_ | refine ev_skip ?_ | refine ev_ret ?_ | refine ev_exit ?_ | refine evc (fun X Y hX hY => ?_)); simp only [go_sem, reduceAdd, reduceSub, reduceMul, reduceEqDiff, reduceLeDiff, Nat.reduceBEq, reduceLT, reduceIte, reduceCtorEq, Int.reduceToNat, hk2]; try (first | (refine ⟨fun h => hX ?_, fun h => hY ?_⟩; clear hX hY) | (refine hX ?_; clear hX hY) | (refine hY ?_; clear hX hY)))
            | refine ev_block ?_
            | (apply hK; clear hK)
            | apply_assumption -exfalso -symm only [*]
            | (refine And.intro ?_ ?_; first | omega | assumption | (unfold maxLen; omega) | (simp only [decide_eq_true_eq, decide_eq_false_iff_not, Int.not_lt, Int.not_le] at h; omega))
            | ((first | apply callP | apply callPG | apply callP0); (case' hv => (simp only [go_sem, reduceAdd, reduceSub, reduceMul, reduceEqDiff, reduceLeDiff, Nat.reduceBEq, reduceLT, reduceIte, reduceCtorEq, Int.reduceToNat, hk2]; try exact rfl)); (case' hp => (first | refine' square_pure _ _ | (refine' (fun hg => ?_); refine' square_pure _ _) | refine' hm | (refine' (fun hg => ?_); refine' hm))); (case' h => ((first | refine evOps_fin ?_ | refine And.intro ?_ (evD_fin ?_) | refine evD_fin ?_) <;> simp only [go_sem, reduceAdd, reduceSub, reduceMul, reduceEqDiff, reduceLeDiff, Nat.reduceBEq, reduceLT, reduceIte, reduceCtorEq, Int.reduceToNat, hk2])))
            | (refine callX ?_; (first | refine evOps_fin ?_ | refine And.intro ?_ (evD_fin ?_) | refine evD_fin ?_) <;> simp only [go_sem, reduceAdd, reduceSub, reduceMul, reduceEqDiff, reduceLeDiff, Nat.reduceBEq, reduceLT, reduceIte, reduceCtorEq, Int.reduceToNat, hk2])
          refine Held.mk ?_
          refine ev_region3 tt_ok false ?_
          simp only [go_sem, reduceAdd, reduceSub, reduceMul, reduceEqDiff, reduceLeDiff, Nat.reduceBEq, reduceLT, reduceIte, reduceCtorEq, Int.reduceToNat]
          cases t with
          | true =>
            iterate 7 (refine ev3_step ?_; simp only [go_sem, reduceAdd, reduceSub, reduceMul, reduceEqDiff, reduceLeDiff, Nat.reduceBEq, reduceLT, reduceIte, reduceCtorEq, Int.reduceToNat])
            refine ev3_specG rfl (by simp only [go_sem, reduceAdd, reduceSub, reduceMul, reduceEqDiff, reduceLeDiff, Nat.reduceBEq, reduceLT, reduceIte, reduceCtorEq, Int.reduceToNat]) (by simp only [go_sem, reduceAdd, reduceSub, reduceMul, reduceEqDiff, reduceLeDiff, Nat.reduceBEq, reduceLT, reduceIte, reduceCtorEq, Int.reduceToNat]) (specS_pure (meets_x 0 0 vx vy d n f m0 m1 m2 m3) (by simp only [go_sem, reduceAdd, reduceSub, reduceMul, reduceEqDiff, reduceLeDiff, Nat.reduceBEq, reduceLT, reduceIte, reduceCtorEq, Int.reduceToNat]; rfl) (by simp only [go_sem, reduceAdd, reduceSub, reduceMul, reduceEqDiff, reduceLeDiff, Nat.reduceBEq, reduceLT, reduceIte, reduceCtorEq, Int.reduceToNat]) (by simp only [go_sem, reduceAdd, reduceSub, reduceMul, reduceEqDiff, reduceLeDiff, Nat.reduceBEq, reduceLT, reduceIte, reduceCtorEq, Int.reduceToNat])) ?_
            rintro z ⟨_, ⟨b, rfl⟩, rfl⟩
            simp only [go_sem, reduceAdd, reduceSub, reduceMul, reduceEqDiff, reduceLeDiff, Nat.reduceBEq, reduceLT, reduceIte, reduceCtorEq, Int.reduceToNat]
            iterate 1 (refine ev3_step ?_; simp only [go_sem, reduceAdd, reduceSub, reduceMul, reduceEqDiff, reduceLeDiff, Nat.reduceBEq, reduceLT, reduceIte, reduceCtorEq, Int.reduceToNat])
            refine ev3_nil ?_
            have hq : 1 ≤ maxLen ∧ L2.length + 1 ≤ maxLen ∧ (L2.length + 1) * 16 ≤ 140737488355328 := by
              have : maxLen = 9223372036854775807 := rfl
              omega
            apply hK; clear hK
            repeat' first
              | refine ev_seq (fun K hK => ?_)
              | ((first | refine evrd (id := 13) hmix tt_ok false [([], true), ([], true), ([1], true), ([], true), ([], true), ([], true), ([], true), ([0, 1, 2, 3, 4, 5, 6], false), ([6], false), ([], false)] (by decide +kernel) ?_ | refine evr tt_ok false ?_ | refine ev_skip ?_ | refine ev_ret ?_ | refine ev_exit ?_ | refine evc (fun X Y hX hY => ?_)); simp only [go_sem, reduceAdd, reduceSub, reduceMul, reduceEqDiff, reduceLeDiff, Nat.reduceBEq, reduceLT, reduceIte, reduceCtorEq, Int.reduceToNat, hwx, List.length_map]; try (first | (refine ⟨fun h => hX ?_, fun h => hY ?_⟩; clear hX hY) | (refine hX ?_; clear hX hY) | (refine hY ?_; clear hX hY)))
              | refine ev_block ?_
              | (apply hK; clear hK)
              | apply_assumption -exfalso -symm only [*]
              | (refine And.intro ?_ ?_; first | omega | assumption | (unfold maxLen; omega) | (simp only [decide_eq_true_eq, decide_eq_false_iff_not, Int.not_lt, Int.not_le] at h; omega))
            · exact ⟨(k + 1, L2 ++ [(x0 + (k : Int), y0 + (i : Int))]), ⟨by simp only; omega, by simp only [List.length_append, List.length_cons, List.length_nil]; omega⟩, ⟨⟨rfl, by simp⟩, by simp, by rw [List.map_append]; rfl, rowsUnder_lit _ (lit_encC _)⟩, by simp only; omega⟩
            · exact ⟨(k + 1, L2), ⟨by simp only; omega, by simp only; omega⟩, ⟨⟨rfl, rfl⟩, rfl, rfl, rowsUnder_lit _ (lit_encC _)⟩, by simp only; omega⟩
          | false =>
            iterate 2 (refine ev3_step ?_; simp only [go_sem, reduceAdd, reduceSub, reduceMul, reduceEqDiff, reduceLeDiff, Nat.reduceBEq, reduceLT, reduceIte, reduceCtorEq, Int.reduceToNat])
            iterate 6 (refine ev3_skip ⟨by simp only [go_sem, reduceAdd, reduceSub, reduceMul, reduceEqDiff, reduceLeDiff, Nat.reduceBEq, reduceLT, reduceIte, reduceCtorEq, Int.reduceToNat], by simp only [go_sem, reduceAdd, reduceSub, reduceMul, reduceEqDiff, reduceLeDiff, Nat.reduceBEq, reduceLT, reduceIte, reduceCtorEq, Int.reduceToNat], rfl⟩ ?_; simp only [go_sem, reduceAdd, reduceSub, reduceMul, reduceEqDiff, reduceLeDiff, Nat.reduceBEq, reduceLT, reduceIte, reduceCtorEq, Int.reduceToNat])
            iterate 1 (refine ev3_step ?_; simp only [go_sem, reduceAdd, reduceSub, reduceMul, reduceEqDiff, reduceLeDiff, Nat.reduceBEq, reduceLT, reduceIte, reduceCtorEq, Int.reduceToNat])
            refine ev3_nil ?_
            apply hK; clear hK
            repeat' first
              | refine ev_seq (fun K hK => ?_)
              | ((first | refine evrd (id := 13) hmix tt_ok false [([], true), ([], true), ([1], true), ([], true), ([], true), ([], true), ([], true), ([0, 1, 2, 3, 4, 5, 6], false), ([6], false), ([], false)] (by decide +kernel) ?_ | refine evr tt_ok false ?_ | refine ev_skip ?_ | refine ev_ret ?_ | refine ev_exit ?_ | refine evc (fun X Y hX hY => ?_)); simp only [go_sem, reduceAdd, reduceSub, reduceMul, reduceEqDiff, reduceLeDiff, Nat.reduceBEq, reduceLT, reduceIte, reduceCtorEq, Int.reduceToNat, hwx, List.length_map]; try (first | (refine ⟨fun h => hX ?_, fun h => hY ?_⟩; clear hX hY) | (refine hX ?_; clear hX hY) | (refine hY ?_; clear hX hY)))
              | refine ev_block ?_
              | (apply hK; clear hK)
              | apply_assumption -exfalso -symm only [*]
              | (refine And.intro ?_ ?_; first | omega | assumption | (unfold maxLen; omega) | (simp only [decide_eq_true_eq, decide_eq_false_iff_not, Int.not_lt, Int.not_le] at h; omega))
            exact ⟨(k + 1, L2), ⟨by simp only; omega, by simp only; omega⟩, ⟨⟨rfl, rfl⟩, rfl, rfl, rowsUnder_lit _ (lit_encC _)⟩, by simp only; omega⟩
        · repeat' first
          | refine ev_seq (fun K hK => ?_)
          | ((first | refine evrd (id := 13) hmix tt_ok false [([], true), ([], true), ([1], true), ([], true), ([], true), ([], true), ([], true), ([0, 1, 2, 3, 4, 5, 6], false), ([6], false), ([], false)] (by decide +kernel) ?_ | refine evr tt_ok false ?_ | refine ev_skip ?_ | refine ev_ret ?_ | refine ev_exit ?_ | refine evc (fun X Y hX hY => ?_)); simp only [go_sem, reduceAdd, reduceSub, reduceMul, reduceEqDiff, reduceLeDiff, Nat.reduceBEq, reduceLT, reduceIte, reduceCtorEq, Int.reduceToNat, hk2, hwy]; try (first | (refine ⟨fun h => hX ?_, fun h => hY ?_⟩; clear hX hY) | (refine hX ?_; clear hX hY) | (refine hY ?_; clear hX hY)))
          | refine ev_block ?_
          | (apply hK; clear hK)
          | apply_assumption -exfalso -symm only [*]
          | (refine And.intro ?_ ?_; first | omega | assumption | (unfold maxLen; omega) | (simp only [decide_eq_true_eq, decide_eq_false_iff_not, Int.not_lt, Int.not_le] at h; omega))
          exact ⟨(i + 1, L2), ⟨by simp only; omega, by simp only; omega⟩, ⟨⟨rfl, rfl⟩, rfl, rfl, rowsUnder_lit _ (lit_encC _)⟩, by simp only; omega⟩
    · have htk : List.take L.length (L.map encC) = L.map encC := List.take_of_length_le (by simp)
      repeat' first
        | refine ev_seq (fun K hK => ?_)
        | ((first | refine evrd (id := 13) hmix tt_ok false [([], true), ([], true), ([1], true), ([], true), ([], true), ([], true), ([], true), ([0, 1, 2, 3, 4, 5, 6], false), ([6], false), ([], false)] (by decide +kernel) ?_ | refine evr tt_ok false ?_ | refine ev_skip ?_ | refine ev_ret ?_ | refine ev_exit ?_ | refine evc (fun X Y hX hY => ?_)); simp only [go_sem, reduceAdd, reduceSub, reduceMul, reduceEqDiff, reduceLeDiff, Nat.reduceBEq, reduceLT, reduceIte, reduceCtorEq, Int.reduceToNat, hj]; try (first | (refine ⟨fun h => hX ?_, fun h => hY ?_⟩; clear hX hY) | (refine hX ?_; clear hX hY) | (refine hY ?_; clear hX hY)))
        | refine ev_block ?_
        | (apply hK; clear hK)
        | apply_assumption -exfalso -symm only [*]
        | (refine And.intro ?_ ?_; first | omega | assumption | (unfold maxLen; omega) | (simp only [decide_eq_true_eq, decide_eq_false_iff_not, Int.not_lt, Int.not_le] at h; omega))
      refine ev_ret ?_
      refine ⟨_, ⟨L, by omega, rfl⟩, ?_⟩
      simp only [go_sem, reduceAdd, reduceSub, reduceMul, reduceEqDiff, reduceLeDiff, Nat.reduceBEq, reduceLT, reduceIte, reduceCtorEq, Int.reduceToNat, List.length_map, vrows_lit _ (lit_encC L), Nat.le_refl, htk, Nat.sub_zero]
def tracedX (z : V) : Prop := ∃ (L : List (Int × Int)) (e : Int), L.length ≤ 4761 ∧ z = .tup [.sl (L.map encC), .int .i64 e]
theorem inB_of {x k : Int} (hk : 0 ≤ k ∧ k ≤ 1152921504606846976) (h : inB x k = true) : -k ≤ x ∧ x ≤ k := by
  have w : IntKind.i64.wrap (0 - k) = -k := by rw [w64] <;> omega
  simp only [inB, Bool.and_eq_true, decide_eq_true_eq, w] at h
  exact h
theorem traced_x (x y vx vy d n f : Int) : PureX Tryz.prog 28 [.agg [.int .i64 x, .int .i64 y], .agg [.int .i64 vx, .int .i64 vy, .int .i64 d], .int .i64 n, .int .i64 f] tracedX := by
  refine PureX.weak (X := fun z => (∃ e, z = .tup [.emp, .int .i64 e]) ∨ tracedX z) ?_ ?_
  · refine pureX_of_ev tt_ok Tryz.func28 rfl (by decide +kernel) (Nat.le_of_ble_eq_true rfl) ?_
    simp only [Tryz.f28]
    repeat' first
      | refine ev_seq (fun K hK => ?_)
      | refine ev_held (id := 5) ?_
      | ((first | refine evr tt_ok false ?_ | refine ev_skip ?_ | refine ev_ret ?_ | refine ev_exit ?_ | refine evc (fun X Y hX hY => ?_)); simp only [go_sem, reduceAdd, reduceSub, reduceMul, reduceEqDiff, reduceLeDiff, Nat.reduceBEq, reduceLT, reduceIte, reduceCtorEq, Int.reduceToNat]; try (first | (refine ⟨fun h => hX ?_, fun h => hY ?_⟩; clear hX hY) | (refine hX ?_; clear hX hY) | (refine hY ?_; clear hX hY)))
      | refine ev_block ?_
      | (apply hK; clear hK)
      | apply_assumption -exfalso -symm only [*]
      | (refine And.intro ?_ ?_; first | omega | assumption | (unfold maxLen; omega) | (simp only [decide_eq_true_eq, decide_eq_false_iff_not, Int.not_lt, Int.not_le] at h; omega))
      | ((first | apply callP | apply callPG | apply callP0); (case' hv => (simp only [go_sem, reduceAdd, reduceSub, reduceMul, reduceEqDiff, reduceLeDiff, Nat.reduceBEq, reduceLT, reduceIte, reduceCtorEq, Int.reduceToNat]; try exact rfl)); (case' hp => (first | refine' pvp_pure _ _ | (refine' (fun hg => ?_); refine' pvp_pure _ _) | refine' pvv_pure _ _ _ | (refine' (fun hg => ?_); refine' pvv_pure _ _ _))); (case' h => ((first | refine evOps_fin ?_ | refine And.intro ?_ (evD_fin ?_) | refine evD_fin ?_) <;> simp only [go_sem, reduceAdd, reduceSub, reduceMul, reduceEqDiff, reduceLeDiff, Nat.reduceBEq, reduceLT, reduceIte, reduceCtorEq, Int.reduceToNat])))
      | (refine callX ?_; (first | refine evOps_fin ?_ | refine And.intro ?_ (evD_fin ?_) | refine evD_fin ?_) <;> simp only [go_sem, reduceAdd, reduceSub, reduceMul, reduceEqDiff, reduceLeDiff, Nat.reduceBEq, reduceLT, reduceIte, reduceCtorEq, Int.reduceToNat])
    · refine ⟨_, .inl ⟨_, rfl⟩, ?_, rfl⟩
      simp only [go_sem, reduceAdd, reduceSub, reduceMul, reduceEqDiff, reduceLeDiff, Nat.reduceBEq, reduceLT, reduceIte, reduceCtorEq, Int.reduceToNat]
    · refine ⟨_, .inl ⟨_, rfl⟩, ?_, rfl⟩
      simp only [go_sem, reduceAdd, reduceSub, reduceMul, reduceEqDiff, reduceLeDiff, Nat.reduceBEq, reduceLT, reduceIte, reduceCtorEq, Int.reduceToNat]
    · have hv0 : (!(inB x 1048576 && inB y 1048576) || !vvB vx vy d) = false := by assumption
      simp only [Bool.or_eq_false_iff, Bool.not_eq_false', Bool.and_eq_true, decide_eq_false_iff_not, vvB, decide_eq_true_eq] at hv0 h
      obtain ⟨⟨a1, a2⟩, ⟨⟨⟨a3, a4⟩, a5⟩, a6⟩, _⟩ := hv0
      have b1 := inB_of (by omega) a1
      have b2 := inB_of (by omega) a2
      have b3 := inB_of (by omega) a5
      have b4 := inB_of (by omega) a6
      refine Held.mk ?_
      refine ev_region3 tt_ok false ?_
      simp only [go_sem, reduceAdd, reduceSub, reduceMul, reduceEqDiff, reduceLeDiff, Nat.reduceBEq, reduceLT, reduceIte, reduceCtorEq, Int.reduceToNat]
      iterate 12 (refine ev3_step ?_; simp only [go_sem, reduceAdd, reduceSub, reduceMul, reduceEqDiff, reduceLeDiff, Nat.reduceBEq, reduceLT, reduceIte, reduceCtorEq, Int.reduceToNat])
      refine ev3_spec rfl (by simp only [go_sem, reduceAdd, reduceSub, reduceMul, reduceEqDiff, reduceLeDiff, Nat.reduceBEq, reduceLT, reduceIte, reduceCtorEq, Int.reduceToNat]) (specS_pure (sweep_x x y vx vy d n f b1 b2 ⟨a3, a4⟩ b3 b4 (by omega) (by omega)) (by simp only [go_sem, reduceAdd, reduceSub, reduceMul, reduceEqDiff, reduceLeDiff, Nat.reduceBEq, reduceLT, reduceIte, reduceCtorEq, Int.reduceToNat]; rfl) (by simp only [go_sem, reduceAdd, reduceSub, reduceMul, reduceEqDiff, reduceLeDiff, Nat.reduceBEq, reduceLT, reduceIte, reduceCtorEq, Int.reduceToNat]) (by simp only [go_sem, reduceAdd, reduceSub, reduceMul, reduceEqDiff, reduceLeDiff, Nat.reduceBEq, reduceLT, reduceIte, reduceCtorEq, Int.reduceToNat])) ?_
      rintro z ⟨_, ⟨L, hL, rfl⟩, rfl⟩
      simp only [go_sem, reduceAdd, reduceSub, reduceMul, reduceEqDiff, reduceLeDiff, Nat.reduceBEq, reduceLT, reduceIte, reduceCtorEq, Int.reduceToNat]
      iterate 2 (refine ev3_step ?_; simp only [go_sem, reduceAdd, reduceSub, reduceMul, reduceEqDiff, reduceLeDiff, Nat.reduceBEq, reduceLT, reduceIte, reduceCtorEq, Int.reduceToNat])
      refine ev3_nil ?_
      apply hK; clear hK
      refine ev_ret ?_
      refine ⟨_, .inr ⟨L, 0, hL, rfl⟩, ?_⟩
      simp only [go_sem, reduceAdd, reduceSub, reduceMul, reduceEqDiff, reduceLeDiff, Nat.reduceBEq, reduceLT, reduceIte, reduceCtorEq, Int.reduceToNat]
  · rintro z (⟨e, rfl⟩ | h)
    · exact ⟨_, ⟨[], e, by simp, rfl⟩, fun E v hv => tup_fst hv fun u hu => emp_sl hu⟩
    · exact ⟨_, h, fun E v hv => hv⟩
end Go.Proofs.YtbibplkhhdomnaaGreat
namespace Go.Proofs.YtbibplkhhdomnaaGreat
open Nat (reduceAdd reduceSub reduceMul reduceEqDiff reduceLeDiff reduceLT)
open Go Go.K
set_option maxRecDepth 20000
set_option maxHeartbeats 16000000
theorem cll_get (L : List (Int × Int)) (i : Nat) : (L.map encC).getD i [.int .i64 0, .int .i64 0] = encC (L.getD i (0, 0)) := getD_map (f := encC) (d := (0, 0)) rfl
theorem cindex_x (L : List (Int × Int)) (hl : L.length ≤ 4761) (x y : Int) : PureX Tryz.prog 57 [.sl (L.map encC), .agg [.int .i64 x, .int .i64 y]] fun z => ∃ k : Int, z = .int .i64 k := by
  refine pureX_of_ev tt_ok Tryz.func57 rfl (by decide +kernel) (Nat.le_of_ble_eq_true rfl) ?_
  simp only [Tryz.f57]
  repeat' first
    | refine ev_seq (fun K hK => ?_)
    | ((first | refine evrd (id := 4) hmix tt_ok false [([], false), ([], false), ([], false), ([], false), ([], false), ([], false)] (by decide +kernel) ?_ | refine evr tt_ok false ?_ | refine ev_skip ?_ | refine ev_ret ?_ | refine ev_exit ?_ | refine evc (fun X Y hX hY => ?_)); simp only [go_sem, reduceAdd, reduceSub, reduceMul, reduceEqDiff, reduceLeDiff, Nat.reduceBEq, reduceLT, reduceIte, reduceCtorEq, Int.reduceToNat, List.length_map]; try (first | (refine ⟨fun h => hX ?_, fun h => hY ?_⟩; clear hX hY) | (refine hX ?_; clear hX hY) | (refine hY ?_; clear hX hY)))
    | refine ev_block ?_
    | (apply hK; clear hK)
    | apply_assumption -exfalso -symm only [*]
    | (refine And.intro ?_ ?_; first | omega | assumption | (unfold maxLen; omega) | (simp only [decide_eq_true_eq, decide_eq_false_iff_not, Int.not_lt, Int.not_le] at h; omega))
  refine ev_loop (fun i : Nat => i ≤ L.length)
    (fun i => ⟨19, [(8, .int .i64 (i : Int)), (7, .int .i64 (L.length : Int)), (0, .sl (L.map encC)), (3, .own 0 0 0 0)], [.blk 88 0 2 [[.int .i64 x, .int .i64 y]]]⟩)
    (fun i => L.length - i) 0 (Nat.zero_le _) ?_ ?_
  · simp only [go_sem, reduceAdd, reduceSub, reduceMul, reduceEqDiff, reduceLeDiff, Nat.reduceBEq, reduceLT, reduceIte, reduceCtorEq, Int.reduceToNat, fits, fitT, fitOs, fitO, V.under, unders, rowsUnder]
    repeat' first | rfl | apply And.intro
  · intro i hi
    have hb0 : 0 ≤ (i : Int) := by omega
    have hw : IntKind.i64.wrap ((i : Int) + 1) = ((i + 1 : Nat) : Int) := by rw [w64] <;> omega
    by_cases hlt : (i : Int) < ((L.length : Nat) : Int)
    · have hgt := cll_get L i
      generalize L.getD i (0, 0) = q at *
      simp only [encC] at hgt
      repeat' first
        | refine ev_seq (fun K hK => ?_)
        | ((first | refine evrd (id := 4) hmix tt_ok false [([], false), ([], false), ([], false), ([], false), ([], false), ([], false)] (by decide +kernel) ?_ | refine evr tt_ok false ?_ | refine ev_skip ?_ | refine ev_ret ?_ | refine ev_exit ?_ | refine evc (fun X Y hX hY => ?_)); simp only [go_sem, reduceAdd, reduceSub, reduceMul, reduceEqDiff, reduceLeDiff, Nat.reduceBEq, reduceLT, reduceIte, reduceCtorEq, Int.reduceToNat, hb0, hw, hlt, hgt, List.length_map, Int.toNat_natCast]; try (first | (refine ⟨fun h => hX ?_, fun h => hY ?_⟩; clear hX hY) | (refine hX ?_; clear hX hY) | (refine hY ?_; clear hX hY)))
        | refine ev_block ?_
        | (apply hK; clear hK)
        | apply_assumption -exfalso -symm only [*]
        | (refine And.intro ?_ ?_; first | omega | assumption | (unfold maxLen; omega) | (simp only [decide_eq_true_eq, decide_eq_false_iff_not, Int.not_lt, Int.not_le] at h; omega))
      · refine ⟨_, ⟨_, rfl⟩, ?_, rfl⟩
        simp only [go_sem, reduceAdd, reduceSub, reduceMul, reduceEqDiff, reduceLeDiff, Nat.reduceBEq, reduceLT, reduceIte, reduceCtorEq, Int.reduceToNat]
      · exact ⟨i + 1, by omega, by (repeat' first | rfl | apply And.intro), by omega⟩
    · repeat' first
      | refine ev_seq (fun K hK => ?_)
      | ((first | refine evrd (id := 4) hmix tt_ok false [([], false), ([], false), ([], false), ([], false), ([], false), ([], false)] (by decide +kernel) ?_ | refine evr tt_ok false ?_ | refine ev_skip ?_ | refine ev_ret ?_ | refine ev_exit ?_ | refine evc (fun X Y hX hY => ?_)); simp only [go_sem, reduceAdd, reduceSub, reduceMul, reduceEqDiff, reduceLeDiff, Nat.reduceBEq, reduceLT, reduceIte, reduceCtorEq, Int.reduceToNat, hb0, hw, hlt, List.length_map, Int.toNat_natCast]; try (first | (refine ⟨fun h => hX ?_, fun h => hY ?_⟩; clear hX hY) | (refine hX ?_; clear hX hY) | (refine hY ?_; clear hX hY)))
      | refine ev_block ?_
      | (apply hK; clear hK)
      | apply_assumption -exfalso -symm only [*]
      | (refine And.intro ?_ ?_; first | omega | assumption | (unfold maxLen; omega) | (simp only [decide_eq_true_eq, decide_eq_false_iff_not, Int.not_lt, Int.not_le] at h; omega))
      refine ev_ret ?_
      refine ⟨_, ⟨_, rfl⟩, ?_, rfl⟩
      simp only [go_sem, reduceAdd, reduceSub, reduceMul, reduceEqDiff, reduceLeDiff, Nat.reduceBEq, reduceLT, reduceIte, reduceCtorEq, Int.reduceToNat]
theorem ccontains_x (L : List (Int × Int)) (hl : L.length ≤ 4761) (x y : Int) : PureX Tryz.prog 29 [.sl (L.map encC), .agg [.int .i64 x, .int .i64 y]] boolX := by
  refine pureX_of_ev tt_ok Tryz.func29 rfl (by decide +kernel) (Nat.le_of_ble_eq_true rfl) ?_
  simp only [Tryz.f29]
  repeat' first
    | refine ev_seq (fun K hK => ?_)
    | refine ev_held (id := 1) ?_
    | ((first | refine evr tt_ok false ?_ | refine ev_skip ?_ | refine ev_ret ?_ | refine ev_exit ?_ | refine evc (fun X Y hX hY => ?_)); simp only [go_sem, reduceAdd, reduceSub, reduceMul, reduceEqDiff, reduceLeDiff, Nat.reduceBEq, reduceLT, reduceIte, reduceCtorEq, Int.reduceToNat]; try (first | (refine ⟨fun h => hX ?_, fun h => hY ?_⟩; clear hX hY) | (refine hX ?_; clear hX hY) | (refine hY ?_; clear hX hY)))
    | refine ev_block ?_
    | (apply hK; clear hK)
    | apply_assumption -exfalso -symm only [*]
    | (refine And.intro ?_ ?_; first | omega | assumption | (unfold maxLen; omega) | (simp only [decide_eq_true_eq, decide_eq_false_iff_not, Int.not_lt, Int.not_le] at h; omega))
  refine Held.mk ?_
  refine ev_region3 tt_ok false ?_
  simp only [go_sem, reduceAdd, reduceSub, reduceMul, reduceEqDiff, reduceLeDiff, Nat.reduceBEq, reduceLT, reduceIte, reduceCtorEq, Int.reduceToNat]
  iterate 2 (refine ev3_step ?_; simp only [go_sem, reduceAdd, reduceSub, reduceMul, reduceEqDiff, reduceLeDiff, Nat.reduceBEq, reduceLT, reduceIte, reduceCtorEq, Int.reduceToNat])
  refine ev3_spec rfl (by simp only [go_sem, reduceAdd, reduceSub, reduceMul, reduceEqDiff, reduceLeDiff, Nat.reduceBEq, reduceLT, reduceIte, reduceCtorEq, Int.reduceToNat]) (specS_pure (cindex_x L hl x y) (by simp only [go_sem, reduceAdd, reduceSub, reduceMul, reduceEqDiff, reduceLeDiff, Nat.reduceBEq, reduceLT, reduceIte, reduceCtorEq, Int.reduceToNat]; rfl) (by simp only [go_sem, reduceAdd, reduceSub, reduceMul, reduceEqDiff, reduceLeDiff, Nat.reduceBEq, reduceLT, reduceIte, reduceCtorEq, Int.reduceToNat]) (by simp only [go_sem, reduceAdd, reduceSub, reduceMul, reduceEqDiff, reduceLeDiff, Nat.reduceBEq, reduceLT, reduceIte, reduceCtorEq, Int.reduceToNat])) ?_
  rintro z ⟨_, ⟨k, rfl⟩, rfl⟩
  simp only [go_sem, reduceAdd, reduceSub, reduceMul, reduceEqDiff, reduceLeDiff, Nat.reduceBEq, reduceLT, reduceIte, reduceCtorEq, Int.reduceToNat]
  iterate 2 (refine ev3_step ?_; simp only [go_sem, reduceAdd, reduceSub, reduceMul, reduceEqDiff, reduceLeDiff, Nat.reduceBEq, reduceLT, reduceIte, reduceCtorEq, Int.reduceToNat])
  refine ev3_nil ?_
  apply hK; clear hK
  refine ev_ret ?_
  refine ⟨_, ⟨_, rfl⟩, ?_, rfl⟩
  simp only [go_sem, reduceAdd, reduceSub, reduceMul, reduceEqDiff, reduceLeDiff, Nat.reduceBEq, reduceLT, reduceIte, reduceCtorEq, Int.reduceToNat]
theorem scanned1_pure (m r : Int) : Pure Tryz.prog 50 [.agg [.int .i64 m, .int .i64 r]] (.bool (decide (m < 0) || decide (256 ≤ m) || decide (r < -1) || decide (1024 < r))) := by
  (refine pure_of_ev tt_ok Tryz.func50 rfl (by decide +kernel) (Nat.le_of_ble_eq_true rfl) ?_; simp only [Tryz.f50])
  repeat' first
    | refine ev_seq (fun K hK => ?_)
    | ((first | refine evr tt_ok false ?_ | refine ev_skip ?_ | refine ev_ret ?_ | refine ev_exit ?_ | refine evc (fun X Y hX hY => ?_)); simp only [go_sem, reduceAdd, reduceSub, reduceMul, reduceEqDiff, reduceLeDiff, Nat.reduceBEq, reduceLT, reduceIte, reduceCtorEq, Int.reduceToNat]; try (first | (refine ⟨fun h => hX ?_, fun h => hY ?_⟩; clear hX hY) | (refine hX ?_; clear hX hY) | (refine hY ?_; clear hX hY)))
    | refine ev_block ?_
    | (apply hK; clear hK)
    | apply_assumption -exfalso -symm only [*]
    | (refine And.intro ?_ ?_; first | omega | assumption | (unfold maxLen; omega) | (simp only [decide_eq_true_eq, decide_eq_false_iff_not, Int.not_lt, Int.not_le] at h; omega))
  all_goals first | rfl | trace_state
theorem scanned_x (l : List Bem) (hl : (l.length : Int) < 4611686018427387904) : ∃ b, Pure Tryz.prog 26 [.sl (l.map enBm)] (.bool (decide (l.length ≤ 32) && b)) := by
  obtain ⟨b, v⟩ := bem_contains (fun b : Bem => decide (b.m < 0) || decide (256 ≤ b.m) || decide (b.r < -1) || decide (1024 < b.r)) (fun b => scanned1_pure b.m b.r) l hl
  refine ⟨!b, ?_⟩
  have e : decide ((l.length : Int) ≤ 32) = decide (l.length ≤ 32) := by
    rw [decide_eq_decide]; omega
  (refine pure_of_ev tt_ok Tryz.func26 rfl (by decide +kernel) (Nat.le_of_ble_eq_true rfl) ?_; simp only [Tryz.f26])
  repeat' first
    | refine ev_seq (fun K hK => ?_)
    | ((first | refine evr tt_ok false ?_ | refine ev_skip ?_ | refine ev_ret ?_ | refine ev_exit ?_ | refine evc (fun X Y hX hY => ?_)); simp only [go_sem, reduceAdd, reduceSub, reduceMul, reduceEqDiff, reduceLeDiff, Nat.reduceBEq, reduceLT, reduceIte, reduceCtorEq, Int.reduceToNat, List.length_map]; try (first | (refine ⟨fun h => hX ?_, fun h => hY ?_⟩; clear hX hY) | (refine hX ?_; clear hX hY) | (refine hY ?_; clear hX hY)))
    | refine ev_block ?_
    | (apply hK; clear hK)
    | apply_assumption -exfalso -symm only [*]
    | (refine And.intro ?_ ?_; first | omega | assumption | (unfold maxLen; omega) | (simp only [decide_eq_true_eq, decide_eq_false_iff_not, Int.not_lt, Int.not_le] at h; omega))
    | ((first | apply callP | apply callPG | apply callP0); (case' hv => (simp only [go_sem, reduceAdd, reduceSub, reduceMul, reduceEqDiff, reduceLeDiff, Nat.reduceBEq, reduceLT, reduceIte, reduceCtorEq, Int.reduceToNat, List.length_map]; try exact rfl)); (case' hp => (first | refine' v | (refine' (fun hg => ?_); refine' v))); (case' h => ((first | refine evOps_fin ?_ | refine And.intro ?_ (evD_fin ?_) | refine evD_fin ?_) <;> simp only [go_sem, reduceAdd, reduceSub, reduceMul, reduceEqDiff, reduceLeDiff, Nat.reduceBEq, reduceLT, reduceIte, reduceCtorEq, Int.reduceToNat, List.length_map])))
    | (refine callX ?_; (first | refine evOps_fin ?_ | refine And.intro ?_ (evD_fin ?_) | refine evD_fin ?_) <;> simp only [go_sem, reduceAdd, reduceSub, reduceMul, reduceEqDiff, reduceLeDiff, Nat.reduceBEq, reduceLT, reduceIte, reduceCtorEq, Int.reduceToNat, List.length_map])
  rw [e]
end Go.Proofs.YtbibplkhhdomnaaGreat
