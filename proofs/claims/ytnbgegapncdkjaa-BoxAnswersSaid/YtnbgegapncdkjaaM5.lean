import Derived.Test.YtnbgegapncdkjaaM4
set_option linter.all false
namespace Go.Proofs.Ytnbgegapncdkjaa
open Go Go.K
set_option maxRecDepth 20000
set_option maxHeartbeats 4000000
theorem rmeet_pure (a b : Arc) (ha : a.ok) (hb : b.ok) : Pure Try.prog 105 [.agg [.int .i64 a.f, .int .i64 a.c], .agg [.int .i64 b.f, .int .i64 b.c]] (.sl ((meetM a b).map encArc)) := by
  have sa := set_pure a ha
  have sb := set_pure b hb
  have hp := both_per a b
  have at' : ∀ (h : Int), ∃ j : Nat, (j : Int) = h % 256 ∧ j < 256 ∧ (0 : Int) ≤ (j : Int) ∧ (j : Int) < ((256 : Nat) : Int) ∧ ((setM a a.c).map enB).getD j [.bool false] = [.bool (a.mem h)] ∧ ((setM b b.c).map enB).getD j [.bool false] = [.bool (b.mem h)] := by
    intro h
    refine ⟨(h % 256).toNat, by omega, by omega, by omega, by omega, set_at a (by omega) (by omega), set_at b (by omega) (by omega)⟩
  (refine pure_of_ev tt_ok Try.func105 rfl (by decide +kernel) (Nat.le_of_ble_eq_true rfl) ?_; simp only [Try.f105])
  repeat' first
    | refine ev_seq (fun K hK => ?_)
    | ((first | refine evr tt_ok false ?_ | refine ev_skip ?_ | refine ev_ret ?_ | refine ev_exit ?_); simp only [go_sem, Nat.reduceAdd, Nat.reduceSub, Nat.reduceMul, Nat.reduceEqDiff, Nat.reduceLeDiff, Nat.reduceBEq, Nat.reduceLT, reduceIte, reduceCtorEq, Int.toNat_zero, Int.toNat_one, Int.reduceToNat, Nat.zero_add, Nat.add_zero, Nat.sub_zero, Nat.zero_mul, ha, hb])
    | (refine evc (fun X Y hX hY => ?_); simp only [go_sem, Nat.reduceAdd, Nat.reduceSub, Nat.reduceMul, Nat.reduceEqDiff, Nat.reduceLeDiff, Nat.reduceBEq, Nat.reduceLT, reduceIte, reduceCtorEq, Int.toNat_zero, Int.toNat_one, Int.reduceToNat, Nat.zero_add, Nat.add_zero, Nat.sub_zero, Nat.zero_mul, ha, hb]; first | (refine ⟨fun h => hX ?_, fun h => hY ?_⟩; clear hX hY) | (refine hX ?_; clear hX hY) | (refine hY ?_; clear hX hY))
    | refine ev_block ?_
    | (apply hK; clear hK)
    | apply_assumption -exfalso -symm only [*]
    | (refine And.intro ?_ ?_; first | omega | assumption | (unfold maxLen; omega) | (simp only [decide_eq_true_eq, decide_eq_false_iff_not, Int.not_lt, Int.not_le] at h; omega))
    | ((first | apply callP | apply callPG | apply callP0); (case' hv => (simp only [go_sem, Nat.reduceAdd, Nat.reduceSub, Nat.reduceMul, Nat.reduceEqDiff, Nat.reduceLeDiff, Nat.reduceBEq, Nat.reduceLT, reduceIte, reduceCtorEq, Int.toNat_zero, Int.toNat_one, Int.reduceToNat, Nat.zero_add, Nat.add_zero, Nat.sub_zero, Nat.zero_mul, ha, hb]; try exact rfl)); (case' hp => ((first | refine' rvarc_pure a | (refine' (fun hg => ?_); refine' rvarc_pure a)))); (case' h => ((first | refine evOps_fin ?_ | refine And.intro ?_ (evD_fin ?_) | refine evD_fin ?_) <;> simp only [go_sem, Nat.reduceAdd, Nat.reduceSub, Nat.reduceMul, Nat.reduceEqDiff, Nat.reduceLeDiff, Nat.reduceBEq, Nat.reduceLT, reduceIte, reduceCtorEq, Int.toNat_zero, Int.toNat_one, Int.reduceToNat, Nat.zero_add, Nat.add_zero, Nat.sub_zero, Nat.zero_mul, ha, hb])))
    | ((first | apply callP | apply callPG | apply callP0); (case' hv => (simp only [go_sem, Nat.reduceAdd, Nat.reduceSub, Nat.reduceMul, Nat.reduceEqDiff, Nat.reduceLeDiff, Nat.reduceBEq, Nat.reduceLT, reduceIte, reduceCtorEq, Int.toNat_zero, Int.toNat_one, Int.reduceToNat, Nat.zero_add, Nat.add_zero, Nat.sub_zero, Nat.zero_mul, ha, hb]; try exact rfl)); (case' hp => ((first | refine' rvarc_pure b | (refine' (fun hg => ?_); refine' rvarc_pure b)))); (case' h => ((first | refine evOps_fin ?_ | refine And.intro ?_ (evD_fin ?_) | refine evD_fin ?_) <;> simp only [go_sem, Nat.reduceAdd, Nat.reduceSub, Nat.reduceMul, Nat.reduceEqDiff, Nat.reduceLeDiff, Nat.reduceBEq, Nat.reduceLT, reduceIte, reduceCtorEq, Int.toNat_zero, Int.toNat_one, Int.reduceToNat, Nat.zero_add, Nat.add_zero, Nat.sub_zero, Nat.zero_mul, ha, hb])))
    | ((first | apply callP | apply callPG | apply callP0); (case' hv => (simp only [go_sem, Nat.reduceAdd, Nat.reduceSub, Nat.reduceMul, Nat.reduceEqDiff, Nat.reduceLeDiff, Nat.reduceBEq, Nat.reduceLT, reduceIte, reduceCtorEq, Int.toNat_zero, Int.toNat_one, Int.reduceToNat, Nat.zero_add, Nat.add_zero, Nat.sub_zero, Nat.zero_mul, ha, hb]; try exact rfl)); (case' hp => ((first | refine' sa | (refine' (fun hg => ?_); refine' sa)))); (case' h => ((first | refine evOps_fin ?_ | refine And.intro ?_ (evD_fin ?_) | refine evD_fin ?_) <;> simp only [go_sem, Nat.reduceAdd, Nat.reduceSub, Nat.reduceMul, Nat.reduceEqDiff, Nat.reduceLeDiff, Nat.reduceBEq, Nat.reduceLT, reduceIte, reduceCtorEq, Int.toNat_zero, Int.toNat_one, Int.reduceToNat, Nat.zero_add, Nat.add_zero, Nat.sub_zero, Nat.zero_mul, ha, hb])))
    | ((first | apply callP | apply callPG | apply callP0); (case' hv => (simp only [go_sem, Nat.reduceAdd, Nat.reduceSub, Nat.reduceMul, Nat.reduceEqDiff, Nat.reduceLeDiff, Nat.reduceBEq, Nat.reduceLT, reduceIte, reduceCtorEq, Int.toNat_zero, Int.toNat_one, Int.reduceToNat, Nat.zero_add, Nat.add_zero, Nat.sub_zero, Nat.zero_mul, ha, hb]; try exact rfl)); (case' hp => ((first | refine' sb | (refine' (fun hg => ?_); refine' sb)))); (case' h => ((first | refine evOps_fin ?_ | refine And.intro ?_ (evD_fin ?_) | refine evD_fin ?_) <;> simp only [go_sem, Nat.reduceAdd, Nat.reduceSub, Nat.reduceMul, Nat.reduceEqDiff, Nat.reduceLeDiff, Nat.reduceBEq, Nat.reduceLT, reduceIte, reduceCtorEq, Int.toNat_zero, Int.toNat_one, Int.reduceToNat, Nat.zero_add, Nat.add_zero, Nat.sub_zero, Nat.zero_mul, ha, hb])))
    | (refine callX ?_; (first | refine evOps_fin ?_ | refine And.intro ?_ (evD_fin ?_) | refine evD_fin ?_) <;> simp only [go_sem, Nat.reduceAdd, Nat.reduceSub, Nat.reduceMul, Nat.reduceEqDiff, Nat.reduceLeDiff, Nat.reduceBEq, Nat.reduceLT, reduceIte, reduceCtorEq, Int.toNat_zero, Int.toNat_one, Int.reduceToNat, Nat.zero_add, Nat.add_zero, Nat.sub_zero, Nat.zero_mul, ha, hb])
  refine ev_adopt 7 79 2 (by decide) rfl ?_
  refine ev_loop (fun i : Nat => i ≤ 256)
    (fun i => ⟨94, [(8, .int .i64 i), (7, .rs 2 (runsTo (both a b) i).length 0 (runsTo (both a b) i).length), (6, .sl ((setM b b.c).map enB)), (5, .sl ((setM a a.c).map enB))],
      [.gone, .gone, .blk 79 (runsTo (both a b) i).length 2 ((runsTo (both a b) i).map encArc)]⟩)
    (fun i => 256 - i) 0 (Nat.zero_le _) ?_ ?_
  · simp only [go_sem, Nat.reduceAdd, Nat.reduceSub, Nat.reduceMul, Nat.reduceEqDiff, Nat.reduceLeDiff, Nat.reduceBEq, Nat.reduceLT, reduceIte, reduceCtorEq, Int.toNat_zero, Int.toNat_one, Int.reduceToNat, Nat.zero_add, Nat.add_zero, Nat.sub_zero, Nat.zero_mul, fits, fitT, fitOs, fitO, V.under, unders, rowsUnder]
    repeat' first | rfl | exact rowsUnder_lit _ (lit_arc _) | apply And.intro
  · intro i hi
    have hll := runsTo_len (both a b) i
    have hb0 : 0 ≤ (i : Int) := by omega
    have hw : IntKind.i64.wrap ((i : Int) + 1) = ((i + 1 : Nat) : Int) := by rw [w64] <;> omega
    by_cases hlt : (i : Int) < 256
    · have hlt2 : i < 256 := by omega
      have hlt3 : (i : Int) < ((256 : Nat) : Int) := by omega
      have w1 : IntKind.i64.wrap ((i : Int) + 255) = (i : Int) + 255 := w64 (by omega) (by omega)
      obtain ⟨p, p1, p2, p3, p4, p5, p6⟩ := at' ((i : Int) - 1)
      have w2 : ((i : Int) + 255).tmod 256 = (p : Int) := by rw [Int.tmod_eq_emod_of_nonneg (by omega)]; omega
      have q5 := set_at a (k := i) hlt2 (h := (i : Int)) (by omega)
      have q6 := set_at b (k := i) hlt2 (h := (i : Int)) (by omega)
      have hsu := runsTo_succ (both a b) i
      by_cases hs : start (both a b) i = true
      · obtain ⟨r1, r2, r3, r4⟩ := run_spec hp hs
        rw [if_pos hs] at hsu
        simp only [start, Bool.and_eq_true, Bool.not_eq_true'] at hs
        obtain ⟨s1, s2⟩ := hs
        have s3 : a.mem i = true ∧ b.mem i = true := by simpa [both] using s1
        have s4 : (a.mem ((i : Int) - 1) && b.mem ((i : Int) - 1)) = false := s2
        repeat' first
          | refine ev_seq (fun K hK => ?_)
          | ((first | refine evr tt_ok false ?_ | refine ev_skip ?_ | refine ev_ret ?_ | refine ev_exit ?_); simp only [go_sem, Nat.reduceAdd, Nat.reduceSub, Nat.reduceMul, Nat.reduceEqDiff, Nat.reduceLeDiff, Nat.reduceBEq, Nat.reduceLT, reduceIte, reduceCtorEq, Int.toNat_zero, Int.toNat_one, Int.reduceToNat, Nat.zero_add, Nat.add_zero, Nat.sub_zero, Nat.zero_mul, hb0, hlt, hlt3, hw, w1, w2, p3, p4, p5, p6, q5, q6, s3.1, s3.2, s4, setM_len, Int.toNat_natCast, List.length_map])
          | (refine evc (fun X Y hX hY => ?_); simp only [go_sem, Nat.reduceAdd, Nat.reduceSub, Nat.reduceMul, Nat.reduceEqDiff, Nat.reduceLeDiff, Nat.reduceBEq, Nat.reduceLT, reduceIte, reduceCtorEq, Int.toNat_zero, Int.toNat_one, Int.reduceToNat, Nat.zero_add, Nat.add_zero, Nat.sub_zero, Nat.zero_mul, hb0, hlt, hlt3, hw, w1, w2, p3, p4, p5, p6, q5, q6, s3.1, s3.2, s4, setM_len, Int.toNat_natCast, List.length_map]; first | (refine ⟨fun h => hX ?_, fun h => hY ?_⟩; clear hX hY) | (refine hX ?_; clear hX hY) | (refine hY ?_; clear hX hY))
          | refine ev_block ?_
          | (apply hK; clear hK)
          | apply_assumption -exfalso -symm only [*]
          | (refine And.intro ?_ ?_; first | omega | assumption | (unfold maxLen; omega) | (simp only [decide_eq_true_eq, decide_eq_false_iff_not, Int.not_lt, Int.not_le] at h; omega))
        refine ev_loop (fun n : Nat => 1 ≤ n ∧ n ≤ run (both a b) i)
          (fun n => ⟨94, [(10, .int .i64 n), (8, .int .i64 i), (7, .rs 2 (runsTo (both a b) i).length 0 (runsTo (both a b) i).length), (6, .sl ((setM b b.c).map enB)), (5, .sl ((setM a a.c).map enB))],
            [.gone, .gone, .blk 79 (runsTo (both a b) i).length 2 ((runsTo (both a b) i).map encArc)]⟩)
          (fun n => run (both a b) i - n) 1 ⟨Nat.le_refl _, r1⟩ ?_ ?_
        · simp only [go_sem, Nat.reduceAdd, Nat.reduceSub, Nat.reduceMul, Nat.reduceEqDiff, Nat.reduceLeDiff, Nat.reduceBEq, Nat.reduceLT, reduceIte, reduceCtorEq, Int.toNat_zero, Int.toNat_one, Int.reduceToNat, Nat.zero_add, Nat.add_zero, Nat.sub_zero, Nat.zero_mul, fits, fitT, fitOs, fitO, V.under, unders, rowsUnder]
          repeat' first | rfl | exact rowsUnder_lit _ (lit_arc _) | apply And.intro
        · rintro n ⟨hn1, hn2⟩
          have hwn : IntKind.i64.wrap ((n : Int) + 1) = ((n + 1 : Nat) : Int) := by rw [w64] <;> omega
          have hwi : IntKind.i64.wrap ((i : Int) + n) = (i : Int) + n := w64 (by omega) (by omega)
          obtain ⟨j, j1, j2, j3, j4, j5, j6⟩ := at' ((i : Int) + n)
          have w3 : ((i : Int) + n).tmod 256 = (j : Int) := by rw [Int.tmod_eq_emod_of_nonneg (by omega)]; omega
          by_cases hln : n < run (both a b) i
          · have hm : (a.mem ((i : Int) + n) && b.mem ((i : Int) + n)) = true := r4 n hln
            repeat' first
              | refine ev_seq (fun K hK => ?_)
              | ((first | refine evr tt_ok false ?_ | refine ev_skip ?_ | refine ev_ret ?_ | refine ev_exit ?_); simp only [go_sem, Nat.reduceAdd, Nat.reduceSub, Nat.reduceMul, Nat.reduceEqDiff, Nat.reduceLeDiff, Nat.reduceBEq, Nat.reduceLT, reduceIte, reduceCtorEq, Int.toNat_zero, Int.toNat_one, Int.reduceToNat, Nat.zero_add, Nat.add_zero, Nat.sub_zero, Nat.zero_mul, hwi, hwn, w3, j3, j4, j5, j6, hm, setM_len, Int.toNat_natCast, List.length_map])
              | (refine evc (fun X Y hX hY => ?_); simp only [go_sem, Nat.reduceAdd, Nat.reduceSub, Nat.reduceMul, Nat.reduceEqDiff, Nat.reduceLeDiff, Nat.reduceBEq, Nat.reduceLT, reduceIte, reduceCtorEq, Int.toNat_zero, Int.toNat_one, Int.reduceToNat, Nat.zero_add, Nat.add_zero, Nat.sub_zero, Nat.zero_mul, hwi, hwn, w3, j3, j4, j5, j6, hm, setM_len, Int.toNat_natCast, List.length_map]; first | (refine ⟨fun h => hX ?_, fun h => hY ?_⟩; clear hX hY) | (refine hX ?_; clear hX hY) | (refine hY ?_; clear hX hY))
              | refine ev_block ?_
              | (apply hK; clear hK)
              | apply_assumption -exfalso -symm only [*]
              | (refine And.intro ?_ ?_; first | omega | assumption | (unfold maxLen; omega) | (simp only [decide_eq_true_eq, decide_eq_false_iff_not, Int.not_lt, Int.not_le] at h; omega))
            refine ⟨n + 1, ⟨by omega, by omega⟩, ?_, by omega⟩
            repeat' first | rfl | exact rowsUnder_lit _ (lit_arc _) | apply And.intro
          · obtain rfl : n = run (both a b) i := by omega
            have hm : (a.mem ((i : Int) + run (both a b) i) && b.mem ((i : Int) + run (both a b) i)) = false := r3
            have hq : 1 ≤ maxLen ∧ (runsTo (both a b) i).length + 1 ≤ maxLen ∧ ((runsTo (both a b) i).length + 1) * 16 ≤ 140737488355328 := by
              have : maxLen = 9223372036854775807 := rfl
              omega
            have hrl : (runsTo (both a b) (i + 1)).length = (runsTo (both a b) i).length + 1 := by rw [hsu]; simp
            repeat' first
              | refine ev_seq (fun K hK => ?_)
              | ((first | refine evr tt_ok false ?_ | refine ev_skip ?_ | refine ev_ret ?_ | refine ev_exit ?_); simp only [go_sem, Nat.reduceAdd, Nat.reduceSub, Nat.reduceMul, Nat.reduceEqDiff, Nat.reduceLeDiff, Nat.reduceBEq, Nat.reduceLT, reduceIte, reduceCtorEq, Int.toNat_zero, Int.toNat_one, Int.reduceToNat, Nat.zero_add, Nat.add_zero, Nat.sub_zero, Nat.zero_mul, hw, hwi, hwn, w3, j3, j4, j5, j6, hm, setM_len, Int.toNat_natCast, List.length_map, Nat.zero_add, Nat.le_refl])
              | (refine evc (fun X Y hX hY => ?_); simp only [go_sem, Nat.reduceAdd, Nat.reduceSub, Nat.reduceMul, Nat.reduceEqDiff, Nat.reduceLeDiff, Nat.reduceBEq, Nat.reduceLT, reduceIte, reduceCtorEq, Int.toNat_zero, Int.toNat_one, Int.reduceToNat, Nat.zero_add, Nat.add_zero, Nat.sub_zero, Nat.zero_mul, hw, hwi, hwn, w3, j3, j4, j5, j6, hm, setM_len, Int.toNat_natCast, List.length_map, Nat.zero_add, Nat.le_refl]; first | (refine ⟨fun h => hX ?_, fun h => hY ?_⟩; clear hX hY) | (refine hX ?_; clear hX hY) | (refine hY ?_; clear hX hY))
              | refine ev_block ?_
              | (apply hK; clear hK)
              | apply_assumption -exfalso -symm only [*]
              | (refine And.intro ?_ ?_; first | omega | assumption | (unfold maxLen; omega) | (simp only [decide_eq_true_eq, decide_eq_false_iff_not, Int.not_lt, Int.not_le] at h; omega))
            exact ⟨i + 1, by omega, ⟨⟨rfl, by rw [hrl]⟩, hrl, by rw [hsu, List.map_append]; rfl, rowsUnder_lit _ (lit_arc _)⟩, by omega⟩
      · have hsu2 : runsTo (both a b) (i + 1) = runsTo (both a b) i := by rw [hsu, if_neg hs, List.append_nil]
        have fin : ∀ (X : Nat), X = i + 1 → (runsTo (both a b) X).length = (runsTo (both a b) i).length ∧ (runsTo (both a b) X).map encArc = (runsTo (both a b) i).map encArc := by
          rintro X rfl; rw [hsu2]; exact ⟨rfl, rfl⟩
        obtain ⟨f1, f2⟩ := fin (i + 1) rfl
        have hcond : (!a.mem (i : Int) || !b.mem (i : Int) || (a.mem ((i : Int) - 1) && b.mem ((i : Int) - 1))) = true := by
          simp only [start, both] at hs
          revert hs
          cases a.mem (i : Int) <;> cases b.mem (i : Int) <;> simp
        repeat' first
          | refine ev_seq (fun K hK => ?_)
          | ((first | refine evr tt_ok false ?_ | refine ev_skip ?_ | refine ev_ret ?_ | refine ev_exit ?_); simp only [go_sem, Nat.reduceAdd, Nat.reduceSub, Nat.reduceMul, Nat.reduceEqDiff, Nat.reduceLeDiff, Nat.reduceBEq, Nat.reduceLT, reduceIte, reduceCtorEq, Int.toNat_zero, Int.toNat_one, Int.reduceToNat, Nat.zero_add, Nat.add_zero, Nat.sub_zero, Nat.zero_mul, hb0, hlt, hlt3, hw, w1, w2, p3, p4, p5, p6, q5, q6, hcond, setM_len, Int.toNat_natCast, List.length_map])
          | (refine evc (fun X Y hX hY => ?_); simp only [go_sem, Nat.reduceAdd, Nat.reduceSub, Nat.reduceMul, Nat.reduceEqDiff, Nat.reduceLeDiff, Nat.reduceBEq, Nat.reduceLT, reduceIte, reduceCtorEq, Int.toNat_zero, Int.toNat_one, Int.reduceToNat, Nat.zero_add, Nat.add_zero, Nat.sub_zero, Nat.zero_mul, hb0, hlt, hlt3, hw, w1, w2, p3, p4, p5, p6, q5, q6, hcond, setM_len, Int.toNat_natCast, List.length_map]; first | (refine ⟨fun h => hX ?_, fun h => hY ?_⟩; clear hX hY) | (refine hX ?_; clear hX hY) | (refine hY ?_; clear hX hY))
          | refine ev_block ?_
          | (apply hK; clear hK)
          | apply_assumption -exfalso -symm only [*]
          | (refine And.intro ?_ ?_; first | omega | assumption | (unfold maxLen; omega) | (simp only [decide_eq_true_eq, decide_eq_false_iff_not, Int.not_lt, Int.not_le] at h; omega))
        exact ⟨i + 1, by omega, ⟨⟨rfl, by rw [f1]⟩, f1, f2, rowsUnder_lit _ (lit_arc _)⟩, by omega⟩
    · obtain rfl : i = 256 := by omega
      have hlt' : ¬ (((256 : Nat) : Int) < 256) := by omega
      have z5 := set_at a (k := 0) (by omega) (h := 0) (by omega)
      have z6 := set_at b (k := 0) (by omega) (h := 0) (by omega)
      have z0 : (0 : Int) < ((256 : Nat) : Int) := by omega
      by_cases hn : runsTo (both a b) 256 = []
      · cases h0 : both a b 0 with
        | false =>
          have e : meetM a b = [] := by unfold meetM meetP; rw [if_neg (by rw [hn, h0]; simp), hn]
          have h0' : (a.mem 0 && b.mem 0) = false := h0
          repeat' first
            | refine ev_seq (fun K hK => ?_)
            | ((first | refine evr tt_ok false ?_ | refine ev_skip ?_ | refine ev_ret ?_ | refine ev_exit ?_); simp only [go_sem, Nat.reduceAdd, Nat.reduceSub, Nat.reduceMul, Nat.reduceEqDiff, Nat.reduceLeDiff, Nat.reduceBEq, Nat.reduceLT, reduceIte, reduceCtorEq, Int.toNat_zero, Int.toNat_one, Int.reduceToNat, Nat.zero_add, Nat.add_zero, Nat.sub_zero, Nat.zero_mul, hlt', h0', z0, z5, z6, hn, setM_len, List.length_map, Int.reduceBEq, Int.reduceLE, Int.natCast_zero, List.length_nil, List.map_nil])
            | (refine evc (fun X Y hX hY => ?_); simp only [go_sem, Nat.reduceAdd, Nat.reduceSub, Nat.reduceMul, Nat.reduceEqDiff, Nat.reduceLeDiff, Nat.reduceBEq, Nat.reduceLT, reduceIte, reduceCtorEq, Int.toNat_zero, Int.toNat_one, Int.reduceToNat, Nat.zero_add, Nat.add_zero, Nat.sub_zero, Nat.zero_mul, hlt', h0', z0, z5, z6, hn, setM_len, List.length_map, Int.reduceBEq, Int.reduceLE, Int.natCast_zero, List.length_nil, List.map_nil]; first | (refine ⟨fun h => hX ?_, fun h => hY ?_⟩; clear hX hY) | (refine hX ?_; clear hX hY) | (refine hY ?_; clear hX hY))
            | refine ev_block ?_
            | (apply hK; clear hK)
            | apply_assumption -exfalso -symm only [*]
            | (refine And.intro ?_ ?_; first | omega | assumption | (unfold maxLen; omega) | (simp only [decide_eq_true_eq, decide_eq_false_iff_not, Int.not_lt, Int.not_le] at h; omega))
          rw [e]; rfl
        | true =>
          have e : meetM a b = [⟨0, 256⟩] := by unfold meetM meetP; rw [if_pos ⟨hn, h0⟩]
          have h0' : (a.mem 0 && b.mem 0) = true := h0
          have hq : 1 ≤ maxLen := by unfold maxLen; omega
          repeat' first
            | refine ev_seq (fun K hK => ?_)
            | ((first | refine evr tt_ok false ?_ | refine ev_skip ?_ | refine ev_ret ?_ | refine ev_exit ?_); simp only [go_sem, Nat.reduceAdd, Nat.reduceSub, Nat.reduceMul, Nat.reduceEqDiff, Nat.reduceLeDiff, Nat.reduceBEq, Nat.reduceLT, reduceIte, reduceCtorEq, Int.toNat_zero, Int.toNat_one, Int.reduceToNat, Nat.zero_add, Nat.add_zero, Nat.sub_zero, Nat.zero_mul, hlt', h0', z0, z5, z6, hn, setM_len, List.length_map, Int.reduceBEq, Int.reduceLE, Int.natCast_zero, List.length_nil, List.map_nil, hq])
            | (refine evc (fun X Y hX hY => ?_); simp only [go_sem, Nat.reduceAdd, Nat.reduceSub, Nat.reduceMul, Nat.reduceEqDiff, Nat.reduceLeDiff, Nat.reduceBEq, Nat.reduceLT, reduceIte, reduceCtorEq, Int.toNat_zero, Int.toNat_one, Int.reduceToNat, Nat.zero_add, Nat.add_zero, Nat.sub_zero, Nat.zero_mul, hlt', h0', z0, z5, z6, hn, setM_len, List.length_map, Int.reduceBEq, Int.reduceLE, Int.natCast_zero, List.length_nil, List.map_nil, hq]; first | (refine ⟨fun h => hX ?_, fun h => hY ?_⟩; clear hX hY) | (refine hX ?_; clear hX hY) | (refine hY ?_; clear hX hY))
            | refine ev_block ?_
            | (apply hK; clear hK)
            | apply_assumption -exfalso -symm only [*]
            | (refine And.intro ?_ ?_; first | omega | assumption | (unfold maxLen; omega) | (simp only [decide_eq_true_eq, decide_eq_false_iff_not, Int.not_lt, Int.not_le] at h; omega))
          rw [e]; rfl
      · have e : meetM a b = runsTo (both a b) 256 := by unfold meetM meetP; rw [if_neg (fun h => hn h.1)]
        have hz : (((runsTo (both a b) 256).length : Int) == 0) = false := by simp; exact hn
        have htk : List.take (runsTo (both a b) 256).length (List.map encArc (runsTo (both a b) 256)) = List.map encArc (runsTo (both a b) 256) := List.take_of_length_le (by simp)
        repeat' first
          | refine ev_seq (fun K hK => ?_)
          | ((first | refine evr tt_ok false ?_ | refine ev_skip ?_ | refine ev_ret ?_ | refine ev_exit ?_); simp only [go_sem, Nat.reduceAdd, Nat.reduceSub, Nat.reduceMul, Nat.reduceEqDiff, Nat.reduceLeDiff, Nat.reduceBEq, Nat.reduceLT, reduceIte, reduceCtorEq, Int.toNat_zero, Int.toNat_one, Int.reduceToNat, Nat.zero_add, Nat.add_zero, Nat.sub_zero, Nat.zero_mul, hlt', hz, z0, z5, z6, setM_len, List.length_map, vrows_lit _ (lit_arc (runsTo (both a b) 256)), Nat.le_refl, htk, Nat.sub_zero])
          | (refine evc (fun X Y hX hY => ?_); simp only [go_sem, Nat.reduceAdd, Nat.reduceSub, Nat.reduceMul, Nat.reduceEqDiff, Nat.reduceLeDiff, Nat.reduceBEq, Nat.reduceLT, reduceIte, reduceCtorEq, Int.toNat_zero, Int.toNat_one, Int.reduceToNat, Nat.zero_add, Nat.add_zero, Nat.sub_zero, Nat.zero_mul, hlt', hz, z0, z5, z6, setM_len, List.length_map, vrows_lit _ (lit_arc (runsTo (both a b) 256)), Nat.le_refl, htk, Nat.sub_zero]; first | (refine ⟨fun h => hX ?_, fun h => hY ?_⟩; clear hX hY) | (refine hX ?_; clear hX hY) | (refine hY ?_; clear hX hY))
          | refine ev_block ?_
          | (apply hK; clear hK)
          | apply_assumption -exfalso -symm only [*]
          | (refine And.intro ?_ ?_; first | omega | assumption | (unfold maxLen; omega) | (simp only [decide_eq_true_eq, decide_eq_false_iff_not, Int.not_lt, Int.not_le] at h; omega))
        rw [e]
end Go.Proofs.Ytnbgegapncdkjaa
