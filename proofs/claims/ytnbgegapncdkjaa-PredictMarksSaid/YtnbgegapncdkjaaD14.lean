import Derived.Test.YtnbgegapncdkjaaD13
set_option linter.all false
namespace Go.Proofs.Ytnbgegapncdkjaa
open Go Go.K
set_option maxRecDepth 20000
set_option maxHeartbeats 8000000
theorem rimages_pure (b : Box) (c : Cmd) (d : Bounds) : Pure Try.prog 100 [.agg [.int .i64 b.x0, .int .i64 b.y0, .int .i64 b.x1, .int .i64 b.y1, .int .i64 b.f, .int .i64 b.c], .agg [.int .i64 c.t, .int .i64 c.f], .agg [.int .i64 d.t, .int .i64 d.l, .int .i64 d.s, .int .i64 d.r]] (encBs (imagesM b c d)) := by
  have v := rright_pure b c d
  unfold imagesM
  by_cases h : b.ok ∧ c.ok ∧ d.ok
  · rw [guard_yes h] at v
    rw [if_pos h]
    obtain ⟨hb, hc, hd⟩ := h
    have k1 := hd.1; have k2 := hd.2.1
    have ha : b.arc.ok := hb.2.2.2.2.2.2
    have t1 := rturned_pure b.arc c.t d.t ha ⟨by omega, by omega⟩
    have e : turnedM b.arc c.t d.t = imgA b c d := rfl
    rw [e] at t1
    simp only [Box.arc] at t1
    have hk : (imgA b c d).ok := turned_ok ha (t := c.t) (n := d.t) (by omega)
    have hmk := @marks_ok b c d (imgA b c d) hb hc hd hk
    generalize imgA b c d = a at *
    have l1 := rlist_pure a hk
    obtain ⟨a1, a2, a3, a4, a5⟩ := id hk
    obtain ⟨n, hn⟩ : ∃ n, a.c.toNat = n := ⟨_, rfl⟩
    have hlen : (listM a).length = n := by rw [listM_len, hn]
    have hn256 : n ≤ 256 := by omega
    rw [hn] at hmk
    have get : ∀ i : Nat, i < n → ((listM a).map enI).getD i [.int .i64 0] = [.int .i64 ((a.f + i) % 256)] := by
      intro i hi
      rw [int_get2, listM_get a (by omega)]
    have one : ∀ i : Nat, i < n → Pure Try.prog 140 [.agg [.int .i64 c.t, .int .i64 c.f], .agg [.int .i64 d.t, .int .i64 d.l, .int .i64 d.s, .int .i64 d.r], .agg [.int .i64 ((a.f + i) % 256), .int .i64 1]] (.agg [.int .i64 (reachM c.f d.l d.s ((a.f + i) % 256)).x0, .int .i64 (reachM c.f d.l d.s ((a.f + i) % 256)).y0, .int .i64 (reachM c.f d.l d.s ((a.f + i) % 256)).x1, .int .i64 (reachM c.f d.l d.s ((a.f + i) % 256)).y1]) := by
      intro i hi
      have := rrreach_pure c d ⟨(a.f + i) % 256, 1⟩ hc hd (mark_arc (by omega))
      rw [reachA_one _ _ _ (by omega)] at this
      exact this
    have two : ∀ i : Nat, i < n → Pure Try.prog 139 [.agg [.int .i64 b.x0, .int .i64 b.y0, .int .i64 b.x1, .int .i64 b.y1, .int .i64 b.f, .int .i64 b.c], .agg [.int .i64 (reachM c.f d.l d.s ((a.f + i) % 256)).x0, .int .i64 (reachM c.f d.l d.s ((a.f + i) % 256)).y0, .int .i64 (reachM c.f d.l d.s ((a.f + i) % 256)).x1, .int .i64 (reachM c.f d.l d.s ((a.f + i) % 256)).y1], .agg [.int .i64 ((a.f + i) % 256), .int .i64 1]]
        (.tup [.agg (encBox (if (markB b c d ((a.f + i) % 256)).ok then ⟨markB b c d ((a.f + i) % 256), 0⟩ else ⟨Box.zero, 2⟩ : MvR).b), .bool (decide (markB b c d ((a.f + i) % 256)).ok)]) := fun i hi =>
      rrmoved_pure b ⟨(a.f + i) % 256, 1⟩ _ hb (reachM_fit hc hd)
    by_cases ho : (outB b (reachA c.f d.l d.s a) a).ok
    · rw [if_pos ho]
      have hall := hmk.1 ho
      clear hmk
      rw [hn]
      simp only [encBs]
      (refine pure_of_ev tt_ok Try.func100 rfl (by decide +kernel) (Nat.le_of_ble_eq_true rfl) ?_; simp only [Try.f100])
      repeat' first
        | refine ev_seq (fun K hK => ?_)
        | ((first | refine evrd (id := 3) hmix tt_ok false [([], false), ([], true), ([1], false), ([1], false), ([1], false), ([1], false), ([], false), ([], false), ([], false)] (by decide +kernel) ?_ | refine evrd (id := 9) hmix tt_ok false [([], true), ([], true), ([], true), ([], true), ([0], true), ([4], true), ([], true), ([], true), ([], true), ([], true), ([0, 1, 2, 3, 4, 5, 6, 7, 8, 9], false), ([9], false), ([], false)] (by decide +kernel) ?_ | refine evr tt_ok false ?_ | refine ev_skip ?_ | refine ev_ret ?_ | refine ev_exit ?_); simp only [go_sem, Nat.reduceAdd, Nat.reduceSub, Nat.reduceMul, Nat.reduceEqDiff, Nat.reduceLeDiff, Nat.reduceBEq, Nat.reduceLT, reduceIte, reduceCtorEq, Int.toNat_zero, Int.toNat_one, Int.reduceToNat, Nat.zero_add, Nat.add_zero, Nat.sub_zero, Nat.zero_mul, List.length_map, hlen])
        | (refine evc (fun X Y hX hY => ?_); simp only [go_sem, Nat.reduceAdd, Nat.reduceSub, Nat.reduceMul, Nat.reduceEqDiff, Nat.reduceLeDiff, Nat.reduceBEq, Nat.reduceLT, reduceIte, reduceCtorEq, Int.toNat_zero, Int.toNat_one, Int.reduceToNat, Nat.zero_add, Nat.add_zero, Nat.sub_zero, Nat.zero_mul, List.length_map, hlen]; first | (refine ⟨fun h => hX ?_, fun h => hY ?_⟩; clear hX hY) | (refine hX ?_; clear hX hY) | (refine hY ?_; clear hX hY))
        | refine ev_block ?_
        | (apply hK; clear hK)
        | apply_assumption -exfalso -symm only [*]
        | (refine And.intro ?_ ?_; first | omega | assumption | (unfold maxLen; omega) | (simp only [decide_eq_true_eq, decide_eq_false_iff_not, Int.not_lt, Int.not_le] at h; omega))
        | ((first | apply callP | apply callPG | apply callP0); (case' hv => (simp only [go_sem, Nat.reduceAdd, Nat.reduceSub, Nat.reduceMul, Nat.reduceEqDiff, Nat.reduceLeDiff, Nat.reduceBEq, Nat.reduceLT, reduceIte, reduceCtorEq, Int.toNat_zero, Int.toNat_one, Int.reduceToNat, Nat.zero_add, Nat.add_zero, Nat.sub_zero, Nat.zero_mul, List.length_map, hlen]; try exact rfl)); (case' hp => ((first | refine' v | (refine' (fun hg => ?_); refine' v)))); (case' h => ((first | refine evOps_fin ?_ | refine And.intro ?_ (evD_fin ?_) | refine evD_fin ?_) <;> simp only [go_sem, Nat.reduceAdd, Nat.reduceSub, Nat.reduceMul, Nat.reduceEqDiff, Nat.reduceLeDiff, Nat.reduceBEq, Nat.reduceLT, reduceIte, reduceCtorEq, Int.toNat_zero, Int.toNat_one, Int.reduceToNat, Nat.zero_add, Nat.add_zero, Nat.sub_zero, Nat.zero_mul, List.length_map, hlen])))
        | ((first | apply callP | apply callPG | apply callP0); (case' hv => (simp only [go_sem, Nat.reduceAdd, Nat.reduceSub, Nat.reduceMul, Nat.reduceEqDiff, Nat.reduceLeDiff, Nat.reduceBEq, Nat.reduceLT, reduceIte, reduceCtorEq, Int.toNat_zero, Int.toNat_one, Int.reduceToNat, Nat.zero_add, Nat.add_zero, Nat.sub_zero, Nat.zero_mul, List.length_map, hlen]; try exact rfl)); (case' hp => ((first | refine' rparc_pure b | (refine' (fun hg => ?_); refine' rparc_pure b)))); (case' h => ((first | refine evOps_fin ?_ | refine And.intro ?_ (evD_fin ?_) | refine evD_fin ?_) <;> simp only [go_sem, Nat.reduceAdd, Nat.reduceSub, Nat.reduceMul, Nat.reduceEqDiff, Nat.reduceLeDiff, Nat.reduceBEq, Nat.reduceLT, reduceIte, reduceCtorEq, Int.toNat_zero, Int.toNat_one, Int.reduceToNat, Nat.zero_add, Nat.add_zero, Nat.sub_zero, Nat.zero_mul, List.length_map, hlen])))
        | ((first | apply callP | apply callPG | apply callP0); (case' hv => (simp only [go_sem, Nat.reduceAdd, Nat.reduceSub, Nat.reduceMul, Nat.reduceEqDiff, Nat.reduceLeDiff, Nat.reduceBEq, Nat.reduceLT, reduceIte, reduceCtorEq, Int.toNat_zero, Int.toNat_one, Int.reduceToNat, Nat.zero_add, Nat.add_zero, Nat.sub_zero, Nat.zero_mul, List.length_map, hlen]; try exact rfl)); (case' hp => ((first | refine' t1 | (refine' (fun hg => ?_); refine' t1)))); (case' h => ((first | refine evOps_fin ?_ | refine And.intro ?_ (evD_fin ?_) | refine evD_fin ?_) <;> simp only [go_sem, Nat.reduceAdd, Nat.reduceSub, Nat.reduceMul, Nat.reduceEqDiff, Nat.reduceLeDiff, Nat.reduceBEq, Nat.reduceLT, reduceIte, reduceCtorEq, Int.toNat_zero, Int.toNat_one, Int.reduceToNat, Nat.zero_add, Nat.add_zero, Nat.sub_zero, Nat.zero_mul, List.length_map, hlen])))
        | ((first | apply callP | apply callPG | apply callP0); (case' hv => (simp only [go_sem, Nat.reduceAdd, Nat.reduceSub, Nat.reduceMul, Nat.reduceEqDiff, Nat.reduceLeDiff, Nat.reduceBEq, Nat.reduceLT, reduceIte, reduceCtorEq, Int.toNat_zero, Int.toNat_one, Int.reduceToNat, Nat.zero_add, Nat.add_zero, Nat.sub_zero, Nat.zero_mul, List.length_map, hlen]; try exact rfl)); (case' hp => ((first | refine' l1 | (refine' (fun hg => ?_); refine' l1)))); (case' h => ((first | refine evOps_fin ?_ | refine And.intro ?_ (evD_fin ?_) | refine evD_fin ?_) <;> simp only [go_sem, Nat.reduceAdd, Nat.reduceSub, Nat.reduceMul, Nat.reduceEqDiff, Nat.reduceLeDiff, Nat.reduceBEq, Nat.reduceLT, reduceIte, reduceCtorEq, Int.toNat_zero, Int.toNat_one, Int.reduceToNat, Nat.zero_add, Nat.add_zero, Nat.sub_zero, Nat.zero_mul, List.length_map, hlen])))
        | (refine callX ?_; (first | refine evOps_fin ?_ | refine And.intro ?_ (evD_fin ?_) | refine evD_fin ?_) <;> simp only [go_sem, Nat.reduceAdd, Nat.reduceSub, Nat.reduceMul, Nat.reduceEqDiff, Nat.reduceLeDiff, Nat.reduceBEq, Nat.reduceLT, reduceIte, reduceCtorEq, Int.toNat_zero, Int.toNat_one, Int.reduceToNat, Nat.zero_add, Nat.add_zero, Nat.sub_zero, Nat.zero_mul, List.length_map, hlen])
      refine ev_adopt 9 23 6 (by decide) rfl ?_
      refine ev_loop (fun i : Nat => i ≤ n)
        (fun i => ⟨55, [(10, .int .i64 (i : Int)), (9, .rs 3 i 0 i), (8, .sl (List.map enI (listM a))), (5, .own 2 0 0 0), (4, .own 1 0 0 0), (3, .own 0 0 0 0)],
          [.blk 23 0 6 [[.int .i64 b.x0, .int .i64 b.y0, .int .i64 b.x1, .int .i64 b.y1, .int .i64 b.f, .int .i64 b.c]], .blk 58 0 2 [[.int .i64 c.t, .int .i64 c.f]], .blk 60 0 4 [[.int .i64 d.t, .int .i64 d.l, .int .i64 d.s, .int .i64 d.r]], .blk 23 i 6 ((imagesL b c d a i).map encBox)]⟩)
        (fun i => n - i) 0 (Nat.zero_le _) ?_ ?_
      · simp only [go_sem, Nat.reduceAdd, Nat.reduceSub, Nat.reduceMul, Nat.reduceEqDiff, Nat.reduceLeDiff, Nat.reduceBEq, Nat.reduceLT, reduceIte, reduceCtorEq, Int.toNat_zero, Int.toNat_one, Int.reduceToNat, Nat.zero_add, Nat.add_zero, Nat.sub_zero, Nat.zero_mul, fits, fitT, fitOs, fitO, V.under, unders, rowsUnder]
        repeat' first | rfl | exact rowsUnder_lit _ (lit_box _) | apply And.intro
      · intro i hi
        have hb0 : 0 ≤ (i : Int) := by omega
        have hw : IntKind.i64.wrap ((i : Int) + 1) = ((i + 1 : Nat) : Int) := by rw [w64] <;> omega
        have hll := imagesL_len b c d a i
        by_cases hlt : (i : Int) < (n : Int)
        · have hg := get i (by omega)
          have r1 := one i (by omega)
          have r2 := two i (by omega)
          rw [if_pos (hall i (by omega)), decide_eq_true (hall i (by omega))] at r2
          have hr := imagesL_succ b c d a i
          have hq : 1 ≤ maxLen ∧ i + 1 ≤ maxLen ∧ (i + 1) * 48 ≤ 140737488355328 := by
            have : maxLen = 9223372036854775807 := rfl
            omega
          generalize markB b c d ((a.f + i) % 256) = q at *
          simp only [encMv, encBox] at r2
          repeat' first
            | refine ev_seq (fun K hK => ?_)
            | ((first | refine evrd (id := 3) hmix tt_ok false [([], false), ([], true), ([1], false), ([1], false), ([1], false), ([1], false), ([], false), ([], false), ([], false)] (by decide +kernel) ?_ | refine evrd (id := 9) hmix tt_ok false [([], true), ([], true), ([], true), ([], true), ([0], true), ([4], true), ([], true), ([], true), ([], true), ([], true), ([0, 1, 2, 3, 4, 5, 6, 7, 8, 9], false), ([9], false), ([], false)] (by decide +kernel) ?_ | refine evr tt_ok false ?_ | refine ev_skip ?_ | refine ev_ret ?_ | refine ev_exit ?_); simp only [go_sem, Nat.reduceAdd, Nat.reduceSub, Nat.reduceMul, Nat.reduceEqDiff, Nat.reduceLeDiff, Nat.reduceBEq, Nat.reduceLT, reduceIte, reduceCtorEq, Int.toNat_zero, Int.toNat_one, Int.reduceToNat, Nat.zero_add, Nat.add_zero, Nat.sub_zero, Nat.zero_mul, hb0, hlt, hlen, hw, hg, hll, List.length_map, Int.toNat_natCast, Nat.zero_add, Nat.le_refl, bne_self_eq_false])
            | (refine evc (fun X Y hX hY => ?_); simp only [go_sem, Nat.reduceAdd, Nat.reduceSub, Nat.reduceMul, Nat.reduceEqDiff, Nat.reduceLeDiff, Nat.reduceBEq, Nat.reduceLT, reduceIte, reduceCtorEq, Int.toNat_zero, Int.toNat_one, Int.reduceToNat, Nat.zero_add, Nat.add_zero, Nat.sub_zero, Nat.zero_mul, hb0, hlt, hlen, hw, hg, hll, List.length_map, Int.toNat_natCast, Nat.zero_add, Nat.le_refl, bne_self_eq_false]; first | (refine ⟨fun h => hX ?_, fun h => hY ?_⟩; clear hX hY) | (refine hX ?_; clear hX hY) | (refine hY ?_; clear hX hY))
            | refine ev_block ?_
            | (apply hK; clear hK)
            | apply_assumption -exfalso -symm only [*]
            | (refine And.intro ?_ ?_; first | omega | assumption | (unfold maxLen; omega) | (simp only [decide_eq_true_eq, decide_eq_false_iff_not, Int.not_lt, Int.not_le] at h; omega))
            | ((first | apply callP | apply callPG | apply callP0); (case' hv => (simp only [go_sem, Nat.reduceAdd, Nat.reduceSub, Nat.reduceMul, Nat.reduceEqDiff, Nat.reduceLeDiff, Nat.reduceBEq, Nat.reduceLT, reduceIte, reduceCtorEq, Int.toNat_zero, Int.toNat_one, Int.reduceToNat, Nat.zero_add, Nat.add_zero, Nat.sub_zero, Nat.zero_mul, hb0, hlt, hlen, hw, hg, hll, List.length_map, Int.toNat_natCast, Nat.zero_add, Nat.le_refl, bne_self_eq_false]; try exact rfl)); (case' hp => ((first | refine' r1 | (refine' (fun hg => ?_); refine' r1)))); (case' h => ((first | refine evOps_fin ?_ | refine And.intro ?_ (evD_fin ?_) | refine evD_fin ?_) <;> simp only [go_sem, Nat.reduceAdd, Nat.reduceSub, Nat.reduceMul, Nat.reduceEqDiff, Nat.reduceLeDiff, Nat.reduceBEq, Nat.reduceLT, reduceIte, reduceCtorEq, Int.toNat_zero, Int.toNat_one, Int.reduceToNat, Nat.zero_add, Nat.add_zero, Nat.sub_zero, Nat.zero_mul, hb0, hlt, hlen, hw, hg, hll, List.length_map, Int.toNat_natCast, Nat.zero_add, Nat.le_refl, bne_self_eq_false])))
            | ((first | apply callP | apply callPG | apply callP0); (case' hv => (simp only [go_sem, Nat.reduceAdd, Nat.reduceSub, Nat.reduceMul, Nat.reduceEqDiff, Nat.reduceLeDiff, Nat.reduceBEq, Nat.reduceLT, reduceIte, reduceCtorEq, Int.toNat_zero, Int.toNat_one, Int.reduceToNat, Nat.zero_add, Nat.add_zero, Nat.sub_zero, Nat.zero_mul, hb0, hlt, hlen, hw, hg, hll, List.length_map, Int.toNat_natCast, Nat.zero_add, Nat.le_refl, bne_self_eq_false]; try exact rfl)); (case' hp => ((first | refine' r2 | (refine' (fun hg => ?_); refine' r2)))); (case' h => ((first | refine evOps_fin ?_ | refine And.intro ?_ (evD_fin ?_) | refine evD_fin ?_) <;> simp only [go_sem, Nat.reduceAdd, Nat.reduceSub, Nat.reduceMul, Nat.reduceEqDiff, Nat.reduceLeDiff, Nat.reduceBEq, Nat.reduceLT, reduceIte, reduceCtorEq, Int.toNat_zero, Int.toNat_one, Int.reduceToNat, Nat.zero_add, Nat.add_zero, Nat.sub_zero, Nat.zero_mul, hb0, hlt, hlen, hw, hg, hll, List.length_map, Int.toNat_natCast, Nat.zero_add, Nat.le_refl, bne_self_eq_false])))
            | (refine callX ?_; (first | refine evOps_fin ?_ | refine And.intro ?_ (evD_fin ?_) | refine evD_fin ?_) <;> simp only [go_sem, Nat.reduceAdd, Nat.reduceSub, Nat.reduceMul, Nat.reduceEqDiff, Nat.reduceLeDiff, Nat.reduceBEq, Nat.reduceLT, reduceIte, reduceCtorEq, Int.toNat_zero, Int.toNat_one, Int.reduceToNat, Nat.zero_add, Nat.add_zero, Nat.sub_zero, Nat.zero_mul, hb0, hlt, hlen, hw, hg, hll, List.length_map, Int.toNat_natCast, Nat.zero_add, Nat.le_refl, bne_self_eq_false])
          refine ⟨i + 1, by omega, ?_, by omega⟩
          repeat' first | rfl | exact rowsUnder_lit _ (lit_box _) | (rw [hr]; rfl) | apply And.intro
        · obtain rfl : i = n := by omega
          have htk : List.take i ((imagesL b c d a i).map encBox) = (imagesL b c d a i).map encBox := List.take_of_length_le (by simp [hll])
          repeat' first
            | refine ev_seq (fun K hK => ?_)
            | ((first | refine evrd (id := 3) hmix tt_ok false [([], false), ([], true), ([1], false), ([1], false), ([1], false), ([1], false), ([], false), ([], false), ([], false)] (by decide +kernel) ?_ | refine evrd (id := 9) hmix tt_ok false [([], true), ([], true), ([], true), ([], true), ([0], true), ([4], true), ([], true), ([], true), ([], true), ([], true), ([0, 1, 2, 3, 4, 5, 6, 7, 8, 9], false), ([9], false), ([], false)] (by decide +kernel) ?_ | refine evr tt_ok false ?_ | refine ev_skip ?_ | refine ev_ret ?_ | refine ev_exit ?_); simp only [go_sem, Nat.reduceAdd, Nat.reduceSub, Nat.reduceMul, Nat.reduceEqDiff, Nat.reduceLeDiff, Nat.reduceBEq, Nat.reduceLT, reduceIte, reduceCtorEq, Int.toNat_zero, Int.toNat_one, Int.reduceToNat, Nat.zero_add, Nat.add_zero, Nat.sub_zero, Nat.zero_mul, hlt, hlen, hll, List.length_map, vrows_lit _ (lit_box (imagesL b c d a i)), Nat.le_refl, Nat.sub_zero, htk])
            | (refine evc (fun X Y hX hY => ?_); simp only [go_sem, Nat.reduceAdd, Nat.reduceSub, Nat.reduceMul, Nat.reduceEqDiff, Nat.reduceLeDiff, Nat.reduceBEq, Nat.reduceLT, reduceIte, reduceCtorEq, Int.toNat_zero, Int.toNat_one, Int.reduceToNat, Nat.zero_add, Nat.add_zero, Nat.sub_zero, Nat.zero_mul, hlt, hlen, hll, List.length_map, vrows_lit _ (lit_box (imagesL b c d a i)), Nat.le_refl, Nat.sub_zero, htk]; first | (refine ⟨fun h => hX ?_, fun h => hY ?_⟩; clear hX hY) | (refine hX ?_; clear hX hY) | (refine hY ?_; clear hX hY))
            | refine ev_block ?_
            | (apply hK; clear hK)
            | apply_assumption -exfalso -symm only [*]
            | (refine And.intro ?_ ?_; first | omega | assumption | (unfold maxLen; omega) | (simp only [decide_eq_true_eq, decide_eq_false_iff_not, Int.not_lt, Int.not_le] at h; omega))
          all_goals rfl
    · rw [if_neg ho]
      have hno : ¬ ∀ i : Nat, i < n → (markB b c d ((a.f + i) % 256)).ok := fun h => ho (hmk.2 h)
      clear hmk
      simp only [encBs, List.map_nil]
      refine Pure.weak (r := .tup [.emp, .int .i64 2]) ?_ (fun E v hv => tup_fst hv fun u hu => emp_sl hu)
      (refine pure_of_ev tt_ok Try.func100 rfl (by decide +kernel) (Nat.le_of_ble_eq_true rfl) ?_; simp only [Try.f100])
      repeat' first
        | refine ev_seq (fun K hK => ?_)
        | ((first | refine evrd (id := 3) hmix tt_ok false [([], false), ([], true), ([1], false), ([1], false), ([1], false), ([1], false), ([], false), ([], false), ([], false)] (by decide +kernel) ?_ | refine evrd (id := 9) hmix tt_ok false [([], true), ([], true), ([], true), ([], true), ([0], true), ([4], true), ([], true), ([], true), ([], true), ([], true), ([0, 1, 2, 3, 4, 5, 6, 7, 8, 9], false), ([9], false), ([], false)] (by decide +kernel) ?_ | refine evr tt_ok false ?_ | refine ev_skip ?_ | refine ev_ret ?_ | refine ev_exit ?_); simp only [go_sem, Nat.reduceAdd, Nat.reduceSub, Nat.reduceMul, Nat.reduceEqDiff, Nat.reduceLeDiff, Nat.reduceBEq, Nat.reduceLT, reduceIte, reduceCtorEq, Int.toNat_zero, Int.toNat_one, Int.reduceToNat, Nat.zero_add, Nat.add_zero, Nat.sub_zero, Nat.zero_mul, List.length_map, hlen])
        | (refine evc (fun X Y hX hY => ?_); simp only [go_sem, Nat.reduceAdd, Nat.reduceSub, Nat.reduceMul, Nat.reduceEqDiff, Nat.reduceLeDiff, Nat.reduceBEq, Nat.reduceLT, reduceIte, reduceCtorEq, Int.toNat_zero, Int.toNat_one, Int.reduceToNat, Nat.zero_add, Nat.add_zero, Nat.sub_zero, Nat.zero_mul, List.length_map, hlen]; first | (refine ⟨fun h => hX ?_, fun h => hY ?_⟩; clear hX hY) | (refine hX ?_; clear hX hY) | (refine hY ?_; clear hX hY))
        | refine ev_block ?_
        | (apply hK; clear hK)
        | apply_assumption -exfalso -symm only [*]
        | (refine And.intro ?_ ?_; first | omega | assumption | (unfold maxLen; omega) | (simp only [decide_eq_true_eq, decide_eq_false_iff_not, Int.not_lt, Int.not_le] at h; omega))
        | ((first | apply callP | apply callPG | apply callP0); (case' hv => (simp only [go_sem, Nat.reduceAdd, Nat.reduceSub, Nat.reduceMul, Nat.reduceEqDiff, Nat.reduceLeDiff, Nat.reduceBEq, Nat.reduceLT, reduceIte, reduceCtorEq, Int.toNat_zero, Int.toNat_one, Int.reduceToNat, Nat.zero_add, Nat.add_zero, Nat.sub_zero, Nat.zero_mul, List.length_map, hlen]; try exact rfl)); (case' hp => ((first | refine' v | (refine' (fun hg => ?_); refine' v)))); (case' h => ((first | refine evOps_fin ?_ | refine And.intro ?_ (evD_fin ?_) | refine evD_fin ?_) <;> simp only [go_sem, Nat.reduceAdd, Nat.reduceSub, Nat.reduceMul, Nat.reduceEqDiff, Nat.reduceLeDiff, Nat.reduceBEq, Nat.reduceLT, reduceIte, reduceCtorEq, Int.toNat_zero, Int.toNat_one, Int.reduceToNat, Nat.zero_add, Nat.add_zero, Nat.sub_zero, Nat.zero_mul, List.length_map, hlen])))
        | ((first | apply callP | apply callPG | apply callP0); (case' hv => (simp only [go_sem, Nat.reduceAdd, Nat.reduceSub, Nat.reduceMul, Nat.reduceEqDiff, Nat.reduceLeDiff, Nat.reduceBEq, Nat.reduceLT, reduceIte, reduceCtorEq, Int.toNat_zero, Int.toNat_one, Int.reduceToNat, Nat.zero_add, Nat.add_zero, Nat.sub_zero, Nat.zero_mul, List.length_map, hlen]; try exact rfl)); (case' hp => ((first | refine' rparc_pure b | (refine' (fun hg => ?_); refine' rparc_pure b)))); (case' h => ((first | refine evOps_fin ?_ | refine And.intro ?_ (evD_fin ?_) | refine evD_fin ?_) <;> simp only [go_sem, Nat.reduceAdd, Nat.reduceSub, Nat.reduceMul, Nat.reduceEqDiff, Nat.reduceLeDiff, Nat.reduceBEq, Nat.reduceLT, reduceIte, reduceCtorEq, Int.toNat_zero, Int.toNat_one, Int.reduceToNat, Nat.zero_add, Nat.add_zero, Nat.sub_zero, Nat.zero_mul, List.length_map, hlen])))
        | ((first | apply callP | apply callPG | apply callP0); (case' hv => (simp only [go_sem, Nat.reduceAdd, Nat.reduceSub, Nat.reduceMul, Nat.reduceEqDiff, Nat.reduceLeDiff, Nat.reduceBEq, Nat.reduceLT, reduceIte, reduceCtorEq, Int.toNat_zero, Int.toNat_one, Int.reduceToNat, Nat.zero_add, Nat.add_zero, Nat.sub_zero, Nat.zero_mul, List.length_map, hlen]; try exact rfl)); (case' hp => ((first | refine' t1 | (refine' (fun hg => ?_); refine' t1)))); (case' h => ((first | refine evOps_fin ?_ | refine And.intro ?_ (evD_fin ?_) | refine evD_fin ?_) <;> simp only [go_sem, Nat.reduceAdd, Nat.reduceSub, Nat.reduceMul, Nat.reduceEqDiff, Nat.reduceLeDiff, Nat.reduceBEq, Nat.reduceLT, reduceIte, reduceCtorEq, Int.toNat_zero, Int.toNat_one, Int.reduceToNat, Nat.zero_add, Nat.add_zero, Nat.sub_zero, Nat.zero_mul, List.length_map, hlen])))
        | ((first | apply callP | apply callPG | apply callP0); (case' hv => (simp only [go_sem, Nat.reduceAdd, Nat.reduceSub, Nat.reduceMul, Nat.reduceEqDiff, Nat.reduceLeDiff, Nat.reduceBEq, Nat.reduceLT, reduceIte, reduceCtorEq, Int.toNat_zero, Int.toNat_one, Int.reduceToNat, Nat.zero_add, Nat.add_zero, Nat.sub_zero, Nat.zero_mul, List.length_map, hlen]; try exact rfl)); (case' hp => ((first | refine' l1 | (refine' (fun hg => ?_); refine' l1)))); (case' h => ((first | refine evOps_fin ?_ | refine And.intro ?_ (evD_fin ?_) | refine evD_fin ?_) <;> simp only [go_sem, Nat.reduceAdd, Nat.reduceSub, Nat.reduceMul, Nat.reduceEqDiff, Nat.reduceLeDiff, Nat.reduceBEq, Nat.reduceLT, reduceIte, reduceCtorEq, Int.toNat_zero, Int.toNat_one, Int.reduceToNat, Nat.zero_add, Nat.add_zero, Nat.sub_zero, Nat.zero_mul, List.length_map, hlen])))
        | (refine callX ?_; (first | refine evOps_fin ?_ | refine And.intro ?_ (evD_fin ?_) | refine evD_fin ?_) <;> simp only [go_sem, Nat.reduceAdd, Nat.reduceSub, Nat.reduceMul, Nat.reduceEqDiff, Nat.reduceLeDiff, Nat.reduceBEq, Nat.reduceLT, reduceIte, reduceCtorEq, Int.toNat_zero, Int.toNat_one, Int.reduceToNat, Nat.zero_add, Nat.add_zero, Nat.sub_zero, Nat.zero_mul, List.length_map, hlen])
      refine ev_adopt 9 23 6 (by decide) rfl ?_
      refine ev_loop (fun i : Nat => i ≤ n ∧ ∀ j : Nat, j < i → (markB b c d ((a.f + j) % 256)).ok)
        (fun i => ⟨55, [(10, .int .i64 (i : Int)), (9, .rs 3 i 0 i), (8, .sl (List.map enI (listM a))), (5, .own 2 0 0 0), (4, .own 1 0 0 0), (3, .own 0 0 0 0)],
          [.blk 23 0 6 [[.int .i64 b.x0, .int .i64 b.y0, .int .i64 b.x1, .int .i64 b.y1, .int .i64 b.f, .int .i64 b.c]], .blk 58 0 2 [[.int .i64 c.t, .int .i64 c.f]], .blk 60 0 4 [[.int .i64 d.t, .int .i64 d.l, .int .i64 d.s, .int .i64 d.r]], .blk 23 i 6 ((imagesL b c d a i).map encBox)]⟩)
        (fun i => n - i) 0 ⟨Nat.zero_le _, fun j hj => by omega⟩ ?_ ?_
      · simp only [go_sem, Nat.reduceAdd, Nat.reduceSub, Nat.reduceMul, Nat.reduceEqDiff, Nat.reduceLeDiff, Nat.reduceBEq, Nat.reduceLT, reduceIte, reduceCtorEq, Int.toNat_zero, Int.toNat_one, Int.reduceToNat, Nat.zero_add, Nat.add_zero, Nat.sub_zero, Nat.zero_mul, fits, fitT, fitOs, fitO, V.under, unders, rowsUnder]
        repeat' first | rfl | exact rowsUnder_lit _ (lit_box _) | apply And.intro
      · rintro i ⟨hi, hall⟩
        have hb0 : 0 ≤ (i : Int) := by omega
        have hw : IntKind.i64.wrap ((i : Int) + 1) = ((i + 1 : Nat) : Int) := by rw [w64] <;> omega
        have hll := imagesL_len b c d a i
        by_cases hlt : (i : Int) < (n : Int)
        · have hg := get i (by omega)
          have r1 := one i (by omega)
          have r2 := two i (by omega)
          have hr := imagesL_succ b c d a i
          have hq : 1 ≤ maxLen ∧ i + 1 ≤ maxLen ∧ (i + 1) * 48 ≤ 140737488355328 := by
            have : maxLen = 9223372036854775807 := rfl
            omega
          by_cases hm : (markB b c d ((a.f + i) % 256)).ok
          · rw [if_pos hm, decide_eq_true hm] at r2
            have hall2 : ∀ j : Nat, j < i + 1 → (markB b c d ((a.f + j) % 256)).ok := fun j hj => by
              by_cases e : j = i
              · subst e; exact hm
              · exact hall j (by omega)
            clear hall hm
            generalize markB b c d ((a.f + i) % 256) = q at r2 hr
            simp only [encMv, encBox] at r2
            repeat' first
              | refine ev_seq (fun K hK => ?_)
              | ((first | refine evrd (id := 3) hmix tt_ok false [([], false), ([], true), ([1], false), ([1], false), ([1], false), ([1], false), ([], false), ([], false), ([], false)] (by decide +kernel) ?_ | refine evrd (id := 9) hmix tt_ok false [([], true), ([], true), ([], true), ([], true), ([0], true), ([4], true), ([], true), ([], true), ([], true), ([], true), ([0, 1, 2, 3, 4, 5, 6, 7, 8, 9], false), ([9], false), ([], false)] (by decide +kernel) ?_ | refine evr tt_ok false ?_ | refine ev_skip ?_ | refine ev_ret ?_ | refine ev_exit ?_); simp only [go_sem, Nat.reduceAdd, Nat.reduceSub, Nat.reduceMul, Nat.reduceEqDiff, Nat.reduceLeDiff, Nat.reduceBEq, Nat.reduceLT, reduceIte, reduceCtorEq, Int.toNat_zero, Int.toNat_one, Int.reduceToNat, Nat.zero_add, Nat.add_zero, Nat.sub_zero, Nat.zero_mul, hb0, hlt, hlen, hw, hg, hll, List.length_map, Int.toNat_natCast, Nat.zero_add, Nat.le_refl, bne_self_eq_false])
              | (refine evc (fun X Y hX hY => ?_); simp only [go_sem, Nat.reduceAdd, Nat.reduceSub, Nat.reduceMul, Nat.reduceEqDiff, Nat.reduceLeDiff, Nat.reduceBEq, Nat.reduceLT, reduceIte, reduceCtorEq, Int.toNat_zero, Int.toNat_one, Int.reduceToNat, Nat.zero_add, Nat.add_zero, Nat.sub_zero, Nat.zero_mul, hb0, hlt, hlen, hw, hg, hll, List.length_map, Int.toNat_natCast, Nat.zero_add, Nat.le_refl, bne_self_eq_false]; first | (refine ⟨fun h => hX ?_, fun h => hY ?_⟩; clear hX hY) | (refine hX ?_; clear hX hY) | (refine hY ?_; clear hX hY))
              | refine ev_block ?_
              | (apply hK; clear hK)
              | apply_assumption -exfalso -symm only [*]
              | (refine And.intro ?_ ?_; first | omega | assumption | (unfold maxLen; omega) | (simp only [decide_eq_true_eq, decide_eq_false_iff_not, Int.not_lt, Int.not_le] at h; omega))
              | ((first | apply callP | apply callPG | apply callP0); (case' hv => (simp only [go_sem, Nat.reduceAdd, Nat.reduceSub, Nat.reduceMul, Nat.reduceEqDiff, Nat.reduceLeDiff, Nat.reduceBEq, Nat.reduceLT, reduceIte, reduceCtorEq, Int.toNat_zero, Int.toNat_one, Int.reduceToNat, Nat.zero_add, Nat.add_zero, Nat.sub_zero, Nat.zero_mul, hb0, hlt, hlen, hw, hg, hll, List.length_map, Int.toNat_natCast, Nat.zero_add, Nat.le_refl, bne_self_eq_false]; try exact rfl)); (case' hp => ((first | refine' r1 | (refine' (fun hg => ?_); refine' r1)))); (case' h => ((first | refine evOps_fin ?_ | refine And.intro ?_ (evD_fin ?_) | refine evD_fin ?_) <;> simp only [go_sem, Nat.reduceAdd, Nat.reduceSub, Nat.reduceMul, Nat.reduceEqDiff, Nat.reduceLeDiff, Nat.reduceBEq, Nat.reduceLT, reduceIte, reduceCtorEq, Int.toNat_zero, Int.toNat_one, Int.reduceToNat, Nat.zero_add, Nat.add_zero, Nat.sub_zero, Nat.zero_mul, hb0, hlt, hlen, hw, hg, hll, List.length_map, Int.toNat_natCast, Nat.zero_add, Nat.le_refl, bne_self_eq_false])))
              | ((first | apply callP | apply callPG | apply callP0); (case' hv => (simp only [go_sem, Nat.reduceAdd, Nat.reduceSub, Nat.reduceMul, Nat.reduceEqDiff, Nat.reduceLeDiff, Nat.reduceBEq, Nat.reduceLT, reduceIte, reduceCtorEq, Int.toNat_zero, Int.toNat_one, Int.reduceToNat, Nat.zero_add, Nat.add_zero, Nat.sub_zero, Nat.zero_mul, hb0, hlt, hlen, hw, hg, hll, List.length_map, Int.toNat_natCast, Nat.zero_add, Nat.le_refl, bne_self_eq_false]; try exact rfl)); (case' hp => ((first | refine' r2 | (refine' (fun hg => ?_); refine' r2)))); (case' h => ((first | refine evOps_fin ?_ | refine And.intro ?_ (evD_fin ?_) | refine evD_fin ?_) <;> simp only [go_sem, Nat.reduceAdd, Nat.reduceSub, Nat.reduceMul, Nat.reduceEqDiff, Nat.reduceLeDiff, Nat.reduceBEq, Nat.reduceLT, reduceIte, reduceCtorEq, Int.toNat_zero, Int.toNat_one, Int.reduceToNat, Nat.zero_add, Nat.add_zero, Nat.sub_zero, Nat.zero_mul, hb0, hlt, hlen, hw, hg, hll, List.length_map, Int.toNat_natCast, Nat.zero_add, Nat.le_refl, bne_self_eq_false])))
              | (refine callX ?_; (first | refine evOps_fin ?_ | refine And.intro ?_ (evD_fin ?_) | refine evD_fin ?_) <;> simp only [go_sem, Nat.reduceAdd, Nat.reduceSub, Nat.reduceMul, Nat.reduceEqDiff, Nat.reduceLeDiff, Nat.reduceBEq, Nat.reduceLT, reduceIte, reduceCtorEq, Int.toNat_zero, Int.toNat_one, Int.reduceToNat, Nat.zero_add, Nat.add_zero, Nat.sub_zero, Nat.zero_mul, hb0, hlt, hlen, hw, hg, hll, List.length_map, Int.toNat_natCast, Nat.zero_add, Nat.le_refl, bne_self_eq_false])
            refine ⟨i + 1, ⟨by omega, hall2⟩, ?_, by omega⟩
            repeat' first | rfl | exact rowsUnder_lit _ (lit_box _) | (rw [hr]; rfl) | apply And.intro
          · rw [if_neg hm, decide_eq_false hm] at r2
            clear hall hm
            simp only [encMv, encBox, Box.zero] at r2
            repeat' first
              | refine ev_seq (fun K hK => ?_)
              | ((first | refine evrd (id := 3) hmix tt_ok false [([], false), ([], true), ([1], false), ([1], false), ([1], false), ([1], false), ([], false), ([], false), ([], false)] (by decide +kernel) ?_ | refine evrd (id := 9) hmix tt_ok false [([], true), ([], true), ([], true), ([], true), ([0], true), ([4], true), ([], true), ([], true), ([], true), ([], true), ([0, 1, 2, 3, 4, 5, 6, 7, 8, 9], false), ([9], false), ([], false)] (by decide +kernel) ?_ | refine evr tt_ok false ?_ | refine ev_skip ?_ | refine ev_ret ?_ | refine ev_exit ?_); simp only [go_sem, Nat.reduceAdd, Nat.reduceSub, Nat.reduceMul, Nat.reduceEqDiff, Nat.reduceLeDiff, Nat.reduceBEq, Nat.reduceLT, reduceIte, reduceCtorEq, Int.toNat_zero, Int.toNat_one, Int.reduceToNat, Nat.zero_add, Nat.add_zero, Nat.sub_zero, Nat.zero_mul, hb0, hlt, hlen, hw, hg, hll, List.length_map, Int.toNat_natCast, Nat.zero_add, Nat.le_refl, Int.reduceBNe])
              | (refine evc (fun X Y hX hY => ?_); simp only [go_sem, Nat.reduceAdd, Nat.reduceSub, Nat.reduceMul, Nat.reduceEqDiff, Nat.reduceLeDiff, Nat.reduceBEq, Nat.reduceLT, reduceIte, reduceCtorEq, Int.toNat_zero, Int.toNat_one, Int.reduceToNat, Nat.zero_add, Nat.add_zero, Nat.sub_zero, Nat.zero_mul, hb0, hlt, hlen, hw, hg, hll, List.length_map, Int.toNat_natCast, Nat.zero_add, Nat.le_refl, Int.reduceBNe]; first | (refine ⟨fun h => hX ?_, fun h => hY ?_⟩; clear hX hY) | (refine hX ?_; clear hX hY) | (refine hY ?_; clear hX hY))
              | refine ev_block ?_
              | (apply hK; clear hK)
              | apply_assumption -exfalso -symm only [*]
              | (refine And.intro ?_ ?_; first | omega | assumption | (unfold maxLen; omega) | (simp only [decide_eq_true_eq, decide_eq_false_iff_not, Int.not_lt, Int.not_le] at h; omega))
              | ((first | apply callP | apply callPG | apply callP0); (case' hv => (simp only [go_sem, Nat.reduceAdd, Nat.reduceSub, Nat.reduceMul, Nat.reduceEqDiff, Nat.reduceLeDiff, Nat.reduceBEq, Nat.reduceLT, reduceIte, reduceCtorEq, Int.toNat_zero, Int.toNat_one, Int.reduceToNat, Nat.zero_add, Nat.add_zero, Nat.sub_zero, Nat.zero_mul, hb0, hlt, hlen, hw, hg, hll, List.length_map, Int.toNat_natCast, Nat.zero_add, Nat.le_refl, Int.reduceBNe]; try exact rfl)); (case' hp => ((first | refine' r1 | (refine' (fun hg => ?_); refine' r1)))); (case' h => ((first | refine evOps_fin ?_ | refine And.intro ?_ (evD_fin ?_) | refine evD_fin ?_) <;> simp only [go_sem, Nat.reduceAdd, Nat.reduceSub, Nat.reduceMul, Nat.reduceEqDiff, Nat.reduceLeDiff, Nat.reduceBEq, Nat.reduceLT, reduceIte, reduceCtorEq, Int.toNat_zero, Int.toNat_one, Int.reduceToNat, Nat.zero_add, Nat.add_zero, Nat.sub_zero, Nat.zero_mul, hb0, hlt, hlen, hw, hg, hll, List.length_map, Int.toNat_natCast, Nat.zero_add, Nat.le_refl, Int.reduceBNe])))
              | ((first | apply callP | apply callPG | apply callP0); (case' hv => (simp only [go_sem, Nat.reduceAdd, Nat.reduceSub, Nat.reduceMul, Nat.reduceEqDiff, Nat.reduceLeDiff, Nat.reduceBEq, Nat.reduceLT, reduceIte, reduceCtorEq, Int.toNat_zero, Int.toNat_one, Int.reduceToNat, Nat.zero_add, Nat.add_zero, Nat.sub_zero, Nat.zero_mul, hb0, hlt, hlen, hw, hg, hll, List.length_map, Int.toNat_natCast, Nat.zero_add, Nat.le_refl, Int.reduceBNe]; try exact rfl)); (case' hp => ((first | refine' r2 | (refine' (fun hg => ?_); refine' r2)))); (case' h => ((first | refine evOps_fin ?_ | refine And.intro ?_ (evD_fin ?_) | refine evD_fin ?_) <;> simp only [go_sem, Nat.reduceAdd, Nat.reduceSub, Nat.reduceMul, Nat.reduceEqDiff, Nat.reduceLeDiff, Nat.reduceBEq, Nat.reduceLT, reduceIte, reduceCtorEq, Int.toNat_zero, Int.toNat_one, Int.reduceToNat, Nat.zero_add, Nat.add_zero, Nat.sub_zero, Nat.zero_mul, hb0, hlt, hlen, hw, hg, hll, List.length_map, Int.toNat_natCast, Nat.zero_add, Nat.le_refl, Int.reduceBNe])))
              | (refine callX ?_; (first | refine evOps_fin ?_ | refine And.intro ?_ (evD_fin ?_) | refine evD_fin ?_) <;> simp only [go_sem, Nat.reduceAdd, Nat.reduceSub, Nat.reduceMul, Nat.reduceEqDiff, Nat.reduceLeDiff, Nat.reduceBEq, Nat.reduceLT, reduceIte, reduceCtorEq, Int.toNat_zero, Int.toNat_one, Int.reduceToNat, Nat.zero_add, Nat.add_zero, Nat.sub_zero, Nat.zero_mul, hb0, hlt, hlen, hw, hg, hll, List.length_map, Int.toNat_natCast, Nat.zero_add, Nat.le_refl, Int.reduceBNe])
            all_goals rfl
        · exact absurd (fun j hj => hall j (by omega)) hno
  · rw [guard_no h] at v
    rw [if_neg h]
    simp only [encBs, List.map_nil]
    refine Pure.weak (r := .tup [.emp, .int .i64 1]) ?_ (fun E v hv => tup_fst hv fun u hu => emp_sl hu)
    (refine pure_of_ev tt_ok Try.func100 rfl (by decide +kernel) (Nat.le_of_ble_eq_true rfl) ?_; simp only [Try.f100])
    repeat' first
      | refine ev_seq (fun K hK => ?_)
      | ((first | refine evrd (id := 3) hmix tt_ok false [([], false), ([], true), ([1], false), ([1], false), ([1], false), ([1], false), ([], false), ([], false), ([], false)] (by decide +kernel) ?_ | refine evrd (id := 9) hmix tt_ok false [([], true), ([], true), ([], true), ([], true), ([0], true), ([4], true), ([], true), ([], true), ([], true), ([], true), ([0, 1, 2, 3, 4, 5, 6, 7, 8, 9], false), ([9], false), ([], false)] (by decide +kernel) ?_ | refine evr tt_ok false ?_ | refine ev_skip ?_ | refine ev_ret ?_ | refine ev_exit ?_); simp only [go_sem, Nat.reduceAdd, Nat.reduceSub, Nat.reduceMul, Nat.reduceEqDiff, Nat.reduceLeDiff, Nat.reduceBEq, Nat.reduceLT, reduceIte, reduceCtorEq, Int.toNat_zero, Int.toNat_one, Int.reduceToNat, Nat.zero_add, Nat.add_zero, Nat.sub_zero, Nat.zero_mul])
      | (refine evc (fun X Y hX hY => ?_); simp only [go_sem, Nat.reduceAdd, Nat.reduceSub, Nat.reduceMul, Nat.reduceEqDiff, Nat.reduceLeDiff, Nat.reduceBEq, Nat.reduceLT, reduceIte, reduceCtorEq, Int.toNat_zero, Int.toNat_one, Int.reduceToNat, Nat.zero_add, Nat.add_zero, Nat.sub_zero, Nat.zero_mul]; first | (refine ⟨fun h => hX ?_, fun h => hY ?_⟩; clear hX hY) | (refine hX ?_; clear hX hY) | (refine hY ?_; clear hX hY))
      | refine ev_block ?_
      | (apply hK; clear hK)
      | apply_assumption -exfalso -symm only [*]
      | (refine And.intro ?_ ?_; first | omega | assumption | (unfold maxLen; omega) | (simp only [decide_eq_true_eq, decide_eq_false_iff_not, Int.not_lt, Int.not_le] at h; omega))
      | ((first | apply callP | apply callPG | apply callP0); (case' hv => (simp only [go_sem, Nat.reduceAdd, Nat.reduceSub, Nat.reduceMul, Nat.reduceEqDiff, Nat.reduceLeDiff, Nat.reduceBEq, Nat.reduceLT, reduceIte, reduceCtorEq, Int.toNat_zero, Int.toNat_one, Int.reduceToNat, Nat.zero_add, Nat.add_zero, Nat.sub_zero, Nat.zero_mul]; try exact rfl)); (case' hp => ((first | refine' v | (refine' (fun hg => ?_); refine' v)))); (case' h => ((first | refine evOps_fin ?_ | refine And.intro ?_ (evD_fin ?_) | refine evD_fin ?_) <;> simp only [go_sem, Nat.reduceAdd, Nat.reduceSub, Nat.reduceMul, Nat.reduceEqDiff, Nat.reduceLeDiff, Nat.reduceBEq, Nat.reduceLT, reduceIte, reduceCtorEq, Int.toNat_zero, Int.toNat_one, Int.reduceToNat, Nat.zero_add, Nat.add_zero, Nat.sub_zero, Nat.zero_mul])))
      | (refine callX ?_; (first | refine evOps_fin ?_ | refine And.intro ?_ (evD_fin ?_) | refine evD_fin ?_) <;> simp only [go_sem, Nat.reduceAdd, Nat.reduceSub, Nat.reduceMul, Nat.reduceEqDiff, Nat.reduceLeDiff, Nat.reduceBEq, Nat.reduceLT, reduceIte, reduceCtorEq, Int.toNat_zero, Int.toNat_one, Int.reduceToNat, Nat.zero_add, Nat.add_zero, Nat.sub_zero, Nat.zero_mul])
    all_goals rfl
end Go.Proofs.Ytnbgegapncdkjaa
