import Derived.Test.YtmpmggbcmioipaaD11
import Derived.Test.YtmpmggbcmioipaaD12
import Derived.Test.YtmpmggbcmioipaaK17
set_option linter.all false
namespace Go.Proofs.Ytmpmggbcmioipaa
open Nat (reduceAdd reduceSub reduceMul reduceEqDiff reduceLeDiff reduceLT)
open Go Go.K
set_option maxRecDepth 20000
set_option maxHeartbeats 8000000
theorem pimages_pure (b : Box) (c : Cmd) (d : Bounds) : Pure Try.prog 28 [.agg [.int .i64 b.x0, .int .i64 b.y0, .int .i64 b.x1, .int .i64 b.y1, .int .i64 b.f, .int .i64 b.c], .agg [.int .i64 c.t, .int .i64 c.f], .agg [.int .i64 d.t, .int .i64 d.l, .int .i64 d.s, .int .i64 d.r]] (encBs (imagesM b c d)) := by
  have v := pvalid_pure b c d
  unfold imagesM
  by_cases h : b.ok ∧ c.ok ∧ d.ok
  · rw [guard_yes h] at v
    rw [if_pos h]
    obtain ⟨hb, hc, hd⟩ := h
    have k1 := hd.1; have k2 := hd.2.1
    have ha : b.arc.ok := hb.2.2.2.2.2.2
    have t1 := pturned_pure b c.t d.t hb ⟨by omega, by omega⟩
    have e : turnedM ⟨b.f, b.c⟩ c.t d.t = imgA b c d := rfl
    rw [e] at t1
    have hk : (imgA b c d).ok := turned_ok ha (t := c.t) (n := d.t) (by omega)
    have hmk := @marks_ok b c d (imgA b c d) hb hc hd hk
    generalize imgA b c d = a at *
    have l1 := list_pure a hk
    obtain ⟨a1, a2, a3, a4, a5⟩ := id hk
    obtain ⟨n, hn⟩ : ∃ n, a.c.toNat = n := ⟨_, rfl⟩
    have hlen : (listM a).length = n := by rw [listM_len, hn]
    have hn256 : n ≤ 256 := by omega
    rw [hn] at hmk
    have get : ∀ i : Nat, i < n → ((listM a).map enI).getD i [.int .i64 0] = [.int .i64 ((a.f + i) % 256)] := by
      intro i hi
      rw [int_get2, listM_get a (by omega)]
    have one : ∀ i : Nat, i < n → Pure Try.prog 46 [.agg [.int .i64 c.t, .int .i64 c.f], .agg [.int .i64 d.t, .int .i64 d.l, .int .i64 d.s, .int .i64 d.r], .agg [.int .i64 ((a.f + i) % 256), .int .i64 1]] (.agg [.int .i64 (reachM c.f d.l d.s ((a.f + i) % 256)).x0, .int .i64 (reachM c.f d.l d.s ((a.f + i) % 256)).y0, .int .i64 (reachM c.f d.l d.s ((a.f + i) % 256)).x1, .int .i64 (reachM c.f d.l d.s ((a.f + i) % 256)).y1]) := by
      intro i hi
      have := preach_pure c d ⟨(a.f + i) % 256, 1⟩ hc hd (mark_arc (by omega))
      rw [reachA_one _ _ _ (by omega)] at this
      exact this
    have two : ∀ i : Nat, i < n → Pure Try.prog 48 [.agg [.int .i64 b.x0, .int .i64 b.y0, .int .i64 b.x1, .int .i64 b.y1, .int .i64 b.f, .int .i64 b.c], .agg [.int .i64 ((a.f + i) % 256), .int .i64 1], .agg [.int .i64 (reachM c.f d.l d.s ((a.f + i) % 256)).x0, .int .i64 (reachM c.f d.l d.s ((a.f + i) % 256)).y0, .int .i64 (reachM c.f d.l d.s ((a.f + i) % 256)).x1, .int .i64 (reachM c.f d.l d.s ((a.f + i) % 256)).y1]]
        (encMv (if (markB b c d ((a.f + i) % 256)).ok then ⟨markB b c d ((a.f + i) % 256), 0⟩ else ⟨Box.zero, 2⟩)) := fun i hi =>
      pmoved_pure b ⟨(a.f + i) % 256, 1⟩ _ hb (mark_arc (by omega)) (reachM_fit hc hd)
    by_cases ho : (outB b (reachA c.f d.l d.s a) a).ok
    · rw [if_pos ho]
      have hall := hmk.1 ho
      clear hmk
      rw [hn]
      simp only [encBs]
      (refine pure_of_ev tt_ok Try.func28 rfl (by decide +kernel) (Nat.le_of_ble_eq_true rfl) ?_; simp only [Try.f28])
      repeat' first
        | refine ev_seq (fun K hK => ?_)
        | ((first | refine evrd (id := 8) hmix tt_ok false [([], true), ([], true), ([], true), ([], true), ([], true), ([0, 1], true), ([], true), ([], true), ([], true), ([], true), ([0, 1, 2, 3, 4, 5, 6, 7, 8, 9], false), ([9], false), ([], false)] (by decide +kernel) ?_ | refine evr tt_ok false ?_ | refine ev_skip ?_ | refine ev_ret ?_ | refine ev_exit ?_ | refine evc (fun X Y hX hY => ?_)); simp only [go_sem, reduceAdd, reduceSub, reduceMul, reduceEqDiff, reduceLeDiff, Nat.reduceBEq, reduceLT, reduceIte, reduceCtorEq, Int.reduceToNat, List.length_map, hlen]; try (first | (refine ⟨fun h => hX ?_, fun h => hY ?_⟩; clear hX hY) | (refine hX ?_; clear hX hY) | (refine hY ?_; clear hX hY)))
        | refine ev_block ?_
        | (apply hK; clear hK)
        | apply_assumption -exfalso -symm only [*]
        | (refine And.intro ?_ ?_; first | omega | assumption | (unfold maxLen; omega) | (simp only [decide_eq_true_eq, decide_eq_false_iff_not, Int.not_lt, Int.not_le] at h; omega))
        | ((first | apply callP | apply callPG | apply callP0); (case' hv => (simp only [go_sem, reduceAdd, reduceSub, reduceMul, reduceEqDiff, reduceLeDiff, Nat.reduceBEq, reduceLT, reduceIte, reduceCtorEq, Int.reduceToNat, List.length_map, hlen]; try exact rfl)); (case' hp => (first | refine' v | (refine' (fun hg => ?_); refine' v) | refine' t1 | (refine' (fun hg => ?_); refine' t1) | refine' l1 | (refine' (fun hg => ?_); refine' l1))); (case' h => ((first | refine evOps_fin ?_ | refine And.intro ?_ (evD_fin ?_) | refine evD_fin ?_) <;> simp only [go_sem, reduceAdd, reduceSub, reduceMul, reduceEqDiff, reduceLeDiff, Nat.reduceBEq, reduceLT, reduceIte, reduceCtorEq, Int.reduceToNat, List.length_map, hlen])))
        | (refine callX ?_; (first | refine evOps_fin ?_ | refine And.intro ?_ (evD_fin ?_) | refine evD_fin ?_) <;> simp only [go_sem, reduceAdd, reduceSub, reduceMul, reduceEqDiff, reduceLeDiff, Nat.reduceBEq, reduceLT, reduceIte, reduceCtorEq, Int.reduceToNat, List.length_map, hlen])
      refine ev_adopt 8 33 6 (by decide) rfl ?_
      refine ev_loop (fun i : Nat => i ≤ n)
        (fun i => ⟨52, [(27, .int .i64 (i : Int)), (26, .int .i64 (n : Int)), (25, .sl (List.map enI (listM a))), (8, .rs 3 i 0 i), (5, .own 2 0 0 0), (4, .own 1 0 0 0), (3, .own 0 0 0 0)],
          [.blk 33 0 6 [[.int .i64 b.x0, .int .i64 b.y0, .int .i64 b.x1, .int .i64 b.y1, .int .i64 b.f, .int .i64 b.c]], .blk 35 0 2 [[.int .i64 c.t, .int .i64 c.f]], .blk 37 0 4 [[.int .i64 d.t, .int .i64 d.l, .int .i64 d.s, .int .i64 d.r]], .blk 33 i 6 ((imagesL b c d a i).map encBox)]⟩)
        (fun i => n - i) 0 (Nat.zero_le _) ?_ ?_
      · simp only [go_sem, reduceAdd, reduceSub, reduceMul, reduceEqDiff, reduceLeDiff, Nat.reduceBEq, reduceLT, reduceIte, reduceCtorEq, Int.reduceToNat, fits, fitT, fitOs, fitO, V.under, unders, rowsUnder]
        repeat' first | rfl | exact rowsUnder_lit _ (lit_box _) | apply And.intro
      · intro i hi
        have hb0 : 0 ≤ (i : Int) := by omega
        have hw : IntKind.i64.wrap ((i : Int) + 1) = ((i + 1 : Nat) : Int) := by rw [w64] <;> omega
        have hll := imagesL_len b c d a i
        by_cases hlt : (i : Int) < (n : Int)
        · have hg := get i (by omega)
          have r1 := one i (by omega)
          have r2 := two i (by omega)
          rw [if_pos (hall i (by omega))] at r2
          have hr := imagesL_succ b c d a i
          have hq : 1 ≤ maxLen ∧ i + 1 ≤ maxLen ∧ (i + 1) * 48 ≤ 140737488355328 := by
            have : maxLen = 9223372036854775807 := rfl
            omega
          generalize markB b c d ((a.f + i) % 256) = q at *
          simp only [encMv, encBox] at r2
          repeat' first
            | refine ev_seq (fun K hK => ?_)
            | ((first | refine evrd (id := 8) hmix tt_ok false [([], true), ([], true), ([], true), ([], true), ([], true), ([0, 1], true), ([], true), ([], true), ([], true), ([], true), ([0, 1, 2, 3, 4, 5, 6, 7, 8, 9], false), ([9], false), ([], false)] (by decide +kernel) ?_ | refine evr tt_ok false ?_ | refine ev_skip ?_ | refine ev_ret ?_ | refine ev_exit ?_ | refine evc (fun X Y hX hY => ?_)); simp only [go_sem, reduceAdd, reduceSub, reduceMul, reduceEqDiff, reduceLeDiff, Nat.reduceBEq, reduceLT, reduceIte, reduceCtorEq, Int.reduceToNat, hb0, hlt, hw, hg, hll, List.length_map, Int.toNat_natCast, Nat.zero_add, Nat.le_refl, bne_self_eq_false]; try (first | (refine ⟨fun h => hX ?_, fun h => hY ?_⟩; clear hX hY) | (refine hX ?_; clear hX hY) | (refine hY ?_; clear hX hY)))
            | refine ev_block ?_
            | (apply hK; clear hK)
            | apply_assumption -exfalso -symm only [*]
            | (refine And.intro ?_ ?_; first | omega | assumption | (unfold maxLen; omega) | (simp only [decide_eq_true_eq, decide_eq_false_iff_not, Int.not_lt, Int.not_le] at h; omega))
            | ((first | apply callP | apply callPG | apply callP0); (case' hv => (simp only [go_sem, reduceAdd, reduceSub, reduceMul, reduceEqDiff, reduceLeDiff, Nat.reduceBEq, reduceLT, reduceIte, reduceCtorEq, Int.reduceToNat, hb0, hlt, hw, hg, hll, List.length_map, Int.toNat_natCast, Nat.zero_add, Nat.le_refl, bne_self_eq_false]; try exact rfl)); (case' hp => (first | refine' r1 | (refine' (fun hg => ?_); refine' r1) | refine' r2 | (refine' (fun hg => ?_); refine' r2))); (case' h => ((first | refine evOps_fin ?_ | refine And.intro ?_ (evD_fin ?_) | refine evD_fin ?_) <;> simp only [go_sem, reduceAdd, reduceSub, reduceMul, reduceEqDiff, reduceLeDiff, Nat.reduceBEq, reduceLT, reduceIte, reduceCtorEq, Int.reduceToNat, hb0, hlt, hw, hg, hll, List.length_map, Int.toNat_natCast, Nat.zero_add, Nat.le_refl, bne_self_eq_false])))
            | (refine callX ?_; (first | refine evOps_fin ?_ | refine And.intro ?_ (evD_fin ?_) | refine evD_fin ?_) <;> simp only [go_sem, reduceAdd, reduceSub, reduceMul, reduceEqDiff, reduceLeDiff, Nat.reduceBEq, reduceLT, reduceIte, reduceCtorEq, Int.reduceToNat, hb0, hlt, hw, hg, hll, List.length_map, Int.toNat_natCast, Nat.zero_add, Nat.le_refl, bne_self_eq_false])
          refine ⟨i + 1, by omega, ?_, by omega⟩
          repeat' first | rfl | exact rowsUnder_lit _ (lit_box _) | (rw [hr]; rfl) | apply And.intro
        · obtain rfl : i = n := by omega
          have htk : List.take i ((imagesL b c d a i).map encBox) = (imagesL b c d a i).map encBox := List.take_of_length_le (by simp [hll])
          repeat' first
            | refine ev_seq (fun K hK => ?_)
            | ((first | refine evrd (id := 8) hmix tt_ok false [([], true), ([], true), ([], true), ([], true), ([], true), ([0, 1], true), ([], true), ([], true), ([], true), ([], true), ([0, 1, 2, 3, 4, 5, 6, 7, 8, 9], false), ([9], false), ([], false)] (by decide +kernel) ?_ | refine evr tt_ok false ?_ | refine ev_skip ?_ | refine ev_ret ?_ | refine ev_exit ?_ | refine evc (fun X Y hX hY => ?_)); simp only [go_sem, reduceAdd, reduceSub, reduceMul, reduceEqDiff, reduceLeDiff, Nat.reduceBEq, reduceLT, reduceIte, reduceCtorEq, Int.reduceToNat, hlt, hll, List.length_map, vrows_lit _ (lit_box (imagesL b c d a i)), Nat.le_refl, Nat.sub_zero, htk]; try (first | (refine ⟨fun h => hX ?_, fun h => hY ?_⟩; clear hX hY) | (refine hX ?_; clear hX hY) | (refine hY ?_; clear hX hY)))
            | refine ev_block ?_
            | (apply hK; clear hK)
            | apply_assumption -exfalso -symm only [*]
            | (refine And.intro ?_ ?_; first | omega | assumption | (unfold maxLen; omega) | (simp only [decide_eq_true_eq, decide_eq_false_iff_not, Int.not_lt, Int.not_le] at h; omega))
          all_goals rfl
    · rw [if_neg ho]
      have hno : ¬ ∀ i : Nat, i < n → (markB b c d ((a.f + i) % 256)).ok := fun h => ho (hmk.2 h)
      clear hmk
      simp only [encBs, List.map_nil]
      refine Pure.weak (r := .tup [.emp, .int .i64 2]) ?_ (fun E v hv => tup_fst hv fun u hu => emp_sl hu)
      (refine pure_of_ev tt_ok Try.func28 rfl (by decide +kernel) (Nat.le_of_ble_eq_true rfl) ?_; simp only [Try.f28])
      repeat' first
        | refine ev_seq (fun K hK => ?_)
        | ((first | refine evrd (id := 8) hmix tt_ok false [([], true), ([], true), ([], true), ([], true), ([], true), ([0, 1], true), ([], true), ([], true), ([], true), ([], true), ([0, 1, 2, 3, 4, 5, 6, 7, 8, 9], false), ([9], false), ([], false)] (by decide +kernel) ?_ | refine evr tt_ok false ?_ | refine ev_skip ?_ | refine ev_ret ?_ | refine ev_exit ?_ | refine evc (fun X Y hX hY => ?_)); simp only [go_sem, reduceAdd, reduceSub, reduceMul, reduceEqDiff, reduceLeDiff, Nat.reduceBEq, reduceLT, reduceIte, reduceCtorEq, Int.reduceToNat, List.length_map, hlen]; try (first | (refine ⟨fun h => hX ?_, fun h => hY ?_⟩; clear hX hY) | (refine hX ?_; clear hX hY) | (refine hY ?_; clear hX hY)))
        | refine ev_block ?_
        | (apply hK; clear hK)
        | apply_assumption -exfalso -symm only [*]
        | (refine And.intro ?_ ?_; first | omega | assumption | (unfold maxLen; omega) | (simp only [decide_eq_true_eq, decide_eq_false_iff_not, Int.not_lt, Int.not_le] at h; omega))
        | ((first | apply callP | apply callPG | apply callP0); (case' hv => (simp only [go_sem, reduceAdd, reduceSub, reduceMul, reduceEqDiff, reduceLeDiff, Nat.reduceBEq, reduceLT, reduceIte, reduceCtorEq, Int.reduceToNat, List.length_map, hlen]; try exact rfl)); (case' hp => (first | refine' v | (refine' (fun hg => ?_); refine' v) | refine' t1 | (refine' (fun hg => ?_); refine' t1) | refine' l1 | (refine' (fun hg => ?_); refine' l1))); (case' h => ((first | refine evOps_fin ?_ | refine And.intro ?_ (evD_fin ?_) | refine evD_fin ?_) <;> simp only [go_sem, reduceAdd, reduceSub, reduceMul, reduceEqDiff, reduceLeDiff, Nat.reduceBEq, reduceLT, reduceIte, reduceCtorEq, Int.reduceToNat, List.length_map, hlen])))
        | (refine callX ?_; (first | refine evOps_fin ?_ | refine And.intro ?_ (evD_fin ?_) | refine evD_fin ?_) <;> simp only [go_sem, reduceAdd, reduceSub, reduceMul, reduceEqDiff, reduceLeDiff, Nat.reduceBEq, reduceLT, reduceIte, reduceCtorEq, Int.reduceToNat, List.length_map, hlen])
      refine ev_adopt 8 33 6 (by decide) rfl ?_
      refine ev_loop (fun i : Nat => i ≤ n ∧ ∀ j : Nat, j < i → (markB b c d ((a.f + j) % 256)).ok)
        (fun i => ⟨52, [(27, .int .i64 (i : Int)), (26, .int .i64 (n : Int)), (25, .sl (List.map enI (listM a))), (8, .rs 3 i 0 i), (5, .own 2 0 0 0), (4, .own 1 0 0 0), (3, .own 0 0 0 0)],
          [.blk 33 0 6 [[.int .i64 b.x0, .int .i64 b.y0, .int .i64 b.x1, .int .i64 b.y1, .int .i64 b.f, .int .i64 b.c]], .blk 35 0 2 [[.int .i64 c.t, .int .i64 c.f]], .blk 37 0 4 [[.int .i64 d.t, .int .i64 d.l, .int .i64 d.s, .int .i64 d.r]], .blk 33 i 6 ((imagesL b c d a i).map encBox)]⟩)
        (fun i => n - i) 0 ⟨Nat.zero_le _, fun j hj => by omega⟩ ?_ ?_
      · simp only [go_sem, reduceAdd, reduceSub, reduceMul, reduceEqDiff, reduceLeDiff, Nat.reduceBEq, reduceLT, reduceIte, reduceCtorEq, Int.reduceToNat, fits, fitT, fitOs, fitO, V.under, unders, rowsUnder]
        repeat' first | rfl | exact rowsUnder_lit _ (lit_box _) | apply And.intro
      · rintro i ⟨hi, hall⟩
        have hb0 : 0 ≤ (i : Int) := by omega
        have hw : IntKind.i64.wrap ((i : Int) + 1) = ((i + 1 : Nat) : Int) := by rw [w64] <;> omega
        have hll := imagesL_len b c d a i
        by_cases hlt : (i : Int) < (n : Int)
        · have hg := get i (by omega)
          have r1 := one i (by omega)
          have r2 := two i (by omega)
          have hr := imagesL_succ b c d a i
          have hq : 1 ≤ maxLen ∧ i + 1 ≤ maxLen ∧ (i + 1) * 48 ≤ 140737488355328 := by
            have : maxLen = 9223372036854775807 := rfl
            omega
          by_cases hm : (markB b c d ((a.f + i) % 256)).ok
          · rw [if_pos hm] at r2
            have hall2 : ∀ j : Nat, j < i + 1 → (markB b c d ((a.f + j) % 256)).ok := fun j hj => by
              by_cases e : j = i
              · subst e; exact hm
              · exact hall j (by omega)
            clear hall hm
            generalize markB b c d ((a.f + i) % 256) = q at r2 hr
            simp only [encMv, encBox] at r2
            repeat' first
              | refine ev_seq (fun K hK => ?_)
              | ((first | refine evrd (id := 8) hmix tt_ok false [([], true), ([], true), ([], true), ([], true), ([], true), ([0, 1], true), ([], true), ([], true), ([], true), ([], true), ([0, 1, 2, 3, 4, 5, 6, 7, 8, 9], false), ([9], false), ([], false)] (by decide +kernel) ?_ | refine evr tt_ok false ?_ | refine ev_skip ?_ | refine ev_ret ?_ | refine ev_exit ?_ | refine evc (fun X Y hX hY => ?_)); simp only [go_sem, reduceAdd, reduceSub, reduceMul, reduceEqDiff, reduceLeDiff, Nat.reduceBEq, reduceLT, reduceIte, reduceCtorEq, Int.reduceToNat, hb0, hlt, hw, hg, hll, List.length_map, Int.toNat_natCast, Nat.zero_add, Nat.le_refl, bne_self_eq_false]; try (first | (refine ⟨fun h => hX ?_, fun h => hY ?_⟩; clear hX hY) | (refine hX ?_; clear hX hY) | (refine hY ?_; clear hX hY)))
              | refine ev_block ?_
              | (apply hK; clear hK)
              | apply_assumption -exfalso -symm only [*]
              | (refine And.intro ?_ ?_; first | omega | assumption | (unfold maxLen; omega) | (simp only [decide_eq_true_eq, decide_eq_false_iff_not, Int.not_lt, Int.not_le] at h; omega))
              | ((first | apply callP | apply callPG | apply callP0); (case' hv => (simp only [go_sem, reduceAdd, reduceSub, reduceMul, reduceEqDiff, reduceLeDiff, Nat.reduceBEq, reduceLT, reduceIte, reduceCtorEq, Int.reduceToNat, hb0, hlt, hw, hg, hll, List.length_map, Int.toNat_natCast, Nat.zero_add, Nat.le_refl, bne_self_eq_false]; try exact rfl)); (case' hp => (first | refine' r1 | (refine' (fun hg => ?_); refine' r1) | refine' r2 | (refine' (fun hg => ?_); refine' r2))); (case' h => ((first | refine evOps_fin ?_ | refine And.intro ?_ (evD_fin ?_) | refine evD_fin ?_) <;> simp only [go_sem, reduceAdd, reduceSub, reduceMul, reduceEqDiff, reduceLeDiff, Nat.reduceBEq, reduceLT, reduceIte, reduceCtorEq, Int.reduceToNat, hb0, hlt, hw, hg, hll, List.length_map, Int.toNat_natCast, Nat.zero_add, Nat.le_refl, bne_self_eq_false])))
              | (refine callX ?_; (first | refine evOps_fin ?_ | refine And.intro ?_ (evD_fin ?_) | refine evD_fin ?_) <;> simp only [go_sem, reduceAdd, reduceSub, reduceMul, reduceEqDiff, reduceLeDiff, Nat.reduceBEq, reduceLT, reduceIte, reduceCtorEq, Int.reduceToNat, hb0, hlt, hw, hg, hll, List.length_map, Int.toNat_natCast, Nat.zero_add, Nat.le_refl, bne_self_eq_false])
            refine ⟨i + 1, ⟨by omega, hall2⟩, ?_, by omega⟩
            repeat' first | rfl | exact rowsUnder_lit _ (lit_box _) | (rw [hr]; rfl) | apply And.intro
          · rw [if_neg hm] at r2
            clear hall hm
            simp only [encMv, encBox, Box.zero] at r2
            repeat' first
              | refine ev_seq (fun K hK => ?_)
              | ((first | refine evrd (id := 8) hmix tt_ok false [([], true), ([], true), ([], true), ([], true), ([], true), ([0, 1], true), ([], true), ([], true), ([], true), ([], true), ([0, 1, 2, 3, 4, 5, 6, 7, 8, 9], false), ([9], false), ([], false)] (by decide +kernel) ?_ | refine evr tt_ok false ?_ | refine ev_skip ?_ | refine ev_ret ?_ | refine ev_exit ?_ | refine evc (fun X Y hX hY => ?_)); simp only [go_sem, reduceAdd, reduceSub, reduceMul, reduceEqDiff, reduceLeDiff, Nat.reduceBEq, reduceLT, reduceIte, reduceCtorEq, Int.reduceToNat, hb0, hlt, hw, hg, hll, List.length_map, Int.toNat_natCast, Nat.zero_add, Nat.le_refl, Int.reduceBNe]; try (first | (refine ⟨fun h => hX ?_, fun h => hY ?_⟩; clear hX hY) | (refine hX ?_; clear hX hY) | (refine hY ?_; clear hX hY)))
              | refine ev_block ?_
              | (apply hK; clear hK)
              | apply_assumption -exfalso -symm only [*]
              | (refine And.intro ?_ ?_; first | omega | assumption | (unfold maxLen; omega) | (simp only [decide_eq_true_eq, decide_eq_false_iff_not, Int.not_lt, Int.not_le] at h; omega))
              | ((first | apply callP | apply callPG | apply callP0); (case' hv => (simp only [go_sem, reduceAdd, reduceSub, reduceMul, reduceEqDiff, reduceLeDiff, Nat.reduceBEq, reduceLT, reduceIte, reduceCtorEq, Int.reduceToNat, hb0, hlt, hw, hg, hll, List.length_map, Int.toNat_natCast, Nat.zero_add, Nat.le_refl, Int.reduceBNe]; try exact rfl)); (case' hp => (first | refine' r1 | (refine' (fun hg => ?_); refine' r1) | refine' r2 | (refine' (fun hg => ?_); refine' r2))); (case' h => ((first | refine evOps_fin ?_ | refine And.intro ?_ (evD_fin ?_) | refine evD_fin ?_) <;> simp only [go_sem, reduceAdd, reduceSub, reduceMul, reduceEqDiff, reduceLeDiff, Nat.reduceBEq, reduceLT, reduceIte, reduceCtorEq, Int.reduceToNat, hb0, hlt, hw, hg, hll, List.length_map, Int.toNat_natCast, Nat.zero_add, Nat.le_refl, Int.reduceBNe])))
              | (refine callX ?_; (first | refine evOps_fin ?_ | refine And.intro ?_ (evD_fin ?_) | refine evD_fin ?_) <;> simp only [go_sem, reduceAdd, reduceSub, reduceMul, reduceEqDiff, reduceLeDiff, Nat.reduceBEq, reduceLT, reduceIte, reduceCtorEq, Int.reduceToNat, hb0, hlt, hw, hg, hll, List.length_map, Int.toNat_natCast, Nat.zero_add, Nat.le_refl, Int.reduceBNe])
            all_goals rfl
        · exact absurd (fun j hj => hall j (by omega)) hno
  · rw [guard_no h] at v
    rw [if_neg h]
    simp only [encBs, List.map_nil]
    refine Pure.weak (r := .tup [.emp, .int .i64 1]) ?_ (fun E v hv => tup_fst hv fun u hu => emp_sl hu)
    (refine pure_of_ev tt_ok Try.func28 rfl (by decide +kernel) (Nat.le_of_ble_eq_true rfl) ?_; simp only [Try.f28])
    repeat' first
      | refine ev_seq (fun K hK => ?_)
      | ((first | refine evrd (id := 8) hmix tt_ok false [([], true), ([], true), ([], true), ([], true), ([], true), ([0, 1], true), ([], true), ([], true), ([], true), ([], true), ([0, 1, 2, 3, 4, 5, 6, 7, 8, 9], false), ([9], false), ([], false)] (by decide +kernel) ?_ | refine evr tt_ok false ?_ | refine ev_skip ?_ | refine ev_ret ?_ | refine ev_exit ?_ | refine evc (fun X Y hX hY => ?_)); simp only [go_sem, reduceAdd, reduceSub, reduceMul, reduceEqDiff, reduceLeDiff, Nat.reduceBEq, reduceLT, reduceIte, reduceCtorEq, Int.reduceToNat]; try (first | (refine ⟨fun h => hX ?_, fun h => hY ?_⟩; clear hX hY) | (refine hX ?_; clear hX hY) | (refine hY ?_; clear hX hY)))
      | refine ev_block ?_
      | (apply hK; clear hK)
      | apply_assumption -exfalso -symm only [*]
      | (refine And.intro ?_ ?_; first | omega | assumption | (unfold maxLen; omega) | (simp only [decide_eq_true_eq, decide_eq_false_iff_not, Int.not_lt, Int.not_le] at h; omega))
      | ((first | apply callP | apply callPG | apply callP0); (case' hv => (simp only [go_sem, reduceAdd, reduceSub, reduceMul, reduceEqDiff, reduceLeDiff, Nat.reduceBEq, reduceLT, reduceIte, reduceCtorEq, Int.reduceToNat]; try exact rfl)); (case' hp => (first | refine' v | (refine' (fun hg => ?_); refine' v))); (case' h => ((first | refine evOps_fin ?_ | refine And.intro ?_ (evD_fin ?_) | refine evD_fin ?_) <;> simp only [go_sem, reduceAdd, reduceSub, reduceMul, reduceEqDiff, reduceLeDiff, Nat.reduceBEq, reduceLT, reduceIte, reduceCtorEq, Int.reduceToNat])))
      | (refine callX ?_; (first | refine evOps_fin ?_ | refine And.intro ?_ (evD_fin ?_) | refine evD_fin ?_) <;> simp only [go_sem, reduceAdd, reduceSub, reduceMul, reduceEqDiff, reduceLeDiff, Nat.reduceBEq, reduceLT, reduceIte, reduceCtorEq, Int.reduceToNat])
    all_goals rfl
set_option maxRecDepth 20000
set_option maxHeartbeats 8000000
/-! ### Boxes -/
def setOk (l : List Box) : Prop := (l.length : Int) ≤ 16 ∧ ∀ i, i < l.length → (l.getD i Box.zero).ok
instance (l : List Box) : Decidable (setOk l) := by unfold setOk; infer_instance
def imL (l : List Box) (c : Cmd) (d : Bounds) (n : Nat) : List Box := (List.range n).map fun j => (imageM (l.getD j Box.zero) c d).b
theorem imL_len (l : List Box) (c : Cmd) (d : Bounds) (n : Nat) : (imL l c d n).length = n := by simp [imL]
theorem imL_succ (l : List Box) (c : Cmd) (d : Bounds) (n : Nat) : (imL l c d (n + 1)).map encBox = (imL l c d n).map encBox ++ [encBox (imageM (l.getD n Box.zero) c d).b] := by
  unfold imL; rw [List.range_succ, List.map_append, List.map_append]; rfl
def imOk (l : List Box) (c : Cmd) (d : Bounds) : Prop := ∀ i, i < l.length → (imageM (l.getD i Box.zero) c d).e = 0
instance (l : List Box) (c : Cmd) (d : Bounds) : Decidable (imOk l c d) := by unfold imOk; infer_instance
def bumpC (c : Cmd) (u : Bool) : Cmd := if u = true then ⟨c.t, 0⟩ else c
def boxesR (l : List Box) (c : Cmd) (d : Bounds) : BsR := if imOk l c d then ⟨imL l c d l.length, 0⟩ else ⟨[], 2⟩
def boxesM (l : List Box) (c : Cmd) (d : Bounds) (u : Bool) : BsR := if setOk l ∧ c.ok ∧ d.ok then boxesR l (bumpC c u) d else ⟨[], 1⟩
theorem bump_ok {c : Cmd} (h : c.ok) (u : Bool) : (bumpC c u).ok := by
  obtain ⟨h1, h2, h3, h4⟩ := h
  unfold bumpC
  cases u
  · exact ⟨h1, h2, h3, h4⟩
  · exact ⟨h1, h2, show (0 : Int) ≤ 0 by decide, show (0 : Int) ≤ 32 by decide⟩
theorem image_bad {b : Box} {c : Cmd} {d : Bounds} (h : b.ok ∧ c.ok ∧ d.ok) (he : ¬ (imageM b c d).e = 0) : (imageM b c d).e = 2 := by
  unfold imageM at *
  rw [if_pos h] at *
  unfold resB at *
  split
  · rename_i hh; rw [if_pos hh] at he; exact absurd rfl he
  · rfl
theorem bset_pure (l : List Box) (hl : (l.length : Int) < 4611686018427387904) : Pure Try.prog 57 [.sl (l.map encBox)] (.bool (decide (setOk l))) := by
  by_cases hn : (16 : Int) < l.length
  · have hno : decide (setOk l) = false := by rw [decide_eq_false_iff_not]; exact fun h => absurd h.1 (by omega)
    rw [hno]
    (refine pure_of_ev tt_ok Try.func57 rfl (by decide +kernel) (Nat.le_of_ble_eq_true rfl) ?_; simp only [Try.f57])
    repeat' first
      | refine ev_seq (fun K hK => ?_)
      | ((first | refine evr tt_ok false ?_ | refine ev_skip ?_ | refine ev_ret ?_ | refine ev_exit ?_ | refine evc (fun X Y hX hY => ?_)); simp only [go_sem, reduceAdd, reduceSub, reduceMul, reduceEqDiff, reduceLeDiff, Nat.reduceBEq, reduceLT, reduceIte, reduceCtorEq, Int.reduceToNat, List.length_map, hn]; try (first | (refine ⟨fun h => hX ?_, fun h => hY ?_⟩; clear hX hY) | (refine hX ?_; clear hX hY) | (refine hY ?_; clear hX hY)))
      | refine ev_block ?_
      | (apply hK; clear hK)
      | apply_assumption -exfalso -symm only [*]
      | (refine And.intro ?_ ?_; first | omega | assumption | (unfold maxLen; omega) | (simp only [decide_eq_true_eq, decide_eq_false_iff_not, Int.not_lt, Int.not_le] at h; omega))
  · (refine pure_of_ev tt_ok Try.func57 rfl (by decide +kernel) (Nat.le_of_ble_eq_true rfl) ?_; simp only [Try.f57])
    repeat' first
      | refine ev_seq (fun K hK => ?_)
      | ((first | refine evr tt_ok false ?_ | refine ev_skip ?_ | refine ev_ret ?_ | refine ev_exit ?_ | refine evc (fun X Y hX hY => ?_)); simp only [go_sem, reduceAdd, reduceSub, reduceMul, reduceEqDiff, reduceLeDiff, Nat.reduceBEq, reduceLT, reduceIte, reduceCtorEq, Int.reduceToNat, List.length_map, hn]; try (first | (refine ⟨fun h => hX ?_, fun h => hY ?_⟩; clear hX hY) | (refine hX ?_; clear hX hY) | (refine hY ?_; clear hX hY)))
      | refine ev_block ?_
      | (apply hK; clear hK)
      | apply_assumption -exfalso -symm only [*]
      | (refine And.intro ?_ ?_; first | omega | assumption | (unfold maxLen; omega) | (simp only [decide_eq_true_eq, decide_eq_false_iff_not, Int.not_lt, Int.not_le] at h; omega))
    refine ev_loop (fun i : Nat => i ≤ l.length ∧ ∀ j, j < i → (l.getD j Box.zero).ok)
      (fun i => ⟨19, [(3, .int .i64 i), (0, .sl (l.map encBox))], []⟩)
      (fun i => l.length - i) 0 ⟨Nat.zero_le _, fun j hj => by omega⟩ ?_ ?_
    · simp only [go_sem, reduceAdd, reduceSub, reduceMul, reduceEqDiff, reduceLeDiff, Nat.reduceBEq, reduceLT, reduceIte, reduceCtorEq, Int.reduceToNat, fits, fitT, fitOs, fitO, V.under, unders, rowsUnder]
      repeat' first | rfl | apply And.intro
    · rintro i ⟨hi, hall⟩
      have hb0 : 0 ≤ (i : Int) := by omega
      have hw : IntKind.i64.wrap ((i : Int) + 1) = ((i + 1 : Nat) : Int) := by rw [w64] <;> omega
      by_cases hlt : (i : Int) < l.length
      · have b := boxB_pure (l.getD i Box.zero)
        have hg := box_get l i
        by_cases hk : (l.getD i Box.zero).ok
        · rw [decide_eq_true hk] at b
          have hall2 : ∀ j, j < i + 1 → (l.getD j Box.zero).ok := fun j hj => by
            by_cases e : j = i
            · subst e; exact hk
            · exact hall j (by omega)
          clear hall hk
          generalize l.getD i Box.zero = q at hg b
          repeat' first
            | refine ev_seq (fun K hK => ?_)
            | ((first | refine evr tt_ok false ?_ | refine ev_skip ?_ | refine ev_ret ?_ | refine ev_exit ?_ | refine evc (fun X Y hX hY => ?_)); simp only [go_sem, reduceAdd, reduceSub, reduceMul, reduceEqDiff, reduceLeDiff, Nat.reduceBEq, reduceLT, reduceIte, reduceCtorEq, Int.reduceToNat, List.length_map, hb0, hw, hlt, hg, Int.toNat_natCast]; try (first | (refine ⟨fun h => hX ?_, fun h => hY ?_⟩; clear hX hY) | (refine hX ?_; clear hX hY) | (refine hY ?_; clear hX hY)))
            | refine ev_block ?_
            | (apply hK; clear hK)
            | apply_assumption -exfalso -symm only [*]
            | (refine And.intro ?_ ?_; first | omega | assumption | (unfold maxLen; omega) | (simp only [decide_eq_true_eq, decide_eq_false_iff_not, Int.not_lt, Int.not_le] at h; omega))
            | ((first | apply callP | apply callPG | apply callP0); (case' hv => (simp only [go_sem, reduceAdd, reduceSub, reduceMul, reduceEqDiff, reduceLeDiff, Nat.reduceBEq, reduceLT, reduceIte, reduceCtorEq, Int.reduceToNat, List.length_map, hb0, hw, hlt, hg, Int.toNat_natCast]; try exact rfl)); (case' hp => (first | refine' b | (refine' (fun hg => ?_); refine' b))); (case' h => ((first | refine evOps_fin ?_ | refine And.intro ?_ (evD_fin ?_) | refine evD_fin ?_) <;> simp only [go_sem, reduceAdd, reduceSub, reduceMul, reduceEqDiff, reduceLeDiff, Nat.reduceBEq, reduceLT, reduceIte, reduceCtorEq, Int.reduceToNat, List.length_map, hb0, hw, hlt, hg, Int.toNat_natCast])))
            | (refine callX ?_; (first | refine evOps_fin ?_ | refine And.intro ?_ (evD_fin ?_) | refine evD_fin ?_) <;> simp only [go_sem, reduceAdd, reduceSub, reduceMul, reduceEqDiff, reduceLeDiff, Nat.reduceBEq, reduceLT, reduceIte, reduceCtorEq, Int.reduceToNat, List.length_map, hb0, hw, hlt, hg, Int.toNat_natCast])
          exact ⟨i + 1, ⟨by omega, hall2⟩, by (repeat' first | rfl | apply And.intro), by omega⟩
        · rw [decide_eq_false hk] at b
          have hno : decide (setOk l) = false := by rw [decide_eq_false_iff_not]; exact fun h => hk (h.2 i (by omega))
          rw [hno]
          clear hall hk hno
          generalize l.getD i Box.zero = q at hg b
          repeat' first
            | refine ev_seq (fun K hK => ?_)
            | ((first | refine evr tt_ok false ?_ | refine ev_skip ?_ | refine ev_ret ?_ | refine ev_exit ?_ | refine evc (fun X Y hX hY => ?_)); simp only [go_sem, reduceAdd, reduceSub, reduceMul, reduceEqDiff, reduceLeDiff, Nat.reduceBEq, reduceLT, reduceIte, reduceCtorEq, Int.reduceToNat, List.length_map, hb0, hw, hlt, hg, Int.toNat_natCast]; try (first | (refine ⟨fun h => hX ?_, fun h => hY ?_⟩; clear hX hY) | (refine hX ?_; clear hX hY) | (refine hY ?_; clear hX hY)))
            | refine ev_block ?_
            | (apply hK; clear hK)
            | apply_assumption -exfalso -symm only [*]
            | (refine And.intro ?_ ?_; first | omega | assumption | (unfold maxLen; omega) | (simp only [decide_eq_true_eq, decide_eq_false_iff_not, Int.not_lt, Int.not_le] at h; omega))
            | ((first | apply callP | apply callPG | apply callP0); (case' hv => (simp only [go_sem, reduceAdd, reduceSub, reduceMul, reduceEqDiff, reduceLeDiff, Nat.reduceBEq, reduceLT, reduceIte, reduceCtorEq, Int.reduceToNat, List.length_map, hb0, hw, hlt, hg, Int.toNat_natCast]; try exact rfl)); (case' hp => (first | refine' b | (refine' (fun hg => ?_); refine' b))); (case' h => ((first | refine evOps_fin ?_ | refine And.intro ?_ (evD_fin ?_) | refine evD_fin ?_) <;> simp only [go_sem, reduceAdd, reduceSub, reduceMul, reduceEqDiff, reduceLeDiff, Nat.reduceBEq, reduceLT, reduceIte, reduceCtorEq, Int.reduceToNat, List.length_map, hb0, hw, hlt, hg, Int.toNat_natCast])))
            | (refine callX ?_; (first | refine evOps_fin ?_ | refine And.intro ?_ (evD_fin ?_) | refine evD_fin ?_) <;> simp only [go_sem, reduceAdd, reduceSub, reduceMul, reduceEqDiff, reduceLeDiff, Nat.reduceBEq, reduceLT, reduceIte, reduceCtorEq, Int.reduceToNat, List.length_map, hb0, hw, hlt, hg, Int.toNat_natCast])
      · obtain rfl : i = l.length := by omega
        have hyes : decide (setOk l) = true := by rw [decide_eq_true_eq]; exact ⟨by omega, fun j hj => hall j hj⟩
        repeat' first
          | refine ev_seq (fun K hK => ?_)
          | ((first | refine evr tt_ok false ?_ | refine ev_skip ?_ | refine ev_ret ?_ | refine ev_exit ?_ | refine evc (fun X Y hX hY => ?_)); simp only [go_sem, reduceAdd, reduceSub, reduceMul, reduceEqDiff, reduceLeDiff, Nat.reduceBEq, reduceLT, reduceIte, reduceCtorEq, Int.reduceToNat, List.length_map, hlt]; try (first | (refine ⟨fun h => hX ?_, fun h => hY ?_⟩; clear hX hY) | (refine hX ?_; clear hX hY) | (refine hY ?_; clear hX hY)))
          | refine ev_block ?_
          | (apply hK; clear hK)
          | apply_assumption -exfalso -symm only [*]
          | (refine And.intro ?_ ?_; first | omega | assumption | (unfold maxLen; omega) | (simp only [decide_eq_true_eq, decide_eq_false_iff_not, Int.not_lt, Int.not_le] at h; omega))
        rw [hyes]
theorem boxes23_pure (l : List Box) (hl : (l.length : Int) < 4611686018427387904) (c : Cmd) (d : Bounds) (u : Bool) : Pure Try.prog 24 [.sl (l.map encBox), .agg [.int .i64 c.t, .int .i64 c.f], .agg [.int .i64 d.t, .int .i64 d.l, .int .i64 d.s, .int .i64 d.r], .bool u] (encBs (boxesM l c d u)) := by
  have vc := vcmd_pure c
  have vd := vbounds_pure d
  unfold boxesM
  by_cases hn : (16 : Int) < l.length
  · rw [if_neg (fun h => absurd h.1.1 (by omega))]
    simp only [encBs, List.map_nil]
    refine Pure.weak (r := .tup [.emp, .int .i64 1]) ?_ (fun E v hv => tup_fst hv fun u hu => emp_sl hu)
    (refine pure_of_ev tt_ok Try.func24 rfl (by decide +kernel) (Nat.le_of_ble_eq_true rfl) ?_; simp only [Try.f24])
    repeat' first
      | refine ev_seq (fun K hK => ?_)
      | ((first | refine evr tt_ok false ?_ | refine ev_skip ?_ | refine ev_ret ?_ | refine ev_exit ?_ | refine evc (fun X Y hX hY => ?_)); simp only [go_sem, reduceAdd, reduceSub, reduceMul, reduceEqDiff, reduceLeDiff, Nat.reduceBEq, reduceLT, reduceIte, reduceCtorEq, Int.reduceToNat, List.length_map, hn]; try (first | (refine ⟨fun h => hX ?_, fun h => hY ?_⟩; clear hX hY) | (refine hX ?_; clear hX hY) | (refine hY ?_; clear hX hY)))
      | refine ev_block ?_
      | (apply hK; clear hK)
      | apply_assumption -exfalso -symm only [*]
      | (refine And.intro ?_ ?_; first | omega | assumption | (unfold maxLen; omega) | (simp only [decide_eq_true_eq, decide_eq_false_iff_not, Int.not_lt, Int.not_le] at h; omega))
      | ((first | apply callP | apply callPG | apply callP0); (case' hv => (simp only [go_sem, reduceAdd, reduceSub, reduceMul, reduceEqDiff, reduceLeDiff, Nat.reduceBEq, reduceLT, reduceIte, reduceCtorEq, Int.reduceToNat, List.length_map, hn]; try exact rfl)); (case' hp => (first | refine' vc | (refine' (fun hg => ?_); refine' vc) | refine' vd | (refine' (fun hg => ?_); refine' vd))); (case' h => ((first | refine evOps_fin ?_ | refine And.intro ?_ (evD_fin ?_) | refine evD_fin ?_) <;> simp only [go_sem, reduceAdd, reduceSub, reduceMul, reduceEqDiff, reduceLeDiff, Nat.reduceBEq, reduceLT, reduceIte, reduceCtorEq, Int.reduceToNat, List.length_map, hn])))
      | (refine callX ?_; (first | refine evOps_fin ?_ | refine And.intro ?_ (evD_fin ?_) | refine evD_fin ?_) <;> simp only [go_sem, reduceAdd, reduceSub, reduceMul, reduceEqDiff, reduceLeDiff, Nat.reduceBEq, reduceLT, reduceIte, reduceCtorEq, Int.reduceToNat, List.length_map, hn])
    all_goals rfl
  · by_cases hc : c.ok
    · rw [decide_eq_true hc] at vc
      by_cases hd : d.ok
      · rw [decide_eq_true hd] at vd
        have vb := fun i => vbox_pure (l.getD i Box.zero)
        by_cases hs : ∀ i, i < l.length → (l.getD i Box.zero).ok
        · rw [if_pos ⟨⟨by omega, hs⟩, hc, hd⟩]
          obtain ⟨c', hc'⟩ : ∃ c', c' = bumpC c u := ⟨_, rfl⟩
          have e1 : c'.t = c.t := by rw [hc']; unfold bumpC; split <;> rfl
          have hu : (u = true ∧ c'.f = 0) ∨ (u = false ∧ c'.f = c.f) := by
            cases u
            · exact .inr ⟨rfl, by rw [hc']; rfl⟩
            · exact .inl ⟨rfl, by rw [hc']; rfl⟩
          have hok : c'.ok := by rw [hc']; exact bump_ok hc u
          have hres : boxesR l (bumpC c u) d = if imOk l c' d then ⟨imL l c' d l.length, 0⟩ else ⟨[], 2⟩ := by rw [← hc']; rfl
          rw [hres]
          clear hres hc'
          have im := fun i => image_pure (l.getD i Box.zero) c' d
          have ib := fun i (hi : i < l.length) => @image_bad (l.getD i Box.zero) c' d ⟨hs i hi, hok, hd⟩
          by_cases hio : imOk l c' d
          · rw [if_pos hio]
            have hsu := imL_succ l c' d
            have hll := imL_len l c' d
            have hzz : imL l c' d 0 = [] := rfl
            unfold imOk at hio
            simp only [encBs, encMv] at *
            generalize imL l c' d = M at *
            (refine pure_of_ev tt_ok Try.func24 rfl (by decide +kernel) (Nat.le_of_ble_eq_true rfl) ?_; simp only [Try.f24])
            repeat' first
              | refine ev_seq (fun K hK => ?_)
              | ((first | refine evr tt_ok false ?_ | refine ev_skip ?_ | refine ev_ret ?_ | refine ev_exit ?_ | refine evc (fun X Y hX hY => ?_)); simp only [go_sem, reduceAdd, reduceSub, reduceMul, reduceEqDiff, reduceLeDiff, Nat.reduceBEq, reduceLT, reduceIte, reduceCtorEq, Int.reduceToNat, List.length_map, hn]; try (first | (refine ⟨fun h => hX ?_, fun h => hY ?_⟩; clear hX hY) | (refine hX ?_; clear hX hY) | (refine hY ?_; clear hX hY)))
              | refine ev_block ?_
              | (apply hK; clear hK)
              | apply_assumption -exfalso -symm only [*]
              | (refine And.intro ?_ ?_; first | omega | assumption | (unfold maxLen; omega) | (simp only [decide_eq_true_eq, decide_eq_false_iff_not, Int.not_lt, Int.not_le] at h; omega))
              | ((first | apply callP | apply callPG | apply callP0); (case' hv => (simp only [go_sem, reduceAdd, reduceSub, reduceMul, reduceEqDiff, reduceLeDiff, Nat.reduceBEq, reduceLT, reduceIte, reduceCtorEq, Int.reduceToNat, List.length_map, hn]; try exact rfl)); (case' hp => (first | refine' vc | (refine' (fun hg => ?_); refine' vc) | refine' vd | (refine' (fun hg => ?_); refine' vd))); (case' h => ((first | refine evOps_fin ?_ | refine And.intro ?_ (evD_fin ?_) | refine evD_fin ?_) <;> simp only [go_sem, reduceAdd, reduceSub, reduceMul, reduceEqDiff, reduceLeDiff, Nat.reduceBEq, reduceLT, reduceIte, reduceCtorEq, Int.reduceToNat, List.length_map, hn])))
              | (refine callX ?_; (first | refine evOps_fin ?_ | refine And.intro ?_ (evD_fin ?_) | refine evD_fin ?_) <;> simp only [go_sem, reduceAdd, reduceSub, reduceMul, reduceEqDiff, reduceLeDiff, Nat.reduceBEq, reduceLT, reduceIte, reduceCtorEq, Int.reduceToNat, List.length_map, hn])
            refine ev_loop (fun i : Nat => i ≤ l.length)
              (fun i => ⟨64, [(32, .int .i64 i), (31, .int .i64 l.length), (30, .sl (l.map encBox)), (6, .own 1 0 0 0), (5, .own 0 0 0 0), (3, .bool u), (0, .sl (l.map encBox))],
                [.blk 35 0 2 [[.int .i64 c.t, .int .i64 c.f]], .blk 37 0 4 [[.int .i64 d.t, .int .i64 d.l, .int .i64 d.s, .int .i64 d.r]]]⟩)
              (fun i => l.length - i) 0 (Nat.zero_le _) ?_ ?_
            · simp only [go_sem, reduceAdd, reduceSub, reduceMul, reduceEqDiff, reduceLeDiff, Nat.reduceBEq, reduceLT, reduceIte, reduceCtorEq, Int.reduceToNat, fits, fitT, fitOs, fitO, V.under, unders, rowsUnder]
              repeat' first | rfl | apply And.intro
            · intro i hi
              have hb0 : 0 ≤ (i : Int) := by omega
              have hw : IntKind.i64.wrap ((i : Int) + 1) = ((i + 1 : Nat) : Int) := by rw [w64] <;> omega
              by_cases hlt : (i : Int) < l.length
              · have b := vb i
                have hg := box_get l i
                rw [decide_eq_true (hs i (by omega))] at b
                generalize l.getD i Box.zero = q at hg b
                repeat' first
                  | refine ev_seq (fun K hK => ?_)
                  | ((first | refine evr tt_ok false ?_ | refine ev_skip ?_ | refine ev_ret ?_ | refine ev_exit ?_ | refine evc (fun X Y hX hY => ?_)); simp only [go_sem, reduceAdd, reduceSub, reduceMul, reduceEqDiff, reduceLeDiff, Nat.reduceBEq, reduceLT, reduceIte, reduceCtorEq, Int.reduceToNat, List.length_map, hb0, hw, hlt, hg, Int.toNat_natCast]; try (first | (refine ⟨fun h => hX ?_, fun h => hY ?_⟩; clear hX hY) | (refine hX ?_; clear hX hY) | (refine hY ?_; clear hX hY)))
                  | refine ev_block ?_
                  | (apply hK; clear hK)
                  | apply_assumption -exfalso -symm only [*]
                  | (refine And.intro ?_ ?_; first | omega | assumption | (unfold maxLen; omega) | (simp only [decide_eq_true_eq, decide_eq_false_iff_not, Int.not_lt, Int.not_le] at h; omega))
                  | ((first | apply callP | apply callPG | apply callP0); (case' hv => (simp only [go_sem, reduceAdd, reduceSub, reduceMul, reduceEqDiff, reduceLeDiff, Nat.reduceBEq, reduceLT, reduceIte, reduceCtorEq, Int.reduceToNat, List.length_map, hb0, hw, hlt, hg, Int.toNat_natCast]; try exact rfl)); (case' hp => (first | refine' b | (refine' (fun hg => ?_); refine' b))); (case' h => ((first | refine evOps_fin ?_ | refine And.intro ?_ (evD_fin ?_) | refine evD_fin ?_) <;> simp only [go_sem, reduceAdd, reduceSub, reduceMul, reduceEqDiff, reduceLeDiff, Nat.reduceBEq, reduceLT, reduceIte, reduceCtorEq, Int.reduceToNat, List.length_map, hb0, hw, hlt, hg, Int.toNat_natCast])))
                  | (refine callX ?_; (first | refine evOps_fin ?_ | refine And.intro ?_ (evD_fin ?_) | refine evD_fin ?_) <;> simp only [go_sem, reduceAdd, reduceSub, reduceMul, reduceEqDiff, reduceLeDiff, Nat.reduceBEq, reduceLT, reduceIte, reduceCtorEq, Int.reduceToNat, List.length_map, hb0, hw, hlt, hg, Int.toNat_natCast])
                exact ⟨i + 1, by omega, by (repeat' first | rfl | apply And.intro), by omega⟩
              · obtain rfl : i = l.length := by omega
                rcases hu with ⟨hu, e2⟩ | ⟨hu, e2⟩
                all_goals
                  subst hu
                  repeat' first
                    | refine ev_seq (fun K hK => ?_)
                    | ((first | refine evr tt_ok false ?_ | refine ev_skip ?_ | refine ev_ret ?_ | refine ev_exit ?_ | refine evc (fun X Y hX hY => ?_)); simp only [go_sem, reduceAdd, reduceSub, reduceMul, reduceEqDiff, reduceLeDiff, Nat.reduceBEq, reduceLT, reduceIte, reduceCtorEq, Int.reduceToNat, List.length_map, hlt]; try (first | (refine ⟨fun h => hX ?_, fun h => hY ?_⟩; clear hX hY) | (refine hX ?_; clear hX hY) | (refine hY ?_; clear hX hY)))
                    | refine ev_block ?_
                    | (apply hK; clear hK)
                    | apply_assumption -exfalso -symm only [*]
                    | (refine And.intro ?_ ?_; first | omega | assumption | (unfold maxLen; omega) | (simp only [decide_eq_true_eq, decide_eq_false_iff_not, Int.not_lt, Int.not_le] at h; omega))
                  refine ev_adopt 12 33 6 (by decide) rfl ?_
                  refine ev_loop (fun i : Nat => i ≤ l.length)
                    (fun i => ⟨64, [(44, .int .i64 i), (43, .int .i64 l.length), (42, .sl (l.map encBox)), (12, .rs 2 i 0 i), (6, .own 1 0 0 0), (5, .own 0 0 0 0)],
                      [.blk 35 0 2 [[.int .i64 c'.t, .int .i64 c'.f]], .blk 37 0 4 [[.int .i64 d.t, .int .i64 d.l, .int .i64 d.s, .int .i64 d.r]], .blk 33 i 6 ((M i).map encBox)]⟩)
                    (fun i => l.length - i) 0 (Nat.zero_le _) ?_ ?_
                  · simp only [go_sem, reduceAdd, reduceSub, reduceMul, reduceEqDiff, reduceLeDiff, Nat.reduceBEq, reduceLT, reduceIte, reduceCtorEq, Int.reduceToNat, fits, fitT, fitOs, fitO, V.under, unders, rowsUnder, hzz, e1, e2]
                    repeat' first | rfl | exact rowsUnder_lit _ (lit_box _) | apply And.intro
                  · intro i hi
                    have hb0 : 0 ≤ (i : Int) := by omega
                    have hw : IntKind.i64.wrap ((i : Int) + 1) = ((i + 1 : Nat) : Int) := by rw [w64] <;> omega
                    have hli := hll i
                    by_cases hlt : (i : Int) < l.length
                    · have hg := box_get l i
                      have b := im i
                      have hr := hsu i
                      have he := hio i (by omega)
                      have hq : 1 ≤ maxLen ∧ i + 1 ≤ maxLen ∧ (i + 1) * 48 ≤ 140737488355328 := by
                        have : maxLen = 9223372036854775807 := rfl
                        omega
                      generalize imageM (l.getD i Box.zero) c' d = R at b hr he
                      rw [he] at b
                      generalize l.getD i Box.zero = q at hg b
                      simp only [encBox] at b
                      repeat' first
                        | refine ev_seq (fun K hK => ?_)
                        | ((first | refine evr tt_ok false ?_ | refine ev_skip ?_ | refine ev_ret ?_ | refine ev_exit ?_ | refine evc (fun X Y hX hY => ?_)); simp only [go_sem, reduceAdd, reduceSub, reduceMul, reduceEqDiff, reduceLeDiff, Nat.reduceBEq, reduceLT, reduceIte, reduceCtorEq, Int.reduceToNat, hb0, hlt, hw, hg, hli, List.length_map, Int.toNat_natCast, Nat.le_refl, bne_self_eq_false]; try (first | (refine ⟨fun h => hX ?_, fun h => hY ?_⟩; clear hX hY) | (refine hX ?_; clear hX hY) | (refine hY ?_; clear hX hY)))
                        | refine ev_block ?_
                        | (apply hK; clear hK)
                        | apply_assumption -exfalso -symm only [*]
                        | (refine And.intro ?_ ?_; first | omega | assumption | (unfold maxLen; omega) | (simp only [decide_eq_true_eq, decide_eq_false_iff_not, Int.not_lt, Int.not_le] at h; omega))
                        | ((first | apply callP | apply callPG | apply callP0); (case' hv => (simp only [go_sem, reduceAdd, reduceSub, reduceMul, reduceEqDiff, reduceLeDiff, Nat.reduceBEq, reduceLT, reduceIte, reduceCtorEq, Int.reduceToNat, hb0, hlt, hw, hg, hli, List.length_map, Int.toNat_natCast, Nat.le_refl, bne_self_eq_false]; try exact rfl)); (case' hp => (first | refine' b | (refine' (fun hg => ?_); refine' b))); (case' h => ((first | refine evOps_fin ?_ | refine And.intro ?_ (evD_fin ?_) | refine evD_fin ?_) <;> simp only [go_sem, reduceAdd, reduceSub, reduceMul, reduceEqDiff, reduceLeDiff, Nat.reduceBEq, reduceLT, reduceIte, reduceCtorEq, Int.reduceToNat, hb0, hlt, hw, hg, hli, List.length_map, Int.toNat_natCast, Nat.le_refl, bne_self_eq_false])))
                        | (refine callX ?_; (first | refine evOps_fin ?_ | refine And.intro ?_ (evD_fin ?_) | refine evD_fin ?_) <;> simp only [go_sem, reduceAdd, reduceSub, reduceMul, reduceEqDiff, reduceLeDiff, Nat.reduceBEq, reduceLT, reduceIte, reduceCtorEq, Int.reduceToNat, hb0, hlt, hw, hg, hli, List.length_map, Int.toNat_natCast, Nat.le_refl, bne_self_eq_false])
                      refine ⟨i + 1, by omega, ?_, by omega⟩
                      repeat' first | rfl | exact rowsUnder_lit _ (lit_box _) | (rw [hr]; rfl) | apply And.intro
                    · obtain rfl : i = l.length := by omega
                      have htk : List.take l.length ((M l.length).map encBox) = (M l.length).map encBox := List.take_of_length_le (by simp [hll])
                      repeat' first
                        | refine ev_seq (fun K hK => ?_)
                        | ((first | refine evr tt_ok false ?_ | refine ev_skip ?_ | refine ev_ret ?_ | refine ev_exit ?_ | refine evc (fun X Y hX hY => ?_)); simp only [go_sem, reduceAdd, reduceSub, reduceMul, reduceEqDiff, reduceLeDiff, Nat.reduceBEq, reduceLT, reduceIte, reduceCtorEq, Int.reduceToNat, hlt, hli, List.length_map, vrows_lit _ (lit_box (M l.length)), Nat.le_refl, Nat.sub_zero, htk]; try (first | (refine ⟨fun h => hX ?_, fun h => hY ?_⟩; clear hX hY) | (refine hX ?_; clear hX hY) | (refine hY ?_; clear hX hY)))
                        | refine ev_block ?_
                        | (apply hK; clear hK)
                        | apply_assumption -exfalso -symm only [*]
                        | (refine And.intro ?_ ?_; first | omega | assumption | (unfold maxLen; omega) | (simp only [decide_eq_true_eq, decide_eq_false_iff_not, Int.not_lt, Int.not_le] at h; omega))
                      all_goals rfl
          · rw [if_neg hio]
            have hsu := imL_succ l c' d
            have hll := imL_len l c' d
            have hzz : imL l c' d 0 = [] := rfl
            unfold imOk at hio
            simp only [encBs, encMv, List.map_nil] at *
            generalize imL l c' d = M at *
            refine Pure.weak (r := .tup [.emp, .int .i64 2]) ?_ (fun E v hv => tup_fst hv fun u hu => emp_sl hu)
            (refine pure_of_ev tt_ok Try.func24 rfl (by decide +kernel) (Nat.le_of_ble_eq_true rfl) ?_; simp only [Try.f24])
            repeat' first
              | refine ev_seq (fun K hK => ?_)
              | ((first | refine evr tt_ok false ?_ | refine ev_skip ?_ | refine ev_ret ?_ | refine ev_exit ?_ | refine evc (fun X Y hX hY => ?_)); simp only [go_sem, reduceAdd, reduceSub, reduceMul, reduceEqDiff, reduceLeDiff, Nat.reduceBEq, reduceLT, reduceIte, reduceCtorEq, Int.reduceToNat, List.length_map, hn]; try (first | (refine ⟨fun h => hX ?_, fun h => hY ?_⟩; clear hX hY) | (refine hX ?_; clear hX hY) | (refine hY ?_; clear hX hY)))
              | refine ev_block ?_
              | (apply hK; clear hK)
              | apply_assumption -exfalso -symm only [*]
              | (refine And.intro ?_ ?_; first | omega | assumption | (unfold maxLen; omega) | (simp only [decide_eq_true_eq, decide_eq_false_iff_not, Int.not_lt, Int.not_le] at h; omega))
              | ((first | apply callP | apply callPG | apply callP0); (case' hv => (simp only [go_sem, reduceAdd, reduceSub, reduceMul, reduceEqDiff, reduceLeDiff, Nat.reduceBEq, reduceLT, reduceIte, reduceCtorEq, Int.reduceToNat, List.length_map, hn]; try exact rfl)); (case' hp => (first | refine' vc | (refine' (fun hg => ?_); refine' vc) | refine' vd | (refine' (fun hg => ?_); refine' vd))); (case' h => ((first | refine evOps_fin ?_ | refine And.intro ?_ (evD_fin ?_) | refine evD_fin ?_) <;> simp only [go_sem, reduceAdd, reduceSub, reduceMul, reduceEqDiff, reduceLeDiff, Nat.reduceBEq, reduceLT, reduceIte, reduceCtorEq, Int.reduceToNat, List.length_map, hn])))
              | (refine callX ?_; (first | refine evOps_fin ?_ | refine And.intro ?_ (evD_fin ?_) | refine evD_fin ?_) <;> simp only [go_sem, reduceAdd, reduceSub, reduceMul, reduceEqDiff, reduceLeDiff, Nat.reduceBEq, reduceLT, reduceIte, reduceCtorEq, Int.reduceToNat, List.length_map, hn])
            refine ev_loop (fun i : Nat => i ≤ l.length)
              (fun i => ⟨64, [(32, .int .i64 i), (31, .int .i64 l.length), (30, .sl (l.map encBox)), (6, .own 1 0 0 0), (5, .own 0 0 0 0), (3, .bool u), (0, .sl (l.map encBox))],
                [.blk 35 0 2 [[.int .i64 c.t, .int .i64 c.f]], .blk 37 0 4 [[.int .i64 d.t, .int .i64 d.l, .int .i64 d.s, .int .i64 d.r]]]⟩)
              (fun i => l.length - i) 0 (Nat.zero_le _) ?_ ?_
            · simp only [go_sem, reduceAdd, reduceSub, reduceMul, reduceEqDiff, reduceLeDiff, Nat.reduceBEq, reduceLT, reduceIte, reduceCtorEq, Int.reduceToNat, fits, fitT, fitOs, fitO, V.under, unders, rowsUnder]
              repeat' first | rfl | apply And.intro
            · intro i hi
              have hb0 : 0 ≤ (i : Int) := by omega
              have hw : IntKind.i64.wrap ((i : Int) + 1) = ((i + 1 : Nat) : Int) := by rw [w64] <;> omega
              by_cases hlt : (i : Int) < l.length
              · have b := vb i
                have hg := box_get l i
                rw [decide_eq_true (hs i (by omega))] at b
                generalize l.getD i Box.zero = q at hg b
                repeat' first
                  | refine ev_seq (fun K hK => ?_)
                  | ((first | refine evr tt_ok false ?_ | refine ev_skip ?_ | refine ev_ret ?_ | refine ev_exit ?_ | refine evc (fun X Y hX hY => ?_)); simp only [go_sem, reduceAdd, reduceSub, reduceMul, reduceEqDiff, reduceLeDiff, Nat.reduceBEq, reduceLT, reduceIte, reduceCtorEq, Int.reduceToNat, List.length_map, hb0, hw, hlt, hg, Int.toNat_natCast]; try (first | (refine ⟨fun h => hX ?_, fun h => hY ?_⟩; clear hX hY) | (refine hX ?_; clear hX hY) | (refine hY ?_; clear hX hY)))
                  | refine ev_block ?_
                  | (apply hK; clear hK)
                  | apply_assumption -exfalso -symm only [*]
                  | (refine And.intro ?_ ?_; first | omega | assumption | (unfold maxLen; omega) | (simp only [decide_eq_true_eq, decide_eq_false_iff_not, Int.not_lt, Int.not_le] at h; omega))
                  | ((first | apply callP | apply callPG | apply callP0); (case' hv => (simp only [go_sem, reduceAdd, reduceSub, reduceMul, reduceEqDiff, reduceLeDiff, Nat.reduceBEq, reduceLT, reduceIte, reduceCtorEq, Int.reduceToNat, List.length_map, hb0, hw, hlt, hg, Int.toNat_natCast]; try exact rfl)); (case' hp => (first | refine' b | (refine' (fun hg => ?_); refine' b))); (case' h => ((first | refine evOps_fin ?_ | refine And.intro ?_ (evD_fin ?_) | refine evD_fin ?_) <;> simp only [go_sem, reduceAdd, reduceSub, reduceMul, reduceEqDiff, reduceLeDiff, Nat.reduceBEq, reduceLT, reduceIte, reduceCtorEq, Int.reduceToNat, List.length_map, hb0, hw, hlt, hg, Int.toNat_natCast])))
                  | (refine callX ?_; (first | refine evOps_fin ?_ | refine And.intro ?_ (evD_fin ?_) | refine evD_fin ?_) <;> simp only [go_sem, reduceAdd, reduceSub, reduceMul, reduceEqDiff, reduceLeDiff, Nat.reduceBEq, reduceLT, reduceIte, reduceCtorEq, Int.reduceToNat, List.length_map, hb0, hw, hlt, hg, Int.toNat_natCast])
                exact ⟨i + 1, by omega, by (repeat' first | rfl | apply And.intro), by omega⟩
              · obtain rfl : i = l.length := by omega
                rcases hu with ⟨hu, e2⟩ | ⟨hu, e2⟩
                all_goals
                  subst hu
                  repeat' first
                    | refine ev_seq (fun K hK => ?_)
                    | ((first | refine evr tt_ok false ?_ | refine ev_skip ?_ | refine ev_ret ?_ | refine ev_exit ?_ | refine evc (fun X Y hX hY => ?_)); simp only [go_sem, reduceAdd, reduceSub, reduceMul, reduceEqDiff, reduceLeDiff, Nat.reduceBEq, reduceLT, reduceIte, reduceCtorEq, Int.reduceToNat, List.length_map, hlt]; try (first | (refine ⟨fun h => hX ?_, fun h => hY ?_⟩; clear hX hY) | (refine hX ?_; clear hX hY) | (refine hY ?_; clear hX hY)))
                    | refine ev_block ?_
                    | (apply hK; clear hK)
                    | apply_assumption -exfalso -symm only [*]
                    | (refine And.intro ?_ ?_; first | omega | assumption | (unfold maxLen; omega) | (simp only [decide_eq_true_eq, decide_eq_false_iff_not, Int.not_lt, Int.not_le] at h; omega))
                  refine ev_adopt 12 33 6 (by decide) rfl ?_
                  refine ev_loop (fun i : Nat => i ≤ l.length ∧ ∀ j, j < i → (imageM (l.getD j Box.zero) c' d).e = 0)
                    (fun i => ⟨64, [(44, .int .i64 i), (43, .int .i64 l.length), (42, .sl (l.map encBox)), (12, .rs 2 i 0 i), (6, .own 1 0 0 0), (5, .own 0 0 0 0)],
                      [.blk 35 0 2 [[.int .i64 c'.t, .int .i64 c'.f]], .blk 37 0 4 [[.int .i64 d.t, .int .i64 d.l, .int .i64 d.s, .int .i64 d.r]], .blk 33 i 6 ((M i).map encBox)]⟩)
                    (fun i => l.length - i) 0 ⟨Nat.zero_le _, fun j hj => by omega⟩ ?_ ?_
                  · simp only [go_sem, reduceAdd, reduceSub, reduceMul, reduceEqDiff, reduceLeDiff, Nat.reduceBEq, reduceLT, reduceIte, reduceCtorEq, Int.reduceToNat, fits, fitT, fitOs, fitO, V.under, unders, rowsUnder, hzz, e1, e2]
                    repeat' first | rfl | exact rowsUnder_lit _ (lit_box _) | apply And.intro
                  · rintro i ⟨hi, hall⟩
                    have hb0 : 0 ≤ (i : Int) := by omega
                    have hw : IntKind.i64.wrap ((i : Int) + 1) = ((i + 1 : Nat) : Int) := by rw [w64] <;> omega
                    have hli := hll i
                    by_cases hlt : (i : Int) < l.length
                    · have hg := box_get l i
                      have b := im i
                      have hr := hsu i
                      have hbd := ib i (by omega)
                      have hq : 1 ≤ maxLen ∧ i + 1 ≤ maxLen ∧ (i + 1) * 48 ≤ 140737488355328 := by
                        have : maxLen = 9223372036854775807 := rfl
                        omega
                      by_cases he : (imageM (l.getD i Box.zero) c' d).e = 0
                      · have hall2 : ∀ j, j < i + 1 → (imageM (l.getD j Box.zero) c' d).e = 0 := fun j hj => by
                          by_cases e : j = i
                          · subst e; exact he
                          · exact hall j (by omega)
                        clear hall hbd
                        generalize imageM (l.getD i Box.zero) c' d = R at b hr he
                        rw [he] at b
                        generalize l.getD i Box.zero = q at hg b
                        simp only [encBox] at b
                        repeat' first
                          | refine ev_seq (fun K hK => ?_)
                          | ((first | refine evr tt_ok false ?_ | refine ev_skip ?_ | refine ev_ret ?_ | refine ev_exit ?_ | refine evc (fun X Y hX hY => ?_)); simp only [go_sem, reduceAdd, reduceSub, reduceMul, reduceEqDiff, reduceLeDiff, Nat.reduceBEq, reduceLT, reduceIte, reduceCtorEq, Int.reduceToNat, hb0, hlt, hw, hg, hli, List.length_map, Int.toNat_natCast, Nat.le_refl, bne_self_eq_false]; try (first | (refine ⟨fun h => hX ?_, fun h => hY ?_⟩; clear hX hY) | (refine hX ?_; clear hX hY) | (refine hY ?_; clear hX hY)))
                          | refine ev_block ?_
                          | (apply hK; clear hK)
                          | apply_assumption -exfalso -symm only [*]
                          | (refine And.intro ?_ ?_; first | omega | assumption | (unfold maxLen; omega) | (simp only [decide_eq_true_eq, decide_eq_false_iff_not, Int.not_lt, Int.not_le] at h; omega))
                          | ((first | apply callP | apply callPG | apply callP0); (case' hv => (simp only [go_sem, reduceAdd, reduceSub, reduceMul, reduceEqDiff, reduceLeDiff, Nat.reduceBEq, reduceLT, reduceIte, reduceCtorEq, Int.reduceToNat, hb0, hlt, hw, hg, hli, List.length_map, Int.toNat_natCast, Nat.le_refl, bne_self_eq_false]; try exact rfl)); (case' hp => (first | refine' b | (refine' (fun hg => ?_); refine' b))); (case' h => ((first | refine evOps_fin ?_ | refine And.intro ?_ (evD_fin ?_) | refine evD_fin ?_) <;> simp only [go_sem, reduceAdd, reduceSub, reduceMul, reduceEqDiff, reduceLeDiff, Nat.reduceBEq, reduceLT, reduceIte, reduceCtorEq, Int.reduceToNat, hb0, hlt, hw, hg, hli, List.length_map, Int.toNat_natCast, Nat.le_refl, bne_self_eq_false])))
                          | (refine callX ?_; (first | refine evOps_fin ?_ | refine And.intro ?_ (evD_fin ?_) | refine evD_fin ?_) <;> simp only [go_sem, reduceAdd, reduceSub, reduceMul, reduceEqDiff, reduceLeDiff, Nat.reduceBEq, reduceLT, reduceIte, reduceCtorEq, Int.reduceToNat, hb0, hlt, hw, hg, hli, List.length_map, Int.toNat_natCast, Nat.le_refl, bne_self_eq_false])
                        refine ⟨i + 1, ⟨by omega, hall2⟩, ?_, by omega⟩
                        repeat' first | rfl | exact rowsUnder_lit _ (lit_box _) | (rw [hr]; rfl) | apply And.intro
                      · have h2 := hbd he
                        clear hall hbd
                        generalize imageM (l.getD i Box.zero) c' d = R at b hr he h2
                        rw [h2] at b
                        generalize l.getD i Box.zero = q at hg b
                        simp only [encBox] at b
                        repeat' first
                          | refine ev_seq (fun K hK => ?_)
                          | ((first | refine evr tt_ok false ?_ | refine ev_skip ?_ | refine ev_ret ?_ | refine ev_exit ?_ | refine evc (fun X Y hX hY => ?_)); simp only [go_sem, reduceAdd, reduceSub, reduceMul, reduceEqDiff, reduceLeDiff, Nat.reduceBEq, reduceLT, reduceIte, reduceCtorEq, Int.reduceToNat, hb0, hlt, hw, hg, hli, List.length_map, Int.toNat_natCast, Nat.le_refl, Int.reduceBNe]; try (first | (refine ⟨fun h => hX ?_, fun h => hY ?_⟩; clear hX hY) | (refine hX ?_; clear hX hY) | (refine hY ?_; clear hX hY)))
                          | refine ev_block ?_
                          | (apply hK; clear hK)
                          | apply_assumption -exfalso -symm only [*]
                          | (refine And.intro ?_ ?_; first | omega | assumption | (unfold maxLen; omega) | (simp only [decide_eq_true_eq, decide_eq_false_iff_not, Int.not_lt, Int.not_le] at h; omega))
                          | ((first | apply callP | apply callPG | apply callP0); (case' hv => (simp only [go_sem, reduceAdd, reduceSub, reduceMul, reduceEqDiff, reduceLeDiff, Nat.reduceBEq, reduceLT, reduceIte, reduceCtorEq, Int.reduceToNat, hb0, hlt, hw, hg, hli, List.length_map, Int.toNat_natCast, Nat.le_refl, Int.reduceBNe]; try exact rfl)); (case' hp => (first | refine' b | (refine' (fun hg => ?_); refine' b))); (case' h => ((first | refine evOps_fin ?_ | refine And.intro ?_ (evD_fin ?_) | refine evD_fin ?_) <;> simp only [go_sem, reduceAdd, reduceSub, reduceMul, reduceEqDiff, reduceLeDiff, Nat.reduceBEq, reduceLT, reduceIte, reduceCtorEq, Int.reduceToNat, hb0, hlt, hw, hg, hli, List.length_map, Int.toNat_natCast, Nat.le_refl, Int.reduceBNe])))
                          | (refine callX ?_; (first | refine evOps_fin ?_ | refine And.intro ?_ (evD_fin ?_) | refine evD_fin ?_) <;> simp only [go_sem, reduceAdd, reduceSub, reduceMul, reduceEqDiff, reduceLeDiff, Nat.reduceBEq, reduceLT, reduceIte, reduceCtorEq, Int.reduceToNat, hb0, hlt, hw, hg, hli, List.length_map, Int.toNat_natCast, Nat.le_refl, Int.reduceBNe])
                        all_goals rfl
                    · exact absurd (fun j hj => hall j (by omega)) hio
        · rw [if_neg (fun h => hs h.1.2)]
          simp only [encBs, List.map_nil]
          refine Pure.weak (r := .tup [.emp, .int .i64 1]) ?_ (fun E v hv => tup_fst hv fun u hu => emp_sl hu)
          (refine pure_of_ev tt_ok Try.func24 rfl (by decide +kernel) (Nat.le_of_ble_eq_true rfl) ?_; simp only [Try.f24])
          repeat' first
            | refine ev_seq (fun K hK => ?_)
            | ((first | refine evr tt_ok false ?_ | refine ev_skip ?_ | refine ev_ret ?_ | refine ev_exit ?_ | refine evc (fun X Y hX hY => ?_)); simp only [go_sem, reduceAdd, reduceSub, reduceMul, reduceEqDiff, reduceLeDiff, Nat.reduceBEq, reduceLT, reduceIte, reduceCtorEq, Int.reduceToNat, List.length_map, hn]; try (first | (refine ⟨fun h => hX ?_, fun h => hY ?_⟩; clear hX hY) | (refine hX ?_; clear hX hY) | (refine hY ?_; clear hX hY)))
            | refine ev_block ?_
            | (apply hK; clear hK)
            | apply_assumption -exfalso -symm only [*]
            | (refine And.intro ?_ ?_; first | omega | assumption | (unfold maxLen; omega) | (simp only [decide_eq_true_eq, decide_eq_false_iff_not, Int.not_lt, Int.not_le] at h; omega))
            | ((first | apply callP | apply callPG | apply callP0); (case' hv => (simp only [go_sem, reduceAdd, reduceSub, reduceMul, reduceEqDiff, reduceLeDiff, Nat.reduceBEq, reduceLT, reduceIte, reduceCtorEq, Int.reduceToNat, List.length_map, hn]; try exact rfl)); (case' hp => (first | refine' vc | (refine' (fun hg => ?_); refine' vc) | refine' vd | (refine' (fun hg => ?_); refine' vd))); (case' h => ((first | refine evOps_fin ?_ | refine And.intro ?_ (evD_fin ?_) | refine evD_fin ?_) <;> simp only [go_sem, reduceAdd, reduceSub, reduceMul, reduceEqDiff, reduceLeDiff, Nat.reduceBEq, reduceLT, reduceIte, reduceCtorEq, Int.reduceToNat, List.length_map, hn])))
            | (refine callX ?_; (first | refine evOps_fin ?_ | refine And.intro ?_ (evD_fin ?_) | refine evD_fin ?_) <;> simp only [go_sem, reduceAdd, reduceSub, reduceMul, reduceEqDiff, reduceLeDiff, Nat.reduceBEq, reduceLT, reduceIte, reduceCtorEq, Int.reduceToNat, List.length_map, hn])
          refine ev_loop (fun i : Nat => i ≤ l.length ∧ ∀ j, j < i → (l.getD j Box.zero).ok)
            (fun i => ⟨64, [(32, .int .i64 i), (31, .int .i64 l.length), (30, .sl (l.map encBox)), (6, .own 1 0 0 0), (5, .own 0 0 0 0), (3, .bool u), (0, .sl (l.map encBox))],
              [.blk 35 0 2 [[.int .i64 c.t, .int .i64 c.f]], .blk 37 0 4 [[.int .i64 d.t, .int .i64 d.l, .int .i64 d.s, .int .i64 d.r]]]⟩)
            (fun i => l.length - i) 0 ⟨Nat.zero_le _, fun j hj => by omega⟩ ?_ ?_
          · simp only [go_sem, reduceAdd, reduceSub, reduceMul, reduceEqDiff, reduceLeDiff, Nat.reduceBEq, reduceLT, reduceIte, reduceCtorEq, Int.reduceToNat, fits, fitT, fitOs, fitO, V.under, unders, rowsUnder]
            repeat' first | rfl | apply And.intro
          · rintro i ⟨hi, hall⟩
            have hb0 : 0 ≤ (i : Int) := by omega
            have hw : IntKind.i64.wrap ((i : Int) + 1) = ((i + 1 : Nat) : Int) := by rw [w64] <;> omega
            by_cases hlt : (i : Int) < l.length
            · have b := vb i
              have hg := box_get l i
              by_cases hk : (l.getD i Box.zero).ok
              · rw [decide_eq_true hk] at b
                have hall2 : ∀ j, j < i + 1 → (l.getD j Box.zero).ok := fun j hj => by
                  by_cases e : j = i
                  · subst e; exact hk
                  · exact hall j (by omega)
                clear hall hk
                generalize l.getD i Box.zero = q at hg b
                repeat' first
                  | refine ev_seq (fun K hK => ?_)
                  | ((first | refine evr tt_ok false ?_ | refine ev_skip ?_ | refine ev_ret ?_ | refine ev_exit ?_ | refine evc (fun X Y hX hY => ?_)); simp only [go_sem, reduceAdd, reduceSub, reduceMul, reduceEqDiff, reduceLeDiff, Nat.reduceBEq, reduceLT, reduceIte, reduceCtorEq, Int.reduceToNat, List.length_map, hb0, hw, hlt, hg, Int.toNat_natCast]; try (first | (refine ⟨fun h => hX ?_, fun h => hY ?_⟩; clear hX hY) | (refine hX ?_; clear hX hY) | (refine hY ?_; clear hX hY)))
                  | refine ev_block ?_
                  | (apply hK; clear hK)
                  | apply_assumption -exfalso -symm only [*]
                  | (refine And.intro ?_ ?_; first | omega | assumption | (unfold maxLen; omega) | (simp only [decide_eq_true_eq, decide_eq_false_iff_not, Int.not_lt, Int.not_le] at h; omega))
                  | ((first | apply callP | apply callPG | apply callP0); (case' hv => (simp only [go_sem, reduceAdd, reduceSub, reduceMul, reduceEqDiff, reduceLeDiff, Nat.reduceBEq, reduceLT, reduceIte, reduceCtorEq, Int.reduceToNat, List.length_map, hb0, hw, hlt, hg, Int.toNat_natCast]; try exact rfl)); (case' hp => (first | refine' b | (refine' (fun hg => ?_); refine' b))); (case' h => ((first | refine evOps_fin ?_ | refine And.intro ?_ (evD_fin ?_) | refine evD_fin ?_) <;> simp only [go_sem, reduceAdd, reduceSub, reduceMul, reduceEqDiff, reduceLeDiff, Nat.reduceBEq, reduceLT, reduceIte, reduceCtorEq, Int.reduceToNat, List.length_map, hb0, hw, hlt, hg, Int.toNat_natCast])))
                  | (refine callX ?_; (first | refine evOps_fin ?_ | refine And.intro ?_ (evD_fin ?_) | refine evD_fin ?_) <;> simp only [go_sem, reduceAdd, reduceSub, reduceMul, reduceEqDiff, reduceLeDiff, Nat.reduceBEq, reduceLT, reduceIte, reduceCtorEq, Int.reduceToNat, List.length_map, hb0, hw, hlt, hg, Int.toNat_natCast])
                exact ⟨i + 1, ⟨by omega, hall2⟩, by (repeat' first | rfl | apply And.intro), by omega⟩
              · rw [decide_eq_false hk] at b
                clear hall hk
                generalize l.getD i Box.zero = q at hg b
                repeat' first
                  | refine ev_seq (fun K hK => ?_)
                  | ((first | refine evr tt_ok false ?_ | refine ev_skip ?_ | refine ev_ret ?_ | refine ev_exit ?_ | refine evc (fun X Y hX hY => ?_)); simp only [go_sem, reduceAdd, reduceSub, reduceMul, reduceEqDiff, reduceLeDiff, Nat.reduceBEq, reduceLT, reduceIte, reduceCtorEq, Int.reduceToNat, List.length_map, hb0, hw, hlt, hg, Int.toNat_natCast]; try (first | (refine ⟨fun h => hX ?_, fun h => hY ?_⟩; clear hX hY) | (refine hX ?_; clear hX hY) | (refine hY ?_; clear hX hY)))
                  | refine ev_block ?_
                  | (apply hK; clear hK)
                  | apply_assumption -exfalso -symm only [*]
                  | (refine And.intro ?_ ?_; first | omega | assumption | (unfold maxLen; omega) | (simp only [decide_eq_true_eq, decide_eq_false_iff_not, Int.not_lt, Int.not_le] at h; omega))
                  | ((first | apply callP | apply callPG | apply callP0); (case' hv => (simp only [go_sem, reduceAdd, reduceSub, reduceMul, reduceEqDiff, reduceLeDiff, Nat.reduceBEq, reduceLT, reduceIte, reduceCtorEq, Int.reduceToNat, List.length_map, hb0, hw, hlt, hg, Int.toNat_natCast]; try exact rfl)); (case' hp => (first | refine' b | (refine' (fun hg => ?_); refine' b))); (case' h => ((first | refine evOps_fin ?_ | refine And.intro ?_ (evD_fin ?_) | refine evD_fin ?_) <;> simp only [go_sem, reduceAdd, reduceSub, reduceMul, reduceEqDiff, reduceLeDiff, Nat.reduceBEq, reduceLT, reduceIte, reduceCtorEq, Int.reduceToNat, List.length_map, hb0, hw, hlt, hg, Int.toNat_natCast])))
                  | (refine callX ?_; (first | refine evOps_fin ?_ | refine And.intro ?_ (evD_fin ?_) | refine evD_fin ?_) <;> simp only [go_sem, reduceAdd, reduceSub, reduceMul, reduceEqDiff, reduceLeDiff, Nat.reduceBEq, reduceLT, reduceIte, reduceCtorEq, Int.reduceToNat, List.length_map, hb0, hw, hlt, hg, Int.toNat_natCast])
                all_goals rfl
            · exact absurd (fun j hj => hall j (by omega)) hs
      · rw [decide_eq_false hd] at vd
        rw [if_neg (fun h => hd h.2.2)]
        simp only [encBs, List.map_nil]
        refine Pure.weak (r := .tup [.emp, .int .i64 1]) ?_ (fun E v hv => tup_fst hv fun u hu => emp_sl hu)
        (refine pure_of_ev tt_ok Try.func24 rfl (by decide +kernel) (Nat.le_of_ble_eq_true rfl) ?_; simp only [Try.f24])
        repeat' first
          | refine ev_seq (fun K hK => ?_)
          | ((first | refine evr tt_ok false ?_ | refine ev_skip ?_ | refine ev_ret ?_ | refine ev_exit ?_ | refine evc (fun X Y hX hY => ?_)); simp only [go_sem, reduceAdd, reduceSub, reduceMul, reduceEqDiff, reduceLeDiff, Nat.reduceBEq, reduceLT, reduceIte, reduceCtorEq, Int.reduceToNat, List.length_map, hn]; try (first | (refine ⟨fun h => hX ?_, fun h => hY ?_⟩; clear hX hY) | (refine hX ?_; clear hX hY) | (refine hY ?_; clear hX hY)))
          | refine ev_block ?_
          | (apply hK; clear hK)
          | apply_assumption -exfalso -symm only [*]
          | (refine And.intro ?_ ?_; first | omega | assumption | (unfold maxLen; omega) | (simp only [decide_eq_true_eq, decide_eq_false_iff_not, Int.not_lt, Int.not_le] at h; omega))
          | ((first | apply callP | apply callPG | apply callP0); (case' hv => (simp only [go_sem, reduceAdd, reduceSub, reduceMul, reduceEqDiff, reduceLeDiff, Nat.reduceBEq, reduceLT, reduceIte, reduceCtorEq, Int.reduceToNat, List.length_map, hn]; try exact rfl)); (case' hp => (first | refine' vc | (refine' (fun hg => ?_); refine' vc) | refine' vd | (refine' (fun hg => ?_); refine' vd))); (case' h => ((first | refine evOps_fin ?_ | refine And.intro ?_ (evD_fin ?_) | refine evD_fin ?_) <;> simp only [go_sem, reduceAdd, reduceSub, reduceMul, reduceEqDiff, reduceLeDiff, Nat.reduceBEq, reduceLT, reduceIte, reduceCtorEq, Int.reduceToNat, List.length_map, hn])))
          | (refine callX ?_; (first | refine evOps_fin ?_ | refine And.intro ?_ (evD_fin ?_) | refine evD_fin ?_) <;> simp only [go_sem, reduceAdd, reduceSub, reduceMul, reduceEqDiff, reduceLeDiff, Nat.reduceBEq, reduceLT, reduceIte, reduceCtorEq, Int.reduceToNat, List.length_map, hn])
        all_goals rfl
    · rw [decide_eq_false hc] at vc
      rw [if_neg (fun h => hc h.2.1)]
      simp only [encBs, List.map_nil]
      refine Pure.weak (r := .tup [.emp, .int .i64 1]) ?_ (fun E v hv => tup_fst hv fun u hu => emp_sl hu)
      (refine pure_of_ev tt_ok Try.func24 rfl (by decide +kernel) (Nat.le_of_ble_eq_true rfl) ?_; simp only [Try.f24])
      repeat' first
        | refine ev_seq (fun K hK => ?_)
        | ((first | refine evr tt_ok false ?_ | refine ev_skip ?_ | refine ev_ret ?_ | refine ev_exit ?_ | refine evc (fun X Y hX hY => ?_)); simp only [go_sem, reduceAdd, reduceSub, reduceMul, reduceEqDiff, reduceLeDiff, Nat.reduceBEq, reduceLT, reduceIte, reduceCtorEq, Int.reduceToNat, List.length_map, hn]; try (first | (refine ⟨fun h => hX ?_, fun h => hY ?_⟩; clear hX hY) | (refine hX ?_; clear hX hY) | (refine hY ?_; clear hX hY)))
        | refine ev_block ?_
        | (apply hK; clear hK)
        | apply_assumption -exfalso -symm only [*]
        | (refine And.intro ?_ ?_; first | omega | assumption | (unfold maxLen; omega) | (simp only [decide_eq_true_eq, decide_eq_false_iff_not, Int.not_lt, Int.not_le] at h; omega))
        | ((first | apply callP | apply callPG | apply callP0); (case' hv => (simp only [go_sem, reduceAdd, reduceSub, reduceMul, reduceEqDiff, reduceLeDiff, Nat.reduceBEq, reduceLT, reduceIte, reduceCtorEq, Int.reduceToNat, List.length_map, hn]; try exact rfl)); (case' hp => (first | refine' vc | (refine' (fun hg => ?_); refine' vc) | refine' vd | (refine' (fun hg => ?_); refine' vd))); (case' h => ((first | refine evOps_fin ?_ | refine And.intro ?_ (evD_fin ?_) | refine evD_fin ?_) <;> simp only [go_sem, reduceAdd, reduceSub, reduceMul, reduceEqDiff, reduceLeDiff, Nat.reduceBEq, reduceLT, reduceIte, reduceCtorEq, Int.reduceToNat, List.length_map, hn])))
        | (refine callX ?_; (first | refine evOps_fin ?_ | refine And.intro ?_ (evD_fin ?_) | refine evD_fin ?_) <;> simp only [go_sem, reduceAdd, reduceSub, reduceMul, reduceEqDiff, reduceLeDiff, Nat.reduceBEq, reduceLT, reduceIte, reduceCtorEq, Int.reduceToNat, List.length_map, hn])
      all_goals rfl
set_option maxRecDepth 20000
set_option maxHeartbeats 8000000
/-! ### back -/
def nextA (p : Pose) (c : Cmd) (e : Slip) : PoR := if p.ok then nextM p c e else ⟨⟨0, 0, 0⟩, 1⟩
theorem rnext_any (p : Pose) (c : Cmd) (e : Slip) (hc : c.ok) (he : e.low) : Pure Try.prog 22 [.agg [.int .i64 p.x, .int .i64 p.y, .int .i64 p.h], .agg [.int .i64 c.t, .int .i64 c.f], .agg [.int .i64 e.t, .int .i64 e.l, .int .i64 e.x, .int .i64 e.y]] (encPoR (nextA p c e)) := by
  unfold nextA
  by_cases hp : p.ok
  · rw [if_pos hp]; exact rnext_pure p c e hp hc he
  · rw [if_neg hp]
    have v := bpose_pure p
    have vc := bcmd_pure c
    rw [decide_eq_false hp] at v
    simp only [encPoR]
    (refine pure_of_ev tt_ok Try.func22 rfl (by decide +kernel) (Nat.le_of_ble_eq_true rfl) ?_; simp only [Try.f22])
    repeat' first
      | refine ev_seq (fun K hK => ?_)
      | ((first | refine evrd (id := 5) hmix tt_ok false [([], true), ([], true), ([], true), ([], true), ([], true), ([], true), ([], true), ([], true), ([], true), ([], true), ([], true), ([], true), ([0, 1, 2, 3], true), ([], true), ([0, 1, 2, 3, 4, 5, 6, 7, 8, 9, 10, 11, 12, 13], false), ([], false)] (by decide +kernel) ?_ | refine evr tt_ok false ?_ | refine ev_skip ?_ | refine ev_ret ?_ | refine ev_exit ?_ | refine evc (fun X Y hX hY => ?_)); simp only [go_sem, reduceAdd, reduceSub, reduceMul, reduceEqDiff, reduceLeDiff, Nat.reduceBEq, reduceLT, reduceIte, reduceCtorEq, Int.reduceToNat]; try (first | (refine ⟨fun h => hX ?_, fun h => hY ?_⟩; clear hX hY) | (refine hX ?_; clear hX hY) | (refine hY ?_; clear hX hY)))
      | refine ev_block ?_
      | (apply hK; clear hK)
      | apply_assumption -exfalso -symm only [*]
      | (refine And.intro ?_ ?_; first | omega | assumption | (unfold maxLen; omega) | (simp only [decide_eq_true_eq, decide_eq_false_iff_not, Int.not_lt, Int.not_le] at h; omega))
      | ((first | apply callP | apply callPG | apply callP0); (case' hv => (simp only [go_sem, reduceAdd, reduceSub, reduceMul, reduceEqDiff, reduceLeDiff, Nat.reduceBEq, reduceLT, reduceIte, reduceCtorEq, Int.reduceToNat]; try exact rfl)); (case' hp => (first | refine' v | (refine' (fun hg => ?_); refine' v) | refine' vc | (refine' (fun hg => ?_); refine' vc))); (case' h => ((first | refine evOps_fin ?_ | refine And.intro ?_ (evD_fin ?_) | refine evD_fin ?_) <;> simp only [go_sem, reduceAdd, reduceSub, reduceMul, reduceEqDiff, reduceLeDiff, Nat.reduceBEq, reduceLT, reduceIte, reduceCtorEq, Int.reduceToNat])))
      | (refine callX ?_; (first | refine evOps_fin ?_ | refine And.intro ?_ (evD_fin ?_) | refine evD_fin ?_) <;> simp only [go_sem, reduceAdd, reduceSub, reduceMul, reduceEqDiff, reduceLeDiff, Nat.reduceBEq, reduceLT, reduceIte, reduceCtorEq, Int.reduceToNat])
    all_goals rfl
theorem clip_low {d : Bounds} (hd : d.ok) (e : Slip) : (clipS d e).low ∧ (-d.t ≤ (clipS d e).t ∧ (clipS d e).t ≤ d.t) ∧ (-d.l ≤ (clipS d e).l ∧ (clipS d e).l ≤ d.l) ∧ (-d.s ≤ (clipS d e).x ∧ (clipS d e).x ≤ d.s) ∧ (-d.s ≤ (clipS d e).y ∧ (clipS d e).y ≤ d.s) := by
  obtain ⟨d1, d2, d3, d4, d5, d6, d7, d8⟩ := hd
  unfold Slip.low clipS
  simp only
  omega
theorem mem_mod (a : Arc) (h : Int) : a.mem (h % 256) = a.mem h := by
  unfold Arc.mem
  rw [show (h % 256 - a.f) % 256 = (h - a.f) % 256 by omega]
/-- the displacement of a motion -/
def goX (c : Cmd) (e : Slip) (h : Int) : Int := if c.f = 0 then 0 else alo (c.f + e.l) (dirM h).x (dirM h).d + e.x
def goY (c : Cmd) (e : Slip) (h : Int) : Int := if c.f = 0 then 0 else alo (c.f + e.l) (dirM h).y (dirM h).d + e.y
theorem goP_eq (p : Pose) (c : Cmd) (e : Slip) : goP p c e = ⟨p.x + goX c e (goH p c e), p.y + goY c e (goH p c e), goH p c e⟩ := by
  unfold goP goX goY
  split
  · simp
  · rfl
/-- the displacement lies in the reach of its mark -/
theorem go_reach {c : Cmd} {d : Bounds} (hc : c.ok) (hd : d.ok) (e : Slip) (h : Int) : (reachM c.f d.l d.s h).x0 ≤ goX c (clipS d e) h ∧ goX c (clipS d e) h ≤ (reachM c.f d.l d.s h).x1 ∧ (reachM c.f d.l d.s h).y0 ≤ goY c (clipS d e) h ∧ goY c (clipS d e) h ≤ (reachM c.f d.l d.s h).y1 := by
  obtain ⟨_, s1, s2, s3, s4⟩ := clip_low hd e
  unfold goX goY
  by_cases hf : c.f = 0
  · rw [if_pos hf, if_pos hf]
    unfold reachM
    rw [if_pos hf]
    exact ⟨Int.le_refl 0, Int.le_refl 0, Int.le_refl 0, Int.le_refl 0⟩
  · rw [if_neg hf, if_neg hf]
    exact go_in hf s2 s3 s4
theorem reachA_mem {f l s : Int} {a : Arc} (ha : a.ok) {h : Int} (h0 : 0 ≤ h ∧ h < 256) (hm : a.mem h = true) : (reachM f l s h).sub (reachA f l s a) := by
  obtain ⟨a1, a2, a3, a4, a5⟩ := ha
  unfold Arc.mem at hm
  rw [decide_eq_true_eq] at hm
  have := reachU_has f l s a (a.c - 1).toNat (i := ((h - a.f) % 256).toNat) (by omega)
  rwa [show (a.f + ((((h - a.f) % 256).toNat : Nat) : Int)) % 256 = h by omega] at this
/-- All the facts of a motion back. -/
structure BackF (b : Box) (c : Cmd) (d : Bounds) (e : Slip) (to : Pose) (w : Box) (h0 : Int) (t : Pose) : Prop where
  e0 : (to.h - c.t - (clipS d e).t) % 256 = h0
  n1 : nextA ⟨0, 0, h0⟩ c (clipS d e) = ⟨t, 0⟩
  ti : -200 ≤ t.x ∧ t.x ≤ 200 ∧ -200 ≤ t.y ∧ t.y ≤ 200
  has : w.has ⟨to.x - t.x, to.y - t.y, h0⟩
theorem back_facts {b : Box} {c : Cmd} {d : Bounds} (hb : b.ok) (hc : c.ok) (hd : d.ok) (e : Slip) {to : Pose} (hp : b.has to) (hh : 0 ≤ to.h ∧ to.h < 256) {w : Box} (hw : rewindM b c d = ⟨w, 0⟩) : ∃ h0 t, BackF b c d e to w h0 t := by
  obtain ⟨lo, s1, s2, s3, s4⟩ := clip_low hd e
  have hgo := go_reach hc hd e to.h
  have hm := hp.2.2.2.2.2
  have hra := reachA_mem (f := c.f) (l := d.l) (s := d.s) (a := b.arc) hb.2.2.2.2.2.2 hh hm
  have hfit := reachA_fit (a := b.arc) hc hd
  obtain ⟨h0, eh⟩ : ∃ h0, (to.h - c.t - (clipS d e).t) % 256 = h0 := ⟨_, rfl⟩
  have hg : goH ⟨0, 0, h0⟩ c (clipS d e) = to.h := by unfold goH; simp only; omega
  have hgp : goP ⟨0, 0, h0⟩ c (clipS d e) = ⟨goX c (clipS d e) to.h, goY c (clipS d e) to.h, to.h⟩ := by rw [goP_eq, hg]; simp
  have hwo : (outB b (reachA c.f d.l d.s b.arc).neg (turnedM b.arc (-c.t) d.t)).ok ∧ w = outB b (reachA c.f d.l d.s b.arc).neg (turnedM b.arc (-c.t) d.t) := by
    unfold rewindM resB at hw
    rw [if_pos ⟨hb, hc, hd⟩] at hw
    by_cases ho : (outB b (reachA c.f d.l d.s b.arc).neg (turnedM b.arc (-c.t) d.t)).ok
    · rw [if_pos ho] at hw
      injection hw with h1 h2
      exact ⟨ho, h1.symm⟩
    · rw [if_neg ho] at hw
      injection hw with h1 h2
      omega
  obtain ⟨ho, rfl⟩ := hwo
  have hdt := hd.1
  have hdt2 := hd.2.1
  have tm := turned_mem (t := -c.t) (n := d.t) (k := -(clipS d e).t) hb.2.2.2.2.2.2 ⟨hdt, hdt2⟩ (by omega) hm
  obtain ⟨f1, f2, f3, f4, f5, f6⟩ := hfit
  obtain ⟨q1, q2, q3, q4⟩ := hra
  obtain ⟨p0, p1, p2, p3, p4, _⟩ := hp
  refine ⟨h0, ⟨goX c (clipS d e) to.h, goY c (clipS d e) to.h, to.h⟩, eh, ?_, ?_, ho, ?_, ?_, ?_, ?_, ?_⟩
  · unfold nextA nextM
    rw [if_pos (show (Pose.mk 0 0 h0).ok from ⟨by simp, by simp, by simp, by simp, by show 0 ≤ h0; omega, by show h0 < 256; omega⟩), hgp, if_pos]
    exact ⟨by show _ ≤ goX c (clipS d e) to.h; omega, by show goX c (clipS d e) to.h ≤ _; omega, by show _ ≤ goY c (clipS d e) to.h; omega, by show goY c (clipS d e) to.h ≤ _; omega, hh.1, hh.2⟩
  · simp only; omega
  · show b.x0 + -(reachA c.f d.l d.s b.arc).x1 ≤ to.x - goX c (clipS d e) to.h; omega
  · show to.x - goX c (clipS d e) to.h ≤ b.x1 + -(reachA c.f d.l d.s b.arc).x0; omega
  · show b.y0 + -(reachA c.f d.l d.s b.arc).y1 ≤ to.y - goY c (clipS d e) to.h; omega
  · show to.y - goY c (clipS d e) to.h ≤ b.y1 + -(reachA c.f d.l d.s b.arc).y0; omega
  · show (turnedM b.arc (-c.t) d.t).mem h0 = true
    rw [← eh, mem_mod, show to.h - c.t - (clipS d e).t = to.h + -c.t + -(clipS d e).t by omega]
    exact tm
theorem lback_pure (b : Box) (g : GoT) (x : TryT) (hk : 0 ≤ x.k ∧ x.k ≤ 255) (hh : 0 ≤ x.h ∧ x.h ≤ 255) : Pure Try.prog 4 [.agg (encBox b), .agg (encGo g), .agg (encTry x)] (.bool true) := by
  have m1 := rewind_pure b g.c g.b
  have v1 := boxB_pure b
  have v2 := bcmd_pure g.c
  have v3 := bbounds_pure g.b
  simp only [encBox, encGo, encTry]
  by_cases h : b.ok ∧ g.c.ok ∧ g.b.ok
  · rw [decide_eq_true h.1] at v1
    rw [decide_eq_true h.2.1] at v2
    rw [decide_eq_true h.2.2] at v3
    by_cases he : (rewindM b g.c g.b).e = 0
    · have pp := lpose_pure b x.k x.h h.1 hk hh
      obtain ⟨hp, p0, p1⟩ := pose_has h.1 (x.k.tmod 5) hh.1
      generalize poseAt b (x.k.tmod 5) x.h = to at *
      obtain ⟨w, ew⟩ : ∃ w, rewindM b g.c g.b = ⟨w, 0⟩ := ⟨(rewindM b g.c g.b).b, by cases hr : rewindM b g.c g.b; rw [hr] at he; simp only at he; subst he; rfl⟩
      obtain ⟨h0, t, e0, n1, ti, hhas⟩ := back_facts h.1 h.2.1 h.2.2 x.e hp ⟨p0, p1⟩ ew
      rw [ew] at m1
      obtain ⟨lo, s1, _⟩ := clip_low h.2.2 x.e
      have cl := rclip_pure g.b x.e h.2.2
      have nx1 := rnext_any ⟨0, 0, h0⟩ g.c (clipS g.b x.e) h.2.1 lo
      rw [n1] at nx1
      have nx2 := rnext_any ⟨to.x - t.x, to.y - t.y, h0⟩ g.c (clipS g.b x.e) h.2.1 lo
      have wo := hhas.1
      have vw := boxB_pure w
      rw [decide_eq_true wo] at vw
      have vh := lhas_pure w ⟨to.x - t.x, to.y - t.y, h0⟩ wo
      rw [decide_eq_true hhas] at vh
      obtain ⟨c1, c2, c3, c4⟩ := id h.2.1
      obtain ⟨d1, d2, d3, d4, d5, d6, d7, d8⟩ := id h.2.2
      have w1 : IntKind.i64.wrap (to.h - g.c.t) = to.h - g.c.t := w64 (by omega) (by omega)
      have w2 : IntKind.i64.wrap (to.h - g.c.t - (clipS g.b x.e).t) = to.h - g.c.t - (clipS g.b x.e).t := w64 (by omega) (by omega)
      have mm := mod_pure (to.h - g.c.t - (clipS g.b x.e).t) 256 (by omega) (by omega)
      rw [e0] at mm
      obtain ⟨b1, b2, b3, b4, b5, b6, _⟩ := id h.1
      obtain ⟨_, q1, q2, q3, q4, _⟩ := id hp
      have w3 : IntKind.i64.wrap (to.x - t.x) = to.x - t.x := w64 (by omega) (by omega)
      have w4 : IntKind.i64.wrap (to.y - t.y) = to.y - t.y := w64 (by omega) (by omega)
      generalize clipS g.b x.e = s at *
      generalize nextA ⟨to.x - t.x, to.y - t.y, h0⟩ g.c s = R at *
      clear h he hp ew e0 n1 ti hhas wo
      simp only [encMv, encBox, encPoR] at *
      (refine pure_of_ev tt_ok Try.func4 rfl (by decide +kernel) (Nat.le_of_ble_eq_true rfl) ?_; simp only [Try.f4])
      repeat' first
        | refine ev_seq (fun K hK => ?_)
        | ((first | refine evrd (id := 13) hmix tt_ok false [([], true), ([], true), ([], true), ([], true), ([], true), ([], true), ([], true), ([], true), ([], true), ([], true), ([], true), ([], true), ([], true), ([0, 1, 2, 3], true), ([], true), ([0, 1, 2, 3, 4, 5, 6, 7, 8, 9, 10, 11, 12, 13, 14], false), ([], false)] (by decide +kernel) ?_ | refine evr tt_ok false ?_ | refine ev_skip ?_ | refine ev_ret ?_ | refine ev_exit ?_ | refine evc (fun X Y hX hY => ?_)); simp only [go_sem, reduceAdd, reduceSub, reduceMul, reduceEqDiff, reduceLeDiff, Nat.reduceBEq, reduceLT, reduceIte, reduceCtorEq, Int.reduceToNat, w1, w2, w3, w4, bne, Int.reduceBEq, beq_self_eq_true]; try (first | (refine ⟨fun h => hX ?_, fun h => hY ?_⟩; clear hX hY) | (refine hX ?_; clear hX hY) | (refine hY ?_; clear hX hY)))
        | refine ev_block ?_
        | (apply hK; clear hK)
        | apply_assumption -exfalso -symm only [*]
        | (refine And.intro ?_ ?_; first | omega | assumption | (unfold maxLen; omega) | (simp only [decide_eq_true_eq, decide_eq_false_iff_not, Int.not_lt, Int.not_le] at h; omega))
        | ((first | apply callP | apply callPG | apply callP0); (case' hv => (simp only [go_sem, reduceAdd, reduceSub, reduceMul, reduceEqDiff, reduceLeDiff, Nat.reduceBEq, reduceLT, reduceIte, reduceCtorEq, Int.reduceToNat, w1, w2, w3, w4, bne, Int.reduceBEq, beq_self_eq_true]; try exact rfl)); (case' hp => (first | refine' awake23_pure | (refine' (fun hg => ?_); refine' awake23_pure) | refine' v1 | (refine' (fun hg => ?_); refine' v1) | refine' v2 | (refine' (fun hg => ?_); refine' v2) | refine' v3 | (refine' (fun hg => ?_); refine' v3) | refine' m1 | (refine' (fun hg => ?_); refine' m1) | refine' vw | (refine' (fun hg => ?_); refine' vw) | refine' cl | (refine' (fun hg => ?_); refine' cl) | refine' pp | (refine' (fun hg => ?_); refine' pp) | refine' mm | (refine' (fun hg => ?_); refine' mm) | refine' nx1 | (refine' (fun hg => ?_); refine' nx1) | refine' nx2 | (refine' (fun hg => ?_); refine' nx2) | refine' vh | (refine' (fun hg => ?_); refine' vh))); (case' h => ((first | refine evOps_fin ?_ | refine And.intro ?_ (evD_fin ?_) | refine evD_fin ?_) <;> simp only [go_sem, reduceAdd, reduceSub, reduceMul, reduceEqDiff, reduceLeDiff, Nat.reduceBEq, reduceLT, reduceIte, reduceCtorEq, Int.reduceToNat, w1, w2, w3, w4, bne, Int.reduceBEq, beq_self_eq_true])))
        | (refine callX ?_; (first | refine evOps_fin ?_ | refine And.intro ?_ (evD_fin ?_) | refine evD_fin ?_) <;> simp only [go_sem, reduceAdd, reduceSub, reduceMul, reduceEqDiff, reduceLeDiff, Nat.reduceBEq, reduceLT, reduceIte, reduceCtorEq, Int.reduceToNat, w1, w2, w3, w4, bne, Int.reduceBEq, beq_self_eq_true])
    · have e2 : (rewindM b g.c g.b).e = 2 := by
        unfold rewindM at *
        rw [if_pos h] at *
        unfold resB at *
        split
        · rename_i hh; rw [if_pos hh] at he; exact absurd rfl he
        · rfl
      generalize rewindM b g.c g.b = R at *
      simp only [encMv, encBox, e2] at *
      (refine pure_of_ev tt_ok Try.func4 rfl (by decide +kernel) (Nat.le_of_ble_eq_true rfl) ?_; simp only [Try.f4])
      repeat' first
        | refine ev_seq (fun K hK => ?_)
        | ((first | refine evrd (id := 13) hmix tt_ok false [([], true), ([], true), ([], true), ([], true), ([], true), ([], true), ([], true), ([], true), ([], true), ([], true), ([], true), ([], true), ([], true), ([0, 1, 2, 3], true), ([], true), ([0, 1, 2, 3, 4, 5, 6, 7, 8, 9, 10, 11, 12, 13, 14], false), ([], false)] (by decide +kernel) ?_ | refine evr tt_ok false ?_ | refine ev_skip ?_ | refine ev_ret ?_ | refine ev_exit ?_ | refine evc (fun X Y hX hY => ?_)); simp only [go_sem, reduceAdd, reduceSub, reduceMul, reduceEqDiff, reduceLeDiff, Nat.reduceBEq, reduceLT, reduceIte, reduceCtorEq, Int.reduceToNat, bne, Int.reduceBEq]; try (first | (refine ⟨fun h => hX ?_, fun h => hY ?_⟩; clear hX hY) | (refine hX ?_; clear hX hY) | (refine hY ?_; clear hX hY)))
        | refine ev_block ?_
        | (apply hK; clear hK)
        | apply_assumption -exfalso -symm only [*]
        | (refine And.intro ?_ ?_; first | omega | assumption | (unfold maxLen; omega) | (simp only [decide_eq_true_eq, decide_eq_false_iff_not, Int.not_lt, Int.not_le] at h; omega))
        | ((first | apply callP | apply callPG | apply callP0); (case' hv => (simp only [go_sem, reduceAdd, reduceSub, reduceMul, reduceEqDiff, reduceLeDiff, Nat.reduceBEq, reduceLT, reduceIte, reduceCtorEq, Int.reduceToNat, bne, Int.reduceBEq]; try exact rfl)); (case' hp => (first | refine' awake23_pure | (refine' (fun hg => ?_); refine' awake23_pure) | refine' v1 | (refine' (fun hg => ?_); refine' v1) | refine' v2 | (refine' (fun hg => ?_); refine' v2) | refine' v3 | (refine' (fun hg => ?_); refine' v3) | refine' m1 | (refine' (fun hg => ?_); refine' m1))); (case' h => ((first | refine evOps_fin ?_ | refine And.intro ?_ (evD_fin ?_) | refine evD_fin ?_) <;> simp only [go_sem, reduceAdd, reduceSub, reduceMul, reduceEqDiff, reduceLeDiff, Nat.reduceBEq, reduceLT, reduceIte, reduceCtorEq, Int.reduceToNat, bne, Int.reduceBEq])))
        | (refine callX ?_; (first | refine evOps_fin ?_ | refine And.intro ?_ (evD_fin ?_) | refine evD_fin ?_) <;> simp only [go_sem, reduceAdd, reduceSub, reduceMul, reduceEqDiff, reduceLeDiff, Nat.reduceBEq, reduceLT, reduceIte, reduceCtorEq, Int.reduceToNat, bne, Int.reduceBEq])
  · have e : rewindM b g.c g.b = ⟨Box.zero, 1⟩ := if_neg h
    rw [e] at m1
    simp only [encMv, encBox, Box.zero] at m1
    by_cases hb : b.ok
    · rw [decide_eq_true hb] at v1
      by_cases hc : g.c.ok
      · have hd : ¬ g.b.ok := fun hd => h ⟨hb, hc, hd⟩
        rw [decide_eq_true hc] at v2
        rw [decide_eq_false hd] at v3
        (refine pure_of_ev tt_ok Try.func4 rfl (by decide +kernel) (Nat.le_of_ble_eq_true rfl) ?_; simp only [Try.f4])
        repeat' first
          | refine ev_seq (fun K hK => ?_)
          | ((first | refine evrd (id := 13) hmix tt_ok false [([], true), ([], true), ([], true), ([], true), ([], true), ([], true), ([], true), ([], true), ([], true), ([], true), ([], true), ([], true), ([], true), ([0, 1, 2, 3], true), ([], true), ([0, 1, 2, 3, 4, 5, 6, 7, 8, 9, 10, 11, 12, 13, 14], false), ([], false)] (by decide +kernel) ?_ | refine evr tt_ok false ?_ | refine ev_skip ?_ | refine ev_ret ?_ | refine ev_exit ?_ | refine evc (fun X Y hX hY => ?_)); simp only [go_sem, reduceAdd, reduceSub, reduceMul, reduceEqDiff, reduceLeDiff, Nat.reduceBEq, reduceLT, reduceIte, reduceCtorEq, Int.reduceToNat, Int.reduceBEq]; try (first | (refine ⟨fun h => hX ?_, fun h => hY ?_⟩; clear hX hY) | (refine hX ?_; clear hX hY) | (refine hY ?_; clear hX hY)))
          | refine ev_block ?_
          | (apply hK; clear hK)
          | apply_assumption -exfalso -symm only [*]
          | (refine And.intro ?_ ?_; first | omega | assumption | (unfold maxLen; omega) | (simp only [decide_eq_true_eq, decide_eq_false_iff_not, Int.not_lt, Int.not_le] at h; omega))
          | ((first | apply callP | apply callPG | apply callP0); (case' hv => (simp only [go_sem, reduceAdd, reduceSub, reduceMul, reduceEqDiff, reduceLeDiff, Nat.reduceBEq, reduceLT, reduceIte, reduceCtorEq, Int.reduceToNat, Int.reduceBEq]; try exact rfl)); (case' hp => (first | refine' awake23_pure | (refine' (fun hg => ?_); refine' awake23_pure) | refine' v1 | (refine' (fun hg => ?_); refine' v1) | refine' v2 | (refine' (fun hg => ?_); refine' v2) | refine' v3 | (refine' (fun hg => ?_); refine' v3) | refine' m1 | (refine' (fun hg => ?_); refine' m1))); (case' h => ((first | refine evOps_fin ?_ | refine And.intro ?_ (evD_fin ?_) | refine evD_fin ?_) <;> simp only [go_sem, reduceAdd, reduceSub, reduceMul, reduceEqDiff, reduceLeDiff, Nat.reduceBEq, reduceLT, reduceIte, reduceCtorEq, Int.reduceToNat, Int.reduceBEq])))
          | (refine callX ?_; (first | refine evOps_fin ?_ | refine And.intro ?_ (evD_fin ?_) | refine evD_fin ?_) <;> simp only [go_sem, reduceAdd, reduceSub, reduceMul, reduceEqDiff, reduceLeDiff, Nat.reduceBEq, reduceLT, reduceIte, reduceCtorEq, Int.reduceToNat, Int.reduceBEq])
        all_goals rfl
      · rw [decide_eq_false hc] at v2
        (refine pure_of_ev tt_ok Try.func4 rfl (by decide +kernel) (Nat.le_of_ble_eq_true rfl) ?_; simp only [Try.f4])
        repeat' first
          | refine ev_seq (fun K hK => ?_)
          | ((first | refine evrd (id := 13) hmix tt_ok false [([], true), ([], true), ([], true), ([], true), ([], true), ([], true), ([], true), ([], true), ([], true), ([], true), ([], true), ([], true), ([], true), ([0, 1, 2, 3], true), ([], true), ([0, 1, 2, 3, 4, 5, 6, 7, 8, 9, 10, 11, 12, 13, 14], false), ([], false)] (by decide +kernel) ?_ | refine evr tt_ok false ?_ | refine ev_skip ?_ | refine ev_ret ?_ | refine ev_exit ?_ | refine evc (fun X Y hX hY => ?_)); simp only [go_sem, reduceAdd, reduceSub, reduceMul, reduceEqDiff, reduceLeDiff, Nat.reduceBEq, reduceLT, reduceIte, reduceCtorEq, Int.reduceToNat, Int.reduceBEq]; try (first | (refine ⟨fun h => hX ?_, fun h => hY ?_⟩; clear hX hY) | (refine hX ?_; clear hX hY) | (refine hY ?_; clear hX hY)))
          | refine ev_block ?_
          | (apply hK; clear hK)
          | apply_assumption -exfalso -symm only [*]
          | (refine And.intro ?_ ?_; first | omega | assumption | (unfold maxLen; omega) | (simp only [decide_eq_true_eq, decide_eq_false_iff_not, Int.not_lt, Int.not_le] at h; omega))
          | ((first | apply callP | apply callPG | apply callP0); (case' hv => (simp only [go_sem, reduceAdd, reduceSub, reduceMul, reduceEqDiff, reduceLeDiff, Nat.reduceBEq, reduceLT, reduceIte, reduceCtorEq, Int.reduceToNat, Int.reduceBEq]; try exact rfl)); (case' hp => (first | refine' awake23_pure | (refine' (fun hg => ?_); refine' awake23_pure) | refine' v1 | (refine' (fun hg => ?_); refine' v1) | refine' v2 | (refine' (fun hg => ?_); refine' v2) | refine' v3 | (refine' (fun hg => ?_); refine' v3) | refine' m1 | (refine' (fun hg => ?_); refine' m1))); (case' h => ((first | refine evOps_fin ?_ | refine And.intro ?_ (evD_fin ?_) | refine evD_fin ?_) <;> simp only [go_sem, reduceAdd, reduceSub, reduceMul, reduceEqDiff, reduceLeDiff, Nat.reduceBEq, reduceLT, reduceIte, reduceCtorEq, Int.reduceToNat, Int.reduceBEq])))
          | (refine callX ?_; (first | refine evOps_fin ?_ | refine And.intro ?_ (evD_fin ?_) | refine evD_fin ?_) <;> simp only [go_sem, reduceAdd, reduceSub, reduceMul, reduceEqDiff, reduceLeDiff, Nat.reduceBEq, reduceLT, reduceIte, reduceCtorEq, Int.reduceToNat, Int.reduceBEq])
        all_goals rfl
    · rw [decide_eq_false hb] at v1
      (refine pure_of_ev tt_ok Try.func4 rfl (by decide +kernel) (Nat.le_of_ble_eq_true rfl) ?_; simp only [Try.f4])
      repeat' first
        | refine ev_seq (fun K hK => ?_)
        | ((first | refine evrd (id := 13) hmix tt_ok false [([], true), ([], true), ([], true), ([], true), ([], true), ([], true), ([], true), ([], true), ([], true), ([], true), ([], true), ([], true), ([], true), ([0, 1, 2, 3], true), ([], true), ([0, 1, 2, 3, 4, 5, 6, 7, 8, 9, 10, 11, 12, 13, 14], false), ([], false)] (by decide +kernel) ?_ | refine evr tt_ok false ?_ | refine ev_skip ?_ | refine ev_ret ?_ | refine ev_exit ?_ | refine evc (fun X Y hX hY => ?_)); simp only [go_sem, reduceAdd, reduceSub, reduceMul, reduceEqDiff, reduceLeDiff, Nat.reduceBEq, reduceLT, reduceIte, reduceCtorEq, Int.reduceToNat, Int.reduceBEq]; try (first | (refine ⟨fun h => hX ?_, fun h => hY ?_⟩; clear hX hY) | (refine hX ?_; clear hX hY) | (refine hY ?_; clear hX hY)))
        | refine ev_block ?_
        | (apply hK; clear hK)
        | apply_assumption -exfalso -symm only [*]
        | (refine And.intro ?_ ?_; first | omega | assumption | (unfold maxLen; omega) | (simp only [decide_eq_true_eq, decide_eq_false_iff_not, Int.not_lt, Int.not_le] at h; omega))
        | ((first | apply callP | apply callPG | apply callP0); (case' hv => (simp only [go_sem, reduceAdd, reduceSub, reduceMul, reduceEqDiff, reduceLeDiff, Nat.reduceBEq, reduceLT, reduceIte, reduceCtorEq, Int.reduceToNat, Int.reduceBEq]; try exact rfl)); (case' hp => (first | refine' awake23_pure | (refine' (fun hg => ?_); refine' awake23_pure) | refine' v1 | (refine' (fun hg => ?_); refine' v1) | refine' v2 | (refine' (fun hg => ?_); refine' v2) | refine' v3 | (refine' (fun hg => ?_); refine' v3) | refine' m1 | (refine' (fun hg => ?_); refine' m1))); (case' h => ((first | refine evOps_fin ?_ | refine And.intro ?_ (evD_fin ?_) | refine evD_fin ?_) <;> simp only [go_sem, reduceAdd, reduceSub, reduceMul, reduceEqDiff, reduceLeDiff, Nat.reduceBEq, reduceLT, reduceIte, reduceCtorEq, Int.reduceToNat, Int.reduceBEq])))
        | (refine callX ?_; (first | refine evOps_fin ?_ | refine And.intro ?_ (evD_fin ?_) | refine evD_fin ?_) <;> simp only [go_sem, reduceAdd, reduceSub, reduceMul, reduceEqDiff, reduceLeDiff, Nat.reduceBEq, reduceLT, reduceIte, reduceCtorEq, Int.reduceToNat, Int.reduceBEq])
      all_goals rfl
set_option maxRecDepth 20000
set_option maxHeartbeats 8000000
/-! ### the pose after a motion is in the image -/
theorem reach_f0 (l s : Int) (a : Arc) : ∀ n, reachU 0 l s a n = Rect.zero
  | 0 => by unfold reachU reachM; rw [if_pos rfl]
  | n + 1 => by
    unfold reachU
    rw [reach_f0 l s a n]
    unfold reachM
    rw [if_pos rfl]
    rfl
theorem nextM_ok {p : Pose} {c : Cmd} {e : Slip} (h : (nextM p c e).e = 0) : nextM p c e = ⟨goP p c e, 0⟩ ∧ (goP p c e).ok := by
  unfold nextM at *
  by_cases ho : (goP p c e).ok
  · rw [if_pos ho]; exact ⟨rfl, ho⟩
  · rw [if_neg ho] at h; cases h
theorem nextM_bad {p : Pose} {c : Cmd} {e : Slip} (h : ¬ (nextM p c e).e = 0) : (nextM p c e).e = 2 := by
  unfold nextM at *
  by_cases ho : (goP p c e).ok
  · rw [if_pos ho] at h; exact absurd rfl h
  · rw [if_neg ho]
theorem goH_in (p : Pose) (c : Cmd) (e : Slip) : 0 ≤ goH p c e ∧ goH p c e < 256 := by unfold goH; omega
/-- The mark after the motion is one of the turned arc. -/
theorem goH_mem {b : Box} {c : Cmd} {d : Bounds} (hb : b.ok) (hd : d.ok) (e : Slip) {p : Pose} (hp : b.has p) : (turnedM b.arc c.t d.t).mem (goH p c (clipS d e)) = true := by
  obtain ⟨lo, s1, _⟩ := clip_low hd e
  have := turned_mem (t := c.t) (n := d.t) (k := (clipS d e).t) hb.2.2.2.2.2.2 ⟨hd.1, hd.2.1⟩ s1 hp.2.2.2.2.2
  unfold goH
  rw [mem_mod]
  exact this
/-- After a bump. -/
theorem bump_has {b : Box} {c : Cmd} {d : Bounds} (hb : b.ok) (hc : c.ok) (hd : d.ok) (e : Slip) {p : Pose} (hp : b.has p) : ∃ w, boxesM [b] c d true = ⟨[w], 0⟩ ∧ w.has ⟨p.x, p.y, goH p c (clipS d e)⟩ := by
  have hbc : (⟨c.t, 0⟩ : Cmd).ok := bump_ok hc true
  have hz : reachA 0 d.l d.s (turnedM b.arc c.t d.t) = Rect.zero := reach_f0 _ _ _ _
  have hto : (turnedM b.arc c.t d.t).ok := turned_ok hb.2.2.2.2.2.2 hd.1
  have ho : (outB b Rect.zero (turnedM b.arc c.t d.t)).ok := by
    obtain ⟨b1, b2, b3, b4, b5, b6, _⟩ := hb
    refine ⟨?_, ?_, ?_, ?_, ?_, ?_, hto⟩ <;> simp only [outB, Rect.zero] <;> omega
  have ei : imageM b ⟨c.t, 0⟩ d = ⟨outB b Rect.zero (turnedM b.arc c.t d.t), 0⟩ := by
    unfold imageM
    rw [if_pos ⟨hb, hbc, hd⟩, hz]
    unfold resB
    rw [if_pos ho]
  refine ⟨outB b Rect.zero (turnedM b.arc c.t d.t), ?_, ho, ?_, ?_, ?_, ?_, goH_mem hb hd e hp⟩
  · unfold boxesM
    rw [if_pos ⟨⟨by simp, fun i hi => by
      have : i = 0 := by simpa using hi
      subst this; exact hb⟩, hc, hd⟩]
    show boxesR [b] ⟨c.t, 0⟩ d = _
    unfold boxesR
    have hio : imOk [b] ⟨c.t, 0⟩ d := fun i hi => by
      have : i = 0 := by simpa using hi
      subst this
      show (imageM b ⟨c.t, 0⟩ d).e = 0
      rw [ei]
    rw [if_pos hio]
    show BsR.mk [(imageM b ⟨c.t, 0⟩ d).b] 0 = _
    rw [ei]
  · show b.x0 + 0 ≤ p.x; have := hp.2.1; omega
  · show p.x ≤ b.x1 + 0; have := hp.2.2.1; omega
  · show b.y0 + 0 ≤ p.y; have := hp.2.2.2.1; omega
  · show p.y ≤ b.y1 + 0; have := hp.2.2.2.2.1; omega
/-- What all images are: each is a box, and one has the pose. -/
structure HoldF (b : Box) (c : Cmd) (d : Bounds) (to : Pose) (w : Box) (l : List Box) : Prop where
  im : imageM b c d = ⟨w, 0⟩
  ims : imagesM b c d = ⟨l, 0⟩
  wok : w.ok
  whas : w.has to
  all : ∀ i, i < l.length → (l.getD i Box.zero).ok
  one : ∃ i, i < l.length ∧ (l.getD i Box.zero).has to
  len : l.length ≤ 256
theorem hold_facts {b : Box} {c : Cmd} {d : Bounds} (hb : b.ok) (hc : c.ok) (hd : d.ok) (e : Slip) {p : Pose} (hp : b.has p) (he : (imageM b c d).e = 0) : ∃ w l, HoldF b c d (goP p c (clipS d e)) w l := by
  have hm := goH_mem (c := c) hb hd e hp
  have hh := goH_in p c (clipS d e)
  have hto : (turnedM b.arc c.t d.t).ok := turned_ok hb.2.2.2.2.2.2 hd.1
  have hgo := go_reach hc hd e (goH p c (clipS d e))
  have hra := reachA_mem (f := c.f) (l := d.l) (s := d.s) hto hh hm
  have hmk := @marks_ok b c d (turnedM b.arc c.t d.t) hb hc hd hto
  have ho : (outB b (reachA c.f d.l d.s (turnedM b.arc c.t d.t)) (turnedM b.arc c.t d.t)).ok := by
    unfold imageM at he
    rw [if_pos ⟨hb, hc, hd⟩] at he
    unfold resB at he
    by_cases ho : (outB b (reachA c.f d.l d.s (turnedM b.arc c.t d.t)) (turnedM b.arc c.t d.t)).ok
    · exact ho
    · rw [if_neg ho] at he; cases he
  have hall := hmk.1 ho
  have ea : imgA b c d = turnedM b.arc c.t d.t := rfl
  rw [goP_eq]
  generalize goH p c (clipS d e) = h at *
  generalize goX c (clipS d e) h = gx at *
  generalize goY c (clipS d e) h = gy at *
  obtain ⟨p0, p1, p2, p3, p4, _⟩ := hp
  obtain ⟨q1, q2, q3, q4⟩ := hra
  refine ⟨outB b (reachA c.f d.l d.s (turnedM b.arc c.t d.t)) (turnedM b.arc c.t d.t), imagesL b c d (turnedM b.arc c.t d.t) (turnedM b.arc c.t d.t).c.toNat, ?_, ?_, ho, ⟨ho, ?_, ?_, ?_, ?_, hm⟩, ?_, ?_, ?_⟩
  · unfold imageM
    rw [if_pos ⟨hb, hc, hd⟩]
    unfold resB
    rw [if_pos ho]
  · unfold imagesM
    rw [if_pos ⟨hb, hc, hd⟩, ea, if_pos ho]
  · show b.x0 + (reachA c.f d.l d.s (turnedM b.arc c.t d.t)).x0 ≤ p.x + gx; omega
  · show p.x + gx ≤ b.x1 + (reachA c.f d.l d.s (turnedM b.arc c.t d.t)).x1; omega
  · show b.y0 + (reachA c.f d.l d.s (turnedM b.arc c.t d.t)).y0 ≤ p.y + gy; omega
  · show p.y + gy ≤ b.y1 + (reachA c.f d.l d.s (turnedM b.arc c.t d.t)).y1; omega
  · intro i hi
    rw [imagesL_len] at hi
    rw [imagesL_get b c d _ hi]
    exact hall i hi
  · generalize turnedM b.arc c.t d.t = a at *
    obtain ⟨a1, a2, a3, a4, a5⟩ := id hto
    unfold Arc.mem at hm
    rw [decide_eq_true_eq] at hm
    have hi : ((h - a.f) % 256).toNat < a.c.toNat := by omega
    refine ⟨((h - a.f) % 256).toNat, by rw [imagesL_len]; exact hi, ?_⟩
    rw [imagesL_get b c d _ hi]
    have eh : (a.f + ((((h - a.f) % 256).toNat : Nat) : Int)) % 256 = h := by omega
    have hok := hall _ hi
    rw [eh] at hok ⊢
    obtain ⟨g1, g2, g3, g4⟩ := hgo
    refine ⟨hok, ?_, ?_, ?_, ?_, ?_⟩
    · show b.x0 + (reachM c.f d.l d.s h).x0 ≤ p.x + gx; omega
    · show p.x + gx ≤ b.x1 + (reachM c.f d.l d.s h).x1; omega
    · show b.y0 + (reachM c.f d.l d.s h).y0 ≤ p.y + gy; omega
    · show p.y + gy ≤ b.y1 + (reachM c.f d.l d.s h).y1; omega
    · show decide ((h - h) % 256 < 1) = true
      rw [decide_eq_true_eq]; omega
  · rw [imagesL_len]
    have := hto.2.2.2.1
    omega
def anyH (l : List Box) (p : Pose) : Nat → Bool
  | 0 => false
  | n + 1 => anyH l p n || decide ((l.getD n Box.zero).has p)
theorem anyH_true {l : List Box} {p : Pose} {i : Nat} (h : (l.getD i Box.zero).has p) : ∀ n, i < n → anyH l p n = true
  | 0, hn => by omega
  | n + 1, hn => by
    unfold anyH
    by_cases e : i = n
    · subst e; rw [decide_eq_true h, Bool.or_true]
    · rw [anyH_true h n (by omega), Bool.true_or]
set_option maxRecDepth 20000
set_option maxHeartbeats 16000000
theorem lholds_pure (b : Box) (g : GoT) (x : TryT) (hk : 0 ≤ x.k ∧ x.k ≤ 255) (hh : 0 ≤ x.h ∧ x.h ≤ 255) : Pure Try.prog 7 [.agg (encBox b), .agg (encGo g), .agg (encTry x)] (.bool true) := by
  have m1 := image_pure b g.c g.b
  have v1 := boxB_pure b
  have v2 := bcmd_pure g.c
  have v3 := bbounds_pure g.b
  simp only [encBox, encGo, encTry]
  by_cases h : b.ok ∧ g.c.ok ∧ g.b.ok
  · rw [decide_eq_true h.1] at v1
    rw [decide_eq_true h.2.1] at v2
    rw [decide_eq_true h.2.2] at v3
    have pp := lpose_pure b x.k x.h h.1 hk hh
    obtain ⟨hp, p0, p1⟩ := pose_has h.1 (x.k.tmod 5) hh.1
    generalize poseAt b (x.k.tmod 5) x.h = at' at *
    obtain ⟨lo, s1, _⟩ := clip_low h.2.2 x.e
    have cl := rclip_pure g.b x.e h.2.2
    obtain ⟨b1, b2, b3, b4, b5, b6, _⟩ := id h.1
    obtain ⟨_, q1, q2, q3, q4, _⟩ := id hp
    have hpo : at'.ok := ⟨by omega, by omega, by omega, by omega, p0, p1⟩
    have nx := rnext_pure at' g.c (clipS g.b x.e) hpo h.2.1 lo
    obtain ⟨w, ew, hw⟩ := bump_has h.1 h.2.1 h.2.2 x.e hp
    have bx := boxes23_pure [b] (by show ((1 : Nat) : Int) < 4611686018427387904; decide) g.c g.b true
    rw [ew] at bx
    have nr : ∀ ow : List Own, ow[7]? = some (.blk 33 0 6 [encBox b]) → Run Try.prog 24 [.rs 7 0 0 1, .agg [.int .i64 g.c.t, .int .i64 g.c.f], .agg [.int .i64 g.b.t, .int .i64 g.b.l, .int .i64 g.b.s, .int .i64 g.b.r], .bool true] [7, 7] ow (encBs ⟨[w], 0⟩) [(7, .froz 33 0 6 [encBox b])] := fun ow ho => by
      refine run_fz ho (lit_box [b]) ?_ bx
      simp only [go_sem, reduceAdd, reduceSub, reduceMul, reduceEqDiff, reduceLeDiff, Nat.reduceBEq, reduceLT, reduceIte, reduceCtorEq, Int.reduceToNat, encBox, List.getElem?_set_self (get_lt ho), Nat.sub_zero, Nat.le_refl, List.drop_zero]
    have vw := lhas_pure w ⟨at'.x, at'.y, goH at' g.c (clipS g.b x.e)⟩ hw.1
    rw [decide_eq_true hw] at vw
    by_cases hf : (nextM at' g.c (clipS g.b x.e)).e = 0
    · obtain ⟨en, _⟩ := nextM_ok hf
      rw [en] at nx
      have egh : (goP at' g.c (clipS g.b x.e)).h = goH at' g.c (clipS g.b x.e) := by rw [goP_eq]
      rw [← egh] at vw
      by_cases he : (imageM b g.c g.b).e = 0
      · obtain ⟨W, l, im, ims, wok, whas, hall, hone, hlen⟩ := hold_facts h.1 h.2.1 h.2.2 x.e hp he
        rw [im] at m1
        have mi := pimages_pure b g.c g.b
        rw [ims] at mi
        have vW := lhas_pure W (goP at' g.c (clipS g.b x.e)) wok
        rw [decide_eq_true whas] at vW
        have vi := fun i (hi : i < l.length) => lhas_pure (l.getD i Box.zero) (goP at' g.c (clipS g.b x.e)) (hall i hi)
        have hA : anyH l (goP at' g.c (clipS g.b x.e)) l.length = true := by
          obtain ⟨i, hi, hx⟩ := hone
          exact anyH_true hx _ hi
        have hA0 : anyH l (goP at' g.c (clipS g.b x.e)) 0 = false := rfl
        have hAs : ∀ n, anyH l (goP at' g.c (clipS g.b x.e)) (n + 1) = (anyH l (goP at' g.c (clipS g.b x.e)) n || decide ((l.getD n Box.zero).has (goP at' g.c (clipS g.b x.e)))) := fun n => rfl
        generalize anyH l (goP at' g.c (clipS g.b x.e)) = A at *
        generalize goP at' g.c (clipS g.b x.e) = to at *
        generalize clipS g.b x.e = s at *
        clear en egh im ims wok whas hall hone hf he hw ew hp h hpo lo
        simp only [encMv, encBox, encPoR, encBs, List.map_cons, List.map_nil] at *
        (refine pure_of_ev tt_ok Try.func7 rfl (by decide +kernel) (Nat.le_of_ble_eq_true rfl) ?_; simp only [Try.f7])
        repeat' first
          | refine ev_seq (fun K hK => ?_)
          | ((first | refine evrd (id := 11) hmix tt_ok false [([], false), ([], false), ([], false), ([], false), ([], false), ([], false), ([], false), ([], false), ([], false), ([], false), ([], false), ([], false), ([], false), ([], false), ([], false), ([], false), ([], false), ([], false), ([], false), ([], false), ([], false), ([], false), ([], false), ([], false), ([], false)] (by decide +kernel) ?_ | refine evrd (id := 20) hmix tt_ok false [([], false), ([], false), ([], false), ([], false), ([], false), ([], false), ([], false), ([], false), ([], false), ([], false)] (by decide +kernel) ?_ | refine evr tt_ok false ?_ | refine ev_skip ?_ | refine ev_ret ?_ | refine ev_exit ?_ | refine evc (fun X Y hX hY => ?_)); simp only [go_sem, reduceAdd, reduceSub, reduceMul, reduceEqDiff, reduceLeDiff, Nat.reduceBEq, reduceLT, reduceIte, reduceCtorEq, Int.reduceToNat, Int.natCast_one, bne, Int.reduceBEq, beq_self_eq_true, List.length_map]; try (first | (refine ⟨fun h => hX ?_, fun h => hY ?_⟩; clear hX hY) | (refine hX ?_; clear hX hY) | (refine hY ?_; clear hX hY)))
          | refine ev_block ?_
          | (apply hK; clear hK)
          | apply_assumption -exfalso -symm only [*]
          | (refine And.intro ?_ ?_; first | omega | assumption | (unfold maxLen; omega) | (simp only [decide_eq_true_eq, decide_eq_false_iff_not, Int.not_lt, Int.not_le] at h; omega))
          | ((first | apply callP | apply callPG | apply callP0); (case' hv => (simp only [go_sem, reduceAdd, reduceSub, reduceMul, reduceEqDiff, reduceLeDiff, Nat.reduceBEq, reduceLT, reduceIte, reduceCtorEq, Int.reduceToNat, Int.natCast_one, bne, Int.reduceBEq, beq_self_eq_true, List.length_map]; try exact rfl)); (case' hp => (first | refine' awake23_pure | (refine' (fun hg => ?_); refine' awake23_pure) | refine' v1 | (refine' (fun hg => ?_); refine' v1) | refine' v2 | (refine' (fun hg => ?_); refine' v2) | refine' v3 | (refine' (fun hg => ?_); refine' v3) | refine' pp | (refine' (fun hg => ?_); refine' pp) | refine' cl | (refine' (fun hg => ?_); refine' cl) | refine' nx | (refine' (fun hg => ?_); refine' nx) | refine' m1 | (refine' (fun hg => ?_); refine' m1) | refine' vw | (refine' (fun hg => ?_); refine' vw) | refine' mi | (refine' (fun hg => ?_); refine' mi))); (case' h => ((first | refine evOps_fin ?_ | refine And.intro ?_ (evD_fin ?_) | refine evD_fin ?_) <;> simp only [go_sem, reduceAdd, reduceSub, reduceMul, reduceEqDiff, reduceLeDiff, Nat.reduceBEq, reduceLT, reduceIte, reduceCtorEq, Int.reduceToNat, Int.natCast_one, bne, Int.reduceBEq, beq_self_eq_true, List.length_map])))
          | ((first | apply callE | apply callEG | apply callE0); (case' hp => (first | refine' nr _ rfl | (refine' (fun hg => ?_); refine' nr _ rfl))); (case' h => ((first | refine evOps_fin ?_ | refine And.intro ?_ (evD_fin ?_) | refine evD_fin ?_) <;> simp only [go_sem, reduceAdd, reduceSub, reduceMul, reduceEqDiff, reduceLeDiff, Nat.reduceBEq, reduceLT, reduceIte, reduceCtorEq, Int.reduceToNat, Int.natCast_one, bne, Int.reduceBEq, beq_self_eq_true, List.length_map])))
          | (refine callX ?_; (first | refine evOps_fin ?_ | refine And.intro ?_ (evD_fin ?_) | refine evD_fin ?_) <;> simp only [go_sem, reduceAdd, reduceSub, reduceMul, reduceEqDiff, reduceLeDiff, Nat.reduceBEq, reduceLT, reduceIte, reduceCtorEq, Int.reduceToNat, Int.natCast_one, bne, Int.reduceBEq, beq_self_eq_true, List.length_map])
        refine ev_loop (fun i : Nat => i ≤ l.length)
          (fun i => ⟨162, [(21, .int .i64 (i : Int)), (20, .bool (A i)), (19, .int .i64 0), (18, .sl (l.map encBox)), (14, .own 6 0 0 0), (12, .own 5 0 0 0)],
            [.blk 33 0 6 [[.int .i64 b.x0, .int .i64 b.y0, .int .i64 b.x1, .int .i64 b.y1, .int .i64 b.f, .int .i64 b.c]],
             .blk 39 0 6 [[.int .i64 g.c.t, .int .i64 g.c.f, .int .i64 g.b.t, .int .i64 g.b.l, .int .i64 g.b.s, .int .i64 g.b.r]],
             .blk 43 0 6 [[.int .u8 x.k, .int .u8 x.h, .int .i64 x.e.t, .int .i64 x.e.l, .int .i64 x.e.x, .int .i64 x.e.y]],
             .blk 24 0 3 [[.int .i64 at'.x, .int .i64 at'.y, .int .i64 at'.h]],
             .blk 41 0 4 [[.int .i64 s.t, .int .i64 s.l, .int .i64 s.x, .int .i64 s.y]],
             .blk 24 0 3 [[.int .i64 to.x, .int .i64 to.y, .int .i64 to.h]],
             .blk 33 0 6 [[.int .i64 W.x0, .int .i64 W.y0, .int .i64 W.x1, .int .i64 W.y1, .int .i64 W.f, .int .i64 W.c]]]⟩)
          (fun i => l.length - i) 0 (Nat.zero_le _) ?_ ?_
        · simp only [go_sem, reduceAdd, reduceSub, reduceMul, reduceEqDiff, reduceLeDiff, Nat.reduceBEq, reduceLT, reduceIte, reduceCtorEq, Int.reduceToNat, fits, fitT, fitOs, fitO, V.under, unders, rowsUnder, hA0]
          repeat' first | rfl | (simp only [V.under, unders, rowsUnder, Nat.reduceLT]; done) | apply And.intro
        · intro i hi
          have hb0 : 0 ≤ (i : Int) := by omega
          have hw : IntKind.i64.wrap ((i : Int) + 1) = ((i + 1 : Nat) : Int) := by rw [w64] <;> omega
          by_cases hlt : (i : Int) < l.length
          · have hg := box_get l i
            have vh := vi i (by omega)
            have hs := hAs i
            generalize decide ((l.getD i Box.zero).has to) = hd at *
            generalize l.getD i Box.zero = q at hg vh
            repeat' first
              | refine ev_seq (fun K hK => ?_)
              | ((first | refine evrd (id := 11) hmix tt_ok false [([], false), ([], false), ([], false), ([], false), ([], false), ([], false), ([], false), ([], false), ([], false), ([], false), ([], false), ([], false), ([], false), ([], false), ([], false), ([], false), ([], false), ([], false), ([], false), ([], false), ([], false), ([], false), ([], false), ([], false), ([], false)] (by decide +kernel) ?_ | refine evrd (id := 20) hmix tt_ok false [([], false), ([], false), ([], false), ([], false), ([], false), ([], false), ([], false), ([], false), ([], false), ([], false)] (by decide +kernel) ?_ | refine evr tt_ok false ?_ | refine ev_skip ?_ | refine ev_ret ?_ | refine ev_exit ?_ | refine evc (fun X Y hX hY => ?_)); simp only [go_sem, reduceAdd, reduceSub, reduceMul, reduceEqDiff, reduceLeDiff, Nat.reduceBEq, reduceLT, reduceIte, reduceCtorEq, Int.reduceToNat, hb0, hw, hlt, hg, List.length_map, Int.toNat_natCast]; try (first | (refine ⟨fun h => hX ?_, fun h => hY ?_⟩; clear hX hY) | (refine hX ?_; clear hX hY) | (refine hY ?_; clear hX hY)))
              | refine ev_block ?_
              | (apply hK; clear hK)
              | apply_assumption -exfalso -symm only [*]
              | (refine And.intro ?_ ?_; first | omega | assumption | (unfold maxLen; omega) | (simp only [decide_eq_true_eq, decide_eq_false_iff_not, Int.not_lt, Int.not_le] at h; omega))
              | ((first | apply callP | apply callPG | apply callP0); (case' hv => (simp only [go_sem, reduceAdd, reduceSub, reduceMul, reduceEqDiff, reduceLeDiff, Nat.reduceBEq, reduceLT, reduceIte, reduceCtorEq, Int.reduceToNat, hb0, hw, hlt, hg, List.length_map, Int.toNat_natCast]; try exact rfl)); (case' hp => (first | refine' vh | (refine' (fun hg => ?_); refine' vh))); (case' h => ((first | refine evOps_fin ?_ | refine And.intro ?_ (evD_fin ?_) | refine evD_fin ?_) <;> simp only [go_sem, reduceAdd, reduceSub, reduceMul, reduceEqDiff, reduceLeDiff, Nat.reduceBEq, reduceLT, reduceIte, reduceCtorEq, Int.reduceToNat, hb0, hw, hlt, hg, List.length_map, Int.toNat_natCast])))
              | (refine callX ?_; (first | refine evOps_fin ?_ | refine And.intro ?_ (evD_fin ?_) | refine evD_fin ?_) <;> simp only [go_sem, reduceAdd, reduceSub, reduceMul, reduceEqDiff, reduceLeDiff, Nat.reduceBEq, reduceLT, reduceIte, reduceCtorEq, Int.reduceToNat, hb0, hw, hlt, hg, List.length_map, Int.toNat_natCast])
            refine ⟨i + 1, by omega, ?_, by omega⟩
            rw [hs]
            repeat' first | rfl | apply And.intro
          · obtain rfl : i = l.length := by omega
            rw [hA]
            repeat' first
              | refine ev_seq (fun K hK => ?_)
              | ((first | refine evrd (id := 11) hmix tt_ok false [([], false), ([], false), ([], false), ([], false), ([], false), ([], false), ([], false), ([], false), ([], false), ([], false), ([], false), ([], false), ([], false), ([], false), ([], false), ([], false), ([], false), ([], false), ([], false), ([], false), ([], false), ([], false), ([], false), ([], false), ([], false)] (by decide +kernel) ?_ | refine evrd (id := 20) hmix tt_ok false [([], false), ([], false), ([], false), ([], false), ([], false), ([], false), ([], false), ([], false), ([], false), ([], false)] (by decide +kernel) ?_ | refine evr tt_ok false ?_ | refine ev_skip ?_ | refine ev_ret ?_ | refine ev_exit ?_ | refine evc (fun X Y hX hY => ?_)); simp only [go_sem, reduceAdd, reduceSub, reduceMul, reduceEqDiff, reduceLeDiff, Nat.reduceBEq, reduceLT, reduceIte, reduceCtorEq, Int.reduceToNat, hlt, Int.reduceBEq, List.length_map]; try (first | (refine ⟨fun h => hX ?_, fun h => hY ?_⟩; clear hX hY) | (refine hX ?_; clear hX hY) | (refine hY ?_; clear hX hY)))
              | refine ev_block ?_
              | (apply hK; clear hK)
              | apply_assumption -exfalso -symm only [*]
              | (refine And.intro ?_ ?_; first | omega | assumption | (unfold maxLen; omega) | (simp only [decide_eq_true_eq, decide_eq_false_iff_not, Int.not_lt, Int.not_le] at h; omega))
              | ((first | apply callP | apply callPG | apply callP0); (case' hv => (simp only [go_sem, reduceAdd, reduceSub, reduceMul, reduceEqDiff, reduceLeDiff, Nat.reduceBEq, reduceLT, reduceIte, reduceCtorEq, Int.reduceToNat, hlt, Int.reduceBEq, List.length_map]; try exact rfl)); (case' hp => (first | refine' vW | (refine' (fun hg => ?_); refine' vW))); (case' h => ((first | refine evOps_fin ?_ | refine And.intro ?_ (evD_fin ?_) | refine evD_fin ?_) <;> simp only [go_sem, reduceAdd, reduceSub, reduceMul, reduceEqDiff, reduceLeDiff, Nat.reduceBEq, reduceLT, reduceIte, reduceCtorEq, Int.reduceToNat, hlt, Int.reduceBEq, List.length_map])))
              | (refine callX ?_; (first | refine evOps_fin ?_ | refine And.intro ?_ (evD_fin ?_) | refine evD_fin ?_) <;> simp only [go_sem, reduceAdd, reduceSub, reduceMul, reduceEqDiff, reduceLeDiff, Nat.reduceBEq, reduceLT, reduceIte, reduceCtorEq, Int.reduceToNat, hlt, Int.reduceBEq, List.length_map])
      · have e2 : (imageM b g.c g.b).e = 2 := image_bad h he
        generalize imageM b g.c g.b = I at *
        generalize goP at' g.c (clipS g.b x.e) = to at *
        generalize clipS g.b x.e = s at *
        clear en egh hf he hw ew hp h hpo lo
        simp only [encMv, encBox, encPoR, encBs, e2, List.map_cons, List.map_nil] at *
        (refine pure_of_ev tt_ok Try.func7 rfl (by decide +kernel) (Nat.le_of_ble_eq_true rfl) ?_; simp only [Try.f7])
        repeat' first
          | refine ev_seq (fun K hK => ?_)
          | ((first | refine evrd (id := 11) hmix tt_ok false [([], false), ([], false), ([], false), ([], false), ([], false), ([], false), ([], false), ([], false), ([], false), ([], false), ([], false), ([], false), ([], false), ([], false), ([], false), ([], false), ([], false), ([], false), ([], false), ([], false), ([], false), ([], false), ([], false), ([], false), ([], false)] (by decide +kernel) ?_ | refine evrd (id := 20) hmix tt_ok false [([], false), ([], false), ([], false), ([], false), ([], false), ([], false), ([], false), ([], false), ([], false), ([], false)] (by decide +kernel) ?_ | refine evr tt_ok false ?_ | refine ev_skip ?_ | refine ev_ret ?_ | refine ev_exit ?_ | refine evc (fun X Y hX hY => ?_)); simp only [go_sem, reduceAdd, reduceSub, reduceMul, reduceEqDiff, reduceLeDiff, Nat.reduceBEq, reduceLT, reduceIte, reduceCtorEq, Int.reduceToNat, Int.natCast_one, bne, Int.reduceBEq, beq_self_eq_true, List.length_map]; try (first | (refine ⟨fun h => hX ?_, fun h => hY ?_⟩; clear hX hY) | (refine hX ?_; clear hX hY) | (refine hY ?_; clear hX hY)))
          | refine ev_block ?_
          | (apply hK; clear hK)
          | apply_assumption -exfalso -symm only [*]
          | (refine And.intro ?_ ?_; first | omega | assumption | (unfold maxLen; omega) | (simp only [decide_eq_true_eq, decide_eq_false_iff_not, Int.not_lt, Int.not_le] at h; omega))
          | ((first | apply callP | apply callPG | apply callP0); (case' hv => (simp only [go_sem, reduceAdd, reduceSub, reduceMul, reduceEqDiff, reduceLeDiff, Nat.reduceBEq, reduceLT, reduceIte, reduceCtorEq, Int.reduceToNat, Int.natCast_one, bne, Int.reduceBEq, beq_self_eq_true, List.length_map]; try exact rfl)); (case' hp => (first | refine' awake23_pure | (refine' (fun hg => ?_); refine' awake23_pure) | refine' v1 | (refine' (fun hg => ?_); refine' v1) | refine' v2 | (refine' (fun hg => ?_); refine' v2) | refine' v3 | (refine' (fun hg => ?_); refine' v3) | refine' pp | (refine' (fun hg => ?_); refine' pp) | refine' cl | (refine' (fun hg => ?_); refine' cl) | refine' nx | (refine' (fun hg => ?_); refine' nx) | refine' m1 | (refine' (fun hg => ?_); refine' m1) | refine' vw | (refine' (fun hg => ?_); refine' vw))); (case' h => ((first | refine evOps_fin ?_ | refine And.intro ?_ (evD_fin ?_) | refine evD_fin ?_) <;> simp only [go_sem, reduceAdd, reduceSub, reduceMul, reduceEqDiff, reduceLeDiff, Nat.reduceBEq, reduceLT, reduceIte, reduceCtorEq, Int.reduceToNat, Int.natCast_one, bne, Int.reduceBEq, beq_self_eq_true, List.length_map])))
          | ((first | apply callE | apply callEG | apply callE0); (case' hp => (first | refine' nr _ rfl | (refine' (fun hg => ?_); refine' nr _ rfl))); (case' h => ((first | refine evOps_fin ?_ | refine And.intro ?_ (evD_fin ?_) | refine evD_fin ?_) <;> simp only [go_sem, reduceAdd, reduceSub, reduceMul, reduceEqDiff, reduceLeDiff, Nat.reduceBEq, reduceLT, reduceIte, reduceCtorEq, Int.reduceToNat, Int.natCast_one, bne, Int.reduceBEq, beq_self_eq_true, List.length_map])))
          | (refine callX ?_; (first | refine evOps_fin ?_ | refine And.intro ?_ (evD_fin ?_) | refine evD_fin ?_) <;> simp only [go_sem, reduceAdd, reduceSub, reduceMul, reduceEqDiff, reduceLeDiff, Nat.reduceBEq, reduceLT, reduceIte, reduceCtorEq, Int.reduceToNat, Int.natCast_one, bne, Int.reduceBEq, beq_self_eq_true, List.length_map])
    · have f2 := nextM_bad hf
      have hE : (imageM b g.c g.b).e = 0 ∨ (imageM b g.c g.b).e = 2 := by
        by_cases he : (imageM b g.c g.b).e = 0
        · exact .inl he
        · exact .inr (image_bad h he)
      generalize imageM b g.c g.b = I at *
      generalize nextM at' g.c (clipS g.b x.e) = R at *
      generalize clipS g.b x.e = s at *
      clear hf hw ew hp h hpo lo vw
      rcases hE with e2 | e2
      all_goals
        simp only [encMv, encBox, encPoR, encBs, e2, f2, List.map_cons, List.map_nil] at *
        (refine pure_of_ev tt_ok Try.func7 rfl (by decide +kernel) (Nat.le_of_ble_eq_true rfl) ?_; simp only [Try.f7])
        repeat' first
          | refine ev_seq (fun K hK => ?_)
          | ((first | refine evrd (id := 11) hmix tt_ok false [([], false), ([], false), ([], false), ([], false), ([], false), ([], false), ([], false), ([], false), ([], false), ([], false), ([], false), ([], false), ([], false), ([], false), ([], false), ([], false), ([], false), ([], false), ([], false), ([], false), ([], false), ([], false), ([], false), ([], false), ([], false)] (by decide +kernel) ?_ | refine evrd (id := 20) hmix tt_ok false [([], false), ([], false), ([], false), ([], false), ([], false), ([], false), ([], false), ([], false), ([], false), ([], false)] (by decide +kernel) ?_ | refine evr tt_ok false ?_ | refine ev_skip ?_ | refine ev_ret ?_ | refine ev_exit ?_ | refine evc (fun X Y hX hY => ?_)); simp only [go_sem, reduceAdd, reduceSub, reduceMul, reduceEqDiff, reduceLeDiff, Nat.reduceBEq, reduceLT, reduceIte, reduceCtorEq, Int.reduceToNat, Int.natCast_one, bne, Int.reduceBEq, beq_self_eq_true, List.length_map]; try (first | (refine ⟨fun h => hX ?_, fun h => hY ?_⟩; clear hX hY) | (refine hX ?_; clear hX hY) | (refine hY ?_; clear hX hY)))
          | refine ev_block ?_
          | (apply hK; clear hK)
          | apply_assumption -exfalso -symm only [*]
          | (refine And.intro ?_ ?_; first | omega | assumption | (unfold maxLen; omega) | (simp only [decide_eq_true_eq, decide_eq_false_iff_not, Int.not_lt, Int.not_le] at h; omega))
          | ((first | apply callP | apply callPG | apply callP0); (case' hv => (simp only [go_sem, reduceAdd, reduceSub, reduceMul, reduceEqDiff, reduceLeDiff, Nat.reduceBEq, reduceLT, reduceIte, reduceCtorEq, Int.reduceToNat, Int.natCast_one, bne, Int.reduceBEq, beq_self_eq_true, List.length_map]; try exact rfl)); (case' hp => (first | refine' awake23_pure | (refine' (fun hg => ?_); refine' awake23_pure) | refine' v1 | (refine' (fun hg => ?_); refine' v1) | refine' v2 | (refine' (fun hg => ?_); refine' v2) | refine' v3 | (refine' (fun hg => ?_); refine' v3) | refine' pp | (refine' (fun hg => ?_); refine' pp) | refine' cl | (refine' (fun hg => ?_); refine' cl) | refine' nx | (refine' (fun hg => ?_); refine' nx) | refine' m1 | (refine' (fun hg => ?_); refine' m1))); (case' h => ((first | refine evOps_fin ?_ | refine And.intro ?_ (evD_fin ?_) | refine evD_fin ?_) <;> simp only [go_sem, reduceAdd, reduceSub, reduceMul, reduceEqDiff, reduceLeDiff, Nat.reduceBEq, reduceLT, reduceIte, reduceCtorEq, Int.reduceToNat, Int.natCast_one, bne, Int.reduceBEq, beq_self_eq_true, List.length_map])))
          | ((first | apply callE | apply callEG | apply callE0); (case' hp => (first | refine' nr _ rfl | (refine' (fun hg => ?_); refine' nr _ rfl))); (case' h => ((first | refine evOps_fin ?_ | refine And.intro ?_ (evD_fin ?_) | refine evD_fin ?_) <;> simp only [go_sem, reduceAdd, reduceSub, reduceMul, reduceEqDiff, reduceLeDiff, Nat.reduceBEq, reduceLT, reduceIte, reduceCtorEq, Int.reduceToNat, Int.natCast_one, bne, Int.reduceBEq, beq_self_eq_true, List.length_map])))
          | (refine callX ?_; (first | refine evOps_fin ?_ | refine And.intro ?_ (evD_fin ?_) | refine evD_fin ?_) <;> simp only [go_sem, reduceAdd, reduceSub, reduceMul, reduceEqDiff, reduceLeDiff, Nat.reduceBEq, reduceLT, reduceIte, reduceCtorEq, Int.reduceToNat, Int.natCast_one, bne, Int.reduceBEq, beq_self_eq_true, List.length_map])
  · have e : imageM b g.c g.b = ⟨Box.zero, 1⟩ := if_neg h
    rw [e] at m1
    simp only [encMv, encBox, Box.zero] at m1
    by_cases hb : b.ok
    · rw [decide_eq_true hb] at v1
      by_cases hc : g.c.ok
      · have hd : ¬ g.b.ok := fun hd => h ⟨hb, hc, hd⟩
        rw [decide_eq_true hc] at v2
        rw [decide_eq_false hd] at v3
        (refine pure_of_ev tt_ok Try.func7 rfl (by decide +kernel) (Nat.le_of_ble_eq_true rfl) ?_; simp only [Try.f7])
        repeat' first
          | refine ev_seq (fun K hK => ?_)
          | ((first | refine evrd (id := 11) hmix tt_ok false [([], false), ([], false), ([], false), ([], false), ([], false), ([], false), ([], false), ([], false), ([], false), ([], false), ([], false), ([], false), ([], false), ([], false), ([], false), ([], false), ([], false), ([], false), ([], false), ([], false), ([], false), ([], false), ([], false), ([], false), ([], false)] (by decide +kernel) ?_ | refine evrd (id := 20) hmix tt_ok false [([], false), ([], false), ([], false), ([], false), ([], false), ([], false), ([], false), ([], false), ([], false), ([], false)] (by decide +kernel) ?_ | refine evr tt_ok false ?_ | refine ev_skip ?_ | refine ev_ret ?_ | refine ev_exit ?_ | refine evc (fun X Y hX hY => ?_)); simp only [go_sem, reduceAdd, reduceSub, reduceMul, reduceEqDiff, reduceLeDiff, Nat.reduceBEq, reduceLT, reduceIte, reduceCtorEq, Int.reduceToNat, Int.reduceBEq]; try (first | (refine ⟨fun h => hX ?_, fun h => hY ?_⟩; clear hX hY) | (refine hX ?_; clear hX hY) | (refine hY ?_; clear hX hY)))
          | refine ev_block ?_
          | (apply hK; clear hK)
          | apply_assumption -exfalso -symm only [*]
          | (refine And.intro ?_ ?_; first | omega | assumption | (unfold maxLen; omega) | (simp only [decide_eq_true_eq, decide_eq_false_iff_not, Int.not_lt, Int.not_le] at h; omega))
          | ((first | apply callP | apply callPG | apply callP0); (case' hv => (simp only [go_sem, reduceAdd, reduceSub, reduceMul, reduceEqDiff, reduceLeDiff, Nat.reduceBEq, reduceLT, reduceIte, reduceCtorEq, Int.reduceToNat, Int.reduceBEq]; try exact rfl)); (case' hp => (first | refine' awake23_pure | (refine' (fun hg => ?_); refine' awake23_pure) | refine' v1 | (refine' (fun hg => ?_); refine' v1) | refine' v2 | (refine' (fun hg => ?_); refine' v2) | refine' v3 | (refine' (fun hg => ?_); refine' v3) | refine' m1 | (refine' (fun hg => ?_); refine' m1))); (case' h => ((first | refine evOps_fin ?_ | refine And.intro ?_ (evD_fin ?_) | refine evD_fin ?_) <;> simp only [go_sem, reduceAdd, reduceSub, reduceMul, reduceEqDiff, reduceLeDiff, Nat.reduceBEq, reduceLT, reduceIte, reduceCtorEq, Int.reduceToNat, Int.reduceBEq])))
          | (refine callX ?_; (first | refine evOps_fin ?_ | refine And.intro ?_ (evD_fin ?_) | refine evD_fin ?_) <;> simp only [go_sem, reduceAdd, reduceSub, reduceMul, reduceEqDiff, reduceLeDiff, Nat.reduceBEq, reduceLT, reduceIte, reduceCtorEq, Int.reduceToNat, Int.reduceBEq])
        all_goals rfl
      · rw [decide_eq_false hc] at v2
        (refine pure_of_ev tt_ok Try.func7 rfl (by decide +kernel) (Nat.le_of_ble_eq_true rfl) ?_; simp only [Try.f7])
        repeat' first
          | refine ev_seq (fun K hK => ?_)
          | ((first | refine evrd (id := 11) hmix tt_ok false [([], false), ([], false), ([], false), ([], false), ([], false), ([], false), ([], false), ([], false), ([], false), ([], false), ([], false), ([], false), ([], false), ([], false), ([], false), ([], false), ([], false), ([], false), ([], false), ([], false), ([], false), ([], false), ([], false), ([], false), ([], false)] (by decide +kernel) ?_ | refine evrd (id := 20) hmix tt_ok false [([], false), ([], false), ([], false), ([], false), ([], false), ([], false), ([], false), ([], false), ([], false), ([], false)] (by decide +kernel) ?_ | refine evr tt_ok false ?_ | refine ev_skip ?_ | refine ev_ret ?_ | refine ev_exit ?_ | refine evc (fun X Y hX hY => ?_)); simp only [go_sem, reduceAdd, reduceSub, reduceMul, reduceEqDiff, reduceLeDiff, Nat.reduceBEq, reduceLT, reduceIte, reduceCtorEq, Int.reduceToNat, Int.reduceBEq]; try (first | (refine ⟨fun h => hX ?_, fun h => hY ?_⟩; clear hX hY) | (refine hX ?_; clear hX hY) | (refine hY ?_; clear hX hY)))
          | refine ev_block ?_
          | (apply hK; clear hK)
          | apply_assumption -exfalso -symm only [*]
          | (refine And.intro ?_ ?_; first | omega | assumption | (unfold maxLen; omega) | (simp only [decide_eq_true_eq, decide_eq_false_iff_not, Int.not_lt, Int.not_le] at h; omega))
          | ((first | apply callP | apply callPG | apply callP0); (case' hv => (simp only [go_sem, reduceAdd, reduceSub, reduceMul, reduceEqDiff, reduceLeDiff, Nat.reduceBEq, reduceLT, reduceIte, reduceCtorEq, Int.reduceToNat, Int.reduceBEq]; try exact rfl)); (case' hp => (first | refine' awake23_pure | (refine' (fun hg => ?_); refine' awake23_pure) | refine' v1 | (refine' (fun hg => ?_); refine' v1) | refine' v2 | (refine' (fun hg => ?_); refine' v2) | refine' v3 | (refine' (fun hg => ?_); refine' v3) | refine' m1 | (refine' (fun hg => ?_); refine' m1))); (case' h => ((first | refine evOps_fin ?_ | refine And.intro ?_ (evD_fin ?_) | refine evD_fin ?_) <;> simp only [go_sem, reduceAdd, reduceSub, reduceMul, reduceEqDiff, reduceLeDiff, Nat.reduceBEq, reduceLT, reduceIte, reduceCtorEq, Int.reduceToNat, Int.reduceBEq])))
          | (refine callX ?_; (first | refine evOps_fin ?_ | refine And.intro ?_ (evD_fin ?_) | refine evD_fin ?_) <;> simp only [go_sem, reduceAdd, reduceSub, reduceMul, reduceEqDiff, reduceLeDiff, Nat.reduceBEq, reduceLT, reduceIte, reduceCtorEq, Int.reduceToNat, Int.reduceBEq])
        all_goals rfl
    · rw [decide_eq_false hb] at v1
      (refine pure_of_ev tt_ok Try.func7 rfl (by decide +kernel) (Nat.le_of_ble_eq_true rfl) ?_; simp only [Try.f7])
      repeat' first
        | refine ev_seq (fun K hK => ?_)
        | ((first | refine evrd (id := 11) hmix tt_ok false [([], false), ([], false), ([], false), ([], false), ([], false), ([], false), ([], false), ([], false), ([], false), ([], false), ([], false), ([], false), ([], false), ([], false), ([], false), ([], false), ([], false), ([], false), ([], false), ([], false), ([], false), ([], false), ([], false), ([], false), ([], false)] (by decide +kernel) ?_ | refine evrd (id := 20) hmix tt_ok false [([], false), ([], false), ([], false), ([], false), ([], false), ([], false), ([], false), ([], false), ([], false), ([], false)] (by decide +kernel) ?_ | refine evr tt_ok false ?_ | refine ev_skip ?_ | refine ev_ret ?_ | refine ev_exit ?_ | refine evc (fun X Y hX hY => ?_)); simp only [go_sem, reduceAdd, reduceSub, reduceMul, reduceEqDiff, reduceLeDiff, Nat.reduceBEq, reduceLT, reduceIte, reduceCtorEq, Int.reduceToNat, Int.reduceBEq]; try (first | (refine ⟨fun h => hX ?_, fun h => hY ?_⟩; clear hX hY) | (refine hX ?_; clear hX hY) | (refine hY ?_; clear hX hY)))
        | refine ev_block ?_
        | (apply hK; clear hK)
        | apply_assumption -exfalso -symm only [*]
        | (refine And.intro ?_ ?_; first | omega | assumption | (unfold maxLen; omega) | (simp only [decide_eq_true_eq, decide_eq_false_iff_not, Int.not_lt, Int.not_le] at h; omega))
        | ((first | apply callP | apply callPG | apply callP0); (case' hv => (simp only [go_sem, reduceAdd, reduceSub, reduceMul, reduceEqDiff, reduceLeDiff, Nat.reduceBEq, reduceLT, reduceIte, reduceCtorEq, Int.reduceToNat, Int.reduceBEq]; try exact rfl)); (case' hp => (first | refine' awake23_pure | (refine' (fun hg => ?_); refine' awake23_pure) | refine' v1 | (refine' (fun hg => ?_); refine' v1) | refine' v2 | (refine' (fun hg => ?_); refine' v2) | refine' v3 | (refine' (fun hg => ?_); refine' v3) | refine' m1 | (refine' (fun hg => ?_); refine' m1))); (case' h => ((first | refine evOps_fin ?_ | refine And.intro ?_ (evD_fin ?_) | refine evD_fin ?_) <;> simp only [go_sem, reduceAdd, reduceSub, reduceMul, reduceEqDiff, reduceLeDiff, Nat.reduceBEq, reduceLT, reduceIte, reduceCtorEq, Int.reduceToNat, Int.reduceBEq])))
        | (refine callX ?_; (first | refine evOps_fin ?_ | refine And.intro ?_ (evD_fin ?_) | refine evD_fin ?_) <;> simp only [go_sem, reduceAdd, reduceSub, reduceMul, reduceEqDiff, reduceLeDiff, Nat.reduceBEq, reduceLT, reduceIte, reduceCtorEq, Int.reduceToNat, Int.reduceBEq])
      all_goals rfl
end Go.Proofs.Ytmpmggbcmioipaa
