import Derived.Test.YtmpmggbcmioipaaE1
import Derived.Test.YtmpmggbcmioipaaK17
set_option linter.all false
namespace Go.Proofs.Ytmpmggbcmioipaa
open Nat (reduceAdd reduceSub reduceMul reduceEqDiff reduceLeDiff reduceLT)
open Go Go.K
set_option maxRecDepth 20000
set_option maxHeartbeats 8000000
theorem rboxes23_pure (l : List Box) (hl : (l.length : Int) < 4611686018427387904) (c : Cmd) (d : Bounds) (u : Bool) : Pure Try.prog 25 [.sl (l.map encBox), .agg [.int .i64 c.t, .int .i64 c.f], .agg [.int .i64 d.t, .int .i64 d.l, .int .i64 d.s, .int .i64 d.r], .bool u] (encBs (boxesM l c d u)) := by
  have vs := bset_pure l hl
  have vc := bcmd_pure c
  have vd := bbounds_pure d
  unfold boxesM
  by_cases hs : setOk l
  · rw [decide_eq_true hs] at vs
    by_cases hc : c.ok
    · rw [decide_eq_true hc] at vc
      by_cases hd : d.ok
      · rw [decide_eq_true hd] at vd
        rw [if_pos ⟨hs, hc, hd⟩]
        obtain ⟨hn, hs⟩ := hs
        obtain ⟨c', hc'⟩ : ∃ c', c' = bumpC c u := ⟨_, rfl⟩
        have e1 : c'.t = c.t := by rw [hc']; unfold bumpC; split <;> rfl
        have hu : (u = true ∧ c'.f = 0) ∨ (u = false ∧ c'.f = c.f) := by
          cases u
          · exact .inr ⟨rfl, by rw [hc']; rfl⟩
          · exact .inl ⟨rfl, by rw [hc']; rfl⟩
        have hok : c'.ok := by rw [hc']; exact bump_ok hc u
        have hres : boxesR l (bumpC c u) d = if imOk l c' d then ⟨imL l c' d l.length, 0⟩ else ⟨[], 2⟩ := by rw [← hc']; rfl
        rw [hres]
        clear hres hc'
        have im := fun i => rimage_pure (l.getD i Box.zero) c' d
        have ib := fun i (hi : i < l.length) => @image_bad (l.getD i Box.zero) c' d ⟨hs i hi, hok, hd⟩
        by_cases hio : imOk l c' d
        · rw [if_pos hio]
          have hsu := imL_succ l c' d
          have hll := imL_len l c' d
          have hzz : imL l c' d 0 = [] := rfl
          unfold imOk at hio
          simp only [encBs, encMv] at *
          generalize imL l c' d = M at *
          rcases hu with ⟨hu, e2⟩ | ⟨hu, e2⟩
          all_goals
            subst hu
            (refine pure_of_ev tt_ok Try.func25 rfl (by decide +kernel) (Nat.le_of_ble_eq_true rfl) ?_; simp only [Try.f25])
            repeat' first
              | refine ev_seq (fun K hK => ?_)
              | ((first | refine evrd (id := 9) hmix tt_ok false [([], true), ([], true), ([], true), ([], true), ([], true), ([], true), ([], true), ([], true), ([], true), ([], true), ([0, 1, 2, 3, 4, 5, 6, 7, 8, 9], false), ([9], false), ([], false)] (by decide +kernel) ?_ | refine evr tt_ok false ?_ | refine ev_skip ?_ | refine ev_ret ?_ | refine ev_exit ?_ | refine evc (fun X Y hX hY => ?_)); simp only [go_sem, reduceAdd, reduceSub, reduceMul, reduceEqDiff, reduceLeDiff, Nat.reduceBEq, reduceLT, reduceIte, reduceCtorEq, Int.reduceToNat]; try (first | (refine ⟨fun h => hX ?_, fun h => hY ?_⟩; clear hX hY) | (refine hX ?_; clear hX hY) | (refine hY ?_; clear hX hY)))
              | refine ev_block ?_
              | (apply hK; clear hK)
              | apply_assumption -exfalso -symm only [*]
              | (refine And.intro ?_ ?_; first | omega | assumption | (unfold maxLen; omega) | (simp only [decide_eq_true_eq, decide_eq_false_iff_not, Int.not_lt, Int.not_le] at h; omega))
              | ((first | apply callP | apply callPG | apply callP0); (case' hv => (simp only [go_sem, reduceAdd, reduceSub, reduceMul, reduceEqDiff, reduceLeDiff, Nat.reduceBEq, reduceLT, reduceIte, reduceCtorEq, Int.reduceToNat]; try exact rfl)); (case' hp => (first | refine' vs | (refine' (fun hg => ?_); refine' vs) | refine' vc | (refine' (fun hg => ?_); refine' vc) | refine' vd | (refine' (fun hg => ?_); refine' vd))); (case' h => ((first | refine evOps_fin ?_ | refine And.intro ?_ (evD_fin ?_) | refine evD_fin ?_) <;> simp only [go_sem, reduceAdd, reduceSub, reduceMul, reduceEqDiff, reduceLeDiff, Nat.reduceBEq, reduceLT, reduceIte, reduceCtorEq, Int.reduceToNat])))
              | (refine callX ?_; (first | refine evOps_fin ?_ | refine And.intro ?_ (evD_fin ?_) | refine evD_fin ?_) <;> simp only [go_sem, reduceAdd, reduceSub, reduceMul, reduceEqDiff, reduceLeDiff, Nat.reduceBEq, reduceLT, reduceIte, reduceCtorEq, Int.reduceToNat])
            refine ev_adopt 10 33 6 (by decide) rfl ?_
            refine ev_loop (fun i : Nat => i ≤ l.length)
              (fun i => ⟨53, [(11, .int .i64 i), (10, .rs 2 i 0 i), (6, .own 1 0 0 0), (5, .own 0 0 0 0), (0, .sl (l.map encBox))],
                [.blk 35 0 2 [[.int .i64 c'.t, .int .i64 c'.f]], .blk 37 0 4 [[.int .i64 d.t, .int .i64 d.l, .int .i64 d.s, .int .i64 d.r]], .blk 33 i 6 ((M i).map encBox)]⟩)
              (fun i => l.length - i) 0 (Nat.zero_le _) ?_ ?_
            · simp only [go_sem, reduceAdd, reduceSub, reduceMul, reduceEqDiff, reduceLeDiff, Nat.reduceBEq, reduceLT, reduceIte, reduceCtorEq, Int.reduceToNat, fits, fitT, fitOs, fitO, V.under, unders, rowsUnder, hzz, e1, e2]
              repeat' first | rfl | exact rowsUnder_lit _ (lit_box _) | apply And.intro
            · intro i hi
              have hb0 : 0 ≤ (i : Int) := by omega
              have hw : IntKind.i64.wrap ((i : Int) + 1) = ((i + 1 : Nat) : Int) := by rw [w64] <;> omega
              have hli := hll i
              by_cases hlt : (i : Int) < l.length
              · have hg := box_get l i
                have b := im i
                have hr := hsu i
                have he := hio i (by omega)
                have hq : 1 ≤ maxLen ∧ i + 1 ≤ maxLen ∧ (i + 1) * 48 ≤ 140737488355328 := by
                  have : maxLen = 9223372036854775807 := rfl
                  omega
                generalize imageM (l.getD i Box.zero) c' d = R at b hr he
                rw [he] at b
                generalize l.getD i Box.zero = q at hg b
                simp only [encBox] at b
                repeat' first
                  | refine ev_seq (fun K hK => ?_)
                  | ((first | refine evrd (id := 9) hmix tt_ok false [([], true), ([], true), ([], true), ([], true), ([], true), ([], true), ([], true), ([], true), ([], true), ([], true), ([0, 1, 2, 3, 4, 5, 6, 7, 8, 9], false), ([9], false), ([], false)] (by decide +kernel) ?_ | refine evr tt_ok false ?_ | refine ev_skip ?_ | refine ev_ret ?_ | refine ev_exit ?_ | refine evc (fun X Y hX hY => ?_)); simp only [go_sem, reduceAdd, reduceSub, reduceMul, reduceEqDiff, reduceLeDiff, Nat.reduceBEq, reduceLT, reduceIte, reduceCtorEq, Int.reduceToNat, hb0, hlt, hw, hg, hli, List.length_map, Int.toNat_natCast, Nat.le_refl, bne_self_eq_false]; try (first | (refine ⟨fun h => hX ?_, fun h => hY ?_⟩; clear hX hY) | (refine hX ?_; clear hX hY) | (refine hY ?_; clear hX hY)))
                  | refine ev_block ?_
                  | (apply hK; clear hK)
                  | apply_assumption -exfalso -symm only [*]
                  | (refine And.intro ?_ ?_; first | omega | assumption | (unfold maxLen; omega) | (simp only [decide_eq_true_eq, decide_eq_false_iff_not, Int.not_lt, Int.not_le] at h; omega))
                  | ((first | apply callP | apply callPG | apply callP0); (case' hv => (simp only [go_sem, reduceAdd, reduceSub, reduceMul, reduceEqDiff, reduceLeDiff, Nat.reduceBEq, reduceLT, reduceIte, reduceCtorEq, Int.reduceToNat, hb0, hlt, hw, hg, hli, List.length_map, Int.toNat_natCast, Nat.le_refl, bne_self_eq_false]; try exact rfl)); (case' hp => (first | refine' b | (refine' (fun hg => ?_); refine' b))); (case' h => ((first | refine evOps_fin ?_ | refine And.intro ?_ (evD_fin ?_) | refine evD_fin ?_) <;> simp only [go_sem, reduceAdd, reduceSub, reduceMul, reduceEqDiff, reduceLeDiff, Nat.reduceBEq, reduceLT, reduceIte, reduceCtorEq, Int.reduceToNat, hb0, hlt, hw, hg, hli, List.length_map, Int.toNat_natCast, Nat.le_refl, bne_self_eq_false])))
                  | (refine callX ?_; (first | refine evOps_fin ?_ | refine And.intro ?_ (evD_fin ?_) | refine evD_fin ?_) <;> simp only [go_sem, reduceAdd, reduceSub, reduceMul, reduceEqDiff, reduceLeDiff, Nat.reduceBEq, reduceLT, reduceIte, reduceCtorEq, Int.reduceToNat, hb0, hlt, hw, hg, hli, List.length_map, Int.toNat_natCast, Nat.le_refl, bne_self_eq_false])
                refine ⟨i + 1, by omega, ?_, by omega⟩
                repeat' first | rfl | exact rowsUnder_lit _ (lit_box _) | (rw [hr]; rfl) | apply And.intro
              · obtain rfl : i = l.length := by omega
                have htk : List.take l.length ((M l.length).map encBox) = (M l.length).map encBox := List.take_of_length_le (by simp [hll])
                repeat' first
                  | refine ev_seq (fun K hK => ?_)
                  | ((first | refine evrd (id := 9) hmix tt_ok false [([], true), ([], true), ([], true), ([], true), ([], true), ([], true), ([], true), ([], true), ([], true), ([], true), ([0, 1, 2, 3, 4, 5, 6, 7, 8, 9], false), ([9], false), ([], false)] (by decide +kernel) ?_ | refine evr tt_ok false ?_ | refine ev_skip ?_ | refine ev_ret ?_ | refine ev_exit ?_ | refine evc (fun X Y hX hY => ?_)); simp only [go_sem, reduceAdd, reduceSub, reduceMul, reduceEqDiff, reduceLeDiff, Nat.reduceBEq, reduceLT, reduceIte, reduceCtorEq, Int.reduceToNat, hlt, hli, List.length_map, vrows_lit _ (lit_box (M l.length)), Nat.le_refl, Nat.sub_zero, htk]; try (first | (refine ⟨fun h => hX ?_, fun h => hY ?_⟩; clear hX hY) | (refine hX ?_; clear hX hY) | (refine hY ?_; clear hX hY)))
                  | refine ev_block ?_
                  | (apply hK; clear hK)
                  | apply_assumption -exfalso -symm only [*]
                  | (refine And.intro ?_ ?_; first | omega | assumption | (unfold maxLen; omega) | (simp only [decide_eq_true_eq, decide_eq_false_iff_not, Int.not_lt, Int.not_le] at h; omega))
                all_goals rfl
        · rw [if_neg hio]
          have hsu := imL_succ l c' d
          have hll := imL_len l c' d
          have hzz : imL l c' d 0 = [] := rfl
          unfold imOk at hio
          simp only [encBs, encMv, List.map_nil] at *
          generalize imL l c' d = M at *
          refine Pure.weak (r := .tup [.emp, .int .i64 2]) ?_ (fun E v hv => tup_fst hv fun u hu => emp_sl hu)
          rcases hu with ⟨hu, e2⟩ | ⟨hu, e2⟩
          all_goals
            subst hu
            (refine pure_of_ev tt_ok Try.func25 rfl (by decide +kernel) (Nat.le_of_ble_eq_true rfl) ?_; simp only [Try.f25])
            repeat' first
              | refine ev_seq (fun K hK => ?_)
              | ((first | refine evrd (id := 9) hmix tt_ok false [([], true), ([], true), ([], true), ([], true), ([], true), ([], true), ([], true), ([], true), ([], true), ([], true), ([0, 1, 2, 3, 4, 5, 6, 7, 8, 9], false), ([9], false), ([], false)] (by decide +kernel) ?_ | refine evr tt_ok false ?_ | refine ev_skip ?_ | refine ev_ret ?_ | refine ev_exit ?_ | refine evc (fun X Y hX hY => ?_)); simp only [go_sem, reduceAdd, reduceSub, reduceMul, reduceEqDiff, reduceLeDiff, Nat.reduceBEq, reduceLT, reduceIte, reduceCtorEq, Int.reduceToNat]; try (first | (refine ⟨fun h => hX ?_, fun h => hY ?_⟩; clear hX hY) | (refine hX ?_; clear hX hY) | (refine hY ?_; clear hX hY)))
              | refine ev_block ?_
              | (apply hK; clear hK)
              | apply_assumption -exfalso -symm only [*]
              | (refine And.intro ?_ ?_; first | omega | assumption | (unfold maxLen; omega) | (simp only [decide_eq_true_eq, decide_eq_false_iff_not, Int.not_lt, Int.not_le] at h; omega))
              | ((first | apply callP | apply callPG | apply callP0); (case' hv => (simp only [go_sem, reduceAdd, reduceSub, reduceMul, reduceEqDiff, reduceLeDiff, Nat.reduceBEq, reduceLT, reduceIte, reduceCtorEq, Int.reduceToNat]; try exact rfl)); (case' hp => (first | refine' vs | (refine' (fun hg => ?_); refine' vs) | refine' vc | (refine' (fun hg => ?_); refine' vc) | refine' vd | (refine' (fun hg => ?_); refine' vd))); (case' h => ((first | refine evOps_fin ?_ | refine And.intro ?_ (evD_fin ?_) | refine evD_fin ?_) <;> simp only [go_sem, reduceAdd, reduceSub, reduceMul, reduceEqDiff, reduceLeDiff, Nat.reduceBEq, reduceLT, reduceIte, reduceCtorEq, Int.reduceToNat])))
              | (refine callX ?_; (first | refine evOps_fin ?_ | refine And.intro ?_ (evD_fin ?_) | refine evD_fin ?_) <;> simp only [go_sem, reduceAdd, reduceSub, reduceMul, reduceEqDiff, reduceLeDiff, Nat.reduceBEq, reduceLT, reduceIte, reduceCtorEq, Int.reduceToNat])
            refine ev_adopt 10 33 6 (by decide) rfl ?_
            refine ev_loop (fun i : Nat => i ≤ l.length ∧ ∀ j, j < i → (imageM (l.getD j Box.zero) c' d).e = 0)
              (fun i => ⟨53, [(11, .int .i64 i), (10, .rs 2 i 0 i), (6, .own 1 0 0 0), (5, .own 0 0 0 0), (0, .sl (l.map encBox))],
                [.blk 35 0 2 [[.int .i64 c'.t, .int .i64 c'.f]], .blk 37 0 4 [[.int .i64 d.t, .int .i64 d.l, .int .i64 d.s, .int .i64 d.r]], .blk 33 i 6 ((M i).map encBox)]⟩)
              (fun i => l.length - i) 0 ⟨Nat.zero_le _, fun j hj => by omega⟩ ?_ ?_
            · simp only [go_sem, reduceAdd, reduceSub, reduceMul, reduceEqDiff, reduceLeDiff, Nat.reduceBEq, reduceLT, reduceIte, reduceCtorEq, Int.reduceToNat, fits, fitT, fitOs, fitO, V.under, unders, rowsUnder, hzz, e1, e2]
              repeat' first | rfl | exact rowsUnder_lit _ (lit_box _) | apply And.intro
            · rintro i ⟨hi, hall⟩
              have hb0 : 0 ≤ (i : Int) := by omega
              have hw : IntKind.i64.wrap ((i : Int) + 1) = ((i + 1 : Nat) : Int) := by rw [w64] <;> omega
              have hli := hll i
              by_cases hlt : (i : Int) < l.length
              · have hg := box_get l i
                have b := im i
                have hr := hsu i
                have hbd := ib i (by omega)
                have hq : 1 ≤ maxLen ∧ i + 1 ≤ maxLen ∧ (i + 1) * 48 ≤ 140737488355328 := by
                  have : maxLen = 9223372036854775807 := rfl
                  omega
                by_cases he : (imageM (l.getD i Box.zero) c' d).e = 0
                · have hall2 : ∀ j, j < i + 1 → (imageM (l.getD j Box.zero) c' d).e = 0 := fun j hj => by
                    by_cases e : j = i
                    · subst e; exact he
                    · exact hall j (by omega)
                  clear hall hbd
                  generalize imageM (l.getD i Box.zero) c' d = R at b hr he
                  rw [he] at b
                  generalize l.getD i Box.zero = q at hg b
                  simp only [encBox] at b
                  repeat' first
                    | refine ev_seq (fun K hK => ?_)
                    | ((first | refine evrd (id := 9) hmix tt_ok false [([], true), ([], true), ([], true), ([], true), ([], true), ([], true), ([], true), ([], true), ([], true), ([], true), ([0, 1, 2, 3, 4, 5, 6, 7, 8, 9], false), ([9], false), ([], false)] (by decide +kernel) ?_ | refine evr tt_ok false ?_ | refine ev_skip ?_ | refine ev_ret ?_ | refine ev_exit ?_ | refine evc (fun X Y hX hY => ?_)); simp only [go_sem, reduceAdd, reduceSub, reduceMul, reduceEqDiff, reduceLeDiff, Nat.reduceBEq, reduceLT, reduceIte, reduceCtorEq, Int.reduceToNat, hb0, hlt, hw, hg, hli, List.length_map, Int.toNat_natCast, Nat.le_refl, bne_self_eq_false]; try (first | (refine ⟨fun h => hX ?_, fun h => hY ?_⟩; clear hX hY) | (refine hX ?_; clear hX hY) | (refine hY ?_; clear hX hY)))
                    | refine ev_block ?_
                    | (apply hK; clear hK)
                    | apply_assumption -exfalso -symm only [*]
                    | (refine And.intro ?_ ?_; first | omega | assumption | (unfold maxLen; omega) | (simp only [decide_eq_true_eq, decide_eq_false_iff_not, Int.not_lt, Int.not_le] at h; omega))
                    | ((first | apply callP | apply callPG | apply callP0); (case' hv => (simp only [go_sem, reduceAdd, reduceSub, reduceMul, reduceEqDiff, reduceLeDiff, Nat.reduceBEq, reduceLT, reduceIte, reduceCtorEq, Int.reduceToNat, hb0, hlt, hw, hg, hli, List.length_map, Int.toNat_natCast, Nat.le_refl, bne_self_eq_false]; try exact rfl)); (case' hp => (first | refine' b | (refine' (fun hg => ?_); refine' b))); (case' h => ((first | refine evOps_fin ?_ | refine And.intro ?_ (evD_fin ?_) | refine evD_fin ?_) <;> simp only [go_sem, reduceAdd, reduceSub, reduceMul, reduceEqDiff, reduceLeDiff, Nat.reduceBEq, reduceLT, reduceIte, reduceCtorEq, Int.reduceToNat, hb0, hlt, hw, hg, hli, List.length_map, Int.toNat_natCast, Nat.le_refl, bne_self_eq_false])))
                    | (refine callX ?_; (first | refine evOps_fin ?_ | refine And.intro ?_ (evD_fin ?_) | refine evD_fin ?_) <;> simp only [go_sem, reduceAdd, reduceSub, reduceMul, reduceEqDiff, reduceLeDiff, Nat.reduceBEq, reduceLT, reduceIte, reduceCtorEq, Int.reduceToNat, hb0, hlt, hw, hg, hli, List.length_map, Int.toNat_natCast, Nat.le_refl, bne_self_eq_false])
                  refine ⟨i + 1, ⟨by omega, hall2⟩, ?_, by omega⟩
                  repeat' first | rfl | exact rowsUnder_lit _ (lit_box _) | (rw [hr]; rfl) | apply And.intro
                · have h2 := hbd he
                  clear hall hbd
                  generalize imageM (l.getD i Box.zero) c' d = R at b hr he h2
                  rw [h2] at b
                  generalize l.getD i Box.zero = q at hg b
                  simp only [encBox] at b
                  repeat' first
                    | refine ev_seq (fun K hK => ?_)
                    | ((first | refine evrd (id := 9) hmix tt_ok false [([], true), ([], true), ([], true), ([], true), ([], true), ([], true), ([], true), ([], true), ([], true), ([], true), ([0, 1, 2, 3, 4, 5, 6, 7, 8, 9], false), ([9], false), ([], false)] (by decide +kernel) ?_ | refine evr tt_ok false ?_ | refine ev_skip ?_ | refine ev_ret ?_ | refine ev_exit ?_ | refine evc (fun X Y hX hY => ?_)); simp only [go_sem, reduceAdd, reduceSub, reduceMul, reduceEqDiff, reduceLeDiff, Nat.reduceBEq, reduceLT, reduceIte, reduceCtorEq, Int.reduceToNat, hb0, hlt, hw, hg, hli, List.length_map, Int.toNat_natCast, Nat.le_refl, Int.reduceBNe]; try (first | (refine ⟨fun h => hX ?_, fun h => hY ?_⟩; clear hX hY) | (refine hX ?_; clear hX hY) | (refine hY ?_; clear hX hY)))
                    | refine ev_block ?_
                    | (apply hK; clear hK)
                    | apply_assumption -exfalso -symm only [*]
                    | (refine And.intro ?_ ?_; first | omega | assumption | (unfold maxLen; omega) | (simp only [decide_eq_true_eq, decide_eq_false_iff_not, Int.not_lt, Int.not_le] at h; omega))
                    | ((first | apply callP | apply callPG | apply callP0); (case' hv => (simp only [go_sem, reduceAdd, reduceSub, reduceMul, reduceEqDiff, reduceLeDiff, Nat.reduceBEq, reduceLT, reduceIte, reduceCtorEq, Int.reduceToNat, hb0, hlt, hw, hg, hli, List.length_map, Int.toNat_natCast, Nat.le_refl, Int.reduceBNe]; try exact rfl)); (case' hp => (first | refine' b | (refine' (fun hg => ?_); refine' b))); (case' h => ((first | refine evOps_fin ?_ | refine And.intro ?_ (evD_fin ?_) | refine evD_fin ?_) <;> simp only [go_sem, reduceAdd, reduceSub, reduceMul, reduceEqDiff, reduceLeDiff, Nat.reduceBEq, reduceLT, reduceIte, reduceCtorEq, Int.reduceToNat, hb0, hlt, hw, hg, hli, List.length_map, Int.toNat_natCast, Nat.le_refl, Int.reduceBNe])))
                    | (refine callX ?_; (first | refine evOps_fin ?_ | refine And.intro ?_ (evD_fin ?_) | refine evD_fin ?_) <;> simp only [go_sem, reduceAdd, reduceSub, reduceMul, reduceEqDiff, reduceLeDiff, Nat.reduceBEq, reduceLT, reduceIte, reduceCtorEq, Int.reduceToNat, hb0, hlt, hw, hg, hli, List.length_map, Int.toNat_natCast, Nat.le_refl, Int.reduceBNe])
                  all_goals rfl
              · exact absurd (fun j hj => hall j (by omega)) hio
      · rw [decide_eq_false hd] at vd
        rw [if_neg (fun h => hd h.2.2)]
        simp only [encBs, List.map_nil]
        refine Pure.weak (r := .tup [.emp, .int .i64 1]) ?_ (fun E v hv => tup_fst hv fun u hu => emp_sl hu)
        (refine pure_of_ev tt_ok Try.func25 rfl (by decide +kernel) (Nat.le_of_ble_eq_true rfl) ?_; simp only [Try.f25])
        repeat' first
          | refine ev_seq (fun K hK => ?_)
          | ((first | refine evrd (id := 9) hmix tt_ok false [([], true), ([], true), ([], true), ([], true), ([], true), ([], true), ([], true), ([], true), ([], true), ([], true), ([0, 1, 2, 3, 4, 5, 6, 7, 8, 9], false), ([9], false), ([], false)] (by decide +kernel) ?_ | refine evr tt_ok false ?_ | refine ev_skip ?_ | refine ev_ret ?_ | refine ev_exit ?_ | refine evc (fun X Y hX hY => ?_)); simp only [go_sem, reduceAdd, reduceSub, reduceMul, reduceEqDiff, reduceLeDiff, Nat.reduceBEq, reduceLT, reduceIte, reduceCtorEq, Int.reduceToNat]; try (first | (refine ⟨fun h => hX ?_, fun h => hY ?_⟩; clear hX hY) | (refine hX ?_; clear hX hY) | (refine hY ?_; clear hX hY)))
          | refine ev_block ?_
          | (apply hK; clear hK)
          | apply_assumption -exfalso -symm only [*]
          | (refine And.intro ?_ ?_; first | omega | assumption | (unfold maxLen; omega) | (simp only [decide_eq_true_eq, decide_eq_false_iff_not, Int.not_lt, Int.not_le] at h; omega))
          | ((first | apply callP | apply callPG | apply callP0); (case' hv => (simp only [go_sem, reduceAdd, reduceSub, reduceMul, reduceEqDiff, reduceLeDiff, Nat.reduceBEq, reduceLT, reduceIte, reduceCtorEq, Int.reduceToNat]; try exact rfl)); (case' hp => (first | refine' vs | (refine' (fun hg => ?_); refine' vs) | refine' vc | (refine' (fun hg => ?_); refine' vc) | refine' vd | (refine' (fun hg => ?_); refine' vd))); (case' h => ((first | refine evOps_fin ?_ | refine And.intro ?_ (evD_fin ?_) | refine evD_fin ?_) <;> simp only [go_sem, reduceAdd, reduceSub, reduceMul, reduceEqDiff, reduceLeDiff, Nat.reduceBEq, reduceLT, reduceIte, reduceCtorEq, Int.reduceToNat])))
          | (refine callX ?_; (first | refine evOps_fin ?_ | refine And.intro ?_ (evD_fin ?_) | refine evD_fin ?_) <;> simp only [go_sem, reduceAdd, reduceSub, reduceMul, reduceEqDiff, reduceLeDiff, Nat.reduceBEq, reduceLT, reduceIte, reduceCtorEq, Int.reduceToNat])
        all_goals rfl
    · rw [decide_eq_false hc] at vc
      rw [if_neg (fun h => hc h.2.1)]
      simp only [encBs, List.map_nil]
      refine Pure.weak (r := .tup [.emp, .int .i64 1]) ?_ (fun E v hv => tup_fst hv fun u hu => emp_sl hu)
      (refine pure_of_ev tt_ok Try.func25 rfl (by decide +kernel) (Nat.le_of_ble_eq_true rfl) ?_; simp only [Try.f25])
      repeat' first
        | refine ev_seq (fun K hK => ?_)
        | ((first | refine evrd (id := 9) hmix tt_ok false [([], true), ([], true), ([], true), ([], true), ([], true), ([], true), ([], true), ([], true), ([], true), ([], true), ([0, 1, 2, 3, 4, 5, 6, 7, 8, 9], false), ([9], false), ([], false)] (by decide +kernel) ?_ | refine evr tt_ok false ?_ | refine ev_skip ?_ | refine ev_ret ?_ | refine ev_exit ?_ | refine evc (fun X Y hX hY => ?_)); simp only [go_sem, reduceAdd, reduceSub, reduceMul, reduceEqDiff, reduceLeDiff, Nat.reduceBEq, reduceLT, reduceIte, reduceCtorEq, Int.reduceToNat]; try (first | (refine ⟨fun h => hX ?_, fun h => hY ?_⟩; clear hX hY) | (refine hX ?_; clear hX hY) | (refine hY ?_; clear hX hY)))
        | refine ev_block ?_
        | (apply hK; clear hK)
        | apply_assumption -exfalso -symm only [*]
        | (refine And.intro ?_ ?_; first | omega | assumption | (unfold maxLen; omega) | (simp only [decide_eq_true_eq, decide_eq_false_iff_not, Int.not_lt, Int.not_le] at h; omega))
        | ((first | apply callP | apply callPG | apply callP0); (case' hv => (simp only [go_sem, reduceAdd, reduceSub, reduceMul, reduceEqDiff, reduceLeDiff, Nat.reduceBEq, reduceLT, reduceIte, reduceCtorEq, Int.reduceToNat]; try exact rfl)); (case' hp => (first | refine' vs | (refine' (fun hg => ?_); refine' vs) | refine' vc | (refine' (fun hg => ?_); refine' vc) | refine' vd | (refine' (fun hg => ?_); refine' vd))); (case' h => ((first | refine evOps_fin ?_ | refine And.intro ?_ (evD_fin ?_) | refine evD_fin ?_) <;> simp only [go_sem, reduceAdd, reduceSub, reduceMul, reduceEqDiff, reduceLeDiff, Nat.reduceBEq, reduceLT, reduceIte, reduceCtorEq, Int.reduceToNat])))
        | (refine callX ?_; (first | refine evOps_fin ?_ | refine And.intro ?_ (evD_fin ?_) | refine evD_fin ?_) <;> simp only [go_sem, reduceAdd, reduceSub, reduceMul, reduceEqDiff, reduceLeDiff, Nat.reduceBEq, reduceLT, reduceIte, reduceCtorEq, Int.reduceToNat])
      all_goals rfl
  · rw [decide_eq_false hs] at vs
    rw [if_neg (fun h => hs h.1)]
    simp only [encBs, List.map_nil]
    refine Pure.weak (r := .tup [.emp, .int .i64 1]) ?_ (fun E v hv => tup_fst hv fun u hu => emp_sl hu)
    (refine pure_of_ev tt_ok Try.func25 rfl (by decide +kernel) (Nat.le_of_ble_eq_true rfl) ?_; simp only [Try.f25])
    repeat' first
      | refine ev_seq (fun K hK => ?_)
      | ((first | refine evrd (id := 9) hmix tt_ok false [([], true), ([], true), ([], true), ([], true), ([], true), ([], true), ([], true), ([], true), ([], true), ([], true), ([0, 1, 2, 3, 4, 5, 6, 7, 8, 9], false), ([9], false), ([], false)] (by decide +kernel) ?_ | refine evr tt_ok false ?_ | refine ev_skip ?_ | refine ev_ret ?_ | refine ev_exit ?_ | refine evc (fun X Y hX hY => ?_)); simp only [go_sem, reduceAdd, reduceSub, reduceMul, reduceEqDiff, reduceLeDiff, Nat.reduceBEq, reduceLT, reduceIte, reduceCtorEq, Int.reduceToNat]; try (first | (refine ⟨fun h => hX ?_, fun h => hY ?_⟩; clear hX hY) | (refine hX ?_; clear hX hY) | (refine hY ?_; clear hX hY)))
      | refine ev_block ?_
      | (apply hK; clear hK)
      | apply_assumption -exfalso -symm only [*]
      | (refine And.intro ?_ ?_; first | omega | assumption | (unfold maxLen; omega) | (simp only [decide_eq_true_eq, decide_eq_false_iff_not, Int.not_lt, Int.not_le] at h; omega))
      | ((first | apply callP | apply callPG | apply callP0); (case' hv => (simp only [go_sem, reduceAdd, reduceSub, reduceMul, reduceEqDiff, reduceLeDiff, Nat.reduceBEq, reduceLT, reduceIte, reduceCtorEq, Int.reduceToNat]; try exact rfl)); (case' hp => (first | refine' vs | (refine' (fun hg => ?_); refine' vs) | refine' vc | (refine' (fun hg => ?_); refine' vc) | refine' vd | (refine' (fun hg => ?_); refine' vd))); (case' h => ((first | refine evOps_fin ?_ | refine And.intro ?_ (evD_fin ?_) | refine evD_fin ?_) <;> simp only [go_sem, reduceAdd, reduceSub, reduceMul, reduceEqDiff, reduceLeDiff, Nat.reduceBEq, reduceLT, reduceIte, reduceCtorEq, Int.reduceToNat])))
      | (refine callX ?_; (first | refine evOps_fin ?_ | refine And.intro ?_ (evD_fin ?_) | refine evD_fin ?_) <;> simp only [go_sem, reduceAdd, reduceSub, reduceMul, reduceEqDiff, reduceLeDiff, Nat.reduceBEq, reduceLT, reduceIte, reduceCtorEq, Int.reduceToNat])
    all_goals rfl
theorem boxesM_len (l : List Box) (c : Cmd) (d : Bounds) (u : Bool) : ((boxesM l c d u).l.length : Int) ≤ 16 := by
  unfold boxesM
  split
  · rename_i h
    unfold boxesR
    split
    · rw [imL_len]; exact h.1.1
    · decide
  · decide
theorem lboxes_pure (l : List Box) (c : Cmd) (g : Lb) : Pure Try.prog 5 [.sl (l.map encBox), .agg (encCmd c), .agg (encLb g)] (.bool true) := by
  have aw := awake23_pure
  by_cases hn : (40 : Int) < l.length
  · simp only [encCmd, encLb] at *
    (refine pure_of_ev tt_ok Try.func5 rfl (by decide +kernel) (Nat.le_of_ble_eq_true rfl) ?_; simp only [Try.f5])
    repeat' first
      | refine ev_seq (fun K hK => ?_)
      | ((first | refine evr tt_ok false ?_ | refine ev_skip ?_ | refine ev_ret ?_ | refine ev_exit ?_ | refine evc (fun X Y hX hY => ?_)); simp only [go_sem, reduceAdd, reduceSub, reduceMul, reduceEqDiff, reduceLeDiff, Nat.reduceBEq, reduceLT, reduceIte, reduceCtorEq, Int.reduceToNat, List.length_map, hn]; try (first | (refine ⟨fun h => hX ?_, fun h => hY ?_⟩; clear hX hY) | (refine hX ?_; clear hX hY) | (refine hY ?_; clear hX hY)))
      | refine ev_block ?_
      | (apply hK; clear hK)
      | apply_assumption -exfalso -symm only [*]
      | (refine And.intro ?_ ?_; first | omega | assumption | (unfold maxLen; omega) | (simp only [decide_eq_true_eq, decide_eq_false_iff_not, Int.not_lt, Int.not_le] at h; omega))
      | ((first | apply callP | apply callPG | apply callP0); (case' hv => (simp only [go_sem, reduceAdd, reduceSub, reduceMul, reduceEqDiff, reduceLeDiff, Nat.reduceBEq, reduceLT, reduceIte, reduceCtorEq, Int.reduceToNat, List.length_map, hn]; try exact rfl)); (case' hp => (first | refine' aw | (refine' (fun hg => ?_); refine' aw) | refine' aw | (refine' (fun hg => ?_); refine' aw))); (case' h => ((first | refine evOps_fin ?_ | refine And.intro ?_ (evD_fin ?_) | refine evD_fin ?_) <;> simp only [go_sem, reduceAdd, reduceSub, reduceMul, reduceEqDiff, reduceLeDiff, Nat.reduceBEq, reduceLT, reduceIte, reduceCtorEq, Int.reduceToNat, List.length_map, hn])))
      | (refine callX ?_; (first | refine evOps_fin ?_ | refine And.intro ?_ (evD_fin ?_) | refine evD_fin ?_) <;> simp only [go_sem, reduceAdd, reduceSub, reduceMul, reduceEqDiff, reduceLeDiff, Nat.reduceBEq, reduceLT, reduceIte, reduceCtorEq, Int.reduceToNat, List.length_map, hn])
  · have b1 := boxes23_pure l (by omega) c g.b g.bump
    have b2 := rboxes23_pure l (by omega) c g.b g.bump
    have hl := boxesM_len l c g.b g.bump
    generalize boxesM l c g.b g.bump = R at *
    have q1 := boxes_pure R.l R.l (by omega)
    have q2 := boxes_pure l l (by omega)
    rw [decide_eq_true rfl] at q1 q2
    simp only [encBs] at *
    simp only [encCmd, encLb] at *
    have hq : l.length ≤ maxLen ∧ l.length * 48 ≤ 140737488355328 := by
      have : maxLen = 9223372036854775807 := rfl
      omega
    have nr : ∀ ow : List Own, ow[2]? = some (.blk 33 1 6 (l.map encBox)) → Run Try.prog 24 [.rs 2 1 0 l.length, .agg [.int .i64 c.t, .int .i64 c.f], .agg [.int .i64 g.b.t, .int .i64 g.b.l, .int .i64 g.b.s, .int .i64 g.b.r], .bool g.bump] [2, 2] ow (.tup [.sl (R.l.map encBox), .int .i64 R.e]) [(2, .froz 33 1 6 (l.map encBox))] := fun ow ho => by
      have htk : List.take l.length (l.map encBox) = l.map encBox := List.take_of_length_le (by simp)
      refine run_fz ho (lit_box l) ?_ b1
      simp only [go_sem, reduceAdd, reduceSub, reduceMul, reduceEqDiff, reduceLeDiff, Nat.reduceBEq, reduceLT, reduceIte, reduceCtorEq, Int.reduceToNat, List.getElem?_set_self (get_lt ho), Nat.sub_zero, Nat.le_refl, List.length_map, List.drop_zero, htk]
    have htk : List.take l.length (l.map encBox) = l.map encBox := List.take_of_length_le (by simp)
    (refine pure_of_ev tt_ok Try.func5 rfl (by decide +kernel) (Nat.le_of_ble_eq_true rfl) ?_; simp only [Try.f5])
    repeat' first
      | refine ev_seq (fun K hK => ?_)
      | ((first | refine evr tt_ok false ?_ | refine ev_skip ?_ | refine ev_ret ?_ | refine ev_exit ?_ | refine evc (fun X Y hX hY => ?_)); simp only [go_sem, reduceAdd, reduceSub, reduceMul, reduceEqDiff, reduceLeDiff, Nat.reduceBEq, reduceLT, reduceIte, reduceCtorEq, Int.reduceToNat, List.length_map, hn, hq, box_get l 0, htk, beq_self_eq_true, Nat.le_refl, Nat.sub_zero, List.drop_zero]; try (first | (refine ⟨fun h => hX ?_, fun h => hY ?_⟩; clear hX hY) | (refine hX ?_; clear hX hY) | (refine hY ?_; clear hX hY)))
      | refine ev_block ?_
      | (apply hK; clear hK)
      | apply_assumption -exfalso -symm only [*]
      | (refine And.intro ?_ ?_; first | omega | assumption | (unfold maxLen; omega) | (simp only [decide_eq_true_eq, decide_eq_false_iff_not, Int.not_lt, Int.not_le] at h; omega))
      | ((first | apply callP | apply callPG | apply callP0); (case' hv => (simp only [go_sem, reduceAdd, reduceSub, reduceMul, reduceEqDiff, reduceLeDiff, Nat.reduceBEq, reduceLT, reduceIte, reduceCtorEq, Int.reduceToNat, List.length_map, hn, hq, box_get l 0, htk, beq_self_eq_true, Nat.le_refl, Nat.sub_zero, List.drop_zero]; try exact rfl)); (case' hp => (first | refine' aw | (refine' (fun hg => ?_); refine' aw) | refine' b2 | (refine' (fun hg => ?_); refine' b2) | refine' q1 | (refine' (fun hg => ?_); refine' q1) | refine' q2 | (refine' (fun hg => ?_); refine' q2))); (case' h => ((first | refine evOps_fin ?_ | refine And.intro ?_ (evD_fin ?_) | refine evD_fin ?_) <;> simp only [go_sem, reduceAdd, reduceSub, reduceMul, reduceEqDiff, reduceLeDiff, Nat.reduceBEq, reduceLT, reduceIte, reduceCtorEq, Int.reduceToNat, List.length_map, hn, hq, box_get l 0, htk, beq_self_eq_true, Nat.le_refl, Nat.sub_zero, List.drop_zero])))
      | ((first | apply callE | apply callEG | apply callE0); (case' hp => (first | refine' nr _ rfl | (refine' (fun hg => ?_); refine' nr _ rfl))); (case' h => ((first | refine evOps_fin ?_ | refine And.intro ?_ (evD_fin ?_) | refine evD_fin ?_) <;> simp only [go_sem, reduceAdd, reduceSub, reduceMul, reduceEqDiff, reduceLeDiff, Nat.reduceBEq, reduceLT, reduceIte, reduceCtorEq, Int.reduceToNat, List.length_map, hn, hq, box_get l 0, htk, beq_self_eq_true, Nat.le_refl, Nat.sub_zero, List.drop_zero])))
      | (refine callX ?_; (first | refine evOps_fin ?_ | refine And.intro ?_ (evD_fin ?_) | refine evD_fin ?_) <;> simp only [go_sem, reduceAdd, reduceSub, reduceMul, reduceEqDiff, reduceLeDiff, Nat.reduceBEq, reduceLT, reduceIte, reduceCtorEq, Int.reduceToNat, List.length_map, hn, hq, box_get l 0, htk, beq_self_eq_true, Nat.le_refl, Nat.sub_zero, List.drop_zero])
    all_goals rfl
end Go.Proofs.Ytmpmggbcmioipaa
