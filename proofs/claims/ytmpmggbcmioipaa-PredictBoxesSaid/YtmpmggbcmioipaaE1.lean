import Derived.Test.YtmpmggbcmioipaaD12
set_option linter.all false
namespace Go.Proofs.Ytmpmggbcmioipaa
open Nat (reduceAdd reduceSub reduceMul reduceEqDiff reduceLeDiff reduceLT)
open Go Go.K
set_option maxRecDepth 20000
set_option maxHeartbeats 8000000
/-! ### Boxes -/
def setOk (l : List Box) : Prop := (l.length : Int) ≤ 16 ∧ ∀ i, i < l.length → (l.getD i Box.zero).ok
instance (l : List Box) : Decidable (setOk l) := by unfold setOk; infer_instance
def imL (l : List Box) (c : Cmd) (d : Bounds) (n : Nat) : List Box := (List.range n).map fun j => (imageM (l.getD j Box.zero) c d).b
theorem imL_len (l : List Box) (c : Cmd) (d : Bounds) (n : Nat) : (imL l c d n).length = n := by simp [imL]
theorem imL_succ (l : List Box) (c : Cmd) (d : Bounds) (n : Nat) : (imL l c d (n + 1)).map encBox = (imL l c d n).map encBox ++ [encBox (imageM (l.getD n Box.zero) c d).b] := by
  unfold imL; rw [List.range_succ, List.map_append, List.map_append]; rfl
def imOk (l : List Box) (c : Cmd) (d : Bounds) : Prop := ∀ i, i < l.length → (imageM (l.getD i Box.zero) c d).e = 0
instance (l : List Box) (c : Cmd) (d : Bounds) : Decidable (imOk l c d) := by unfold imOk; infer_instance
def bumpC (c : Cmd) (u : Bool) : Cmd := if u = true then ⟨c.t, 0⟩ else c
def boxesR (l : List Box) (c : Cmd) (d : Bounds) : BsR := if imOk l c d then ⟨imL l c d l.length, 0⟩ else ⟨[], 2⟩
def boxesM (l : List Box) (c : Cmd) (d : Bounds) (u : Bool) : BsR := if setOk l ∧ c.ok ∧ d.ok then boxesR l (bumpC c u) d else ⟨[], 1⟩
theorem bump_ok {c : Cmd} (h : c.ok) (u : Bool) : (bumpC c u).ok := by
  obtain ⟨h1, h2, h3, h4⟩ := h
  unfold bumpC
  cases u
  · exact ⟨h1, h2, h3, h4⟩
  · exact ⟨h1, h2, show (0 : Int) ≤ 0 by decide, show (0 : Int) ≤ 32 by decide⟩
theorem image_bad {b : Box} {c : Cmd} {d : Bounds} (h : b.ok ∧ c.ok ∧ d.ok) (he : ¬ (imageM b c d).e = 0) : (imageM b c d).e = 2 := by
  unfold imageM at *
  rw [if_pos h] at *
  unfold resB at *
  split
  · rename_i hh; rw [if_pos hh] at he; exact absurd rfl he
  · rfl
theorem bset_pure (l : List Box) (hl : (l.length : Int) < 4611686018427387904) : Pure Try.prog 57 [.sl (l.map encBox)] (.bool (decide (setOk l))) := by
  by_cases hn : (16 : Int) < l.length
  · have hno : decide (setOk l) = false := by rw [decide_eq_false_iff_not]; exact fun h => absurd h.1 (by omega)
    rw [hno]
    (refine pure_of_ev tt_ok Try.func57 rfl (by decide +kernel) (Nat.le_of_ble_eq_true rfl) ?_; simp only [Try.f57])
    repeat' first
      | refine ev_seq (fun K hK => ?_)
      | ((first | refine evr tt_ok false ?_ | refine ev_skip ?_ | refine ev_ret ?_ | refine ev_exit ?_ | refine evc (fun X Y hX hY => ?_)); simp only [go_sem, reduceAdd, reduceSub, reduceMul, reduceEqDiff, reduceLeDiff, Nat.reduceBEq, reduceLT, reduceIte, reduceCtorEq, Int.reduceToNat, List.length_map, hn]; try (first | (refine ⟨fun h => hX ?_, fun h => hY ?_⟩; clear hX hY) | (refine hX ?_; clear hX hY) | (refine hY ?_; clear hX hY)))
      | refine ev_block ?_
      | (apply hK; clear hK)
      | apply_assumption -exfalso -symm only [*]
      | (refine And.intro ?_ ?_; first | omega | assumption | (unfold maxLen; omega) | (simp only [decide_eq_true_eq, decide_eq_false_iff_not, Int.not_lt, Int.not_le] at h; omega))
  · (refine pure_of_ev tt_ok Try.func57 rfl (by decide +kernel) (Nat.le_of_ble_eq_true rfl) ?_; simp only [Try.f57])
    repeat' first
      | refine ev_seq (fun K hK => ?_)
      | ((first | refine evr tt_ok false ?_ | refine ev_skip ?_ | refine ev_ret ?_ | refine ev_exit ?_ | refine evc (fun X Y hX hY => ?_)); simp only [go_sem, reduceAdd, reduceSub, reduceMul, reduceEqDiff, reduceLeDiff, Nat.reduceBEq, reduceLT, reduceIte, reduceCtorEq, Int.reduceToNat, List.length_map, hn]; try (first | (refine ⟨fun h => hX ?_, fun h => hY ?_⟩; clear hX hY) | (refine hX ?_; clear hX hY) | (refine hY ?_; clear hX hY)))
      | refine ev_block ?_
      | (apply hK; clear hK)
      | apply_assumption -exfalso -symm only [*]
      | (refine And.intro ?_ ?_; first | omega | assumption | (unfold maxLen; omega) | (simp only [decide_eq_true_eq, decide_eq_false_iff_not, Int.not_lt, Int.not_le] at h; omega))
    refine ev_loop (fun i : Nat => i ≤ l.length ∧ ∀ j, j < i → (l.getD j Box.zero).ok)
      (fun i => ⟨19, [(3, .int .i64 i), (0, .sl (l.map encBox))], []⟩)
      (fun i => l.length - i) 0 ⟨Nat.zero_le _, fun j hj => by omega⟩ ?_ ?_
    · simp only [go_sem, reduceAdd, reduceSub, reduceMul, reduceEqDiff, reduceLeDiff, Nat.reduceBEq, reduceLT, reduceIte, reduceCtorEq, Int.reduceToNat, fits, fitT, fitOs, fitO, V.under, unders, rowsUnder]
      repeat' first | rfl | apply And.intro
    · rintro i ⟨hi, hall⟩
      have hb0 : 0 ≤ (i : Int) := by omega
      have hw : IntKind.i64.wrap ((i : Int) + 1) = ((i + 1 : Nat) : Int) := by rw [w64] <;> omega
      by_cases hlt : (i : Int) < l.length
      · have b := boxB_pure (l.getD i Box.zero)
        have hg := box_get l i
        by_cases hk : (l.getD i Box.zero).ok
        · rw [decide_eq_true hk] at b
          have hall2 : ∀ j, j < i + 1 → (l.getD j Box.zero).ok := fun j hj => by
            by_cases e : j = i
            · subst e; exact hk
            · exact hall j (by omega)
          clear hall hk
          generalize l.getD i Box.zero = q at hg b
          repeat' first
            | refine ev_seq (fun K hK => ?_)
            | ((first | refine evr tt_ok false ?_ | refine ev_skip ?_ | refine ev_ret ?_ | refine ev_exit ?_ | refine evc (fun X Y hX hY => ?_)); simp only [go_sem, reduceAdd, reduceSub, reduceMul, reduceEqDiff, reduceLeDiff, Nat.reduceBEq, reduceLT, reduceIte, reduceCtorEq, Int.reduceToNat, List.length_map, hb0, hw, hlt, hg, Int.toNat_natCast]; try (first | (refine ⟨fun h => hX ?_, fun h => hY ?_⟩; clear hX hY) | (refine hX ?_; clear hX hY) | (refine hY ?_; clear hX hY)))
            | refine ev_block ?_
            | (apply hK; clear hK)
            | apply_assumption -exfalso -symm only [*]
            | (refine And.intro ?_ ?_; first | omega | assumption | (unfold maxLen; omega) | (simp only [decide_eq_true_eq, decide_eq_false_iff_not, Int.not_lt, Int.not_le] at h; omega))
            | ((first | apply callP | apply callPG | apply callP0); (case' hv => (simp only [go_sem, reduceAdd, reduceSub, reduceMul, reduceEqDiff, reduceLeDiff, Nat.reduceBEq, reduceLT, reduceIte, reduceCtorEq, Int.reduceToNat, List.length_map, hb0, hw, hlt, hg, Int.toNat_natCast]; try exact rfl)); (case' hp => (first | refine' b | (refine' (fun hg => ?_); refine' b))); (case' h => ((first | refine evOps_fin ?_ | refine And.intro ?_ (evD_fin ?_) | refine evD_fin ?_) <;> simp only [go_sem, reduceAdd, reduceSub, reduceMul, reduceEqDiff, reduceLeDiff, Nat.reduceBEq, reduceLT, reduceIte, reduceCtorEq, Int.reduceToNat, List.length_map, hb0, hw, hlt, hg, Int.toNat_natCast])))
            | (refine callX ?_; (first | refine evOps_fin ?_ | refine And.intro ?_ (evD_fin ?_) | refine evD_fin ?_) <;> simp only [go_sem, reduceAdd, reduceSub, reduceMul, reduceEqDiff, reduceLeDiff, Nat.reduceBEq, reduceLT, reduceIte, reduceCtorEq, Int.reduceToNat, List.length_map, hb0, hw, hlt, hg, Int.toNat_natCast])
          exact ⟨i + 1, ⟨by omega, hall2⟩, by (repeat' first | rfl | apply And.intro), by omega⟩
        · rw [decide_eq_false hk] at b
          have hno : decide (setOk l) = false := by rw [decide_eq_false_iff_not]; exact fun h => hk (h.2 i (by omega))
          rw [hno]
          clear hall hk hno
          generalize l.getD i Box.zero = q at hg b
          repeat' first
            | refine ev_seq (fun K hK => ?_)
            | ((first | refine evr tt_ok false ?_ | refine ev_skip ?_ | refine ev_ret ?_ | refine ev_exit ?_ | refine evc (fun X Y hX hY => ?_)); simp only [go_sem, reduceAdd, reduceSub, reduceMul, reduceEqDiff, reduceLeDiff, Nat.reduceBEq, reduceLT, reduceIte, reduceCtorEq, Int.reduceToNat, List.length_map, hb0, hw, hlt, hg, Int.toNat_natCast]; try (first | (refine ⟨fun h => hX ?_, fun h => hY ?_⟩; clear hX hY) | (refine hX ?_; clear hX hY) | (refine hY ?_; clear hX hY)))
            | refine ev_block ?_
            | (apply hK; clear hK)
            | apply_assumption -exfalso -symm only [*]
            | (refine And.intro ?_ ?_; first | omega | assumption | (unfold maxLen; omega) | (simp only [decide_eq_true_eq, decide_eq_false_iff_not, Int.not_lt, Int.not_le] at h; omega))
            | ((first | apply callP | apply callPG | apply callP0); (case' hv => (simp only [go_sem, reduceAdd, reduceSub, reduceMul, reduceEqDiff, reduceLeDiff, Nat.reduceBEq, reduceLT, reduceIte, reduceCtorEq, Int.reduceToNat, List.length_map, hb0, hw, hlt, hg, Int.toNat_natCast]; try exact rfl)); (case' hp => (first | refine' b | (refine' (fun hg => ?_); refine' b))); (case' h => ((first | refine evOps_fin ?_ | refine And.intro ?_ (evD_fin ?_) | refine evD_fin ?_) <;> simp only [go_sem, reduceAdd, reduceSub, reduceMul, reduceEqDiff, reduceLeDiff, Nat.reduceBEq, reduceLT, reduceIte, reduceCtorEq, Int.reduceToNat, List.length_map, hb0, hw, hlt, hg, Int.toNat_natCast])))
            | (refine callX ?_; (first | refine evOps_fin ?_ | refine And.intro ?_ (evD_fin ?_) | refine evD_fin ?_) <;> simp only [go_sem, reduceAdd, reduceSub, reduceMul, reduceEqDiff, reduceLeDiff, Nat.reduceBEq, reduceLT, reduceIte, reduceCtorEq, Int.reduceToNat, List.length_map, hb0, hw, hlt, hg, Int.toNat_natCast])
      · obtain rfl : i = l.length := by omega
        have hyes : decide (setOk l) = true := by rw [decide_eq_true_eq]; exact ⟨by omega, fun j hj => hall j hj⟩
        repeat' first
          | refine ev_seq (fun K hK => ?_)
          | ((first | refine evr tt_ok false ?_ | refine ev_skip ?_ | refine ev_ret ?_ | refine ev_exit ?_ | refine evc (fun X Y hX hY => ?_)); simp only [go_sem, reduceAdd, reduceSub, reduceMul, reduceEqDiff, reduceLeDiff, Nat.reduceBEq, reduceLT, reduceIte, reduceCtorEq, Int.reduceToNat, List.length_map, hlt]; try (first | (refine ⟨fun h => hX ?_, fun h => hY ?_⟩; clear hX hY) | (refine hX ?_; clear hX hY) | (refine hY ?_; clear hX hY)))
          | refine ev_block ?_
          | (apply hK; clear hK)
          | apply_assumption -exfalso -symm only [*]
          | (refine And.intro ?_ ?_; first | omega | assumption | (unfold maxLen; omega) | (simp only [decide_eq_true_eq, decide_eq_false_iff_not, Int.not_lt, Int.not_le] at h; omega))
        rw [hyes]
theorem boxes23_pure (l : List Box) (hl : (l.length : Int) < 4611686018427387904) (c : Cmd) (d : Bounds) (u : Bool) : Pure Try.prog 24 [.sl (l.map encBox), .agg [.int .i64 c.t, .int .i64 c.f], .agg [.int .i64 d.t, .int .i64 d.l, .int .i64 d.s, .int .i64 d.r], .bool u] (encBs (boxesM l c d u)) := by
  have vc := vcmd_pure c
  have vd := vbounds_pure d
  unfold boxesM
  by_cases hn : (16 : Int) < l.length
  · rw [if_neg (fun h => absurd h.1.1 (by omega))]
    simp only [encBs, List.map_nil]
    refine Pure.weak (r := .tup [.emp, .int .i64 1]) ?_ (fun E v hv => tup_fst hv fun u hu => emp_sl hu)
    (refine pure_of_ev tt_ok Try.func24 rfl (by decide +kernel) (Nat.le_of_ble_eq_true rfl) ?_; simp only [Try.f24])
    repeat' first
      | refine ev_seq (fun K hK => ?_)
      | ((first | refine evr tt_ok false ?_ | refine ev_skip ?_ | refine ev_ret ?_ | refine ev_exit ?_ | refine evc (fun X Y hX hY => ?_)); simp only [go_sem, reduceAdd, reduceSub, reduceMul, reduceEqDiff, reduceLeDiff, Nat.reduceBEq, reduceLT, reduceIte, reduceCtorEq, Int.reduceToNat, List.length_map, hn]; try (first | (refine ⟨fun h => hX ?_, fun h => hY ?_⟩; clear hX hY) | (refine hX ?_; clear hX hY) | (refine hY ?_; clear hX hY)))
      | refine ev_block ?_
      | (apply hK; clear hK)
      | apply_assumption -exfalso -symm only [*]
      | (refine And.intro ?_ ?_; first | omega | assumption | (unfold maxLen; omega) | (simp only [decide_eq_true_eq, decide_eq_false_iff_not, Int.not_lt, Int.not_le] at h; omega))
      | ((first | apply callP | apply callPG | apply callP0); (case' hv => (simp only [go_sem, reduceAdd, reduceSub, reduceMul, reduceEqDiff, reduceLeDiff, Nat.reduceBEq, reduceLT, reduceIte, reduceCtorEq, Int.reduceToNat, List.length_map, hn]; try exact rfl)); (case' hp => (first | refine' vc | (refine' (fun hg => ?_); refine' vc) | refine' vd | (refine' (fun hg => ?_); refine' vd))); (case' h => ((first | refine evOps_fin ?_ | refine And.intro ?_ (evD_fin ?_) | refine evD_fin ?_) <;> simp only [go_sem, reduceAdd, reduceSub, reduceMul, reduceEqDiff, reduceLeDiff, Nat.reduceBEq, reduceLT, reduceIte, reduceCtorEq, Int.reduceToNat, List.length_map, hn])))
      | (refine callX ?_; (first | refine evOps_fin ?_ | refine And.intro ?_ (evD_fin ?_) | refine evD_fin ?_) <;> simp only [go_sem, reduceAdd, reduceSub, reduceMul, reduceEqDiff, reduceLeDiff, Nat.reduceBEq, reduceLT, reduceIte, reduceCtorEq, Int.reduceToNat, List.length_map, hn])
    all_goals rfl
  · by_cases hc : c.ok
    · rw [decide_eq_true hc] at vc
      by_cases hd : d.ok
      · rw [decide_eq_true hd] at vd
        have vb := fun i => vbox_pure (l.getD i Box.zero)
        by_cases hs : ∀ i, i < l.length → (l.getD i Box.zero).ok
        · rw [if_pos ⟨⟨by omega, hs⟩, hc, hd⟩]
          obtain ⟨c', hc'⟩ : ∃ c', c' = bumpC c u := ⟨_, rfl⟩
          have e1 : c'.t = c.t := by rw [hc']; unfold bumpC; split <;> rfl
          have hu : (u = true ∧ c'.f = 0) ∨ (u = false ∧ c'.f = c.f) := by
            cases u
            · exact .inr ⟨rfl, by rw [hc']; rfl⟩
            · exact .inl ⟨rfl, by rw [hc']; rfl⟩
          have hok : c'.ok := by rw [hc']; exact bump_ok hc u
          have hres : boxesR l (bumpC c u) d = if imOk l c' d then ⟨imL l c' d l.length, 0⟩ else ⟨[], 2⟩ := by rw [← hc']; rfl
          rw [hres]
          clear hres hc'
          have im := fun i => image_pure (l.getD i Box.zero) c' d
          have ib := fun i (hi : i < l.length) => @image_bad (l.getD i Box.zero) c' d ⟨hs i hi, hok, hd⟩
          by_cases hio : imOk l c' d
          · rw [if_pos hio]
            have hsu := imL_succ l c' d
            have hll := imL_len l c' d
            have hzz : imL l c' d 0 = [] := rfl
            unfold imOk at hio
            simp only [encBs, encMv] at *
            generalize imL l c' d = M at *
            (refine pure_of_ev tt_ok Try.func24 rfl (by decide +kernel) (Nat.le_of_ble_eq_true rfl) ?_; simp only [Try.f24])
            repeat' first
              | refine ev_seq (fun K hK => ?_)
              | ((first | refine evr tt_ok false ?_ | refine ev_skip ?_ | refine ev_ret ?_ | refine ev_exit ?_ | refine evc (fun X Y hX hY => ?_)); simp only [go_sem, reduceAdd, reduceSub, reduceMul, reduceEqDiff, reduceLeDiff, Nat.reduceBEq, reduceLT, reduceIte, reduceCtorEq, Int.reduceToNat, List.length_map, hn]; try (first | (refine ⟨fun h => hX ?_, fun h => hY ?_⟩; clear hX hY) | (refine hX ?_; clear hX hY) | (refine hY ?_; clear hX hY)))
              | refine ev_block ?_
              | (apply hK; clear hK)
              | apply_assumption -exfalso -symm only [*]
              | (refine And.intro ?_ ?_; first | omega | assumption | (unfold maxLen; omega) | (simp only [decide_eq_true_eq, decide_eq_false_iff_not, Int.not_lt, Int.not_le] at h; omega))
              | ((first | apply callP | apply callPG | apply callP0); (case' hv => (simp only [go_sem, reduceAdd, reduceSub, reduceMul, reduceEqDiff, reduceLeDiff, Nat.reduceBEq, reduceLT, reduceIte, reduceCtorEq, Int.reduceToNat, List.length_map, hn]; try exact rfl)); (case' hp => (first | refine' vc | (refine' (fun hg => ?_); refine' vc) | refine' vd | (refine' (fun hg => ?_); refine' vd))); (case' h => ((first | refine evOps_fin ?_ | refine And.intro ?_ (evD_fin ?_) | refine evD_fin ?_) <;> simp only [go_sem, reduceAdd, reduceSub, reduceMul, reduceEqDiff, reduceLeDiff, Nat.reduceBEq, reduceLT, reduceIte, reduceCtorEq, Int.reduceToNat, List.length_map, hn])))
              | (refine callX ?_; (first | refine evOps_fin ?_ | refine And.intro ?_ (evD_fin ?_) | refine evD_fin ?_) <;> simp only [go_sem, reduceAdd, reduceSub, reduceMul, reduceEqDiff, reduceLeDiff, Nat.reduceBEq, reduceLT, reduceIte, reduceCtorEq, Int.reduceToNat, List.length_map, hn])
            refine ev_loop (fun i : Nat => i ≤ l.length)
              (fun i => ⟨64, [(32, .int .i64 i), (31, .int .i64 l.length), (30, .sl (l.map encBox)), (6, .own 1 0 0 0), (5, .own 0 0 0 0), (3, .bool u), (0, .sl (l.map encBox))],
                [.blk 35 0 2 [[.int .i64 c.t, .int .i64 c.f]], .blk 37 0 4 [[.int .i64 d.t, .int .i64 d.l, .int .i64 d.s, .int .i64 d.r]]]⟩)
              (fun i => l.length - i) 0 (Nat.zero_le _) ?_ ?_
            · simp only [go_sem, reduceAdd, reduceSub, reduceMul, reduceEqDiff, reduceLeDiff, Nat.reduceBEq, reduceLT, reduceIte, reduceCtorEq, Int.reduceToNat, fits, fitT, fitOs, fitO, V.under, unders, rowsUnder]
              repeat' first | rfl | apply And.intro
            · intro i hi
              have hb0 : 0 ≤ (i : Int) := by omega
              have hw : IntKind.i64.wrap ((i : Int) + 1) = ((i + 1 : Nat) : Int) := by rw [w64] <;> omega
              by_cases hlt : (i : Int) < l.length
              · have b := vb i
                have hg := box_get l i
                rw [decide_eq_true (hs i (by omega))] at b
                generalize l.getD i Box.zero = q at hg b
                repeat' first
                  | refine ev_seq (fun K hK => ?_)
                  | ((first | refine evr tt_ok false ?_ | refine ev_skip ?_ | refine ev_ret ?_ | refine ev_exit ?_ | refine evc (fun X Y hX hY => ?_)); simp only [go_sem, reduceAdd, reduceSub, reduceMul, reduceEqDiff, reduceLeDiff, Nat.reduceBEq, reduceLT, reduceIte, reduceCtorEq, Int.reduceToNat, List.length_map, hb0, hw, hlt, hg, Int.toNat_natCast]; try (first | (refine ⟨fun h => hX ?_, fun h => hY ?_⟩; clear hX hY) | (refine hX ?_; clear hX hY) | (refine hY ?_; clear hX hY)))
                  | refine ev_block ?_
                  | (apply hK; clear hK)
                  | apply_assumption -exfalso -symm only [*]
                  | (refine And.intro ?_ ?_; first | omega | assumption | (unfold maxLen; omega) | (simp only [decide_eq_true_eq, decide_eq_false_iff_not, Int.not_lt, Int.not_le] at h; omega))
                  | ((first | apply callP | apply callPG | apply callP0); (case' hv => (simp only [go_sem, reduceAdd, reduceSub, reduceMul, reduceEqDiff, reduceLeDiff, Nat.reduceBEq, reduceLT, reduceIte, reduceCtorEq, Int.reduceToNat, List.length_map, hb0, hw, hlt, hg, Int.toNat_natCast]; try exact rfl)); (case' hp => (first | refine' b | (refine' (fun hg => ?_); refine' b))); (case' h => ((first | refine evOps_fin ?_ | refine And.intro ?_ (evD_fin ?_) | refine evD_fin ?_) <;> simp only [go_sem, reduceAdd, reduceSub, reduceMul, reduceEqDiff, reduceLeDiff, Nat.reduceBEq, reduceLT, reduceIte, reduceCtorEq, Int.reduceToNat, List.length_map, hb0, hw, hlt, hg, Int.toNat_natCast])))
                  | (refine callX ?_; (first | refine evOps_fin ?_ | refine And.intro ?_ (evD_fin ?_) | refine evD_fin ?_) <;> simp only [go_sem, reduceAdd, reduceSub, reduceMul, reduceEqDiff, reduceLeDiff, Nat.reduceBEq, reduceLT, reduceIte, reduceCtorEq, Int.reduceToNat, List.length_map, hb0, hw, hlt, hg, Int.toNat_natCast])
                exact ⟨i + 1, by omega, by (repeat' first | rfl | apply And.intro), by omega⟩
              · obtain rfl : i = l.length := by omega
                rcases hu with ⟨hu, e2⟩ | ⟨hu, e2⟩
                all_goals
                  subst hu
                  repeat' first
                    | refine ev_seq (fun K hK => ?_)
                    | ((first | refine evr tt_ok false ?_ | refine ev_skip ?_ | refine ev_ret ?_ | refine ev_exit ?_ | refine evc (fun X Y hX hY => ?_)); simp only [go_sem, reduceAdd, reduceSub, reduceMul, reduceEqDiff, reduceLeDiff, Nat.reduceBEq, reduceLT, reduceIte, reduceCtorEq, Int.reduceToNat, List.length_map, hlt]; try (first | (refine ⟨fun h => hX ?_, fun h => hY ?_⟩; clear hX hY) | (refine hX ?_; clear hX hY) | (refine hY ?_; clear hX hY)))
                    | refine ev_block ?_
                    | (apply hK; clear hK)
                    | apply_assumption -exfalso -symm only [*]
                    | (refine And.intro ?_ ?_; first | omega | assumption | (unfold maxLen; omega) | (simp only [decide_eq_true_eq, decide_eq_false_iff_not, Int.not_lt, Int.not_le] at h; omega))
                  refine ev_adopt 12 33 6 (by decide) rfl ?_
                  refine ev_loop (fun i : Nat => i ≤ l.length)
                    (fun i => ⟨64, [(44, .int .i64 i), (43, .int .i64 l.length), (42, .sl (l.map encBox)), (12, .rs 2 i 0 i), (6, .own 1 0 0 0), (5, .own 0 0 0 0)],
                      [.blk 35 0 2 [[.int .i64 c'.t, .int .i64 c'.f]], .blk 37 0 4 [[.int .i64 d.t, .int .i64 d.l, .int .i64 d.s, .int .i64 d.r]], .blk 33 i 6 ((M i).map encBox)]⟩)
                    (fun i => l.length - i) 0 (Nat.zero_le _) ?_ ?_
                  · simp only [go_sem, reduceAdd, reduceSub, reduceMul, reduceEqDiff, reduceLeDiff, Nat.reduceBEq, reduceLT, reduceIte, reduceCtorEq, Int.reduceToNat, fits, fitT, fitOs, fitO, V.under, unders, rowsUnder, hzz, e1, e2]
                    repeat' first | rfl | exact rowsUnder_lit _ (lit_box _) | apply And.intro
                  · intro i hi
                    have hb0 : 0 ≤ (i : Int) := by omega
                    have hw : IntKind.i64.wrap ((i : Int) + 1) = ((i + 1 : Nat) : Int) := by rw [w64] <;> omega
                    have hli := hll i
                    by_cases hlt : (i : Int) < l.length
                    · have hg := box_get l i
                      have b := im i
                      have hr := hsu i
                      have he := hio i (by omega)
                      have hq : 1 ≤ maxLen ∧ i + 1 ≤ maxLen ∧ (i + 1) * 48 ≤ 140737488355328 := by
                        have : maxLen = 9223372036854775807 := rfl
                        omega
                      generalize imageM (l.getD i Box.zero) c' d = R at b hr he
                      rw [he] at b
                      generalize l.getD i Box.zero = q at hg b
                      simp only [encBox] at b
                      repeat' first
                        | refine ev_seq (fun K hK => ?_)
                        | ((first | refine evr tt_ok false ?_ | refine ev_skip ?_ | refine ev_ret ?_ | refine ev_exit ?_ | refine evc (fun X Y hX hY => ?_)); simp only [go_sem, reduceAdd, reduceSub, reduceMul, reduceEqDiff, reduceLeDiff, Nat.reduceBEq, reduceLT, reduceIte, reduceCtorEq, Int.reduceToNat, hb0, hlt, hw, hg, hli, List.length_map, Int.toNat_natCast, Nat.le_refl, bne_self_eq_false]; try (first | (refine ⟨fun h => hX ?_, fun h => hY ?_⟩; clear hX hY) | (refine hX ?_; clear hX hY) | (refine hY ?_; clear hX hY)))
                        | refine ev_block ?_
                        | (apply hK; clear hK)
                        | apply_assumption -exfalso -symm only [*]
                        | (refine And.intro ?_ ?_; first | omega | assumption | (unfold maxLen; omega) | (simp only [decide_eq_true_eq, decide_eq_false_iff_not, Int.not_lt, Int.not_le] at h; omega))
                        | ((first | apply callP | apply callPG | apply callP0); (case' hv => (simp only [go_sem, reduceAdd, reduceSub, reduceMul, reduceEqDiff, reduceLeDiff, Nat.reduceBEq, reduceLT, reduceIte, reduceCtorEq, Int.reduceToNat, hb0, hlt, hw, hg, hli, List.length_map, Int.toNat_natCast, Nat.le_refl, bne_self_eq_false]; try exact rfl)); (case' hp => (first | refine' b | (refine' (fun hg => ?_); refine' b))); (case' h => ((first | refine evOps_fin ?_ | refine And.intro ?_ (evD_fin ?_) | refine evD_fin ?_) <;> simp only [go_sem, reduceAdd, reduceSub, reduceMul, reduceEqDiff, reduceLeDiff, Nat.reduceBEq, reduceLT, reduceIte, reduceCtorEq, Int.reduceToNat, hb0, hlt, hw, hg, hli, List.length_map, Int.toNat_natCast, Nat.le_refl, bne_self_eq_false])))
                        | (refine callX ?_; (first | refine evOps_fin ?_ | refine And.intro ?_ (evD_fin ?_) | refine evD_fin ?_) <;> simp only [go_sem, reduceAdd, reduceSub, reduceMul, reduceEqDiff, reduceLeDiff, Nat.reduceBEq, reduceLT, reduceIte, reduceCtorEq, Int.reduceToNat, hb0, hlt, hw, hg, hli, List.length_map, Int.toNat_natCast, Nat.le_refl, bne_self_eq_false])
                      refine ⟨i + 1, by omega, ?_, by omega⟩
                      repeat' first | rfl | exact rowsUnder_lit _ (lit_box _) | (rw [hr]; rfl) | apply And.intro
                    · obtain rfl : i = l.length := by omega
                      have htk : List.take l.length ((M l.length).map encBox) = (M l.length).map encBox := List.take_of_length_le (by simp [hll])
                      repeat' first
                        | refine ev_seq (fun K hK => ?_)
                        | ((first | refine evr tt_ok false ?_ | refine ev_skip ?_ | refine ev_ret ?_ | refine ev_exit ?_ | refine evc (fun X Y hX hY => ?_)); simp only [go_sem, reduceAdd, reduceSub, reduceMul, reduceEqDiff, reduceLeDiff, Nat.reduceBEq, reduceLT, reduceIte, reduceCtorEq, Int.reduceToNat, hlt, hli, List.length_map, vrows_lit _ (lit_box (M l.length)), Nat.le_refl, Nat.sub_zero, htk]; try (first | (refine ⟨fun h => hX ?_, fun h => hY ?_⟩; clear hX hY) | (refine hX ?_; clear hX hY) | (refine hY ?_; clear hX hY)))
                        | refine ev_block ?_
                        | (apply hK; clear hK)
                        | apply_assumption -exfalso -symm only [*]
                        | (refine And.intro ?_ ?_; first | omega | assumption | (unfold maxLen; omega) | (simp only [decide_eq_true_eq, decide_eq_false_iff_not, Int.not_lt, Int.not_le] at h; omega))
                      all_goals rfl
          · rw [if_neg hio]
            have hsu := imL_succ l c' d
            have hll := imL_len l c' d
            have hzz : imL l c' d 0 = [] := rfl
            unfold imOk at hio
            simp only [encBs, encMv, List.map_nil] at *
            generalize imL l c' d = M at *
            refine Pure.weak (r := .tup [.emp, .int .i64 2]) ?_ (fun E v hv => tup_fst hv fun u hu => emp_sl hu)
            (refine pure_of_ev tt_ok Try.func24 rfl (by decide +kernel) (Nat.le_of_ble_eq_true rfl) ?_; simp only [Try.f24])
            repeat' first
              | refine ev_seq (fun K hK => ?_)
              | ((first | refine evr tt_ok false ?_ | refine ev_skip ?_ | refine ev_ret ?_ | refine ev_exit ?_ | refine evc (fun X Y hX hY => ?_)); simp only [go_sem, reduceAdd, reduceSub, reduceMul, reduceEqDiff, reduceLeDiff, Nat.reduceBEq, reduceLT, reduceIte, reduceCtorEq, Int.reduceToNat, List.length_map, hn]; try (first | (refine ⟨fun h => hX ?_, fun h => hY ?_⟩; clear hX hY) | (refine hX ?_; clear hX hY) | (refine hY ?_; clear hX hY)))
              | refine ev_block ?_
              | (apply hK; clear hK)
              | apply_assumption -exfalso -symm only [*]
              | (refine And.intro ?_ ?_; first | omega | assumption | (unfold maxLen; omega) | (simp only [decide_eq_true_eq, decide_eq_false_iff_not, Int.not_lt, Int.not_le] at h; omega))
              | ((first | apply callP | apply callPG | apply callP0); (case' hv => (simp only [go_sem, reduceAdd, reduceSub, reduceMul, reduceEqDiff, reduceLeDiff, Nat.reduceBEq, reduceLT, reduceIte, reduceCtorEq, Int.reduceToNat, List.length_map, hn]; try exact rfl)); (case' hp => (first | refine' vc | (refine' (fun hg => ?_); refine' vc) | refine' vd | (refine' (fun hg => ?_); refine' vd))); (case' h => ((first | refine evOps_fin ?_ | refine And.intro ?_ (evD_fin ?_) | refine evD_fin ?_) <;> simp only [go_sem, reduceAdd, reduceSub, reduceMul, reduceEqDiff, reduceLeDiff, Nat.reduceBEq, reduceLT, reduceIte, reduceCtorEq, Int.reduceToNat, List.length_map, hn])))
              | (refine callX ?_; (first | refine evOps_fin ?_ | refine And.intro ?_ (evD_fin ?_) | refine evD_fin ?_) <;> simp only [go_sem, reduceAdd, reduceSub, reduceMul, reduceEqDiff, reduceLeDiff, Nat.reduceBEq, reduceLT, reduceIte, reduceCtorEq, Int.reduceToNat, List.length_map, hn])
            refine ev_loop (fun i : Nat => i ≤ l.length)
              (fun i => ⟨64, [(32, .int .i64 i), (31, .int .i64 l.length), (30, .sl (l.map encBox)), (6, .own 1 0 0 0), (5, .own 0 0 0 0), (3, .bool u), (0, .sl (l.map encBox))],
                [.blk 35 0 2 [[.int .i64 c.t, .int .i64 c.f]], .blk 37 0 4 [[.int .i64 d.t, .int .i64 d.l, .int .i64 d.s, .int .i64 d.r]]]⟩)
              (fun i => l.length - i) 0 (Nat.zero_le _) ?_ ?_
            · simp only [go_sem, reduceAdd, reduceSub, reduceMul, reduceEqDiff, reduceLeDiff, Nat.reduceBEq, reduceLT, reduceIte, reduceCtorEq, Int.reduceToNat, fits, fitT, fitOs, fitO, V.under, unders, rowsUnder]
              repeat' first | rfl | apply And.intro
            · intro i hi
              have hb0 : 0 ≤ (i : Int) := by omega
              have hw : IntKind.i64.wrap ((i : Int) + 1) = ((i + 1 : Nat) : Int) := by rw [w64] <;> omega
              by_cases hlt : (i : Int) < l.length
              · have b := vb i
                have hg := box_get l i
                rw [decide_eq_true (hs i (by omega))] at b
                generalize l.getD i Box.zero = q at hg b
                repeat' first
                  | refine ev_seq (fun K hK => ?_)
                  | ((first | refine evr tt_ok false ?_ | refine ev_skip ?_ | refine ev_ret ?_ | refine ev_exit ?_ | refine evc (fun X Y hX hY => ?_)); simp only [go_sem, reduceAdd, reduceSub, reduceMul, reduceEqDiff, reduceLeDiff, Nat.reduceBEq, reduceLT, reduceIte, reduceCtorEq, Int.reduceToNat, List.length_map, hb0, hw, hlt, hg, Int.toNat_natCast]; try (first | (refine ⟨fun h => hX ?_, fun h => hY ?_⟩; clear hX hY) | (refine hX ?_; clear hX hY) | (refine hY ?_; clear hX hY)))
                  | refine ev_block ?_
                  | (apply hK; clear hK)
                  | apply_assumption -exfalso -symm only [*]
                  | (refine And.intro ?_ ?_; first | omega | assumption | (unfold maxLen; omega) | (simp only [decide_eq_true_eq, decide_eq_false_iff_not, Int.not_lt, Int.not_le] at h; omega))
                  | ((first | apply callP | apply callPG | apply callP0); (case' hv => (simp only [go_sem, reduceAdd, reduceSub, reduceMul, reduceEqDiff, reduceLeDiff, Nat.reduceBEq, reduceLT, reduceIte, reduceCtorEq, Int.reduceToNat, List.length_map, hb0, hw, hlt, hg, Int.toNat_natCast]; try exact rfl)); (case' hp => (first | refine' b | (refine' (fun hg => ?_); refine' b))); (case' h => ((first | refine evOps_fin ?_ | refine And.intro ?_ (evD_fin ?_) | refine evD_fin ?_) <;> simp only [go_sem, reduceAdd, reduceSub, reduceMul, reduceEqDiff, reduceLeDiff, Nat.reduceBEq, reduceLT, reduceIte, reduceCtorEq, Int.reduceToNat, List.length_map, hb0, hw, hlt, hg, Int.toNat_natCast])))
                  | (refine callX ?_; (first | refine evOps_fin ?_ | refine And.intro ?_ (evD_fin ?_) | refine evD_fin ?_) <;> simp only [go_sem, reduceAdd, reduceSub, reduceMul, reduceEqDiff, reduceLeDiff, Nat.reduceBEq, reduceLT, reduceIte, reduceCtorEq, Int.reduceToNat, List.length_map, hb0, hw, hlt, hg, Int.toNat_natCast])
                exact ⟨i + 1, by omega, by (repeat' first | rfl | apply And.intro), by omega⟩
              · obtain rfl : i = l.length := by omega
                rcases hu with ⟨hu, e2⟩ | ⟨hu, e2⟩
                all_goals
                  subst hu
                  repeat' first
                    | refine ev_seq (fun K hK => ?_)
                    | ((first | refine evr tt_ok false ?_ | refine ev_skip ?_ | refine ev_ret ?_ | refine ev_exit ?_ | refine evc (fun X Y hX hY => ?_)); simp only [go_sem, reduceAdd, reduceSub, reduceMul, reduceEqDiff, reduceLeDiff, Nat.reduceBEq, reduceLT, reduceIte, reduceCtorEq, Int.reduceToNat, List.length_map, hlt]; try (first | (refine ⟨fun h => hX ?_, fun h => hY ?_⟩; clear hX hY) | (refine hX ?_; clear hX hY) | (refine hY ?_; clear hX hY)))
                    | refine ev_block ?_
                    | (apply hK; clear hK)
                    | apply_assumption -exfalso -symm only [*]
                    | (refine And.intro ?_ ?_; first | omega | assumption | (unfold maxLen; omega) | (simp only [decide_eq_true_eq, decide_eq_false_iff_not, Int.not_lt, Int.not_le] at h; omega))
                  refine ev_adopt 12 33 6 (by decide) rfl ?_
                  refine ev_loop (fun i : Nat => i ≤ l.length ∧ ∀ j, j < i → (imageM (l.getD j Box.zero) c' d).e = 0)
                    (fun i => ⟨64, [(44, .int .i64 i), (43, .int .i64 l.length), (42, .sl (l.map encBox)), (12, .rs 2 i 0 i), (6, .own 1 0 0 0), (5, .own 0 0 0 0)],
                      [.blk 35 0 2 [[.int .i64 c'.t, .int .i64 c'.f]], .blk 37 0 4 [[.int .i64 d.t, .int .i64 d.l, .int .i64 d.s, .int .i64 d.r]], .blk 33 i 6 ((M i).map encBox)]⟩)
                    (fun i => l.length - i) 0 ⟨Nat.zero_le _, fun j hj => by omega⟩ ?_ ?_
                  · simp only [go_sem, reduceAdd, reduceSub, reduceMul, reduceEqDiff, reduceLeDiff, Nat.reduceBEq, reduceLT, reduceIte, reduceCtorEq, Int.reduceToNat, fits, fitT, fitOs, fitO, V.under, unders, rowsUnder, hzz, e1, e2]
                    repeat' first | rfl | exact rowsUnder_lit _ (lit_box _) | apply And.intro
                  · rintro i ⟨hi, hall⟩
                    have hb0 : 0 ≤ (i : Int) := by omega
                    have hw : IntKind.i64.wrap ((i : Int) + 1) = ((i + 1 : Nat) : Int) := by rw [w64] <;> omega
                    have hli := hll i
                    by_cases hlt : (i : Int) < l.length
                    · have hg := box_get l i
                      have b := im i
                      have hr := hsu i
                      have hbd := ib i (by omega)
                      have hq : 1 ≤ maxLen ∧ i + 1 ≤ maxLen ∧ (i + 1) * 48 ≤ 140737488355328 := by
                        have : maxLen = 9223372036854775807 := rfl
                        omega
                      by_cases he : (imageM (l.getD i Box.zero) c' d).e = 0
                      · have hall2 : ∀ j, j < i + 1 → (imageM (l.getD j Box.zero) c' d).e = 0 := fun j hj => by
                          by_cases e : j = i
                          · subst e; exact he
                          · exact hall j (by omega)
                        clear hall hbd
                        generalize imageM (l.getD i Box.zero) c' d = R at b hr he
                        rw [he] at b
                        generalize l.getD i Box.zero = q at hg b
                        simp only [encBox] at b
                        repeat' first
                          | refine ev_seq (fun K hK => ?_)
                          | ((first | refine evr tt_ok false ?_ | refine ev_skip ?_ | refine ev_ret ?_ | refine ev_exit ?_ | refine evc (fun X Y hX hY => ?_)); simp only [go_sem, reduceAdd, reduceSub, reduceMul, reduceEqDiff, reduceLeDiff, Nat.reduceBEq, reduceLT, reduceIte, reduceCtorEq, Int.reduceToNat, hb0, hlt, hw, hg, hli, List.length_map, Int.toNat_natCast, Nat.le_refl, bne_self_eq_false]; try (first | (refine ⟨fun h => hX ?_, fun h => hY ?_⟩; clear hX hY) | (refine hX ?_; clear hX hY) | (refine hY ?_; clear hX hY)))
                          | refine ev_block ?_
                          | (apply hK; clear hK)
                          | apply_assumption -exfalso -symm only [*]
                          | (refine And.intro ?_ ?_; first | omega | assumption | (unfold maxLen; omega) | (simp only [decide_eq_true_eq, decide_eq_false_iff_not, Int.not_lt, Int.not_le] at h; omega))
                          | ((first | apply callP | apply callPG | apply callP0); (case' hv => (simp only [go_sem, reduceAdd, reduceSub, reduceMul, reduceEqDiff, reduceLeDiff, Nat.reduceBEq, reduceLT, reduceIte, reduceCtorEq, Int.reduceToNat, hb0, hlt, hw, hg, hli, List.length_map, Int.toNat_natCast, Nat.le_refl, bne_self_eq_false]; try exact rfl)); (case' hp => (first | refine' b | (refine' (fun hg => ?_); refine' b))); (case' h => ((first | refine evOps_fin ?_ | refine And.intro ?_ (evD_fin ?_) | refine evD_fin ?_) <;> simp only [go_sem, reduceAdd, reduceSub, reduceMul, reduceEqDiff, reduceLeDiff, Nat.reduceBEq, reduceLT, reduceIte, reduceCtorEq, Int.reduceToNat, hb0, hlt, hw, hg, hli, List.length_map, Int.toNat_natCast, Nat.le_refl, bne_self_eq_false])))
                          | (refine callX ?_; (first | refine evOps_fin ?_ | refine And.intro ?_ (evD_fin ?_) | refine evD_fin ?_) <;> simp only [go_sem, reduceAdd, reduceSub, reduceMul, reduceEqDiff, reduceLeDiff, Nat.reduceBEq, reduceLT, reduceIte, reduceCtorEq, Int.reduceToNat, hb0, hlt, hw, hg, hli, List.length_map, Int.toNat_natCast, Nat.le_refl, bne_self_eq_false])
                        refine ⟨i + 1, ⟨by omega, hall2⟩, ?_, by omega⟩
                        repeat' first | rfl | exact rowsUnder_lit _ (lit_box _) | (rw [hr]; rfl) | apply And.intro
                      · have h2 := hbd he
                        clear hall hbd
                        generalize imageM (l.getD i Box.zero) c' d = R at b hr he h2
                        rw [h2] at b
                        generalize l.getD i Box.zero = q at hg b
                        simp only [encBox] at b
                        repeat' first
                          | refine ev_seq (fun K hK => ?_)
                          | ((first | refine evr tt_ok false ?_ | refine ev_skip ?_ | refine ev_ret ?_ | refine ev_exit ?_ | refine evc (fun X Y hX hY => ?_)); simp only [go_sem, reduceAdd, reduceSub, reduceMul, reduceEqDiff, reduceLeDiff, Nat.reduceBEq, reduceLT, reduceIte, reduceCtorEq, Int.reduceToNat, hb0, hlt, hw, hg, hli, List.length_map, Int.toNat_natCast, Nat.le_refl, Int.reduceBNe]; try (first | (refine ⟨fun h => hX ?_, fun h => hY ?_⟩; clear hX hY) | (refine hX ?_; clear hX hY) | (refine hY ?_; clear hX hY)))
                          | refine ev_block ?_
                          | (apply hK; clear hK)
                          | apply_assumption -exfalso -symm only [*]
                          | (refine And.intro ?_ ?_; first | omega | assumption | (unfold maxLen; omega) | (simp only [decide_eq_true_eq, decide_eq_false_iff_not, Int.not_lt, Int.not_le] at h; omega))
                          | ((first | apply callP | apply callPG | apply callP0); (case' hv => (simp only [go_sem, reduceAdd, reduceSub, reduceMul, reduceEqDiff, reduceLeDiff, Nat.reduceBEq, reduceLT, reduceIte, reduceCtorEq, Int.reduceToNat, hb0, hlt, hw, hg, hli, List.length_map, Int.toNat_natCast, Nat.le_refl, Int.reduceBNe]; try exact rfl)); (case' hp => (first | refine' b | (refine' (fun hg => ?_); refine' b))); (case' h => ((first | refine evOps_fin ?_ | refine And.intro ?_ (evD_fin ?_) | refine evD_fin ?_) <;> simp only [go_sem, reduceAdd, reduceSub, reduceMul, reduceEqDiff, reduceLeDiff, Nat.reduceBEq, reduceLT, reduceIte, reduceCtorEq, Int.reduceToNat, hb0, hlt, hw, hg, hli, List.length_map, Int.toNat_natCast, Nat.le_refl, Int.reduceBNe])))
                          | (refine callX ?_; (first | refine evOps_fin ?_ | refine And.intro ?_ (evD_fin ?_) | refine evD_fin ?_) <;> simp only [go_sem, reduceAdd, reduceSub, reduceMul, reduceEqDiff, reduceLeDiff, Nat.reduceBEq, reduceLT, reduceIte, reduceCtorEq, Int.reduceToNat, hb0, hlt, hw, hg, hli, List.length_map, Int.toNat_natCast, Nat.le_refl, Int.reduceBNe])
                        all_goals rfl
                    · exact absurd (fun j hj => hall j (by omega)) hio
        · rw [if_neg (fun h => hs h.1.2)]
          simp only [encBs, List.map_nil]
          refine Pure.weak (r := .tup [.emp, .int .i64 1]) ?_ (fun E v hv => tup_fst hv fun u hu => emp_sl hu)
          (refine pure_of_ev tt_ok Try.func24 rfl (by decide +kernel) (Nat.le_of_ble_eq_true rfl) ?_; simp only [Try.f24])
          repeat' first
            | refine ev_seq (fun K hK => ?_)
            | ((first | refine evr tt_ok false ?_ | refine ev_skip ?_ | refine ev_ret ?_ | refine ev_exit ?_ | refine evc (fun X Y hX hY => ?_)); simp only [go_sem, reduceAdd, reduceSub, reduceMul, reduceEqDiff, reduceLeDiff, Nat.reduceBEq, reduceLT, reduceIte, reduceCtorEq, Int.reduceToNat, List.length_map, hn]; try (first | (refine ⟨fun h => hX ?_, fun h => hY ?_⟩; clear hX hY) | (refine hX ?_; clear hX hY) | (refine hY ?_; clear hX hY)))
            | refine ev_block ?_
            | (apply hK; clear hK)
            | apply_assumption -exfalso -symm only [*]
            | (refine And.intro ?_ ?_; first | omega | assumption | (unfold maxLen; omega) | (simp only [decide_eq_true_eq, decide_eq_false_iff_not, Int.not_lt, Int.not_le] at h; omega))
            | ((first | apply callP | apply callPG | apply callP0); (case' hv => (simp only [go_sem, reduceAdd, reduceSub, reduceMul, reduceEqDiff, reduceLeDiff, Nat.reduceBEq, reduceLT, reduceIte, reduceCtorEq, Int.reduceToNat, List.length_map, hn]; try exact rfl)); (case' hp => (first | refine' vc | (refine' (fun hg => ?_); refine' vc) | refine' vd | (refine' (fun hg => ?_); refine' vd))); (case' h => ((first | refine evOps_fin ?_ | refine And.intro ?_ (evD_fin ?_) | refine evD_fin ?_) <;> simp only [go_sem, reduceAdd, reduceSub, reduceMul, reduceEqDiff, reduceLeDiff, Nat.reduceBEq, reduceLT, reduceIte, reduceCtorEq, Int.reduceToNat, List.length_map, hn])))
            | (refine callX ?_; (first | refine evOps_fin ?_ | refine And.intro ?_ (evD_fin ?_) | refine evD_fin ?_) <;> simp only [go_sem, reduceAdd, reduceSub, reduceMul, reduceEqDiff, reduceLeDiff, Nat.reduceBEq, reduceLT, reduceIte, reduceCtorEq, Int.reduceToNat, List.length_map, hn])
          refine ev_loop (fun i : Nat => i ≤ l.length ∧ ∀ j, j < i → (l.getD j Box.zero).ok)
            (fun i => ⟨64, [(32, .int .i64 i), (31, .int .i64 l.length), (30, .sl (l.map encBox)), (6, .own 1 0 0 0), (5, .own 0 0 0 0), (3, .bool u), (0, .sl (l.map encBox))],
              [.blk 35 0 2 [[.int .i64 c.t, .int .i64 c.f]], .blk 37 0 4 [[.int .i64 d.t, .int .i64 d.l, .int .i64 d.s, .int .i64 d.r]]]⟩)
            (fun i => l.length - i) 0 ⟨Nat.zero_le _, fun j hj => by omega⟩ ?_ ?_
          · simp only [go_sem, reduceAdd, reduceSub, reduceMul, reduceEqDiff, reduceLeDiff, Nat.reduceBEq, reduceLT, reduceIte, reduceCtorEq, Int.reduceToNat, fits, fitT, fitOs, fitO, V.under, unders, rowsUnder]
            repeat' first | rfl | apply And.intro
          · rintro i ⟨hi, hall⟩
            have hb0 : 0 ≤ (i : Int) := by omega
            have hw : IntKind.i64.wrap ((i : Int) + 1) = ((i + 1 : Nat) : Int) := by rw [w64] <;> omega
            by_cases hlt : (i : Int) < l.length
            · have b := vb i
              have hg := box_get l i
              by_cases hk : (l.getD i Box.zero).ok
              · rw [decide_eq_true hk] at b
                have hall2 : ∀ j, j < i + 1 → (l.getD j Box.zero).ok := fun j hj => by
                  by_cases e : j = i
                  · subst e; exact hk
                  · exact hall j (by omega)
                clear hall hk
                generalize l.getD i Box.zero = q at hg b
                repeat' first
                  | refine ev_seq (fun K hK => ?_)
                  | ((first | refine evr tt_ok false ?_ | refine ev_skip ?_ | refine ev_ret ?_ | refine ev_exit ?_ | refine evc (fun X Y hX hY => ?_)); simp only [go_sem, reduceAdd, reduceSub, reduceMul, reduceEqDiff, reduceLeDiff, Nat.reduceBEq, reduceLT, reduceIte, reduceCtorEq, Int.reduceToNat, List.length_map, hb0, hw, hlt, hg, Int.toNat_natCast]; try (first | (refine ⟨fun h => hX ?_, fun h => hY ?_⟩; clear hX hY) | (refine hX ?_; clear hX hY) | (refine hY ?_; clear hX hY)))
                  | refine ev_block ?_
                  | (apply hK; clear hK)
                  | apply_assumption -exfalso -symm only [*]
                  | (refine And.intro ?_ ?_; first | omega | assumption | (unfold maxLen; omega) | (simp only [decide_eq_true_eq, decide_eq_false_iff_not, Int.not_lt, Int.not_le] at h; omega))
                  | ((first | apply callP | apply callPG | apply callP0); (case' hv => (simp only [go_sem, reduceAdd, reduceSub, reduceMul, reduceEqDiff, reduceLeDiff, Nat.reduceBEq, reduceLT, reduceIte, reduceCtorEq, Int.reduceToNat, List.length_map, hb0, hw, hlt, hg, Int.toNat_natCast]; try exact rfl)); (case' hp => (first | refine' b | (refine' (fun hg => ?_); refine' b))); (case' h => ((first | refine evOps_fin ?_ | refine And.intro ?_ (evD_fin ?_) | refine evD_fin ?_) <;> simp only [go_sem, reduceAdd, reduceSub, reduceMul, reduceEqDiff, reduceLeDiff, Nat.reduceBEq, reduceLT, reduceIte, reduceCtorEq, Int.reduceToNat, List.length_map, hb0, hw, hlt, hg, Int.toNat_natCast])))
                  | (refine callX ?_; (first | refine evOps_fin ?_ | refine And.intro ?_ (evD_fin ?_) | refine evD_fin ?_) <;> simp only [go_sem, reduceAdd, reduceSub, reduceMul, reduceEqDiff, reduceLeDiff, Nat.reduceBEq, reduceLT, reduceIte, reduceCtorEq, Int.reduceToNat, List.length_map, hb0, hw, hlt, hg, Int.toNat_natCast])
                exact ⟨i + 1, ⟨by omega, hall2⟩, by (repeat' first | rfl | apply And.intro), by omega⟩
              · rw [decide_eq_false hk] at b
                clear hall hk
                generalize l.getD i Box.zero = q at hg b
                repeat' first
                  | refine ev_seq (fun K hK => ?_)
                  | ((first | refine evr tt_ok false ?_ | refine ev_skip ?_ | refine ev_ret ?_ | refine ev_exit ?_ | refine evc (fun X Y hX hY => ?_)); simp only [go_sem, reduceAdd, reduceSub, reduceMul, reduceEqDiff, reduceLeDiff, Nat.reduceBEq, reduceLT, reduceIte, reduceCtorEq, Int.reduceToNat, List.length_map, hb0, hw, hlt, hg, Int.toNat_natCast]; try (first | (refine ⟨fun h => hX ?_, fun h => hY ?_⟩; clear hX hY) | (refine hX ?_; clear hX hY) | (refine hY ?_; clear hX hY)))
                  | refine ev_block ?_
                  | (apply hK; clear hK)
                  | apply_assumption -exfalso -symm only [*]
                  | (refine And.intro ?_ ?_; first | omega | assumption | (unfold maxLen; omega) | (simp only [decide_eq_true_eq, decide_eq_false_iff_not, Int.not_lt, Int.not_le] at h; omega))
                  | ((first | apply callP | apply callPG | apply callP0); (case' hv => (simp only [go_sem, reduceAdd, reduceSub, reduceMul, reduceEqDiff, reduceLeDiff, Nat.reduceBEq, reduceLT, reduceIte, reduceCtorEq, Int.reduceToNat, List.length_map, hb0, hw, hlt, hg, Int.toNat_natCast]; try exact rfl)); (case' hp => (first | refine' b | (refine' (fun hg => ?_); refine' b))); (case' h => ((first | refine evOps_fin ?_ | refine And.intro ?_ (evD_fin ?_) | refine evD_fin ?_) <;> simp only [go_sem, reduceAdd, reduceSub, reduceMul, reduceEqDiff, reduceLeDiff, Nat.reduceBEq, reduceLT, reduceIte, reduceCtorEq, Int.reduceToNat, List.length_map, hb0, hw, hlt, hg, Int.toNat_natCast])))
                  | (refine callX ?_; (first | refine evOps_fin ?_ | refine And.intro ?_ (evD_fin ?_) | refine evD_fin ?_) <;> simp only [go_sem, reduceAdd, reduceSub, reduceMul, reduceEqDiff, reduceLeDiff, Nat.reduceBEq, reduceLT, reduceIte, reduceCtorEq, Int.reduceToNat, List.length_map, hb0, hw, hlt, hg, Int.toNat_natCast])
                all_goals rfl
            · exact absurd (fun j hj => hall j (by omega)) hs
      · rw [decide_eq_false hd] at vd
        rw [if_neg (fun h => hd h.2.2)]
        simp only [encBs, List.map_nil]
        refine Pure.weak (r := .tup [.emp, .int .i64 1]) ?_ (fun E v hv => tup_fst hv fun u hu => emp_sl hu)
        (refine pure_of_ev tt_ok Try.func24 rfl (by decide +kernel) (Nat.le_of_ble_eq_true rfl) ?_; simp only [Try.f24])
        repeat' first
          | refine ev_seq (fun K hK => ?_)
          | ((first | refine evr tt_ok false ?_ | refine ev_skip ?_ | refine ev_ret ?_ | refine ev_exit ?_ | refine evc (fun X Y hX hY => ?_)); simp only [go_sem, reduceAdd, reduceSub, reduceMul, reduceEqDiff, reduceLeDiff, Nat.reduceBEq, reduceLT, reduceIte, reduceCtorEq, Int.reduceToNat, List.length_map, hn]; try (first | (refine ⟨fun h => hX ?_, fun h => hY ?_⟩; clear hX hY) | (refine hX ?_; clear hX hY) | (refine hY ?_; clear hX hY)))
          | refine ev_block ?_
          | (apply hK; clear hK)
          | apply_assumption -exfalso -symm only [*]
          | (refine And.intro ?_ ?_; first | omega | assumption | (unfold maxLen; omega) | (simp only [decide_eq_true_eq, decide_eq_false_iff_not, Int.not_lt, Int.not_le] at h; omega))
          | ((first | apply callP | apply callPG | apply callP0); (case' hv => (simp only [go_sem, reduceAdd, reduceSub, reduceMul, reduceEqDiff, reduceLeDiff, Nat.reduceBEq, reduceLT, reduceIte, reduceCtorEq, Int.reduceToNat, List.length_map, hn]; try exact rfl)); (case' hp => (first | refine' vc | (refine' (fun hg => ?_); refine' vc) | refine' vd | (refine' (fun hg => ?_); refine' vd))); (case' h => ((first | refine evOps_fin ?_ | refine And.intro ?_ (evD_fin ?_) | refine evD_fin ?_) <;> simp only [go_sem, reduceAdd, reduceSub, reduceMul, reduceEqDiff, reduceLeDiff, Nat.reduceBEq, reduceLT, reduceIte, reduceCtorEq, Int.reduceToNat, List.length_map, hn])))
          | (refine callX ?_; (first | refine evOps_fin ?_ | refine And.intro ?_ (evD_fin ?_) | refine evD_fin ?_) <;> simp only [go_sem, reduceAdd, reduceSub, reduceMul, reduceEqDiff, reduceLeDiff, Nat.reduceBEq, reduceLT, reduceIte, reduceCtorEq, Int.reduceToNat, List.length_map, hn])
        all_goals rfl
    · rw [decide_eq_false hc] at vc
      rw [if_neg (fun h => hc h.2.1)]
      simp only [encBs, List.map_nil]
      refine Pure.weak (r := .tup [.emp, .int .i64 1]) ?_ (fun E v hv => tup_fst hv fun u hu => emp_sl hu)
      (refine pure_of_ev tt_ok Try.func24 rfl (by decide +kernel) (Nat.le_of_ble_eq_true rfl) ?_; simp only [Try.f24])
      repeat' first
        | refine ev_seq (fun K hK => ?_)
        | ((first | refine evr tt_ok false ?_ | refine ev_skip ?_ | refine ev_ret ?_ | refine ev_exit ?_ | refine evc (fun X Y hX hY => ?_)); simp only [go_sem, reduceAdd, reduceSub, reduceMul, reduceEqDiff, reduceLeDiff, Nat.reduceBEq, reduceLT, reduceIte, reduceCtorEq, Int.reduceToNat, List.length_map, hn]; try (first | (refine ⟨fun h => hX ?_, fun h => hY ?_⟩; clear hX hY) | (refine hX ?_; clear hX hY) | (refine hY ?_; clear hX hY)))
        | refine ev_block ?_
        | (apply hK; clear hK)
        | apply_assumption -exfalso -symm only [*]
        | (refine And.intro ?_ ?_; first | omega | assumption | (unfold maxLen; omega) | (simp only [decide_eq_true_eq, decide_eq_false_iff_not, Int.not_lt, Int.not_le] at h; omega))
        | ((first | apply callP | apply callPG | apply callP0); (case' hv => (simp only [go_sem, reduceAdd, reduceSub, reduceMul, reduceEqDiff, reduceLeDiff, Nat.reduceBEq, reduceLT, reduceIte, reduceCtorEq, Int.reduceToNat, List.length_map, hn]; try exact rfl)); (case' hp => (first | refine' vc | (refine' (fun hg => ?_); refine' vc) | refine' vd | (refine' (fun hg => ?_); refine' vd))); (case' h => ((first | refine evOps_fin ?_ | refine And.intro ?_ (evD_fin ?_) | refine evD_fin ?_) <;> simp only [go_sem, reduceAdd, reduceSub, reduceMul, reduceEqDiff, reduceLeDiff, Nat.reduceBEq, reduceLT, reduceIte, reduceCtorEq, Int.reduceToNat, List.length_map, hn])))
        | (refine callX ?_; (first | refine evOps_fin ?_ | refine And.intro ?_ (evD_fin ?_) | refine evD_fin ?_) <;> simp only [go_sem, reduceAdd, reduceSub, reduceMul, reduceEqDiff, reduceLeDiff, Nat.reduceBEq, reduceLT, reduceIte, reduceCtorEq, Int.reduceToNat, List.length_map, hn])
      all_goals rfl
end Go.Proofs.Ytmpmggbcmioipaa
