import Derived.Test.YtmpmggbcmioipaaM1
set_option linter.all false
namespace Go.Proofs.Ytmpmggbcmioipaa
open Nat (reduceAdd reduceSub reduceMul reduceEqDiff reduceLeDiff reduceLT)
open Go Go.K
set_option maxRecDepth 20000
set_option maxHeartbeats 4000000
def mkB (a b : Box) (r : Arc) : Box := ⟨max a.x0 b.x0, max a.y0 b.y0, min a.x1 b.x1, min a.y1 b.y1, r.f, r.c⟩
theorem meetB_none {a b : Box} (h : ¬ a.ok ∨ ¬ b.ok ∨ min a.x1 b.x1 < max a.x0 b.x0 ∨ min a.y1 b.y1 < max a.y0 b.y0) : meetB a b = [] := if_pos h
theorem meetB_some {a b : Box} (h : ¬ (¬ a.ok ∨ ¬ b.ok ∨ min a.x1 b.x1 < max a.x0 b.x0 ∨ min a.y1 b.y1 < max a.y0 b.y0)) : meetB a b = (meetM a.arc b.arc).map (mkB a b) := if_neg h
theorem pick_row (a b : Box) (L : List Arc) {i : Nat} (h : i < L.length) :
    ((L.take (i + 1)).map (mkB a b)).map encBox = ((L.take i).map (mkB a b)).map encBox ++ [encBox (mkB a b (L.getD i ⟨0, 0⟩))] := by
  rw [take_getD h ⟨0, 0⟩, List.map_append, List.map_append]; rfl
theorem sumC_append : ∀ (l m : List Arc), sumC (l ++ m) = sumC l + sumC m
  | [], m => by simp [sumC]
  | a :: r, m => by simp only [List.cons_append, sumC, sumC_append r m]; omega
theorem sumC_bound : ∀ {l : List Arc}, (∀ r ∈ l, r.ok) → 0 ≤ sumC l ∧ sumC l ≤ 256 * l.length
  | [], _ => by simp [sumC]
  | a :: r, h => by
    have ih := sumC_bound fun x hx => h x (List.mem_cons_of_mem _ hx)
    obtain ⟨a1, a2, a3, a4, a5⟩ := h a (List.mem_cons_self ..)
    simp only [sumC, List.length_cons]
    omega
theorem inside_pure (a b : Box) : Pure Try.prog 26 [.agg [.int .i64 a.x0, .int .i64 a.y0, .int .i64 a.x1, .int .i64 a.y1, .int .i64 a.f, .int .i64 a.c], .agg [.int .i64 b.x0, .int .i64 b.y0, .int .i64 b.x1, .int .i64 b.y1, .int .i64 b.f, .int .i64 b.c]] (.bool (decide (a.within b))) := by
  by_cases ha : a.ok
  · by_cases hb : b.ok
    · by_cases hr : b.x0 ≤ a.x0 ∧ a.x1 ≤ b.x1 ∧ b.y0 ≤ a.y0 ∧ a.y1 ≤ b.y1
      · obtain ⟨q1, q2, q3, q4⟩ := hr
        have n1 : ¬ a.x0 < b.x0 := by omega
        have n2 : ¬ b.x1 < a.x1 := by omega
        have n3 : ¬ a.y0 < b.y0 := by omega
        have n4 : ¬ b.y1 < a.y1 := by omega
        have hm := meet_pure ⟨a.f, a.c⟩ ⟨b.f, b.c⟩ ha.2.2.2.2.2.2 hb.2.2.2.2.2.2
        have hfew := meet_few ⟨a.f, a.c⟩ ⟨b.f, b.c⟩ ha.2.2.2.2.2.2 hb.2.2.2.2.2.2
        have hoks := meet_ok (both_per ⟨a.f, a.c⟩ ⟨b.f, b.c⟩)
        have hsum := inside_sum (a := a.arc) (b := b.arc) ha.2.2.2.2.2.2
        have e1 : meetP (both ⟨a.f, a.c⟩ ⟨b.f, b.c⟩) = meetM ⟨a.f, a.c⟩ ⟨b.f, b.c⟩ := rfl
        have e2 : meetM a.arc b.arc = meetM ⟨a.f, a.c⟩ ⟨b.f, b.c⟩ := rfl
        rw [e1] at hoks; rw [e2] at hsum
        generalize meetM ⟨a.f, a.c⟩ ⟨b.f, b.c⟩ = L at *
        have fin : V.bool (sumC L == a.c) = V.bool (decide (a.within b)) := by
          refine bool_dec ?_
          rw [beq_iff_eq, within_iff ha, ← hsum]
          exact ⟨fun h => ⟨hb, q1, q2, q3, q4, h⟩, fun h => h.2.2.2.2.2⟩
        (refine pure_of_ev tt_ok Try.func26 rfl (by decide +kernel) (Nat.le_of_ble_eq_true rfl) ?_; simp only [Try.f26])
        repeat' first
          | refine ev_seq (fun K hK => ?_)
          | ((first | refine evrd (id := 4) hmix tt_ok false [([], false), ([], true), ([1], false), ([], true), ([], true), ([], false), ([1, 3, 4], false)] (by decide +kernel) ?_ | refine evr tt_ok false ?_ | refine ev_skip ?_ | refine ev_ret ?_ | refine ev_exit ?_ | refine evc (fun X Y hX hY => ?_)); simp only [go_sem, reduceAdd, reduceSub, reduceMul, reduceEqDiff, reduceLeDiff, Nat.reduceBEq, reduceLT, reduceIte, reduceCtorEq, Int.reduceToNat, ha, hb, n1, n2, n3, n4, List.length_map]; try (first | (refine ⟨fun h => hX ?_, fun h => hY ?_⟩; clear hX hY) | (refine hX ?_; clear hX hY) | (refine hY ?_; clear hX hY)))
          | refine ev_block ?_
          | (apply hK; clear hK)
          | apply_assumption -exfalso -symm only [*]
          | (refine And.intro ?_ ?_; first | omega | assumption | (unfold maxLen; omega) | (simp only [decide_eq_true_eq, decide_eq_false_iff_not, Int.not_lt, Int.not_le] at h; omega))
          | ((first | apply callP | apply callPG | apply callP0); (case' hv => (simp only [go_sem, reduceAdd, reduceSub, reduceMul, reduceEqDiff, reduceLeDiff, Nat.reduceBEq, reduceLT, reduceIte, reduceCtorEq, Int.reduceToNat, ha, hb, n1, n2, n3, n4, List.length_map]; try exact rfl)); (case' hp => (first | refine' vbox_pure a | (refine' (fun hg => ?_); refine' vbox_pure a) | refine' vbox_pure b | (refine' (fun hg => ?_); refine' vbox_pure b) | refine' arc_pure a | (refine' (fun hg => ?_); refine' arc_pure a) | refine' arc_pure b | (refine' (fun hg => ?_); refine' arc_pure b) | refine' hm | (refine' (fun hg => ?_); refine' hm))); (case' h => ((first | refine evOps_fin ?_ | refine And.intro ?_ (evD_fin ?_) | refine evD_fin ?_) <;> simp only [go_sem, reduceAdd, reduceSub, reduceMul, reduceEqDiff, reduceLeDiff, Nat.reduceBEq, reduceLT, reduceIte, reduceCtorEq, Int.reduceToNat, ha, hb, n1, n2, n3, n4, List.length_map])))
          | (refine callX ?_; (first | refine evOps_fin ?_ | refine And.intro ?_ (evD_fin ?_) | refine evD_fin ?_) <;> simp only [go_sem, reduceAdd, reduceSub, reduceMul, reduceEqDiff, reduceLeDiff, Nat.reduceBEq, reduceLT, reduceIte, reduceCtorEq, Int.reduceToNat, ha, hb, n1, n2, n3, n4, List.length_map])
        refine ev_loop (fun i : Nat => i ≤ L.length)
          (fun i => ⟨63, [(50, .int .i64 i), (49, .int .i64 L.length), (48, .sl (List.map encArc L)), (5, .int .i64 (sumC (L.take i))), (2, .own 0 0 0 0)],
            [.blk 33 0 6 [[.int .i64 a.x0, .int .i64 a.y0, .int .i64 a.x1, .int .i64 a.y1, .int .i64 a.f, .int .i64 a.c]]]⟩)
          (fun i => L.length - i) 0 (Nat.zero_le _) ?_ ?_
        · simp only [go_sem, reduceAdd, reduceSub, reduceMul, reduceEqDiff, reduceLeDiff, Nat.reduceBEq, reduceLT, reduceIte, reduceCtorEq, Int.reduceToNat, fits, fitT, fitOs, fitO, V.under, unders, rowsUnder, List.take_zero, sumC]
          repeat' first | rfl | apply And.intro
        · intro i hi
          have hb0 : 0 ≤ (i : Int) := by omega
          have hw : IntKind.i64.wrap ((i : Int) + 1) = ((i + 1 : Nat) : Int) := by rw [w64] <;> omega
          by_cases hlt : (i : Int) < L.length
          · have hlt2 : i < L.length := by omega
            have hs := sumC_append (L.take i) [L.getD i ⟨0, 0⟩]
            rw [← take_getD hlt2 ⟨0, 0⟩] at hs
            simp only [sumC, Int.add_zero] at hs
            have hbd := sumC_bound (l := L.take (i + 1)) fun r hr => hoks r (List.mem_of_mem_take hr)
            have hlen : (L.take (i + 1)).length ≤ 2 := by rw [List.length_take]; omega
            have hws : IntKind.i64.wrap (sumC (L.take i) + (L.getD i ⟨0, 0⟩).c) = sumC (L.take (i + 1)) := by rw [← hs, w64] <;> omega
            repeat' first
              | refine ev_seq (fun K hK => ?_)
              | ((first | refine evrd (id := 4) hmix tt_ok false [([], false), ([], true), ([1], false), ([], true), ([], true), ([], false), ([1, 3, 4], false)] (by decide +kernel) ?_ | refine evr tt_ok false ?_ | refine ev_skip ?_ | refine ev_ret ?_ | refine ev_exit ?_ | refine evc (fun X Y hX hY => ?_)); simp only [go_sem, reduceAdd, reduceSub, reduceMul, reduceEqDiff, reduceLeDiff, Nat.reduceBEq, reduceLT, reduceIte, reduceCtorEq, Int.reduceToNat, hb0, hlt, hw, Int.toNat_natCast, List.length_map, arc_get, hws]; try (first | (refine ⟨fun h => hX ?_, fun h => hY ?_⟩; clear hX hY) | (refine hX ?_; clear hX hY) | (refine hY ?_; clear hX hY)))
              | refine ev_block ?_
              | (apply hK; clear hK)
              | apply_assumption -exfalso -symm only [*]
              | (refine And.intro ?_ ?_; first | omega | assumption | (unfold maxLen; omega) | (simp only [decide_eq_true_eq, decide_eq_false_iff_not, Int.not_lt, Int.not_le] at h; omega))
            exact ⟨i + 1, by omega, ⟨rfl, rfl⟩, by omega⟩
          · obtain rfl : i = L.length := by omega
            repeat' first
              | refine ev_seq (fun K hK => ?_)
              | ((first | refine evrd (id := 4) hmix tt_ok false [([], false), ([], true), ([1], false), ([], true), ([], true), ([], false), ([1, 3, 4], false)] (by decide +kernel) ?_ | refine evr tt_ok false ?_ | refine ev_skip ?_ | refine ev_ret ?_ | refine ev_exit ?_ | refine evc (fun X Y hX hY => ?_)); simp only [go_sem, reduceAdd, reduceSub, reduceMul, reduceEqDiff, reduceLeDiff, Nat.reduceBEq, reduceLT, reduceIte, reduceCtorEq, Int.reduceToNat, hlt, List.take_length, fin]; try (first | (refine ⟨fun h => hX ?_, fun h => hY ?_⟩; clear hX hY) | (refine hX ?_; clear hX hY) | (refine hY ?_; clear hX hY)))
              | refine ev_block ?_
              | (apply hK; clear hK)
              | apply_assumption -exfalso -symm only [*]
              | (refine And.intro ?_ ?_; first | omega | assumption | (unfold maxLen; omega) | (simp only [decide_eq_true_eq, decide_eq_false_iff_not, Int.not_lt, Int.not_le] at h; omega))
      · have hn : ¬ a.within b := fun h => by
          have := (within_iff ha).1 h; exact hr ⟨this.2.1, this.2.2.1, this.2.2.2.1, this.2.2.2.2.1⟩
        have hd : decide (a.within b) = false := decide_eq_false hn
        rw [hd]
        have hcond : (decide (a.x0 < b.x0) || decide (b.x1 < a.x1) || decide (a.y0 < b.y0) || decide (b.y1 < a.y1)) = true := by
          simp only [Bool.or_eq_true, decide_eq_true_eq]; omega
        (refine pure_of_ev tt_ok Try.func26 rfl (by decide +kernel) (Nat.le_of_ble_eq_true rfl) ?_; simp only [Try.f26])
        repeat' first
          | refine ev_seq (fun K hK => ?_)
          | ((first | refine evrd (id := 4) hmix tt_ok false [([], false), ([], true), ([1], false), ([], true), ([], true), ([], false), ([1, 3, 4], false)] (by decide +kernel) ?_ | refine evr tt_ok false ?_ | refine ev_skip ?_ | refine ev_ret ?_ | refine ev_exit ?_ | refine evc (fun X Y hX hY => ?_)); simp only [go_sem, reduceAdd, reduceSub, reduceMul, reduceEqDiff, reduceLeDiff, Nat.reduceBEq, reduceLT, reduceIte, reduceCtorEq, Int.reduceToNat, ha, hb, hcond]; try (first | (refine ⟨fun h => hX ?_, fun h => hY ?_⟩; clear hX hY) | (refine hX ?_; clear hX hY) | (refine hY ?_; clear hX hY)))
          | refine ev_block ?_
          | (apply hK; clear hK)
          | apply_assumption -exfalso -symm only [*]
          | (refine And.intro ?_ ?_; first | omega | assumption | (unfold maxLen; omega) | (simp only [decide_eq_true_eq, decide_eq_false_iff_not, Int.not_lt, Int.not_le] at h; omega))
          | ((first | apply callP | apply callPG | apply callP0); (case' hv => (simp only [go_sem, reduceAdd, reduceSub, reduceMul, reduceEqDiff, reduceLeDiff, Nat.reduceBEq, reduceLT, reduceIte, reduceCtorEq, Int.reduceToNat, ha, hb, hcond]; try exact rfl)); (case' hp => (first | refine' vbox_pure a | (refine' (fun hg => ?_); refine' vbox_pure a) | refine' vbox_pure b | (refine' (fun hg => ?_); refine' vbox_pure b))); (case' h => ((first | refine evOps_fin ?_ | refine And.intro ?_ (evD_fin ?_) | refine evD_fin ?_) <;> simp only [go_sem, reduceAdd, reduceSub, reduceMul, reduceEqDiff, reduceLeDiff, Nat.reduceBEq, reduceLT, reduceIte, reduceCtorEq, Int.reduceToNat, ha, hb, hcond])))
          | (refine callX ?_; (first | refine evOps_fin ?_ | refine And.intro ?_ (evD_fin ?_) | refine evD_fin ?_) <;> simp only [go_sem, reduceAdd, reduceSub, reduceMul, reduceEqDiff, reduceLeDiff, Nat.reduceBEq, reduceLT, reduceIte, reduceCtorEq, Int.reduceToNat, ha, hb, hcond])
    · have hd : decide (a.within b) = false := decide_eq_false fun h => hb h.2.1
      rw [hd]
      (refine pure_of_ev tt_ok Try.func26 rfl (by decide +kernel) (Nat.le_of_ble_eq_true rfl) ?_; simp only [Try.f26])
      repeat' first
        | refine ev_seq (fun K hK => ?_)
        | ((first | refine evrd (id := 4) hmix tt_ok false [([], false), ([], true), ([1], false), ([], true), ([], true), ([], false), ([1, 3, 4], false)] (by decide +kernel) ?_ | refine evr tt_ok false ?_ | refine ev_skip ?_ | refine ev_ret ?_ | refine ev_exit ?_ | refine evc (fun X Y hX hY => ?_)); simp only [go_sem, reduceAdd, reduceSub, reduceMul, reduceEqDiff, reduceLeDiff, Nat.reduceBEq, reduceLT, reduceIte, reduceCtorEq, Int.reduceToNat, ha, hb]; try (first | (refine ⟨fun h => hX ?_, fun h => hY ?_⟩; clear hX hY) | (refine hX ?_; clear hX hY) | (refine hY ?_; clear hX hY)))
        | refine ev_block ?_
        | (apply hK; clear hK)
        | apply_assumption -exfalso -symm only [*]
        | (refine And.intro ?_ ?_; first | omega | assumption | (unfold maxLen; omega) | (simp only [decide_eq_true_eq, decide_eq_false_iff_not, Int.not_lt, Int.not_le] at h; omega))
        | ((first | apply callP | apply callPG | apply callP0); (case' hv => (simp only [go_sem, reduceAdd, reduceSub, reduceMul, reduceEqDiff, reduceLeDiff, Nat.reduceBEq, reduceLT, reduceIte, reduceCtorEq, Int.reduceToNat, ha, hb]; try exact rfl)); (case' hp => (first | refine' vbox_pure a | (refine' (fun hg => ?_); refine' vbox_pure a) | refine' vbox_pure b | (refine' (fun hg => ?_); refine' vbox_pure b))); (case' h => ((first | refine evOps_fin ?_ | refine And.intro ?_ (evD_fin ?_) | refine evD_fin ?_) <;> simp only [go_sem, reduceAdd, reduceSub, reduceMul, reduceEqDiff, reduceLeDiff, Nat.reduceBEq, reduceLT, reduceIte, reduceCtorEq, Int.reduceToNat, ha, hb])))
        | (refine callX ?_; (first | refine evOps_fin ?_ | refine And.intro ?_ (evD_fin ?_) | refine evD_fin ?_) <;> simp only [go_sem, reduceAdd, reduceSub, reduceMul, reduceEqDiff, reduceLeDiff, Nat.reduceBEq, reduceLT, reduceIte, reduceCtorEq, Int.reduceToNat, ha, hb])
  · have hd : decide (a.within b) = false := decide_eq_false fun h => ha h.1
    rw [hd]
    (refine pure_of_ev tt_ok Try.func26 rfl (by decide +kernel) (Nat.le_of_ble_eq_true rfl) ?_; simp only [Try.f26])
    repeat' first
      | refine ev_seq (fun K hK => ?_)
      | ((first | refine evrd (id := 4) hmix tt_ok false [([], false), ([], true), ([1], false), ([], true), ([], true), ([], false), ([1, 3, 4], false)] (by decide +kernel) ?_ | refine evr tt_ok false ?_ | refine ev_skip ?_ | refine ev_ret ?_ | refine ev_exit ?_ | refine evc (fun X Y hX hY => ?_)); simp only [go_sem, reduceAdd, reduceSub, reduceMul, reduceEqDiff, reduceLeDiff, Nat.reduceBEq, reduceLT, reduceIte, reduceCtorEq, Int.reduceToNat, ha]; try (first | (refine ⟨fun h => hX ?_, fun h => hY ?_⟩; clear hX hY) | (refine hX ?_; clear hX hY) | (refine hY ?_; clear hX hY)))
      | refine ev_block ?_
      | (apply hK; clear hK)
      | apply_assumption -exfalso -symm only [*]
      | (refine And.intro ?_ ?_; first | omega | assumption | (unfold maxLen; omega) | (simp only [decide_eq_true_eq, decide_eq_false_iff_not, Int.not_lt, Int.not_le] at h; omega))
      | ((first | apply callP | apply callPG | apply callP0); (case' hv => (simp only [go_sem, reduceAdd, reduceSub, reduceMul, reduceEqDiff, reduceLeDiff, Nat.reduceBEq, reduceLT, reduceIte, reduceCtorEq, Int.reduceToNat, ha]; try exact rfl)); (case' hp => (first | refine' vbox_pure a | (refine' (fun hg => ?_); refine' vbox_pure a) | refine' vbox_pure b | (refine' (fun hg => ?_); refine' vbox_pure b))); (case' h => ((first | refine evOps_fin ?_ | refine And.intro ?_ (evD_fin ?_) | refine evD_fin ?_) <;> simp only [go_sem, reduceAdd, reduceSub, reduceMul, reduceEqDiff, reduceLeDiff, Nat.reduceBEq, reduceLT, reduceIte, reduceCtorEq, Int.reduceToNat, ha])))
      | (refine callX ?_; (first | refine evOps_fin ?_ | refine And.intro ?_ (evD_fin ?_) | refine evD_fin ?_) <;> simp only [go_sem, reduceAdd, reduceSub, reduceMul, reduceEqDiff, reduceLeDiff, Nat.reduceBEq, reduceLT, reduceIte, reduceCtorEq, Int.reduceToNat, ha])
end Go.Proofs.Ytmpmggbcmioipaa
