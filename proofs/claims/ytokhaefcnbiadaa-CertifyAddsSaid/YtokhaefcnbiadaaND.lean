import Derived.Test.YtokhaefcnbiadaaNB
import Derived.Test.YtokhaefcnbiadaaMV
import Derived.Test.YtokhaefcnbiadaaMP
set_option linter.all false
namespace Go.Proofs.Ytokhaefcnbiadaa
open Nat (reduceAdd reduceSub reduceMul reduceEqDiff reduceLeDiff reduceLT)
open Go Go.K
set_option maxRecDepth 20000
set_option maxHeartbeats 8000000
theorem cadds_pure (p : Prob) (m : Mat) (a : Int) (hb : bytesL p.f.v) (ha : 0 ≤ a ∧ a ≤ 65535) : Pure Try.prog 7 [.agg (encP p), .agg (encM m), .int .u16 a] (.bool true) := by
  have aw := awake20_pure
  have fw := few20l_pure p m.l m.b.k m.b.y m.b.x m.px m.py m.ph m.sc
  by_cases hf : fewP p m.l.length
  · rw [decide_eq_true hf] at fw
    have hl : (p.s.length : Int) < 4611686018427387904 := by have := hf.2.1; omega
    have c1 := check_pure p hb hl m
    by_cases hz : checkM p m = 0
    · obtain ⟨h1, h2, h3, h4, h5⟩ := check_zero.1 hz
      have hlen : m.l.length ≤ 400 := by
        have := (hf.2.2.2 h1).2
        omega
      have hpos : 1 ≤ m.l.length := by
        have := part_pos h1 h5.pa
        have : m.l.length ≠ 0 := fun e => this (List.eq_nil_of_length_eq_zero e)
        omega
      obtain ⟨k, hk, ek⟩ : ∃ k : Nat, k < m.l.length ∧ a.tmod (m.l.length : Int) = (k : Int) := by
        rw [Int.tmod_eq_emod_of_nonneg ha.1]
        have q1 := Int.emod_nonneg a (b := (m.l.length : Int)) (by omega)
        have q2 := Int.emod_lt_of_pos a (b := (m.l.length : Int)) (by omega)
        exact ⟨(a % (m.l.length : Int)).toNat, by omega, by omega⟩
      have c2 := check_pure p hb hl ⟨m.b, m.px, m.py, m.ph, m.sc, m.l.take k ++ m.l.drop (k + 1)⟩
      rw [less_11 hz hk] at c2
      have c3 := check_pure p hb hl ⟨m.b, m.px, m.py, m.ph, m.sc, m.l ++ [m.l.getD k Blc.z]⟩
      rw [more_11 hz hk hlen] at c3
      rw [hz] at c1
      have cn := fun b => count_pure p hl b
      have hin := fun k (hk : k ≤ m.l.length) => cntS_in h1 h5.ok hk h5.pa
      have hall := cntS_all h1 h5.ok h5.pa
      have hs : ∀ i, cntS p m.l (i + 1) = cntS p m.l i + countM p (m.l.getD i Blc.z) := fun i => rfl
      have hs0 : cntS p m.l 0 = 0 := rfl
      have hN := (winOk h1).n
      have hw := winN h1
      obtain ⟨es, ekk, en, r0, r1, k1, k2⟩ := winOk h1
      obtain ⟨s1, s2⟩ := side_in (r := p.re) ⟨r0, r1⟩
      obtain ⟨w1, w2⟩ := win_in (c := p.ct) (r := p.re) ⟨by omega, by omega⟩ ⟨r0, r1⟩
      have w3 := w2.trans hw
      have hl0 : ((m.l.length : Int) == 0) = false := by rw [beq_eq_false_iff_ne]; omega
      have hl4 : ¬ (400 : Int) < m.l.length := by omega
      have wa : IntKind.i64.wrap a = a := w64 (by omega) (by omega)
      have wk : IntKind.i64.wrap (k : Int) = (k : Int) := w64 (by omega) (by omega)
      have wk1 : IntKind.i64.wrap ((k : Int) + 1) = ((k + 1 : Nat) : Int) := by rw [w64] <;> omega
      have k0 : (0 : Int) ≤ (k : Int) := by omega
      have kl : (k : Int) < (m.l.length : Int) := by omega
      have kl2 : (k : Int) ≤ (m.l.length : Int) := by omega
      have kl3 : (((k + 1 : Nat)) : Int) ≤ (m.l.length : Int) := by omega
      have k00 : (0 : Int) ≤ ((k + 1 : Nat) : Int) := by omega
      have gk := blc_get m.l k
      have g0 := fun q : List Blc => blc_get q 0
      have eA : List.take k (List.map enBl m.l) = List.map enBl (m.l.take k) := by rw [List.map_take]
      have eB : List.take ((m.l.length : Int) - ((k + 1 : Nat) : Int)).toNat (List.drop (k + 1) (List.map enBl m.l)) = List.map enBl (m.l.drop (k + 1)) := by
        rw [List.map_drop, List.take_of_length_le]
        rw [List.length_drop, List.length_map]
        omega
      have lA : (m.l.take k).length = k := by rw [List.length_take]; omega
      have lB : (m.l.drop (k + 1)).length = m.l.length - (k + 1) := List.length_drop ..
      have hlitA : litRows (List.map enBl (m.l.take k) ++ List.map enBl (m.l.drop (k + 1))) = true := by rw [← List.map_append]; exact lit_enBl _
      have hlitB : litRows (List.map enBl m.l ++ List.map enBl [m.l.getD k Blc.z]) = true := by rw [← List.map_append]; exact lit_enBl _
      have tA : List.take (k + (m.l.length - (k + 1))) (List.map enBl (m.l.take k) ++ List.map enBl (m.l.drop (k + 1))) = List.map enBl (m.l.take k) ++ List.map enBl (m.l.drop (k + 1)) := List.take_of_length_le (by rw [List.length_append, List.length_map, List.length_map, lA, lB]; exact Nat.le_refl _)
      have tB : List.take (m.l.length + 1) (List.map enBl m.l ++ List.map enBl [m.l.getD k Blc.z]) = List.map enBl m.l ++ List.map enBl [m.l.getD k Blc.z] := List.take_of_length_le (by rw [List.length_append, List.length_map, List.length_map]; exact Nat.le_refl _)
      have hq1 : m.l.length + 1 ≤ maxLen ∧ (m.l.length + 1) * 32 ≤ 140737488355328 := by
        have : maxLen = 9223372036854775807 := rfl
        omega
      clear hz h1 h2 h3 h4 h5 hf
      simp only [encP, encM, enBl, List.map_append, List.map_cons, List.map_nil] at *
      generalize cntS p m.l = cs at *
      generalize countM p = cm at *
      (refine pure_of_ev tt_ok Try.func7 rfl (by decide +kernel) (Nat.le_of_ble_eq_true rfl) ?_; simp only [Try.f7])
      repeat' first
        | refine ev_seq (fun K hK => ?_)
        | ((first | refine evrd (id := 9) hmix tt_ok false [([], true), ([], false), ([], false), ([], false), ([], false), ([], false), ([], false), ([0], false), ([], false), ([], false)] (by decide +kernel) ?_ | refine evrd (id := 13) hmix tt_ok false [([], true), ([], true), ([0, 1], true), ([0, 1, 2], false), ([1], false), ([], false)] (by decide +kernel) ?_ | refine evrd (id := 14) hmix tt_ok false [([], true), ([0], false), ([0], false), ([0], false), ([0], false), ([], true), ([0, 5], false), ([0, 5], false), ([0, 5], false), ([0, 5], false), ([0, 5], false), ([], false), ([], false), ([], false)] (by decide +kernel) ?_ | refine evrd (id := 15) hmix tt_ok false [([], true), ([0], true), ([0], true), ([], true), ([0, 3], false), ([0, 3], false), ([0, 3], false), ([0, 3], false), ([0, 3], false), ([0, 1, 2, 3], false), ([], false), ([], false), ([], false)] (by decide +kernel) ?_ | refine evr tt_ok false ?_ | refine ev_skip ?_ | refine ev_ret ?_ | refine ev_exit ?_ | refine evc (fun X Y hX hY => ?_)); simp only [go_sem, reduceAdd, reduceSub, reduceMul, reduceEqDiff, reduceLeDiff, Nat.reduceBEq, reduceLT, reduceIte, reduceCtorEq, Int.reduceToNat, bne, Int.reduceBEq]; try (first | (refine ⟨fun h => hX ?_, fun h => hY ?_⟩; clear hX hY) | (refine hX ?_; clear hX hY) | (refine hY ?_; clear hX hY)))
        | refine ev_block ?_
        | (apply hK; clear hK)
        | apply_assumption -exfalso -symm only [*]
        | (refine And.intro ?_ ?_; first | omega | assumption | (unfold maxLen; omega) | (simp only [decide_eq_true_eq, decide_eq_false_iff_not, Int.not_lt, Int.not_le] at h; omega))
        | ((first | apply callP | apply callPG | apply callP0); (case' hv => (simp only [go_sem, reduceAdd, reduceSub, reduceMul, reduceEqDiff, reduceLeDiff, Nat.reduceBEq, reduceLT, reduceIte, reduceCtorEq, Int.reduceToNat, bne, Int.reduceBEq]; try exact rfl)); (case' hp => (first | refine' aw | (refine' (fun hg => ?_); refine' aw) | refine' fw | (refine' (fun hg => ?_); refine' fw) | refine' c1 | (refine' (fun hg => ?_); refine' c1))); (case' h => ((first | refine evOps_fin ?_ | refine And.intro ?_ (evD_fin ?_) | refine evD_fin ?_) <;> simp only [go_sem, reduceAdd, reduceSub, reduceMul, reduceEqDiff, reduceLeDiff, Nat.reduceBEq, reduceLT, reduceIte, reduceCtorEq, Int.reduceToNat, bne, Int.reduceBEq])))
        | (refine callX ?_; (first | refine evOps_fin ?_ | refine And.intro ?_ (evD_fin ?_) | refine evD_fin ?_) <;> simp only [go_sem, reduceAdd, reduceSub, reduceMul, reduceEqDiff, reduceLeDiff, Nat.reduceBEq, reduceLT, reduceIte, reduceCtorEq, Int.reduceToNat, bne, Int.reduceBEq])
      refine ev_loop (fun i : Nat => i ≤ m.l.length)
        (fun i => ⟨111, [(8, .int .i64 (i : Int)), (7, .int .i64 (cs i)), (4, .own 1 0 0 0), (3, .own 0 0 0 0), (2, .int .u16 a)],
          [.blk 31 0 11 [[.int .i64 p.f.x, .int .i64 p.f.y, .int .i64 p.f.w, .int .i64 p.f.h, .sl (p.f.v.map enB), .sl (p.s.map enBm), .int .i64 p.cx, .int .i64 p.cy, .int .i64 p.fr, .int .i64 p.ct, .int .i64 p.re]],
           .blk 41 0 8 [[.int .i64 m.b.k, .int .i64 m.b.y, .int .i64 m.b.x, .int .i64 m.px, .int .i64 m.py, .int .i64 m.ph, .int .i64 m.sc, .sl (m.l.map enBl)]]]⟩)
        (fun i => m.l.length - i) 0 (Nat.zero_le _) ?_ ?_
      · simp only [go_sem, reduceAdd, reduceSub, reduceMul, reduceEqDiff, reduceLeDiff, Nat.reduceBEq, reduceLT, reduceIte, reduceCtorEq, Int.reduceToNat, fits, fitT, fitOs, fitO, V.under, unders, rowsUnder, hs0]
        repeat' first | rfl | (simp only [V.under, unders, rowsUnder, Nat.reduceLT]; done) | apply And.intro
      · intro i hi
        have hb0 : 0 ≤ (i : Int) := by omega
        have hw : IntKind.i64.wrap ((i : Int) + 1) = ((i + 1 : Nat) : Int) := by rw [w64] <;> omega
        by_cases hlt : (i : Int) < m.l.length
        · have hg := blc_get m.l i
          have v1 := cn (m.l.getD i Blc.z)
          have hsi := hs i
          have i1 := hin i (by omega)
          have i2 := hin (i + 1) (by omega)
          generalize m.l.getD i Blc.z = b at hg v1 hsi
          have hws : IntKind.i64.wrap (cs i + cm b) = cs (i + 1) := by rw [w64 (by omega) (by omega), hsi]
          repeat' first
            | refine ev_seq (fun K hK => ?_)
            | ((first | refine evrd (id := 9) hmix tt_ok false [([], true), ([], false), ([], false), ([], false), ([], false), ([], false), ([], false), ([0], false), ([], false), ([], false)] (by decide +kernel) ?_ | refine evrd (id := 13) hmix tt_ok false [([], true), ([], true), ([0, 1], true), ([0, 1, 2], false), ([1], false), ([], false)] (by decide +kernel) ?_ | refine evrd (id := 14) hmix tt_ok false [([], true), ([0], false), ([0], false), ([0], false), ([0], false), ([], true), ([0, 5], false), ([0, 5], false), ([0, 5], false), ([0, 5], false), ([0, 5], false), ([], false), ([], false), ([], false)] (by decide +kernel) ?_ | refine evrd (id := 15) hmix tt_ok false [([], true), ([0], true), ([0], true), ([], true), ([0, 3], false), ([0, 3], false), ([0, 3], false), ([0, 3], false), ([0, 3], false), ([0, 1, 2, 3], false), ([], false), ([], false), ([], false)] (by decide +kernel) ?_ | refine evr tt_ok false ?_ | refine ev_skip ?_ | refine ev_ret ?_ | refine ev_exit ?_ | refine evc (fun X Y hX hY => ?_)); simp only [go_sem, reduceAdd, reduceSub, reduceMul, reduceEqDiff, reduceLeDiff, Nat.reduceBEq, reduceLT, reduceIte, reduceCtorEq, Int.reduceToNat, hlt, hb0, hw, hws, hg, List.length_map, Int.toNat_natCast]; try (first | (refine ⟨fun h => hX ?_, fun h => hY ?_⟩; clear hX hY) | (refine hX ?_; clear hX hY) | (refine hY ?_; clear hX hY)))
            | refine ev_block ?_
            | (apply hK; clear hK)
            | apply_assumption -exfalso -symm only [*]
            | (refine And.intro ?_ ?_; first | omega | assumption | (unfold maxLen; omega) | (simp only [decide_eq_true_eq, decide_eq_false_iff_not, Int.not_lt, Int.not_le] at h; omega))
            | ((first | apply callP | apply callPG | apply callP0); (case' hv => (simp only [go_sem, reduceAdd, reduceSub, reduceMul, reduceEqDiff, reduceLeDiff, Nat.reduceBEq, reduceLT, reduceIte, reduceCtorEq, Int.reduceToNat, hlt, hb0, hw, hws, hg, List.length_map, Int.toNat_natCast]; try exact rfl)); (case' hp => (first | refine' v1 | (refine' (fun hg => ?_); refine' v1))); (case' h => ((first | refine evOps_fin ?_ | refine And.intro ?_ (evD_fin ?_) | refine evD_fin ?_) <;> simp only [go_sem, reduceAdd, reduceSub, reduceMul, reduceEqDiff, reduceLeDiff, Nat.reduceBEq, reduceLT, reduceIte, reduceCtorEq, Int.reduceToNat, hlt, hb0, hw, hws, hg, List.length_map, Int.toNat_natCast])))
            | (refine callX ?_; (first | refine evOps_fin ?_ | refine And.intro ?_ (evD_fin ?_) | refine evD_fin ?_) <;> simp only [go_sem, reduceAdd, reduceSub, reduceMul, reduceEqDiff, reduceLeDiff, Nat.reduceBEq, reduceLT, reduceIte, reduceCtorEq, Int.reduceToNat, hlt, hb0, hw, hws, hg, List.length_map, Int.toNat_natCast])
          exact ⟨i + 1, by omega, by (repeat' first | rfl | apply And.intro), by omega⟩
        · obtain rfl : i = m.l.length := by omega
          repeat' first
            | refine ev_seq (fun K hK => ?_)
            | ((first | refine evrd (id := 9) hmix tt_ok false [([], true), ([], false), ([], false), ([], false), ([], false), ([], false), ([], false), ([0], false), ([], false), ([], false)] (by decide +kernel) ?_ | refine evrd (id := 13) hmix tt_ok false [([], true), ([], true), ([0, 1], true), ([0, 1, 2], false), ([1], false), ([], false)] (by decide +kernel) ?_ | refine evrd (id := 14) hmix tt_ok false [([], true), ([0], false), ([0], false), ([0], false), ([0], false), ([], true), ([0, 5], false), ([0, 5], false), ([0, 5], false), ([0, 5], false), ([0, 5], false), ([], false), ([], false), ([], false)] (by decide +kernel) ?_ | refine evrd (id := 15) hmix tt_ok false [([], true), ([0], true), ([0], true), ([], true), ([0, 3], false), ([0, 3], false), ([0, 3], false), ([0, 3], false), ([0, 3], false), ([0, 1, 2, 3], false), ([], false), ([], false), ([], false)] (by decide +kernel) ?_ | refine evr tt_ok false ?_ | refine ev_skip ?_ | refine ev_ret ?_ | refine ev_exit ?_ | refine evc (fun X Y hX hY => ?_)); simp only [go_sem, reduceAdd, reduceSub, reduceMul, reduceEqDiff, reduceLeDiff, Nat.reduceBEq, reduceLT, reduceIte, reduceCtorEq, Int.reduceToNat, Option.toArray, hlt, hall, s1, s2, w1, w3, hl0, hl4, wa, wk, wk1, ek, k0, kl, kl2, kl3, k00, gk, g0, eA, eB, lA, lB, tA, tB, bne, Int.reduceBEq, beq_self_eq_true, List.length_map, Int.toNat_natCast, Int.sub_zero, List.drop_zero, Nat.zero_add, Nat.sub_zero, Nat.le_refl, vrows_lit _ hlitA, vrows_lit _ hlitB]; try (first | (refine ⟨fun h => hX ?_, fun h => hY ?_⟩; clear hX hY) | (refine hX ?_; clear hX hY) | (refine hY ?_; clear hX hY)))
            | refine ev_block ?_
            | (apply hK; clear hK)
            | apply_assumption -exfalso -symm only [*]
            | (refine And.intro ?_ ?_; first | omega | assumption | (unfold maxLen; omega) | (simp only [decide_eq_true_eq, decide_eq_false_iff_not, Int.not_lt, Int.not_le] at h; omega))
            | ((first | apply callL | apply callLG | apply callL0); (case' hv => (simp only [go_sem, reduceAdd, reduceSub, reduceMul, reduceEqDiff, reduceLeDiff, Nat.reduceBEq, reduceLT, reduceIte, reduceCtorEq, Int.reduceToNat, Option.toArray, hlt, hall, s1, s2, w1, w3, hl0, hl4, wa, wk, wk1, ek, k0, kl, kl2, kl3, k00, gk, g0, eA, eB, lA, lB, tA, tB, bne, Int.reduceBEq, beq_self_eq_true, List.length_map, Int.toNat_natCast, Int.sub_zero, List.drop_zero, Nat.zero_add, Nat.sub_zero, Nat.le_refl, vrows_lit _ hlitA, vrows_lit _ hlitB]; try exact rfl)); (case' hp => (first | refine' c2 | (refine' (fun hg => ?_); refine' c2) | refine' c3 | (refine' (fun hg => ?_); refine' c3))); (case' hf => exact rfl); (case' h => ((first | refine evOps_fin ?_ | refine And.intro ?_ (evD_fin ?_) | refine evD_fin ?_) <;> simp only [go_sem, reduceAdd, reduceSub, reduceMul, reduceEqDiff, reduceLeDiff, Nat.reduceBEq, reduceLT, reduceIte, reduceCtorEq, Int.reduceToNat, Option.toArray, hlt, hall, s1, s2, w1, w3, hl0, hl4, wa, wk, wk1, ek, k0, kl, kl2, kl3, k00, gk, g0, eA, eB, lA, lB, tA, tB, bne, Int.reduceBEq, beq_self_eq_true, List.length_map, Int.toNat_natCast, Int.sub_zero, List.drop_zero, Nat.zero_add, Nat.sub_zero, Nat.le_refl, vrows_lit _ hlitA, vrows_lit _ hlitB])))
            | (refine callX ?_; (first | refine evOps_fin ?_ | refine And.intro ?_ (evD_fin ?_) | refine evD_fin ?_) <;> simp only [go_sem, reduceAdd, reduceSub, reduceMul, reduceEqDiff, reduceLeDiff, Nat.reduceBEq, reduceLT, reduceIte, reduceCtorEq, Int.reduceToNat, Option.toArray, hlt, hall, s1, s2, w1, w3, hl0, hl4, wa, wk, wk1, ek, k0, kl, kl2, kl3, k00, gk, g0, eA, eB, lA, lB, tA, tB, bne, Int.reduceBEq, beq_self_eq_true, List.length_map, Int.toNat_natCast, Int.sub_zero, List.drop_zero, Nat.zero_add, Nat.sub_zero, Nat.le_refl, vrows_lit _ hlitA, vrows_lit _ hlitB])
    · have hz2 : (checkM p m == 0) = false := by rw [beq_eq_false_iff_ne]; exact hz
      generalize checkM p m = n at *
      simp only [encP, encM] at *
      (refine pure_of_ev tt_ok Try.func7 rfl (by decide +kernel) (Nat.le_of_ble_eq_true rfl) ?_; simp only [Try.f7])
      repeat' first
        | refine ev_seq (fun K hK => ?_)
        | ((first | refine evrd (id := 9) hmix tt_ok false [([], true), ([], false), ([], false), ([], false), ([], false), ([], false), ([], false), ([0], false), ([], false), ([], false)] (by decide +kernel) ?_ | refine evrd (id := 13) hmix tt_ok false [([], true), ([], true), ([0, 1], true), ([0, 1, 2], false), ([1], false), ([], false)] (by decide +kernel) ?_ | refine evrd (id := 14) hmix tt_ok false [([], true), ([0], false), ([0], false), ([0], false), ([0], false), ([], true), ([0, 5], false), ([0, 5], false), ([0, 5], false), ([0, 5], false), ([0, 5], false), ([], false), ([], false), ([], false)] (by decide +kernel) ?_ | refine evrd (id := 15) hmix tt_ok false [([], true), ([0], true), ([0], true), ([], true), ([0, 3], false), ([0, 3], false), ([0, 3], false), ([0, 3], false), ([0, 3], false), ([0, 1, 2, 3], false), ([], false), ([], false), ([], false)] (by decide +kernel) ?_ | refine evr tt_ok false ?_ | refine ev_skip ?_ | refine ev_ret ?_ | refine ev_exit ?_ | refine evc (fun X Y hX hY => ?_)); simp only [go_sem, reduceAdd, reduceSub, reduceMul, reduceEqDiff, reduceLeDiff, Nat.reduceBEq, reduceLT, reduceIte, reduceCtorEq, Int.reduceToNat, bne, hz2]; try (first | (refine ⟨fun h => hX ?_, fun h => hY ?_⟩; clear hX hY) | (refine hX ?_; clear hX hY) | (refine hY ?_; clear hX hY)))
        | refine ev_block ?_
        | (apply hK; clear hK)
        | apply_assumption -exfalso -symm only [*]
        | (refine And.intro ?_ ?_; first | omega | assumption | (unfold maxLen; omega) | (simp only [decide_eq_true_eq, decide_eq_false_iff_not, Int.not_lt, Int.not_le] at h; omega))
        | ((first | apply callP | apply callPG | apply callP0); (case' hv => (simp only [go_sem, reduceAdd, reduceSub, reduceMul, reduceEqDiff, reduceLeDiff, Nat.reduceBEq, reduceLT, reduceIte, reduceCtorEq, Int.reduceToNat, bne, hz2]; try exact rfl)); (case' hp => (first | refine' aw | (refine' (fun hg => ?_); refine' aw) | refine' fw | (refine' (fun hg => ?_); refine' fw) | refine' c1 | (refine' (fun hg => ?_); refine' c1))); (case' h => ((first | refine evOps_fin ?_ | refine And.intro ?_ (evD_fin ?_) | refine evD_fin ?_) <;> simp only [go_sem, reduceAdd, reduceSub, reduceMul, reduceEqDiff, reduceLeDiff, Nat.reduceBEq, reduceLT, reduceIte, reduceCtorEq, Int.reduceToNat, bne, hz2])))
        | (refine callX ?_; (first | refine evOps_fin ?_ | refine And.intro ?_ (evD_fin ?_) | refine evD_fin ?_) <;> simp only [go_sem, reduceAdd, reduceSub, reduceMul, reduceEqDiff, reduceLeDiff, Nat.reduceBEq, reduceLT, reduceIte, reduceCtorEq, Int.reduceToNat, bne, hz2])
  · rw [decide_eq_false hf] at fw
    simp only [encP, encM] at *
    (refine pure_of_ev tt_ok Try.func7 rfl (by decide +kernel) (Nat.le_of_ble_eq_true rfl) ?_; simp only [Try.f7])
    repeat' first
      | refine ev_seq (fun K hK => ?_)
      | ((first | refine evrd (id := 9) hmix tt_ok false [([], true), ([], false), ([], false), ([], false), ([], false), ([], false), ([], false), ([0], false), ([], false), ([], false)] (by decide +kernel) ?_ | refine evrd (id := 13) hmix tt_ok false [([], true), ([], true), ([0, 1], true), ([0, 1, 2], false), ([1], false), ([], false)] (by decide +kernel) ?_ | refine evrd (id := 14) hmix tt_ok false [([], true), ([0], false), ([0], false), ([0], false), ([0], false), ([], true), ([0, 5], false), ([0, 5], false), ([0, 5], false), ([0, 5], false), ([0, 5], false), ([], false), ([], false), ([], false)] (by decide +kernel) ?_ | refine evrd (id := 15) hmix tt_ok false [([], true), ([0], true), ([0], true), ([], true), ([0, 3], false), ([0, 3], false), ([0, 3], false), ([0, 3], false), ([0, 3], false), ([0, 1, 2, 3], false), ([], false), ([], false), ([], false)] (by decide +kernel) ?_ | refine evr tt_ok false ?_ | refine ev_skip ?_ | refine ev_ret ?_ | refine ev_exit ?_ | refine evc (fun X Y hX hY => ?_)); simp only [go_sem, reduceAdd, reduceSub, reduceMul, reduceEqDiff, reduceLeDiff, Nat.reduceBEq, reduceLT, reduceIte, reduceCtorEq, Int.reduceToNat]; try (first | (refine ⟨fun h => hX ?_, fun h => hY ?_⟩; clear hX hY) | (refine hX ?_; clear hX hY) | (refine hY ?_; clear hX hY)))
      | refine ev_block ?_
      | (apply hK; clear hK)
      | apply_assumption -exfalso -symm only [*]
      | (refine And.intro ?_ ?_; first | omega | assumption | (unfold maxLen; omega) | (simp only [decide_eq_true_eq, decide_eq_false_iff_not, Int.not_lt, Int.not_le] at h; omega))
      | ((first | apply callP | apply callPG | apply callP0); (case' hv => (simp only [go_sem, reduceAdd, reduceSub, reduceMul, reduceEqDiff, reduceLeDiff, Nat.reduceBEq, reduceLT, reduceIte, reduceCtorEq, Int.reduceToNat]; try exact rfl)); (case' hp => (first | refine' aw | (refine' (fun hg => ?_); refine' aw) | refine' fw | (refine' (fun hg => ?_); refine' fw) | refine' aw | (refine' (fun hg => ?_); refine' aw))); (case' h => ((first | refine evOps_fin ?_ | refine And.intro ?_ (evD_fin ?_) | refine evD_fin ?_) <;> simp only [go_sem, reduceAdd, reduceSub, reduceMul, reduceEqDiff, reduceLeDiff, Nat.reduceBEq, reduceLT, reduceIte, reduceCtorEq, Int.reduceToNat])))
      | (refine callX ?_; (first | refine evOps_fin ?_ | refine And.intro ?_ (evD_fin ?_) | refine evD_fin ?_) <;> simp only [go_sem, reduceAdd, reduceSub, reduceMul, reduceEqDiff, reduceLeDiff, Nat.reduceBEq, reduceLT, reduceIte, reduceCtorEq, Int.reduceToNat])
end Go.Proofs.Ytokhaefcnbiadaa
