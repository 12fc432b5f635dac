import Derived.Test.YtmpmggbcmioipaaF5
import Derived.Test.YtmpmggbcmioipaaK21
set_option linter.all false
namespace Go.Proofs.Ytmpmggbcmioipaa
open Nat (reduceAdd reduceSub reduceMul reduceEqDiff reduceLeDiff reduceLT)
open Go Go.K
set_option maxRecDepth 20000
set_option maxHeartbeats 16000000
theorem sqz_eq {l : List Box} {a b : Nat} (hp : pick l = some (a, b)) (hab : a < b) : sqz l = (l.take b).set a (hB l a b) ++ l.drop (b + 1) := by
  unfold sqz
  rw [hp]
  simp only
  rw [List.eraseIdx_eq_take_drop_succ, List.take_set, List.drop_set_of_lt (by omega)]
theorem rcompact06_pure (l : List Box) (hl : (l.length : Int) < 4611686018427387904) (most : Int) : Pure Try.prog 10 [.sl (l.map encBox), .int .i64 most] (.tup [.sl ((compR l most).map encBox), .int .i64 (compE l most)]) := by
  by_cases hA : most < 1 ∨ 64 < most ∨ 256 < l.length
  · have hE : compE l most = 2 := if_pos hA
    have hR : compR l most = [] := by unfold compR; rw [hE]; rfl
    rw [hE, hR, List.map_nil]
    refine Pure.weak (r := .tup [.emp, .int .i64 2]) ?_ (fun E v hv => tup_fst hv fun u hu => emp_sl hu)
    by_cases h1 : most < 1
    · (refine pure_of_ev tt_ok Try.func10 rfl (by decide +kernel) (Nat.le_of_ble_eq_true rfl) ?_; simp only [Try.f10])
      repeat' first
        | refine ev_seq (fun K hK => ?_)
        | ((first | refine evrd (id := 18) hmix tt_ok false [([], true), ([], true), ([], true), ([], true), ([], true), ([], true), ([], true), ([], true), ([], true), ([], true), ([], true), ([], true), ([0, 1, 2, 3, 4, 5, 6, 7, 8, 9, 10, 11], false), ([11], false), ([], false)] (by decide +kernel) ?_ | refine evrd (id := 19) hmix tt_ok false [([], false), ([], true), ([1], false), ([1], false), ([1], false), ([1], false), ([], true), ([], true), ([1, 6], false), ([1, 6], false), ([1, 6], false), ([1, 6], false), ([7], false), ([], false), ([], false)] (by decide +kernel) ?_ | refine evrd (id := 21) hmix tt_ok false [([], false), ([], false), ([], false), ([], false), ([], false), ([], false), ([], false), ([], false)] (by decide +kernel) ?_ | refine evr tt_ok false ?_ | refine ev_skip ?_ | refine ev_ret ?_ | refine ev_exit ?_ | refine evc (fun X Y hX hY => ?_)); simp only [go_sem, reduceAdd, reduceSub, reduceMul, reduceEqDiff, reduceLeDiff, Nat.reduceBEq, reduceLT, reduceIte, reduceCtorEq, Int.reduceToNat, h1, List.length_map]; try (first | (refine ⟨fun h => hX ?_, fun h => hY ?_⟩; clear hX hY) | (refine hX ?_; clear hX hY) | (refine hY ?_; clear hX hY)))
        | refine ev_block ?_
        | (apply hK; clear hK)
        | apply_assumption -exfalso -symm only [*]
        | (refine And.intro ?_ ?_; first | omega | assumption | (unfold maxLen; omega) | (simp only [decide_eq_true_eq, decide_eq_false_iff_not, Int.not_lt, Int.not_le] at h; omega))
    · by_cases h2 : 64 < most
      · (refine pure_of_ev tt_ok Try.func10 rfl (by decide +kernel) (Nat.le_of_ble_eq_true rfl) ?_; simp only [Try.f10])
        repeat' first
          | refine ev_seq (fun K hK => ?_)
          | ((first | refine evrd (id := 18) hmix tt_ok false [([], true), ([], true), ([], true), ([], true), ([], true), ([], true), ([], true), ([], true), ([], true), ([], true), ([], true), ([], true), ([0, 1, 2, 3, 4, 5, 6, 7, 8, 9, 10, 11], false), ([11], false), ([], false)] (by decide +kernel) ?_ | refine evrd (id := 19) hmix tt_ok false [([], false), ([], true), ([1], false), ([1], false), ([1], false), ([1], false), ([], true), ([], true), ([1, 6], false), ([1, 6], false), ([1, 6], false), ([1, 6], false), ([7], false), ([], false), ([], false)] (by decide +kernel) ?_ | refine evrd (id := 21) hmix tt_ok false [([], false), ([], false), ([], false), ([], false), ([], false), ([], false), ([], false), ([], false)] (by decide +kernel) ?_ | refine evr tt_ok false ?_ | refine ev_skip ?_ | refine ev_ret ?_ | refine ev_exit ?_ | refine evc (fun X Y hX hY => ?_)); simp only [go_sem, reduceAdd, reduceSub, reduceMul, reduceEqDiff, reduceLeDiff, Nat.reduceBEq, reduceLT, reduceIte, reduceCtorEq, Int.reduceToNat, h1, h2, List.length_map]; try (first | (refine ⟨fun h => hX ?_, fun h => hY ?_⟩; clear hX hY) | (refine hX ?_; clear hX hY) | (refine hY ?_; clear hX hY)))
          | refine ev_block ?_
          | (apply hK; clear hK)
          | apply_assumption -exfalso -symm only [*]
          | (refine And.intro ?_ ?_; first | omega | assumption | (unfold maxLen; omega) | (simp only [decide_eq_true_eq, decide_eq_false_iff_not, Int.not_lt, Int.not_le] at h; omega))
      · have h3 : (256 : Int) < (l.length : Int) := by omega
        (refine pure_of_ev tt_ok Try.func10 rfl (by decide +kernel) (Nat.le_of_ble_eq_true rfl) ?_; simp only [Try.f10])
        repeat' first
          | refine ev_seq (fun K hK => ?_)
          | ((first | refine evrd (id := 18) hmix tt_ok false [([], true), ([], true), ([], true), ([], true), ([], true), ([], true), ([], true), ([], true), ([], true), ([], true), ([], true), ([], true), ([0, 1, 2, 3, 4, 5, 6, 7, 8, 9, 10, 11], false), ([11], false), ([], false)] (by decide +kernel) ?_ | refine evrd (id := 19) hmix tt_ok false [([], false), ([], true), ([1], false), ([1], false), ([1], false), ([1], false), ([], true), ([], true), ([1, 6], false), ([1, 6], false), ([1, 6], false), ([1, 6], false), ([7], false), ([], false), ([], false)] (by decide +kernel) ?_ | refine evrd (id := 21) hmix tt_ok false [([], false), ([], false), ([], false), ([], false), ([], false), ([], false), ([], false), ([], false)] (by decide +kernel) ?_ | refine evr tt_ok false ?_ | refine ev_skip ?_ | refine ev_ret ?_ | refine ev_exit ?_ | refine evc (fun X Y hX hY => ?_)); simp only [go_sem, reduceAdd, reduceSub, reduceMul, reduceEqDiff, reduceLeDiff, Nat.reduceBEq, reduceLT, reduceIte, reduceCtorEq, Int.reduceToNat, h1, h2, h3, List.length_map]; try (first | (refine ⟨fun h => hX ?_, fun h => hY ?_⟩; clear hX hY) | (refine hX ?_; clear hX hY) | (refine hY ?_; clear hX hY)))
          | refine ev_block ?_
          | (apply hK; clear hK)
          | apply_assumption -exfalso -symm only [*]
          | (refine And.intro ?_ ?_; first | omega | assumption | (unfold maxLen; omega) | (simp only [decide_eq_true_eq, decide_eq_false_iff_not, Int.not_lt, Int.not_le] at h; omega))
  · have h1 : ¬ most < 1 := by omega
    have h2 : ¬ (64 : Int) < most := by omega
    have h3 : ¬ (256 : Int) < (l.length : Int) := by omega
    rcases first_of (fun j => !decide (l.getD j Box.zero).ok) l.length with ⟨k, hk, g1, g2⟩ | hg
    · have hBa : l.any (fun b => !decide b.ok) = true := List.any_eq_true.2 ⟨_, getD_memB hk, g1⟩
      have hE : compE l most = 1 := by unfold compE; rw [if_neg hA, if_pos hBa]
      have hR : compR l most = [] := by unfold compR; rw [hE]; rfl
      rw [hE, hR, List.map_nil]
      refine Pure.weak (r := .tup [.emp, .int .i64 1]) ?_ (fun E v hv => tup_fst hv fun u hu => emp_sl hu)
      (refine pure_of_ev tt_ok Try.func10 rfl (by decide +kernel) (Nat.le_of_ble_eq_true rfl) ?_; simp only [Try.f10])
      repeat' first
        | refine ev_seq (fun K hK => ?_)
        | ((first | refine evrd (id := 18) hmix tt_ok false [([], true), ([], true), ([], true), ([], true), ([], true), ([], true), ([], true), ([], true), ([], true), ([], true), ([], true), ([], true), ([0, 1, 2, 3, 4, 5, 6, 7, 8, 9, 10, 11], false), ([11], false), ([], false)] (by decide +kernel) ?_ | refine evrd (id := 19) hmix tt_ok false [([], false), ([], true), ([1], false), ([1], false), ([1], false), ([1], false), ([], true), ([], true), ([1, 6], false), ([1, 6], false), ([1, 6], false), ([1, 6], false), ([7], false), ([], false), ([], false)] (by decide +kernel) ?_ | refine evrd (id := 21) hmix tt_ok false [([], false), ([], false), ([], false), ([], false), ([], false), ([], false), ([], false), ([], false)] (by decide +kernel) ?_ | refine evr tt_ok false ?_ | refine ev_skip ?_ | refine ev_ret ?_ | refine ev_exit ?_ | refine evc (fun X Y hX hY => ?_)); simp only [go_sem, reduceAdd, reduceSub, reduceMul, reduceEqDiff, reduceLeDiff, Nat.reduceBEq, reduceLT, reduceIte, reduceCtorEq, Int.reduceToNat, h1, h2, h3, List.length_map]; try (first | (refine ⟨fun h => hX ?_, fun h => hY ?_⟩; clear hX hY) | (refine hX ?_; clear hX hY) | (refine hY ?_; clear hX hY)))
        | refine ev_block ?_
        | (apply hK; clear hK)
        | apply_assumption -exfalso -symm only [*]
        | (refine And.intro ?_ ?_; first | omega | assumption | (unfold maxLen; omega) | (simp only [decide_eq_true_eq, decide_eq_false_iff_not, Int.not_lt, Int.not_le] at h; omega))
      refine ev_loop (fun i : Nat => i ≤ k) (fun i => ⟨115, [(6, .int .i64 (i : Int)), (5, .int .i64 0), (4, .emp), (0, .sl (l.map encBox))], []⟩) (fun i => k - i) 0 (Nat.zero_le _) ?_ ?_
      · simp only [go_sem, reduceAdd, reduceSub, reduceMul, reduceEqDiff, reduceLeDiff, Nat.reduceBEq, reduceLT, reduceIte, reduceCtorEq, Int.reduceToNat, fits, fitT, fitOs, fitO, V.under, unders, rowsUnder]
        repeat' first | rfl | (simp only [V.under, unders, rowsUnder, Nat.reduceLT]; done) | apply And.intro
      · intro i hi
        have hb0 : 0 ≤ (i : Int) := by omega
        have hw : IntKind.i64.wrap ((i : Int) + 1) = ((i + 1 : Nat) : Int) := by rw [w64] <;> omega
        have hlt : (i : Int) < l.length := by omega
        have hgt := box_get l i
        have v := boxB_pure (l.getD i Box.zero)
        by_cases e : i = k
        · subst e
          have hv2 : decide (l.getD i Box.zero).ok = false := by simpa using g1
          rw [hv2] at v
          clear g1 g2 hv2 hBa hE hR
          generalize l.getD i Box.zero = q at *
          repeat' first
            | refine ev_seq (fun K hK => ?_)
            | ((first | refine evrd (id := 18) hmix tt_ok false [([], true), ([], true), ([], true), ([], true), ([], true), ([], true), ([], true), ([], true), ([], true), ([], true), ([], true), ([], true), ([0, 1, 2, 3, 4, 5, 6, 7, 8, 9, 10, 11], false), ([11], false), ([], false)] (by decide +kernel) ?_ | refine evrd (id := 19) hmix tt_ok false [([], false), ([], true), ([1], false), ([1], false), ([1], false), ([1], false), ([], true), ([], true), ([1, 6], false), ([1, 6], false), ([1, 6], false), ([1, 6], false), ([7], false), ([], false), ([], false)] (by decide +kernel) ?_ | refine evrd (id := 21) hmix tt_ok false [([], false), ([], false), ([], false), ([], false), ([], false), ([], false), ([], false), ([], false)] (by decide +kernel) ?_ | refine evr tt_ok false ?_ | refine ev_skip ?_ | refine ev_ret ?_ | refine ev_exit ?_ | refine evc (fun X Y hX hY => ?_)); simp only [go_sem, reduceAdd, reduceSub, reduceMul, reduceEqDiff, reduceLeDiff, Nat.reduceBEq, reduceLT, reduceIte, reduceCtorEq, Int.reduceToNat, hb0, hw, hlt, hgt, List.length_map, Int.toNat_natCast]; try (first | (refine ⟨fun h => hX ?_, fun h => hY ?_⟩; clear hX hY) | (refine hX ?_; clear hX hY) | (refine hY ?_; clear hX hY)))
            | refine ev_block ?_
            | (apply hK; clear hK)
            | apply_assumption -exfalso -symm only [*]
            | (refine And.intro ?_ ?_; first | omega | assumption | (unfold maxLen; omega) | (simp only [decide_eq_true_eq, decide_eq_false_iff_not, Int.not_lt, Int.not_le] at h; omega))
            | ((first | apply callP | apply callPG | apply callP0); (case' hv => (simp only [go_sem, reduceAdd, reduceSub, reduceMul, reduceEqDiff, reduceLeDiff, Nat.reduceBEq, reduceLT, reduceIte, reduceCtorEq, Int.reduceToNat, hb0, hw, hlt, hgt, List.length_map, Int.toNat_natCast]; try exact rfl)); (case' hp => (first | refine' v | (refine' (fun hg => ?_); refine' v))); (case' h => ((first | refine evOps_fin ?_ | refine And.intro ?_ (evD_fin ?_) | refine evD_fin ?_) <;> simp only [go_sem, reduceAdd, reduceSub, reduceMul, reduceEqDiff, reduceLeDiff, Nat.reduceBEq, reduceLT, reduceIte, reduceCtorEq, Int.reduceToNat, hb0, hw, hlt, hgt, List.length_map, Int.toNat_natCast])))
            | (refine callX ?_; (first | refine evOps_fin ?_ | refine And.intro ?_ (evD_fin ?_) | refine evD_fin ?_) <;> simp only [go_sem, reduceAdd, reduceSub, reduceMul, reduceEqDiff, reduceLeDiff, Nat.reduceBEq, reduceLT, reduceIte, reduceCtorEq, Int.reduceToNat, hb0, hw, hlt, hgt, List.length_map, Int.toNat_natCast])
          all_goals rfl
        · have hv2 : decide (l.getD i Box.zero).ok = true := by simpa using g2 i (by omega)
          rw [hv2] at v
          clear g1 g2 hv2 hBa hE hR
          generalize l.getD i Box.zero = q at *
          repeat' first
            | refine ev_seq (fun K hK => ?_)
            | ((first | refine evrd (id := 18) hmix tt_ok false [([], true), ([], true), ([], true), ([], true), ([], true), ([], true), ([], true), ([], true), ([], true), ([], true), ([], true), ([], true), ([0, 1, 2, 3, 4, 5, 6, 7, 8, 9, 10, 11], false), ([11], false), ([], false)] (by decide +kernel) ?_ | refine evrd (id := 19) hmix tt_ok false [([], false), ([], true), ([1], false), ([1], false), ([1], false), ([1], false), ([], true), ([], true), ([1, 6], false), ([1, 6], false), ([1, 6], false), ([1, 6], false), ([7], false), ([], false), ([], false)] (by decide +kernel) ?_ | refine evrd (id := 21) hmix tt_ok false [([], false), ([], false), ([], false), ([], false), ([], false), ([], false), ([], false), ([], false)] (by decide +kernel) ?_ | refine evr tt_ok false ?_ | refine ev_skip ?_ | refine ev_ret ?_ | refine ev_exit ?_ | refine evc (fun X Y hX hY => ?_)); simp only [go_sem, reduceAdd, reduceSub, reduceMul, reduceEqDiff, reduceLeDiff, Nat.reduceBEq, reduceLT, reduceIte, reduceCtorEq, Int.reduceToNat, hb0, hw, hlt, hgt, List.length_map, Int.toNat_natCast]; try (first | (refine ⟨fun h => hX ?_, fun h => hY ?_⟩; clear hX hY) | (refine hX ?_; clear hX hY) | (refine hY ?_; clear hX hY)))
            | refine ev_block ?_
            | (apply hK; clear hK)
            | apply_assumption -exfalso -symm only [*]
            | (refine And.intro ?_ ?_; first | omega | assumption | (unfold maxLen; omega) | (simp only [decide_eq_true_eq, decide_eq_false_iff_not, Int.not_lt, Int.not_le] at h; omega))
            | ((first | apply callP | apply callPG | apply callP0); (case' hv => (simp only [go_sem, reduceAdd, reduceSub, reduceMul, reduceEqDiff, reduceLeDiff, Nat.reduceBEq, reduceLT, reduceIte, reduceCtorEq, Int.reduceToNat, hb0, hw, hlt, hgt, List.length_map, Int.toNat_natCast]; try exact rfl)); (case' hp => (first | refine' v | (refine' (fun hg => ?_); refine' v))); (case' h => ((first | refine evOps_fin ?_ | refine And.intro ?_ (evD_fin ?_) | refine evD_fin ?_) <;> simp only [go_sem, reduceAdd, reduceSub, reduceMul, reduceEqDiff, reduceLeDiff, Nat.reduceBEq, reduceLT, reduceIte, reduceCtorEq, Int.reduceToNat, hb0, hw, hlt, hgt, List.length_map, Int.toNat_natCast])))
            | (refine callX ?_; (first | refine evOps_fin ?_ | refine And.intro ?_ (evD_fin ?_) | refine evD_fin ?_) <;> simp only [go_sem, reduceAdd, reduceSub, reduceMul, reduceEqDiff, reduceLeDiff, Nat.reduceBEq, reduceLT, reduceIte, reduceCtorEq, Int.reduceToNat, hb0, hw, hlt, hgt, List.length_map, Int.toNat_natCast])
          exact ⟨i + 1, by omega, by (repeat' first | rfl | apply And.intro), by omega⟩
    · have hall : ∀ i, i < l.length → (l.getD i Box.zero).ok := fun i hi => by simpa using hg i hi
      have hok : okAll l := fun b hb => by
        obtain ⟨i, hi, rfl⟩ := List.getElem_of_mem hb
        have := hall i hi
        rw [List.getD_eq_getElem?_getD, List.getElem?_eq_getElem hi] at this
        exact this
      have hBa : ¬ l.any (fun b => !decide b.ok) = true := fun hh => by
        obtain ⟨b, hb, hbn⟩ := List.any_eq_true.1 hh
        have := hok b hb
        simp [this] at hbn
      have hE : compE l most = 0 := by unfold compE; rw [if_neg hA, if_neg hBa]
      have hR : compR l most = itM (l.length - most.toNat) l := by unfold compR; rw [hE]; rfl
      rw [hE, hR]
      obtain ⟨n, hn⟩ : ∃ n : Nat, most = n := ⟨most.toNat, by omega⟩
      subst hn
      simp only [Int.toNat_natCast]
      clear hg hE hR hBa
      have hq : l.length ≤ maxLen := by unfold maxLen; omega
      have hq2 : l.length * 48 ≤ 140737488355328 := by omega
      (refine pure_of_ev tt_ok Try.func10 rfl (by decide +kernel) (Nat.le_of_ble_eq_true rfl) ?_; simp only [Try.f10])
      repeat' first
        | refine ev_seq (fun K hK => ?_)
        | ((first | refine evrd (id := 18) hmix tt_ok false [([], true), ([], true), ([], true), ([], true), ([], true), ([], true), ([], true), ([], true), ([], true), ([], true), ([], true), ([], true), ([0, 1, 2, 3, 4, 5, 6, 7, 8, 9, 10, 11], false), ([11], false), ([], false)] (by decide +kernel) ?_ | refine evrd (id := 19) hmix tt_ok false [([], false), ([], true), ([1], false), ([1], false), ([1], false), ([1], false), ([], true), ([], true), ([1, 6], false), ([1, 6], false), ([1, 6], false), ([1, 6], false), ([7], false), ([], false), ([], false)] (by decide +kernel) ?_ | refine evrd (id := 21) hmix tt_ok false [([], false), ([], false), ([], false), ([], false), ([], false), ([], false), ([], false), ([], false)] (by decide +kernel) ?_ | refine evr tt_ok false ?_ | refine ev_skip ?_ | refine ev_ret ?_ | refine ev_exit ?_ | refine evc (fun X Y hX hY => ?_)); simp only [go_sem, reduceAdd, reduceSub, reduceMul, reduceEqDiff, reduceLeDiff, Nat.reduceBEq, reduceLT, reduceIte, reduceCtorEq, Int.reduceToNat, h1, h2, h3, List.length_map]; try (first | (refine ⟨fun h => hX ?_, fun h => hY ?_⟩; clear hX hY) | (refine hX ?_; clear hX hY) | (refine hY ?_; clear hX hY)))
        | refine ev_block ?_
        | (apply hK; clear hK)
        | apply_assumption -exfalso -symm only [*]
        | (refine And.intro ?_ ?_; first | omega | assumption | (unfold maxLen; omega) | (simp only [decide_eq_true_eq, decide_eq_false_iff_not, Int.not_lt, Int.not_le] at h; omega))
      refine ev_loop (fun i : Nat => i ≤ l.length) (fun i => ⟨115, [(6, .int .i64 (i : Int)), (1, .int .i64 (n : Int)), (0, .sl (l.map encBox))], []⟩) (fun i => l.length - i) 0 (Nat.zero_le _) ?_ ?_
      · simp only [go_sem, reduceAdd, reduceSub, reduceMul, reduceEqDiff, reduceLeDiff, Nat.reduceBEq, reduceLT, reduceIte, reduceCtorEq, Int.reduceToNat, fits, fitT, fitOs, fitO, V.under, unders, rowsUnder]
        repeat' first | rfl | (simp only [V.under, unders, rowsUnder, Nat.reduceLT]; done) | apply And.intro
      · intro i hi
        have hb0 : 0 ≤ (i : Int) := by omega
        have hw : IntKind.i64.wrap ((i : Int) + 1) = ((i + 1 : Nat) : Int) := by rw [w64] <;> omega
        by_cases hlt : (i : Int) < l.length
        · have hgt := box_get l i
          have v := boxB_pure (l.getD i Box.zero)
          rw [decide_eq_true (hall i (by omega))] at v
          generalize l.getD i Box.zero = q at hgt v
          repeat' first
            | refine ev_seq (fun K hK => ?_)
            | ((first | refine evrd (id := 18) hmix tt_ok false [([], true), ([], true), ([], true), ([], true), ([], true), ([], true), ([], true), ([], true), ([], true), ([], true), ([], true), ([], true), ([0, 1, 2, 3, 4, 5, 6, 7, 8, 9, 10, 11], false), ([11], false), ([], false)] (by decide +kernel) ?_ | refine evrd (id := 19) hmix tt_ok false [([], false), ([], true), ([1], false), ([1], false), ([1], false), ([1], false), ([], true), ([], true), ([1, 6], false), ([1, 6], false), ([1, 6], false), ([1, 6], false), ([7], false), ([], false), ([], false)] (by decide +kernel) ?_ | refine evrd (id := 21) hmix tt_ok false [([], false), ([], false), ([], false), ([], false), ([], false), ([], false), ([], false), ([], false)] (by decide +kernel) ?_ | refine evr tt_ok false ?_ | refine ev_skip ?_ | refine ev_ret ?_ | refine ev_exit ?_ | refine evc (fun X Y hX hY => ?_)); simp only [go_sem, reduceAdd, reduceSub, reduceMul, reduceEqDiff, reduceLeDiff, Nat.reduceBEq, reduceLT, reduceIte, reduceCtorEq, Int.reduceToNat, hb0, hw, hlt, hgt, List.length_map, Int.toNat_natCast]; try (first | (refine ⟨fun h => hX ?_, fun h => hY ?_⟩; clear hX hY) | (refine hX ?_; clear hX hY) | (refine hY ?_; clear hX hY)))
            | refine ev_block ?_
            | (apply hK; clear hK)
            | apply_assumption -exfalso -symm only [*]
            | (refine And.intro ?_ ?_; first | omega | assumption | (unfold maxLen; omega) | (simp only [decide_eq_true_eq, decide_eq_false_iff_not, Int.not_lt, Int.not_le] at h; omega))
            | ((first | apply callP | apply callPG | apply callP0); (case' hv => (simp only [go_sem, reduceAdd, reduceSub, reduceMul, reduceEqDiff, reduceLeDiff, Nat.reduceBEq, reduceLT, reduceIte, reduceCtorEq, Int.reduceToNat, hb0, hw, hlt, hgt, List.length_map, Int.toNat_natCast]; try exact rfl)); (case' hp => (first | refine' v | (refine' (fun hg => ?_); refine' v))); (case' h => ((first | refine evOps_fin ?_ | refine And.intro ?_ (evD_fin ?_) | refine evD_fin ?_) <;> simp only [go_sem, reduceAdd, reduceSub, reduceMul, reduceEqDiff, reduceLeDiff, Nat.reduceBEq, reduceLT, reduceIte, reduceCtorEq, Int.reduceToNat, hb0, hw, hlt, hgt, List.length_map, Int.toNat_natCast])))
            | (refine callX ?_; (first | refine evOps_fin ?_ | refine And.intro ?_ (evD_fin ?_) | refine evD_fin ?_) <;> simp only [go_sem, reduceAdd, reduceSub, reduceMul, reduceEqDiff, reduceLeDiff, Nat.reduceBEq, reduceLT, reduceIte, reduceCtorEq, Int.reduceToNat, hb0, hw, hlt, hgt, List.length_map, Int.toNat_natCast])
          exact ⟨i + 1, by omega, by (repeat' first | rfl | apply And.intro), by omega⟩
        · obtain rfl : i = l.length := by omega
          repeat' first
            | refine ev_seq (fun K hK => ?_)
            | ((first | refine evrd (id := 18) hmix tt_ok false [([], true), ([], true), ([], true), ([], true), ([], true), ([], true), ([], true), ([], true), ([], true), ([], true), ([], true), ([], true), ([0, 1, 2, 3, 4, 5, 6, 7, 8, 9, 10, 11], false), ([11], false), ([], false)] (by decide +kernel) ?_ | refine evrd (id := 19) hmix tt_ok false [([], false), ([], true), ([1], false), ([1], false), ([1], false), ([1], false), ([], true), ([], true), ([1, 6], false), ([1, 6], false), ([1, 6], false), ([1, 6], false), ([7], false), ([], false), ([], false)] (by decide +kernel) ?_ | refine evrd (id := 21) hmix tt_ok false [([], false), ([], false), ([], false), ([], false), ([], false), ([], false), ([], false), ([], false)] (by decide +kernel) ?_ | refine evr tt_ok false ?_ | refine ev_skip ?_ | refine ev_ret ?_ | refine ev_exit ?_ | refine evc (fun X Y hX hY => ?_)); simp only [go_sem, reduceAdd, reduceSub, reduceMul, reduceEqDiff, reduceLeDiff, Nat.reduceBEq, reduceLT, reduceIte, reduceCtorEq, Int.reduceToNat, hlt, hq, hq2, Nat.mul_one, Nat.zero_add, Nat.sub_zero, List.length_map, box_get, Nat.le_refl]; try (first | (refine ⟨fun h => hX ?_, fun h => hY ?_⟩; clear hX hY) | (refine hX ?_; clear hX hY) | (refine hY ?_; clear hX hY)))
            | refine ev_block ?_
            | (apply hK; clear hK)
            | apply_assumption -exfalso -symm only [*]
            | (refine And.intro ?_ ?_; first | omega | assumption | (unfold maxLen; omega) | (simp only [decide_eq_true_eq, decide_eq_false_iff_not, Int.not_lt, Int.not_le] at h; omega))
          have htk : List.take l.length (l.map encBox) = l.map encBox := List.take_of_length_le (by simp)
          refine ev_freeze 0 rfl (vrows_lit _ (lit_box l)) ?_
          refine ev_see 7 (y := .sl (l.map encBox)) (by simp only [go_sem, reduceAdd, reduceSub, reduceMul, reduceEqDiff, reduceLeDiff, Nat.reduceBEq, reduceLT, reduceIte, reduceCtorEq, Int.reduceToNat, List.length_map, Nat.le_refl, Nat.sub_zero, htk]) ?_
          refine ev_loop (fun m : Nat => (itM m l).length + m = l.length ∧ (m = 0 ∨ n ≤ (itM m l).length) ∧ okAll (itM m l)) (fun m => ⟨115, [(7, .sl ((itM m l).map encBox)), (1, .int .i64 (n : Int))], []⟩) (fun m => l.length - m) 0 ⟨rfl, .inl rfl, hok⟩ ?_ ?_
          · simp only [go_sem, reduceAdd, reduceSub, reduceMul, reduceEqDiff, reduceLeDiff, Nat.reduceBEq, reduceLT, reduceIte, reduceCtorEq, Int.reduceToNat, fits, fitT, fitOs, fitO, V.under, unders, rowsUnder]
            repeat' first | rfl | (simp only [V.under, unders, rowsUnder, Nat.reduceLT]; done) | apply And.intro
          · rintro m ⟨i1, i2, i3⟩
            have hsm : itM (m + 1) l = sqz (itM m l) := rfl
            by_cases hc : (n : Int) < ((itM m l).length : Int)
            · obtain ⟨a, b, hp, hab, hbl⟩ := pick_some (l := itM m l) (by omega)
              have hse := sqz_eq hp hab
              have hso := sqz_ok i3 (by omega)
              have hsl := sqz_len (l := itM m l) (by omega)
              have hallc : ∀ i, i < (itM m l).length → ((itM m l).getD i Box.zero).ok := fun i hi => okAll_at i3 hi
              refine ev_fzend (fun K0 hP => ?_)
              generalize hcur : itM m l = C at *
              have hcl : C.length ≤ 256 := by omega
              repeat' first
                | refine ev_seq (fun K hK => ?_)
                | ((first | refine evrd (id := 18) hmix tt_ok false [([], true), ([], true), ([], true), ([], true), ([], true), ([], true), ([], true), ([], true), ([], true), ([], true), ([], true), ([], true), ([0, 1, 2, 3, 4, 5, 6, 7, 8, 9, 10, 11], false), ([11], false), ([], false)] (by decide +kernel) ?_ | refine evrd (id := 19) hmix tt_ok false [([], false), ([], true), ([1], false), ([1], false), ([1], false), ([1], false), ([], true), ([], true), ([1, 6], false), ([1, 6], false), ([1, 6], false), ([1, 6], false), ([7], false), ([], false), ([], false)] (by decide +kernel) ?_ | refine evrd (id := 21) hmix tt_ok false [([], false), ([], false), ([], false), ([], false), ([], false), ([], false), ([], false), ([], false)] (by decide +kernel) ?_ | refine evr tt_ok false ?_ | refine ev_skip ?_ | refine ev_ret ?_ | refine ev_exit ?_ | refine evc (fun X Y hX hY => ?_)); simp only [go_sem, reduceAdd, reduceSub, reduceMul, reduceEqDiff, reduceLeDiff, Nat.reduceBEq, reduceLT, reduceIte, reduceCtorEq, Int.reduceToNat, hc, List.length_map, Nat.le_refl]; try (first | (refine ⟨fun h => hX ?_, fun h => hY ?_⟩; clear hX hY) | (refine hX ?_; clear hX hY) | (refine hY ?_; clear hX hY)))
                | refine ev_block ?_
                | (apply hK; clear hK)
                | apply_assumption -exfalso -symm only [*]
                | (refine And.intro ?_ ?_; first | omega | assumption | (unfold maxLen; omega) | (simp only [decide_eq_true_eq, decide_eq_false_iff_not, Int.not_lt, Int.not_le] at h; omega))
              refine ev_loop (fun i : Nat => i ≤ C.length)
                (fun i => ⟨115, [(12, .int .i64 (i : Int)), (11, .own 0 0 0 0), (10, .int .i64 (bO C (pkI C i))), (9, .int .i64 (sO (pkI C i))), (8, .int .i64 (fO (pkI C i))), (7, .sl (C.map encBox)), (1, .int .i64 (n : Int))], [.blk 33 0 6 [[.int .i64 (hO C (pkI C i)).x0, .int .i64 (hO C (pkI C i)).y0, .int .i64 (hO C (pkI C i)).x1, .int .i64 (hO C (pkI C i)).y1, .int .i64 (hO C (pkI C i)).f, .int .i64 (hO C (pkI C i)).c]]]⟩)
                (fun i => C.length - i) 0 (Nat.zero_le _) ?_ ?_
              · simp only [go_sem, reduceAdd, reduceSub, reduceMul, reduceEqDiff, reduceLeDiff, Nat.reduceBEq, reduceLT, reduceIte, reduceCtorEq, Int.reduceToNat, fits, fitT, fitOs, fitO, V.under, unders, rowsUnder]
                repeat' first | rfl | (simp only [V.under, unders, rowsUnder, Nat.reduceLT]; done) | apply And.intro
              · intro i hi
                have hbi : 0 ≤ (i : Int) := by omega
                have hwi : IntKind.i64.wrap ((i : Int) + 1) = ((i + 1 : Nat) : Int) := by rw [w64] <;> omega
                by_cases hti : (i : Int) < (C.length : Int)
                · repeat' first
                  | refine ev_seq (fun K hK => ?_)
                  | ((first | refine evrd (id := 18) hmix tt_ok false [([], true), ([], true), ([], true), ([], true), ([], true), ([], true), ([], true), ([], true), ([], true), ([], true), ([], true), ([], true), ([0, 1, 2, 3, 4, 5, 6, 7, 8, 9, 10, 11], false), ([11], false), ([], false)] (by decide +kernel) ?_ | refine evrd (id := 19) hmix tt_ok false [([], false), ([], true), ([1], false), ([1], false), ([1], false), ([1], false), ([], true), ([], true), ([1, 6], false), ([1, 6], false), ([1, 6], false), ([1, 6], false), ([7], false), ([], false), ([], false)] (by decide +kernel) ?_ | refine evrd (id := 21) hmix tt_ok false [([], false), ([], false), ([], false), ([], false), ([], false), ([], false), ([], false), ([], false)] (by decide +kernel) ?_ | refine evr tt_ok false ?_ | refine ev_skip ?_ | refine ev_ret ?_ | refine ev_exit ?_ | refine evc (fun X Y hX hY => ?_)); simp only [go_sem, reduceAdd, reduceSub, reduceMul, reduceEqDiff, reduceLeDiff, Nat.reduceBEq, reduceLT, reduceIte, reduceCtorEq, Int.reduceToNat, hti, hwi, List.length_map, Nat.le_refl]; try (first | (refine ⟨fun h => hX ?_, fun h => hY ?_⟩; clear hX hY) | (refine hX ?_; clear hX hY) | (refine hY ?_; clear hX hY)))
                  | refine ev_block ?_
                  | (apply hK; clear hK)
                  | apply_assumption -exfalso -symm only [*]
                  | (refine And.intro ?_ ?_; first | omega | assumption | (unfold maxLen; omega) | (simp only [decide_eq_true_eq, decide_eq_false_iff_not, Int.not_lt, Int.not_le] at h; omega))
                  refine ev_loop (fun k : Nat => k ≤ C.length - (i + 1))
                    (fun k => ⟨115, [(13, .int .i64 ((i + 1 + k : Nat) : Int)), (12, .int .i64 (i : Int)), (11, .own 0 0 0 0), (10, .int .i64 (bO C (pkJ C i (pkI C i) k))), (9, .int .i64 (sO (pkJ C i (pkI C i) k))), (8, .int .i64 (fO (pkJ C i (pkI C i) k))), (7, .sl (C.map encBox)), (1, .int .i64 (n : Int))], [.blk 33 0 6 [[.int .i64 (hO C (pkJ C i (pkI C i) k)).x0, .int .i64 (hO C (pkJ C i (pkI C i) k)).y0, .int .i64 (hO C (pkJ C i (pkI C i) k)).x1, .int .i64 (hO C (pkJ C i (pkI C i) k)).y1, .int .i64 (hO C (pkJ C i (pkI C i) k)).f, .int .i64 (hO C (pkJ C i (pkI C i) k)).c]]]⟩)
                    (fun k => C.length - (i + 1) - k) 0 (Nat.zero_le _) ?_ ?_
                  · simp only [go_sem, reduceAdd, reduceSub, reduceMul, reduceEqDiff, reduceLeDiff, Nat.reduceBEq, reduceLT, reduceIte, reduceCtorEq, Int.reduceToNat, fits, fitT, fitOs, fitO, V.under, unders, rowsUnder]
                    repeat' first | rfl | (simp only [V.under, unders, rowsUnder, Nat.reduceLT]; done) | apply And.intro
                  · intro k hk
                    have hbk : 0 ≤ ((i + 1 + k : Nat) : Int) := by omega
                    have hwk : IntKind.i64.wrap (((i + 1 + k : Nat) : Int) + 1) = ((i + 1 + (k + 1) : Nat) : Int) := by rw [w64] <;> omega
                    by_cases hlk : ((i + 1 + k : Nat) : Int) < (C.length : Int)
                    · have hr := hallc (i + 1 + k) (by omega)
                      have hq' := hallc i (by omega)
                      have hgk := box_get C (i + 1 + k)
                      have hgi := box_get C i
                      have hNv : nB C i (i + 1 + k) = (hB C i (i + 1 + k)).vol - (C.getD i Box.zero).vol - (C.getD (i + 1 + k) Box.zero).vol := rfl
                      have hHv : hB C i (i + 1 + k) = hullB (C.getD i Box.zero) (C.getD (i + 1 + k) Box.zero) := rfl
                      generalize C.getD (i + 1 + k) Box.zero = r at hgk hr hNv hHv
                      generalize C.getD i Box.zero = q at hgi hq' hNv hHv
                      have hv := rbhull_pure q r
                      rw [show resHull q r = .tup [.agg (encBox (hullB q r)), .int .i64 0] from if_pos ⟨hq', hr⟩, ← hHv] at hv
                      simp only [encBox] at hv
                      obtain ⟨h, hh⟩ : ∃ h, h = hB C i (i + 1 + k) := ⟨_, rfl⟩
                      rw [← hh] at hv hNv
                      have v1 := rvolume_pure h
                      have v2 := rvolume_pure q
                      have v3 := rvolume_pure r
                      have c1 := vol_le (b := h)
                      have c2 := vol_le (b := q)
                      have c3 := vol_le (b := r)
                      have w1 : IntKind.i64.wrap (h.vol - q.vol) = h.vol - q.vol := by rw [w64] <;> omega
                      have w2 : IntKind.i64.wrap (h.vol - q.vol - r.vol) = nB C i (i + 1 + k) := by rw [w64, hNv] <;> omega
                      have hst : pkJ C i (pkI C i) (k + 1) = stepP C (pkJ C i (pkI C i) k) i (i + 1 + k) := rfl
                      generalize hS : pkJ C i (pkI C i) k = Sx at *
                      clear hallc hNv c1 c2 c3 hHv hall hse hso hsl i3
                      cases Sx with
                      | none =>
                        have hst2 : pkJ C i (pkI C i) (k + 1) = some (i, i + 1 + k) := hst
                        have e1 : fO none = -1 := rfl
                        have e2 : sO none = -1 := rfl
                        have e3 : bO C none = 0 := rfl
                        have e4 : hO C none = Box.zero := rfl
                        repeat' first
                          | refine ev_seq (fun K hK => ?_)
                          | ((first | refine evrd (id := 18) hmix tt_ok false [([], true), ([], true), ([], true), ([], true), ([], true), ([], true), ([], true), ([], true), ([], true), ([], true), ([], true), ([], true), ([0, 1, 2, 3, 4, 5, 6, 7, 8, 9, 10, 11], false), ([11], false), ([], false)] (by decide +kernel) ?_ | refine evrd (id := 19) hmix tt_ok false [([], false), ([], true), ([1], false), ([1], false), ([1], false), ([1], false), ([], true), ([], true), ([1, 6], false), ([1, 6], false), ([1, 6], false), ([1, 6], false), ([7], false), ([], false), ([], false)] (by decide +kernel) ?_ | refine evrd (id := 21) hmix tt_ok false [([], false), ([], false), ([], false), ([], false), ([], false), ([], false), ([], false), ([], false)] (by decide +kernel) ?_ | refine evr tt_ok false ?_ | refine ev_skip ?_ | refine ev_ret ?_ | refine ev_exit ?_ | refine evc (fun X Y hX hY => ?_)); simp only [go_sem, reduceAdd, reduceSub, reduceMul, reduceEqDiff, reduceLeDiff, Nat.reduceBEq, reduceLT, reduceIte, reduceCtorEq, Int.reduceToNat, e1, e2, e3, e4, hbi, hwi, hbk, hwk, hti, hlk, hgi, hgk, w1, w2, Nat.le_refl, List.length_map, Int.toNat_natCast, Int.reduceNeg, Int.reduceLT]; try (first | (refine ⟨fun h => hX ?_, fun h => hY ?_⟩; clear hX hY) | (refine hX ?_; clear hX hY) | (refine hY ?_; clear hX hY)))
                          | refine ev_block ?_
                          | (apply hK; clear hK)
                          | apply_assumption -exfalso -symm only [*]
                          | (refine And.intro ?_ ?_; first | omega | assumption | (unfold maxLen; omega) | (simp only [decide_eq_true_eq, decide_eq_false_iff_not, Int.not_lt, Int.not_le] at h; omega))
                          | ((first | apply callP | apply callPG | apply callP0); (case' hv => (simp only [go_sem, reduceAdd, reduceSub, reduceMul, reduceEqDiff, reduceLeDiff, Nat.reduceBEq, reduceLT, reduceIte, reduceCtorEq, Int.reduceToNat, e1, e2, e3, e4, hbi, hwi, hbk, hwk, hti, hlk, hgi, hgk, w1, w2, Nat.le_refl, List.length_map, Int.toNat_natCast, Int.reduceNeg, Int.reduceLT]; try exact rfl)); (case' hp => (first | refine' hv | (refine' (fun hg => ?_); refine' hv) | refine' v1 | (refine' (fun hg => ?_); refine' v1) | refine' v2 | (refine' (fun hg => ?_); refine' v2) | refine' v3 | (refine' (fun hg => ?_); refine' v3))); (case' h => ((first | refine evOps_fin ?_ | refine And.intro ?_ (evD_fin ?_) | refine evD_fin ?_) <;> simp only [go_sem, reduceAdd, reduceSub, reduceMul, reduceEqDiff, reduceLeDiff, Nat.reduceBEq, reduceLT, reduceIte, reduceCtorEq, Int.reduceToNat, e1, e2, e3, e4, hbi, hwi, hbk, hwk, hti, hlk, hgi, hgk, w1, w2, Nat.le_refl, List.length_map, Int.toNat_natCast, Int.reduceNeg, Int.reduceLT])))
                          | (refine callX ?_; (first | refine evOps_fin ?_ | refine And.intro ?_ (evD_fin ?_) | refine evD_fin ?_) <;> simp only [go_sem, reduceAdd, reduceSub, reduceMul, reduceEqDiff, reduceLeDiff, Nat.reduceBEq, reduceLT, reduceIte, reduceCtorEq, Int.reduceToNat, e1, e2, e3, e4, hbi, hwi, hbk, hwk, hti, hlk, hgi, hgk, w1, w2, Nat.le_refl, List.length_map, Int.toNat_natCast, Int.reduceNeg, Int.reduceLT])
                        refine ⟨k + 1, by omega, ?_, by omega⟩
                        rw [hst2]
                        subst hh
                        repeat' first | rfl | apply And.intro
                      | some p =>
                        obtain ⟨pa, pb⟩ := p
                        have e1 : fO (some (pa, pb)) = (pa : Int) := rfl
                        have e2 : sO (some (pa, pb)) = (pb : Int) := rfl
                        have e3 : bO C (some (pa, pb)) = nB C pa pb := rfl
                        have e4 : hO C (some (pa, pb)) = hB C pa pb := rfl
                        have ha0 : ¬ ((pa : Int) < 0) := by omega
                        by_cases hn : nB C i (i + 1 + k) < nB C pa pb
                        · have hst2 : pkJ C i (pkI C i) (k + 1) = some (i, i + 1 + k) := by rw [hst]; exact if_pos hn
                          repeat' first
                            | refine ev_seq (fun K hK => ?_)
                            | ((first | refine evrd (id := 18) hmix tt_ok false [([], true), ([], true), ([], true), ([], true), ([], true), ([], true), ([], true), ([], true), ([], true), ([], true), ([], true), ([], true), ([0, 1, 2, 3, 4, 5, 6, 7, 8, 9, 10, 11], false), ([11], false), ([], false)] (by decide +kernel) ?_ | refine evrd (id := 19) hmix tt_ok false [([], false), ([], true), ([1], false), ([1], false), ([1], false), ([1], false), ([], true), ([], true), ([1, 6], false), ([1, 6], false), ([1, 6], false), ([1, 6], false), ([7], false), ([], false), ([], false)] (by decide +kernel) ?_ | refine evrd (id := 21) hmix tt_ok false [([], false), ([], false), ([], false), ([], false), ([], false), ([], false), ([], false), ([], false)] (by decide +kernel) ?_ | refine evr tt_ok false ?_ | refine ev_skip ?_ | refine ev_ret ?_ | refine ev_exit ?_ | refine evc (fun X Y hX hY => ?_)); simp only [go_sem, reduceAdd, reduceSub, reduceMul, reduceEqDiff, reduceLeDiff, Nat.reduceBEq, reduceLT, reduceIte, reduceCtorEq, Int.reduceToNat, ha0, hn, e1, e2, e3, e4, hbi, hwi, hbk, hwk, hti, hlk, hgi, hgk, w1, w2, Nat.le_refl, List.length_map, Int.toNat_natCast, Int.reduceNeg, Int.reduceLT]; try (first | (refine ⟨fun h => hX ?_, fun h => hY ?_⟩; clear hX hY) | (refine hX ?_; clear hX hY) | (refine hY ?_; clear hX hY)))
                            | refine ev_block ?_
                            | (apply hK; clear hK)
                            | apply_assumption -exfalso -symm only [*]
                            | (refine And.intro ?_ ?_; first | omega | assumption | (unfold maxLen; omega) | (simp only [decide_eq_true_eq, decide_eq_false_iff_not, Int.not_lt, Int.not_le] at h; omega))
                            | ((first | apply callP | apply callPG | apply callP0); (case' hv => (simp only [go_sem, reduceAdd, reduceSub, reduceMul, reduceEqDiff, reduceLeDiff, Nat.reduceBEq, reduceLT, reduceIte, reduceCtorEq, Int.reduceToNat, ha0, hn, e1, e2, e3, e4, hbi, hwi, hbk, hwk, hti, hlk, hgi, hgk, w1, w2, Nat.le_refl, List.length_map, Int.toNat_natCast, Int.reduceNeg, Int.reduceLT]; try exact rfl)); (case' hp => (first | refine' hv | (refine' (fun hg => ?_); refine' hv) | refine' v1 | (refine' (fun hg => ?_); refine' v1) | refine' v2 | (refine' (fun hg => ?_); refine' v2) | refine' v3 | (refine' (fun hg => ?_); refine' v3))); (case' h => ((first | refine evOps_fin ?_ | refine And.intro ?_ (evD_fin ?_) | refine evD_fin ?_) <;> simp only [go_sem, reduceAdd, reduceSub, reduceMul, reduceEqDiff, reduceLeDiff, Nat.reduceBEq, reduceLT, reduceIte, reduceCtorEq, Int.reduceToNat, ha0, hn, e1, e2, e3, e4, hbi, hwi, hbk, hwk, hti, hlk, hgi, hgk, w1, w2, Nat.le_refl, List.length_map, Int.toNat_natCast, Int.reduceNeg, Int.reduceLT])))
                            | (refine callX ?_; (first | refine evOps_fin ?_ | refine And.intro ?_ (evD_fin ?_) | refine evD_fin ?_) <;> simp only [go_sem, reduceAdd, reduceSub, reduceMul, reduceEqDiff, reduceLeDiff, Nat.reduceBEq, reduceLT, reduceIte, reduceCtorEq, Int.reduceToNat, ha0, hn, e1, e2, e3, e4, hbi, hwi, hbk, hwk, hti, hlk, hgi, hgk, w1, w2, Nat.le_refl, List.length_map, Int.toNat_natCast, Int.reduceNeg, Int.reduceLT])
                          refine ⟨k + 1, by omega, ?_, by omega⟩
                          rw [hst2]
                          subst hh
                          repeat' first | rfl | apply And.intro
                        · have hst2 : pkJ C i (pkI C i) (k + 1) = some (pa, pb) := by rw [hst]; exact if_neg hn
                          repeat' first
                            | refine ev_seq (fun K hK => ?_)
                            | ((first | refine evrd (id := 18) hmix tt_ok false [([], true), ([], true), ([], true), ([], true), ([], true), ([], true), ([], true), ([], true), ([], true), ([], true), ([], true), ([], true), ([0, 1, 2, 3, 4, 5, 6, 7, 8, 9, 10, 11], false), ([11], false), ([], false)] (by decide +kernel) ?_ | refine evrd (id := 19) hmix tt_ok false [([], false), ([], true), ([1], false), ([1], false), ([1], false), ([1], false), ([], true), ([], true), ([1, 6], false), ([1, 6], false), ([1, 6], false), ([1, 6], false), ([7], false), ([], false), ([], false)] (by decide +kernel) ?_ | refine evrd (id := 21) hmix tt_ok false [([], false), ([], false), ([], false), ([], false), ([], false), ([], false), ([], false), ([], false)] (by decide +kernel) ?_ | refine evr tt_ok false ?_ | refine ev_skip ?_ | refine ev_ret ?_ | refine ev_exit ?_ | refine evc (fun X Y hX hY => ?_)); simp only [go_sem, reduceAdd, reduceSub, reduceMul, reduceEqDiff, reduceLeDiff, Nat.reduceBEq, reduceLT, reduceIte, reduceCtorEq, Int.reduceToNat, ha0, hn, e1, e2, e3, e4, hbi, hwi, hbk, hwk, hti, hlk, hgi, hgk, w1, w2, Nat.le_refl, List.length_map, Int.toNat_natCast, Int.reduceNeg, Int.reduceLT]; try (first | (refine ⟨fun h => hX ?_, fun h => hY ?_⟩; clear hX hY) | (refine hX ?_; clear hX hY) | (refine hY ?_; clear hX hY)))
                            | refine ev_block ?_
                            | (apply hK; clear hK)
                            | apply_assumption -exfalso -symm only [*]
                            | (refine And.intro ?_ ?_; first | omega | assumption | (unfold maxLen; omega) | (simp only [decide_eq_true_eq, decide_eq_false_iff_not, Int.not_lt, Int.not_le] at h; omega))
                            | ((first | apply callP | apply callPG | apply callP0); (case' hv => (simp only [go_sem, reduceAdd, reduceSub, reduceMul, reduceEqDiff, reduceLeDiff, Nat.reduceBEq, reduceLT, reduceIte, reduceCtorEq, Int.reduceToNat, ha0, hn, e1, e2, e3, e4, hbi, hwi, hbk, hwk, hti, hlk, hgi, hgk, w1, w2, Nat.le_refl, List.length_map, Int.toNat_natCast, Int.reduceNeg, Int.reduceLT]; try exact rfl)); (case' hp => (first | refine' hv | (refine' (fun hg => ?_); refine' hv) | refine' v1 | (refine' (fun hg => ?_); refine' v1) | refine' v2 | (refine' (fun hg => ?_); refine' v2) | refine' v3 | (refine' (fun hg => ?_); refine' v3))); (case' h => ((first | refine evOps_fin ?_ | refine And.intro ?_ (evD_fin ?_) | refine evD_fin ?_) <;> simp only [go_sem, reduceAdd, reduceSub, reduceMul, reduceEqDiff, reduceLeDiff, Nat.reduceBEq, reduceLT, reduceIte, reduceCtorEq, Int.reduceToNat, ha0, hn, e1, e2, e3, e4, hbi, hwi, hbk, hwk, hti, hlk, hgi, hgk, w1, w2, Nat.le_refl, List.length_map, Int.toNat_natCast, Int.reduceNeg, Int.reduceLT])))
                            | (refine callX ?_; (first | refine evOps_fin ?_ | refine And.intro ?_ (evD_fin ?_) | refine evD_fin ?_) <;> simp only [go_sem, reduceAdd, reduceSub, reduceMul, reduceEqDiff, reduceLeDiff, Nat.reduceBEq, reduceLT, reduceIte, reduceCtorEq, Int.reduceToNat, ha0, hn, e1, e2, e3, e4, hbi, hwi, hbk, hwk, hti, hlk, hgi, hgk, w1, w2, Nat.le_refl, List.length_map, Int.toNat_natCast, Int.reduceNeg, Int.reduceLT])
                          refine ⟨k + 1, by omega, ?_, by omega⟩
                          rw [hst2]
                          repeat' first | rfl | apply And.intro
                    · obtain rfl : k = C.length - (i + 1) := by omega
                      repeat' first
                        | refine ev_seq (fun K hK => ?_)
                        | ((first | refine evrd (id := 18) hmix tt_ok false [([], true), ([], true), ([], true), ([], true), ([], true), ([], true), ([], true), ([], true), ([], true), ([], true), ([], true), ([], true), ([0, 1, 2, 3, 4, 5, 6, 7, 8, 9, 10, 11], false), ([11], false), ([], false)] (by decide +kernel) ?_ | refine evrd (id := 19) hmix tt_ok false [([], false), ([], true), ([1], false), ([1], false), ([1], false), ([1], false), ([], true), ([], true), ([1, 6], false), ([1, 6], false), ([1, 6], false), ([1, 6], false), ([7], false), ([], false), ([], false)] (by decide +kernel) ?_ | refine evrd (id := 21) hmix tt_ok false [([], false), ([], false), ([], false), ([], false), ([], false), ([], false), ([], false), ([], false)] (by decide +kernel) ?_ | refine evr tt_ok false ?_ | refine ev_skip ?_ | refine ev_ret ?_ | refine ev_exit ?_ | refine evc (fun X Y hX hY => ?_)); simp only [go_sem, reduceAdd, reduceSub, reduceMul, reduceEqDiff, reduceLeDiff, Nat.reduceBEq, reduceLT, reduceIte, reduceCtorEq, Int.reduceToNat, hwi, hlk, List.length_map, Nat.le_refl]; try (first | (refine ⟨fun h => hX ?_, fun h => hY ?_⟩; clear hX hY) | (refine hX ?_; clear hX hY) | (refine hY ?_; clear hX hY)))
                        | refine ev_block ?_
                        | (apply hK; clear hK)
                        | apply_assumption -exfalso -symm only [*]
                        | (refine And.intro ?_ ?_; first | omega | assumption | (unfold maxLen; omega) | (simp only [decide_eq_true_eq, decide_eq_false_iff_not, Int.not_lt, Int.not_le] at h; omega))
                      exact ⟨i + 1, by omega, by (repeat' first | rfl | apply And.intro), by omega⟩
                · obtain rfl : i = C.length := by omega
                  have hp2 : pkI C C.length = some (a, b) := hp
                  rw [hp2]
                  have e1 : fO (some (a, b)) = (a : Int) := rfl
                  have e2 : sO (some (a, b)) = (b : Int) := rfl
                  have e3 : bO C (some (a, b)) = nB C a b := rfl
                  have e4 : hO C (some (a, b)) = hB C a b := rfl
                  generalize hB C a b = h at *
                  have hwb : IntKind.i64.wrap ((b : Int) + 1) = ((b + 1 : Nat) : Int) := by rw [w64] <;> omega
                  have ha0 : 0 ≤ (a : Int) := by omega
                  have hb0 : 0 ≤ (b : Int) := by omega
                  have hab2 : (a : Int) < (b : Int) := by omega
                  have hbc : (b : Int) ≤ (C.length : Int) := by omega
                  have hb1 : 0 ≤ ((b + 1 : Nat) : Int) := by omega
                  have hbc1 : ((b + 1 : Nat) : Int) ≤ (C.length : Int) := by omega
                  have hs2 : ((C.length : Int) - ((b + 1 : Nat) : Int)).toNat = C.length - (b + 1) := by omega
                  have htb : List.take b (C.map encBox) = (C.take b).map encBox := by rw [List.map_take]
                  have hlb : (C.take b).length = b := by rw [List.length_take]; omega
                  have hld : (C.drop (b + 1)).length = C.length - (b + 1) := List.length_drop ..
                  have hga := box_get (C.take b) a
                  have hr6 : ((C.map encBox).getD 0 [.int .i64 0, .int .i64 0, .int .i64 0, .int .i64 0, .int .i64 0, .int .i64 0]).length = 6 := by rw [box_get]; rfl
                  have hset : ((C.take b).map encBox).set a [.int .i64 h.x0, .int .i64 h.y0, .int .i64 h.x1, .int .i64 h.y1, .int .i64 h.f, .int .i64 h.c] = ((C.take b).set a h).map encBox := by rw [List.map_set]; rfl
                  have hls3 : ((C.take b).set a h).length = b := by rw [List.length_set, hlb]
                  have hq3 : b ≤ maxLen ∧ b + (C.length - (b + 1)) ≤ maxLen := by unfold maxLen; omega
                  have hq4 : b * 48 ≤ 140737488355328 := by omega
                  have hq5 : (b + (C.length - (b + 1))) * 48 ≤ 140737488355328 := by omega
                  clear hallc hall
                  repeat' first
                    | refine ev_seq (fun K hK => ?_)
                    | ((first | refine evrd (id := 18) hmix tt_ok false [([], true), ([], true), ([], true), ([], true), ([], true), ([], true), ([], true), ([], true), ([], true), ([], true), ([], true), ([], true), ([0, 1, 2, 3, 4, 5, 6, 7, 8, 9, 10, 11], false), ([11], false), ([], false)] (by decide +kernel) ?_ | refine evrd (id := 19) hmix tt_ok false [([], false), ([], true), ([1], false), ([1], false), ([1], false), ([1], false), ([], true), ([], true), ([1, 6], false), ([1, 6], false), ([1, 6], false), ([1, 6], false), ([7], false), ([], false), ([], false)] (by decide +kernel) ?_ | refine evrd (id := 21) hmix tt_ok false [([], false), ([], false), ([], false), ([], false), ([], false), ([], false), ([], false), ([], false)] (by decide +kernel) ?_ | refine evr tt_ok false ?_ | refine ev_skip ?_ | refine ev_ret ?_ | refine ev_exit ?_ | refine evc (fun X Y hX hY => ?_)); simp only [go_sem, reduceAdd, reduceSub, reduceMul, reduceEqDiff, reduceLeDiff, Nat.reduceBEq, reduceLT, reduceIte, reduceCtorEq, Int.reduceToNat, Option.toArray, e1, e2, e3, e4, hti, hwb, ha0, hb0, hab2, hbc, hb1, hbc1, hs2, htb, hlb, hld, dropB, hga, hr6, hset, hls3, hq3.1, hq3.2, hq4, hq5, box_get, Int.sub_zero, Nat.mul_one, Nat.zero_add, Nat.sub_zero, Nat.le_refl, Int.le_refl, List.length_map, List.nil_append, Int.toNat_natCast]; try (first | (refine ⟨fun h => hX ?_, fun h => hY ?_⟩; clear hX hY) | (refine hX ?_; clear hX hY) | (refine hY ?_; clear hX hY)))
                    | refine ev_block ?_
                    | (apply hK; clear hK)
                    | apply_assumption -exfalso -symm only [*]
                    | (refine And.intro ?_ ?_; first | omega | assumption | (unfold maxLen; omega) | (simp only [decide_eq_true_eq, decide_eq_false_iff_not, Int.not_lt, Int.not_le] at h; omega))
                  have hrow : List.map encBox ((C.take b).set a h) ++ List.map encBox (C.drop (b + 1)) = (sqz C).map encBox := by rw [hse, List.map_append]
                  have hlq : b + (C.length - (b + 1)) = (sqz C).length := by omega
                  have htq : List.take (sqz C).length ((sqz C).map encBox) = (sqz C).map encBox := List.take_of_length_le (by simp)
                  rw [hrow, hlq]
                  refine ⟨1, _, _, _, _, _, 7, .sl ((sqz C).map encBox), rfl, vrows_lit _ (lit_box _), ?_, ?_⟩
                  · simp only [go_sem, reduceAdd, reduceSub, reduceMul, reduceEqDiff, reduceLeDiff, Nat.reduceBEq, reduceLT, reduceIte, reduceCtorEq, Int.reduceToNat, List.length_map, Nat.le_refl, Nat.sub_zero, htq]
                  · show ∃ x', _
                    refine ⟨m + 1, ⟨by rw [hsm]; omega, .inr (by rw [hsm]; omega), by rw [hsm]; exact hso⟩, ?_, by omega⟩
                    rw [hsm]
                    simp only [go_sem, reduceAdd, reduceSub, reduceMul, reduceEqDiff, reduceLeDiff, Nat.reduceBEq, reduceLT, reduceIte, reduceCtorEq, Int.reduceToNat, fits, fitT, fitOs, fitO, V.under, unders, rowsUnder]
                    repeat' first | rfl | (simp only [V.under, unders, rowsUnder, Nat.reduceLT]; done) | apply And.intro
            · have e : l.length - n = m := by omega
              repeat' first
                | refine ev_seq (fun K hK => ?_)
                | ((first | refine evrd (id := 18) hmix tt_ok false [([], true), ([], true), ([], true), ([], true), ([], true), ([], true), ([], true), ([], true), ([], true), ([], true), ([], true), ([], true), ([0, 1, 2, 3, 4, 5, 6, 7, 8, 9, 10, 11], false), ([11], false), ([], false)] (by decide +kernel) ?_ | refine evrd (id := 19) hmix tt_ok false [([], false), ([], true), ([1], false), ([1], false), ([1], false), ([1], false), ([], true), ([], true), ([1, 6], false), ([1, 6], false), ([1, 6], false), ([1, 6], false), ([7], false), ([], false), ([], false)] (by decide +kernel) ?_ | refine evrd (id := 21) hmix tt_ok false [([], false), ([], false), ([], false), ([], false), ([], false), ([], false), ([], false), ([], false)] (by decide +kernel) ?_ | refine evr tt_ok false ?_ | refine ev_skip ?_ | refine ev_ret ?_ | refine ev_exit ?_ | refine evc (fun X Y hX hY => ?_)); simp only [go_sem, reduceAdd, reduceSub, reduceMul, reduceEqDiff, reduceLeDiff, Nat.reduceBEq, reduceLT, reduceIte, reduceCtorEq, Int.reduceToNat, hc, List.length_map]; try (first | (refine ⟨fun h => hX ?_, fun h => hY ?_⟩; clear hX hY) | (refine hX ?_; clear hX hY) | (refine hY ?_; clear hX hY)))
                | refine ev_block ?_
                | (apply hK; clear hK)
                | apply_assumption -exfalso -symm only [*]
                | (refine And.intro ?_ ?_; first | omega | assumption | (unfold maxLen; omega) | (simp only [decide_eq_true_eq, decide_eq_false_iff_not, Int.not_lt, Int.not_le] at h; omega))
              rw [e]
end Go.Proofs.Ytmpmggbcmioipaa
