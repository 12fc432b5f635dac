import Derived.Test.YtmpmggbcmioipaaH2
import Derived.Test.YtmpmggbcmioipaaH8
import Derived.Test.YtmpmggbcmioipaaK15
set_option linter.all false
namespace Go.Proofs.Ytmpmggbcmioipaa
open Nat (reduceAdd reduceSub reduceMul reduceEqDiff reduceLeDiff reduceLT)
open Go Go.K
set_option maxRecDepth 20000
set_option maxHeartbeats 4000000
theorem div_exact {x : Int} {g : Nat} (hg : 0 < g) (h : (g : Int) ∣ x) (hx : -4611686018427387904 ≤ x ∧ x ≤ 4611686018427387904) : IntKind.i64.wrap (x.tdiv g) = x / g := by
  rw [Int.tdiv_eq_ediv_of_dvd h]
  have hg' : (0 : Int) < g := by omega
  have l1 : -4611686018427387904 ≤ x / g := Int.le_ediv_of_mul_le hg' (by omega)
  have l2 : x / g ≤ 4611686018427387904 := Int.ediv_le_of_le_mul hg' (by omega)
  rw [w64 (by omega) (by omega)]
theorem tmod_nat (g n : Nat) : (g : Int).tmod (n : Int) = ((g % n : Nat) : Int) := by
  rw [Int.tmod_eq_emod_of_nonneg (by omega)]; exact (Int.natCast_emod g n).symm
theorem lowest_pure (x y d : Int) (hd : 0 < d ∧ d ≤ 4611686018427387904) (hx : -4611686018427387904 ≤ x ∧ x ≤ 4611686018427387904) (hy : -4611686018427387904 ≤ y ∧ y ≤ 4611686018427387904) :
    Pure Try.prog 105 [.int .i64 x, .int .i64 y, .int .i64 d] (.agg (encVec (low x y d))) := by
  have w1 : IntKind.i64.wrap (0 + 1) = 1 := by decide
  have w2 : IntKind.i64.wrap (1 + 1) = 2 := by decide
  have nx : IntKind.i64.wrap (0 - x) = -x := by rw [w64] <;> omega
  have ny : IntKind.i64.wrap (0 - y) = -y := by rw [w64] <;> omega
  have mx : max x (-x) = (x.natAbs : Int) := by omega
  have my : max y (-y) = (y.natAbs : Int) := by omega
  (refine pure_of_ev tt_ok Try.func105 rfl (by decide +kernel) (Nat.le_of_ble_eq_true rfl) ?_; simp only [Try.f105])
  repeat' first
    | refine ev_seq (fun K hK => ?_)
    | ((first | refine evrd (id := 7) hmix tt_ok false [([], false), ([], false), ([], false), ([], false), ([], false), ([], false)] (by decide +kernel) ?_ | refine evrd (id := 9) hmix tt_ok false [([], false), ([], false), ([], false), ([], false), ([], false), ([], false), ([], false), ([], false), ([], false), ([], false), ([], false)] (by decide +kernel) ?_ | refine evr tt_ok false ?_ | refine ev_skip ?_ | refine ev_ret ?_ | refine ev_exit ?_ | refine evc (fun X Y hX hY => ?_)); simp only [go_sem, reduceAdd, reduceSub, reduceMul, reduceEqDiff, reduceLeDiff, Nat.reduceBEq, reduceLT, reduceIte, reduceCtorEq, Int.reduceToNat]; try (first | (refine ⟨fun h => hX ?_, fun h => hY ?_⟩; clear hX hY) | (refine hX ?_; clear hX hY) | (refine hY ?_; clear hX hY)))
    | refine ev_block ?_
    | (apply hK; clear hK)
    | apply_assumption -exfalso -symm only [*]
    | (refine And.intro ?_ ?_; first | omega | assumption | (unfold maxLen; omega) | (simp only [decide_eq_true_eq, decide_eq_false_iff_not, Int.not_lt, Int.not_le] at h; omega))
  refine ev_loop (fun p : Int × Nat => (p.1 = 0 ∧ p.2 = d.natAbs) ∨ (p.1 = 1 ∧ p.2 = Nat.gcd d.natAbs x.natAbs) ∨ (p.1 = 2 ∧ p.2 = g3 x y d))
    (fun p => ⟨38, [(14, .int .i64 p.1), (13, .agg [.int .i64 x, .int .i64 y]), (7, .int .i64 p.2), (6, .own 0 0 0 0), (0, .int .i64 x), (1, .int .i64 y), (2, .int .i64 d)], [.blk 104 0 3 [[.int .i64 0, .int .i64 0, .int .i64 0]]]⟩)
    (fun p => (2 - p.1).toNat) (0, d.natAbs) (.inl ⟨rfl, rfl⟩) ?_ ?_
  · have hdn : d = (d.natAbs : Int) := by omega
    simp only [go_sem, reduceAdd, reduceSub, reduceMul, reduceEqDiff, reduceLeDiff, Nat.reduceBEq, reduceLT, reduceIte, reduceCtorEq, Int.reduceToNat, fits, fitT, fitOs, fitO, V.under, unders, rowsUnder]
    repeat' first | rfl | (rw [← hdn]) | apply And.intro
  · rintro ⟨i, g⟩ (⟨h1, h2⟩ | ⟨h1, h2⟩ | ⟨h1, h2⟩)
    · simp only at h1 h2; subst h1 h2
      repeat' first
        | refine ev_seq (fun K hK => ?_)
        | ((first | refine evrd (id := 7) hmix tt_ok false [([], false), ([], false), ([], false), ([], false), ([], false), ([], false)] (by decide +kernel) ?_ | refine evrd (id := 9) hmix tt_ok false [([], false), ([], false), ([], false), ([], false), ([], false), ([], false), ([], false), ([], false), ([], false), ([], false), ([], false)] (by decide +kernel) ?_ | refine evr tt_ok false ?_ | refine ev_skip ?_ | refine ev_ret ?_ | refine ev_exit ?_ | refine evc (fun X Y hX hY => ?_)); simp only [go_sem, reduceAdd, reduceSub, reduceMul, reduceEqDiff, reduceLeDiff, Nat.reduceBEq, reduceLT, reduceIte, reduceCtorEq, Int.reduceToNat, w1, nx, mx, Int.reduceLT]; try (first | (refine ⟨fun h => hX ?_, fun h => hY ?_⟩; clear hX hY) | (refine hX ?_; clear hX hY) | (refine hY ?_; clear hX hY)))
        | refine ev_block ?_
        | (apply hK; clear hK)
        | apply_assumption -exfalso -symm only [*]
        | (refine And.intro ?_ ?_; first | omega | assumption | (unfold maxLen; omega) | (simp only [decide_eq_true_eq, decide_eq_false_iff_not, Int.not_lt, Int.not_le] at h; omega))
      refine ev_loop (fun q : Nat × Nat => Nat.gcd q.1 q.2 = Nat.gcd d.natAbs x.natAbs)
        (fun q => ⟨38, [(9, .int .i64 q.2), (14, .int .i64 0), (13, .agg [.int .i64 x, .int .i64 y]), (7, .int .i64 q.1), (6, .own 0 0 0 0), (0, .int .i64 x), (1, .int .i64 y), (2, .int .i64 d)], [.blk 104 0 3 [[.int .i64 0, .int .i64 0, .int .i64 0]]]⟩)
        (fun q => q.2) (d.natAbs, x.natAbs) rfl ?_ ?_
      · simp only [go_sem, reduceAdd, reduceSub, reduceMul, reduceEqDiff, reduceLeDiff, Nat.reduceBEq, reduceLT, reduceIte, reduceCtorEq, Int.reduceToNat, fits, fitT, fitOs, fitO, V.under, unders, rowsUnder]
        repeat' first | rfl | apply And.intro
      · rintro ⟨g, n⟩ hg
        simp only at hg
        have ht := tmod_nat g n
        by_cases hn : n = 0
        · have hne : (((n : Nat) : Int) != 0) = false := by simp [hn]
          subst hn
          repeat' first
            | refine ev_seq (fun K hK => ?_)
            | ((first | refine evrd (id := 7) hmix tt_ok false [([], false), ([], false), ([], false), ([], false), ([], false), ([], false)] (by decide +kernel) ?_ | refine evrd (id := 9) hmix tt_ok false [([], false), ([], false), ([], false), ([], false), ([], false), ([], false), ([], false), ([], false), ([], false), ([], false), ([], false)] (by decide +kernel) ?_ | refine evr tt_ok false ?_ | refine ev_skip ?_ | refine ev_ret ?_ | refine ev_exit ?_ | refine evc (fun X Y hX hY => ?_)); simp only [go_sem, reduceAdd, reduceSub, reduceMul, reduceEqDiff, reduceLeDiff, Nat.reduceBEq, reduceLT, reduceIte, reduceCtorEq, Int.reduceToNat, hne, w1]; try (first | (refine ⟨fun h => hX ?_, fun h => hY ?_⟩; clear hX hY) | (refine hX ?_; clear hX hY) | (refine hY ?_; clear hX hY)))
            | refine ev_block ?_
            | (apply hK; clear hK)
            | apply_assumption -exfalso -symm only [*]
            | (refine And.intro ?_ ?_; first | omega | assumption | (unfold maxLen; omega) | (simp only [decide_eq_true_eq, decide_eq_false_iff_not, Int.not_lt, Int.not_le] at h; omega))
          exact ⟨(1, g), .inr (.inl ⟨rfl, by rw [Nat.gcd_zero_right] at hg; exact hg⟩), ⟨rfl, rfl⟩, by simp only; omega⟩
        · have hne : (((n : Nat) : Int) != 0) = true := by simp [hn]
          have hn0 : ¬ ((n : Int) = 0) := by omega
          repeat' first
            | refine ev_seq (fun K hK => ?_)
            | ((first | refine evrd (id := 7) hmix tt_ok false [([], false), ([], false), ([], false), ([], false), ([], false), ([], false)] (by decide +kernel) ?_ | refine evrd (id := 9) hmix tt_ok false [([], false), ([], false), ([], false), ([], false), ([], false), ([], false), ([], false), ([], false), ([], false), ([], false), ([], false)] (by decide +kernel) ?_ | refine evr tt_ok false ?_ | refine ev_skip ?_ | refine ev_ret ?_ | refine ev_exit ?_ | refine evc (fun X Y hX hY => ?_)); simp only [go_sem, reduceAdd, reduceSub, reduceMul, reduceEqDiff, reduceLeDiff, Nat.reduceBEq, reduceLT, reduceIte, reduceCtorEq, Int.reduceToNat, hne, hn0, ht]; try (first | (refine ⟨fun h => hX ?_, fun h => hY ?_⟩; clear hX hY) | (refine hX ?_; clear hX hY) | (refine hY ?_; clear hX hY)))
            | refine ev_block ?_
            | (apply hK; clear hK)
            | apply_assumption -exfalso -symm only [*]
            | (refine And.intro ?_ ?_; first | omega | assumption | (unfold maxLen; omega) | (simp only [decide_eq_true_eq, decide_eq_false_iff_not, Int.not_lt, Int.not_le] at h; omega))
          exact ⟨(n, g % n), by rw [← hg, Nat.gcd_comm g n, Nat.gcd_rec n g, Nat.gcd_comm], ⟨rfl, rfl⟩, Nat.mod_lt _ (by omega)⟩
    · simp only at h1 h2; subst h1 h2
      repeat' first
        | refine ev_seq (fun K hK => ?_)
        | ((first | refine evrd (id := 7) hmix tt_ok false [([], false), ([], false), ([], false), ([], false), ([], false), ([], false)] (by decide +kernel) ?_ | refine evrd (id := 9) hmix tt_ok false [([], false), ([], false), ([], false), ([], false), ([], false), ([], false), ([], false), ([], false), ([], false), ([], false), ([], false)] (by decide +kernel) ?_ | refine evr tt_ok false ?_ | refine ev_skip ?_ | refine ev_ret ?_ | refine ev_exit ?_ | refine evc (fun X Y hX hY => ?_)); simp only [go_sem, reduceAdd, reduceSub, reduceMul, reduceEqDiff, reduceLeDiff, Nat.reduceBEq, reduceLT, reduceIte, reduceCtorEq, Int.reduceToNat, w2, ny, my, Int.reduceLT]; try (first | (refine ⟨fun h => hX ?_, fun h => hY ?_⟩; clear hX hY) | (refine hX ?_; clear hX hY) | (refine hY ?_; clear hX hY)))
        | refine ev_block ?_
        | (apply hK; clear hK)
        | apply_assumption -exfalso -symm only [*]
        | (refine And.intro ?_ ?_; first | omega | assumption | (unfold maxLen; omega) | (simp only [decide_eq_true_eq, decide_eq_false_iff_not, Int.not_lt, Int.not_le] at h; omega))
      refine ev_loop (fun q : Nat × Nat => Nat.gcd q.1 q.2 = g3 x y d)
        (fun q => ⟨38, [(9, .int .i64 q.2), (14, .int .i64 1), (13, .agg [.int .i64 x, .int .i64 y]), (7, .int .i64 q.1), (6, .own 0 0 0 0), (0, .int .i64 x), (1, .int .i64 y), (2, .int .i64 d)], [.blk 104 0 3 [[.int .i64 0, .int .i64 0, .int .i64 0]]]⟩)
        (fun q => q.2) (Nat.gcd d.natAbs x.natAbs, y.natAbs) rfl ?_ ?_
      · simp only [go_sem, reduceAdd, reduceSub, reduceMul, reduceEqDiff, reduceLeDiff, Nat.reduceBEq, reduceLT, reduceIte, reduceCtorEq, Int.reduceToNat, fits, fitT, fitOs, fitO, V.under, unders, rowsUnder]
        repeat' first | rfl | apply And.intro
      · rintro ⟨g, n⟩ hg
        simp only at hg
        have ht := tmod_nat g n
        by_cases hn : n = 0
        · have hne : (((n : Nat) : Int) != 0) = false := by simp [hn]
          subst hn
          repeat' first
            | refine ev_seq (fun K hK => ?_)
            | ((first | refine evrd (id := 7) hmix tt_ok false [([], false), ([], false), ([], false), ([], false), ([], false), ([], false)] (by decide +kernel) ?_ | refine evrd (id := 9) hmix tt_ok false [([], false), ([], false), ([], false), ([], false), ([], false), ([], false), ([], false), ([], false), ([], false), ([], false), ([], false)] (by decide +kernel) ?_ | refine evr tt_ok false ?_ | refine ev_skip ?_ | refine ev_ret ?_ | refine ev_exit ?_ | refine evc (fun X Y hX hY => ?_)); simp only [go_sem, reduceAdd, reduceSub, reduceMul, reduceEqDiff, reduceLeDiff, Nat.reduceBEq, reduceLT, reduceIte, reduceCtorEq, Int.reduceToNat, hne, w2]; try (first | (refine ⟨fun h => hX ?_, fun h => hY ?_⟩; clear hX hY) | (refine hX ?_; clear hX hY) | (refine hY ?_; clear hX hY)))
            | refine ev_block ?_
            | (apply hK; clear hK)
            | apply_assumption -exfalso -symm only [*]
            | (refine And.intro ?_ ?_; first | omega | assumption | (unfold maxLen; omega) | (simp only [decide_eq_true_eq, decide_eq_false_iff_not, Int.not_lt, Int.not_le] at h; omega))
          exact ⟨(2, g), .inr (.inr ⟨rfl, by rw [Nat.gcd_zero_right] at hg; exact hg⟩), ⟨rfl, rfl⟩, by simp only; omega⟩
        · have hne : (((n : Nat) : Int) != 0) = true := by simp [hn]
          have hn0 : ¬ ((n : Int) = 0) := by omega
          repeat' first
            | refine ev_seq (fun K hK => ?_)
            | ((first | refine evrd (id := 7) hmix tt_ok false [([], false), ([], false), ([], false), ([], false), ([], false), ([], false)] (by decide +kernel) ?_ | refine evrd (id := 9) hmix tt_ok false [([], false), ([], false), ([], false), ([], false), ([], false), ([], false), ([], false), ([], false), ([], false), ([], false), ([], false)] (by decide +kernel) ?_ | refine evr tt_ok false ?_ | refine ev_skip ?_ | refine ev_ret ?_ | refine ev_exit ?_ | refine evc (fun X Y hX hY => ?_)); simp only [go_sem, reduceAdd, reduceSub, reduceMul, reduceEqDiff, reduceLeDiff, Nat.reduceBEq, reduceLT, reduceIte, reduceCtorEq, Int.reduceToNat, hne, hn0, ht]; try (first | (refine ⟨fun h => hX ?_, fun h => hY ?_⟩; clear hX hY) | (refine hX ?_; clear hX hY) | (refine hY ?_; clear hX hY)))
            | refine ev_block ?_
            | (apply hK; clear hK)
            | apply_assumption -exfalso -symm only [*]
            | (refine And.intro ?_ ?_; first | omega | assumption | (unfold maxLen; omega) | (simp only [decide_eq_true_eq, decide_eq_false_iff_not, Int.not_lt, Int.not_le] at h; omega))
          exact ⟨(n, g % n), by rw [← hg, Nat.gcd_comm g n, Nat.gcd_rec n g, Nat.gcd_comm], ⟨rfl, rfl⟩, Nat.mod_lt _ (by omega)⟩
    · simp only at h1 h2; subst h1 h2
      have gp := g3_pos (x := x) (y := y) hd.1
      have e1 := div_exact gp (g3_x x y d) hx
      have e2 := div_exact gp (g3_y x y d) hy
      have e3 := div_exact gp (g3_d x y d) (by omega)
      have hg0 : ¬ ((g3 x y d : Nat) : Int) = 0 := by omega
      repeat' first
        | refine ev_seq (fun K hK => ?_)
        | ((first | refine evrd (id := 7) hmix tt_ok false [([], false), ([], false), ([], false), ([], false), ([], false), ([], false)] (by decide +kernel) ?_ | refine evrd (id := 9) hmix tt_ok false [([], false), ([], false), ([], false), ([], false), ([], false), ([], false), ([], false), ([], false), ([], false), ([], false), ([], false)] (by decide +kernel) ?_ | refine evr tt_ok false ?_ | refine ev_skip ?_ | refine ev_ret ?_ | refine ev_exit ?_ | refine evc (fun X Y hX hY => ?_)); simp only [go_sem, reduceAdd, reduceSub, reduceMul, reduceEqDiff, reduceLeDiff, Nat.reduceBEq, reduceLT, reduceIte, reduceCtorEq, Int.reduceToNat, e1, e2, e3, hg0, Int.reduceLT]; try (first | (refine ⟨fun h => hX ?_, fun h => hY ?_⟩; clear hX hY) | (refine hX ?_; clear hX hY) | (refine hY ?_; clear hX hY)))
        | refine ev_block ?_
        | (apply hK; clear hK)
        | apply_assumption -exfalso -symm only [*]
        | (refine And.intro ?_ ?_; first | omega | assumption | (unfold maxLen; omega) | (simp only [decide_eq_true_eq, decide_eq_false_iff_not, Int.not_lt, Int.not_le] at h; omega))
      rfl
end Go.Proofs.Ytmpmggbcmioipaa
