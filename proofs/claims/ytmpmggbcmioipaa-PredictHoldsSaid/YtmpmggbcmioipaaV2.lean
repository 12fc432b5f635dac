import Derived.Test.YtmpmggbcmioipaaV1
set_option linter.all false
namespace Go.Proofs.Ytmpmggbcmioipaa
open Nat (reduceAdd reduceSub reduceMul reduceEqDiff reduceLeDiff reduceLT)
open Go Go.K
set_option maxRecDepth 20000
set_option maxHeartbeats 4000000
theorem abs_pure (x : Int) (hx : -4611686018427387904 ≤ x ∧ x ≤ 4611686018427387904) : Pure Try.prog 103 [.int .i64 x] (.int .i64 (x.natAbs : Int)) := by
  have nx : IntKind.i64.wrap (0 - x) = -x := by rw [w64] <;> omega
  (refine pure_of_ev tt_ok Try.func103 rfl (by decide +kernel) (Nat.le_of_ble_eq_true rfl) ?_; simp only [Try.f103])
  repeat' first
    | refine ev_seq (fun K hK => ?_)
    | ((first | refine evr tt_ok false ?_ | refine ev_skip ?_ | refine ev_ret ?_ | refine ev_exit ?_ | refine evc (fun X Y hX hY => ?_)); simp only [go_sem, reduceAdd, reduceSub, reduceMul, reduceEqDiff, reduceLeDiff, Nat.reduceBEq, reduceLT, reduceIte, reduceCtorEq, Int.reduceToNat, nx]; try (first | (refine ⟨fun h => hX ?_, fun h => hY ?_⟩; clear hX hY) | (refine hX ?_; clear hX hY) | (refine hY ?_; clear hX hY)))
    | refine ev_block ?_
    | (apply hK; clear hK)
    | apply_assumption -exfalso -symm only [*]
    | (refine And.intro ?_ ?_; first | omega | assumption | (unfold maxLen; omega) | (simp only [decide_eq_true_eq, decide_eq_false_iff_not, Int.not_lt, Int.not_le] at h; omega))
  · simp at h; congr 1; omega
  · simp at h; congr 1; omega
theorem gcd_pure (a b c : Nat) : Pure Try.prog 102 [.int .i64 a, .int .i64 b, .int .i64 c] (.int .i64 ((Nat.gcd (Nat.gcd a b) c : Nat) : Int)) := by
  (refine pure_of_ev tt_ok Try.func102 rfl (by decide +kernel) (Nat.le_of_ble_eq_true rfl) ?_; simp only [Try.f102])
  repeat' first
    | refine ev_seq (fun K hK => ?_)
    | ((first | refine evr tt_ok false ?_ | refine ev_skip ?_ | refine ev_ret ?_ | refine ev_exit ?_ | refine evc (fun X Y hX hY => ?_)); simp only [go_sem, reduceAdd, reduceSub, reduceMul, reduceEqDiff, reduceLeDiff, Nat.reduceBEq, reduceLT, reduceIte, reduceCtorEq, Int.reduceToNat]; try (first | (refine ⟨fun h => hX ?_, fun h => hY ?_⟩; clear hX hY) | (refine hX ?_; clear hX hY) | (refine hY ?_; clear hX hY)))
    | refine ev_block ?_
    | (apply hK; clear hK)
    | apply_assumption -exfalso -symm only [*]
    | (refine And.intro ?_ ?_; first | omega | assumption | (unfold maxLen; omega) | (simp only [decide_eq_true_eq, decide_eq_false_iff_not, Int.not_lt, Int.not_le] at h; omega))
  refine ev_loop (fun q : Nat × Nat => Nat.gcd q.1 q.2 = Nat.gcd a b)
    (fun q => ⟨24, [(0, .int .i64 q.1), (1, .int .i64 q.2), (2, .int .i64 c)], []⟩) (fun q => q.2) (a, b) rfl ?_ ?_
  · simp only [go_sem, reduceAdd, reduceSub, reduceMul, reduceEqDiff, reduceLeDiff, Nat.reduceBEq, reduceLT, reduceIte, reduceCtorEq, Int.reduceToNat, fits, fitT, fitOs, fitO, V.under, unders, rowsUnder]
    repeat' first | rfl | apply And.intro
  · rintro ⟨g, n⟩ hg
    simp only at hg
    have ht := tmod_nat g n
    by_cases hn : n = 0
    · have hne : decide ((0 : Int) < ((n : Nat) : Int)) = false := by simp [hn]
      subst hn
      rw [Nat.gcd_zero_right] at hg
      subst hg
      repeat' first
        | refine ev_seq (fun K hK => ?_)
        | ((first | refine evr tt_ok false ?_ | refine ev_skip ?_ | refine ev_ret ?_ | refine ev_exit ?_ | refine evc (fun X Y hX hY => ?_)); simp only [go_sem, reduceAdd, reduceSub, reduceMul, reduceEqDiff, reduceLeDiff, Nat.reduceBEq, reduceLT, reduceIte, reduceCtorEq, Int.reduceToNat, hne]; try (first | (refine ⟨fun h => hX ?_, fun h => hY ?_⟩; clear hX hY) | (refine hX ?_; clear hX hY) | (refine hY ?_; clear hX hY)))
        | refine ev_block ?_
        | (apply hK; clear hK)
        | apply_assumption -exfalso -symm only [*]
        | (refine And.intro ?_ ?_; first | omega | assumption | (unfold maxLen; omega) | (simp only [decide_eq_true_eq, decide_eq_false_iff_not, Int.not_lt, Int.not_le] at h; omega))
      refine ev_loop (fun q : Nat × Nat => Nat.gcd q.1 q.2 = Nat.gcd (Nat.gcd a b) c)
        (fun q => ⟨24, [(0, .int .i64 q.1), (2, .int .i64 q.2)], []⟩) (fun q => q.2) (Nat.gcd a b, c) rfl ?_ ?_
      · simp only [go_sem, reduceAdd, reduceSub, reduceMul, reduceEqDiff, reduceLeDiff, Nat.reduceBEq, reduceLT, reduceIte, reduceCtorEq, Int.reduceToNat, fits, fitT, fitOs, fitO, V.under, unders, rowsUnder]
        repeat' first | rfl | apply And.intro
      · rintro ⟨g, n⟩ hg
        simp only at hg
        have ht := tmod_nat g n
        by_cases hn : n = 0
        · have hne : decide ((0 : Int) < ((n : Nat) : Int)) = false := by simp [hn]
          subst hn
          rw [Nat.gcd_zero_right] at hg
          repeat' first
            | refine ev_seq (fun K hK => ?_)
            | ((first | refine evr tt_ok false ?_ | refine ev_skip ?_ | refine ev_ret ?_ | refine ev_exit ?_ | refine evc (fun X Y hX hY => ?_)); simp only [go_sem, reduceAdd, reduceSub, reduceMul, reduceEqDiff, reduceLeDiff, Nat.reduceBEq, reduceLT, reduceIte, reduceCtorEq, Int.reduceToNat, hne]; try (first | (refine ⟨fun h => hX ?_, fun h => hY ?_⟩; clear hX hY) | (refine hX ?_; clear hX hY) | (refine hY ?_; clear hX hY)))
            | refine ev_block ?_
            | (apply hK; clear hK)
            | apply_assumption -exfalso -symm only [*]
            | (refine And.intro ?_ ?_; first | omega | assumption | (unfold maxLen; omega) | (simp only [decide_eq_true_eq, decide_eq_false_iff_not, Int.not_lt, Int.not_le] at h; omega))
          rw [hg]
        · have hne : decide ((0 : Int) < ((n : Nat) : Int)) = true := by simp; omega
          have hn0 : ¬ ((n : Int) = 0) := by omega
          repeat' first
            | refine ev_seq (fun K hK => ?_)
            | ((first | refine evr tt_ok false ?_ | refine ev_skip ?_ | refine ev_ret ?_ | refine ev_exit ?_ | refine evc (fun X Y hX hY => ?_)); simp only [go_sem, reduceAdd, reduceSub, reduceMul, reduceEqDiff, reduceLeDiff, Nat.reduceBEq, reduceLT, reduceIte, reduceCtorEq, Int.reduceToNat, hne, hn0, ht]; try (first | (refine ⟨fun h => hX ?_, fun h => hY ?_⟩; clear hX hY) | (refine hX ?_; clear hX hY) | (refine hY ?_; clear hX hY)))
            | refine ev_block ?_
            | (apply hK; clear hK)
            | apply_assumption -exfalso -symm only [*]
            | (refine And.intro ?_ ?_; first | omega | assumption | (unfold maxLen; omega) | (simp only [decide_eq_true_eq, decide_eq_false_iff_not, Int.not_lt, Int.not_le] at h; omega))
          exact ⟨(n, g % n), by rw [← hg, Nat.gcd_comm g n, Nat.gcd_rec n g, Nat.gcd_comm], (by repeat' first | rfl | apply And.intro), Nat.mod_lt _ (by omega)⟩
    · have hne : decide ((0 : Int) < ((n : Nat) : Int)) = true := by simp; omega
      have hn0 : ¬ ((n : Int) = 0) := by omega
      repeat' first
        | refine ev_seq (fun K hK => ?_)
        | ((first | refine evr tt_ok false ?_ | refine ev_skip ?_ | refine ev_ret ?_ | refine ev_exit ?_ | refine evc (fun X Y hX hY => ?_)); simp only [go_sem, reduceAdd, reduceSub, reduceMul, reduceEqDiff, reduceLeDiff, Nat.reduceBEq, reduceLT, reduceIte, reduceCtorEq, Int.reduceToNat, hne, hn0, ht]; try (first | (refine ⟨fun h => hX ?_, fun h => hY ?_⟩; clear hX hY) | (refine hX ?_; clear hX hY) | (refine hY ?_; clear hX hY)))
        | refine ev_block ?_
        | (apply hK; clear hK)
        | apply_assumption -exfalso -symm only [*]
        | (refine And.intro ?_ ?_; first | omega | assumption | (unfold maxLen; omega) | (simp only [decide_eq_true_eq, decide_eq_false_iff_not, Int.not_lt, Int.not_le] at h; omega))
      exact ⟨(n, g % n), by rw [← hg, Nat.gcd_comm g n, Nat.gcd_rec n g, Nat.gcd_comm], (by repeat' first | rfl | apply And.intro), Nat.mod_lt _ (by omega)⟩
theorem g3_ref (x y d : Int) : Nat.gcd (Nat.gcd x.natAbs y.natAbs) d.natAbs = g3 x y d := by
  unfold g3
  rw [Nat.gcd_comm _ d.natAbs, ← Nat.gcd_assoc]
theorem rlowest_pure (x y d : Int) (hd : 0 < d ∧ d ≤ 4611686018427387904) (hx : -4611686018427387904 ≤ x ∧ x ≤ 4611686018427387904) (hy : -4611686018427387904 ≤ y ∧ y ≤ 4611686018427387904) :
    Pure Try.prog 95 [.int .i64 x, .int .i64 y, .int .i64 d] (.agg (encVec (low x y d))) := by
  have hg := gcd_pure x.natAbs y.natAbs d.natAbs
  rw [g3_ref, show ((d.natAbs : Nat) : Int) = d by omega] at hg
  have gp := g3_pos (x := x) (y := y) hd.1
  have e1 := div_exact gp (g3_x x y d) hx
  have e2 := div_exact gp (g3_y x y d) hy
  have e3 := div_exact gp (g3_d x y d) (by omega)
  have hg0 : ¬ ((g3 x y d : Nat) : Int) = 0 := by omega
  (refine pure_of_ev tt_ok Try.func95 rfl (by decide +kernel) (Nat.le_of_ble_eq_true rfl) ?_; simp only [Try.f95])
  repeat' first
    | refine ev_seq (fun K hK => ?_)
    | ((first | refine evrd (id := 2) hmix tt_ok false [([], false), ([], false), ([], false), ([], false), ([], false), ([], false), ([], false), ([], false), ([], false), ([], false), ([], false)] (by decide +kernel) ?_ | refine evr tt_ok false ?_ | refine ev_skip ?_ | refine ev_ret ?_ | refine ev_exit ?_ | refine evc (fun X Y hX hY => ?_)); simp only [go_sem, reduceAdd, reduceSub, reduceMul, reduceEqDiff, reduceLeDiff, Nat.reduceBEq, reduceLT, reduceIte, reduceCtorEq, Int.reduceToNat, e1, e2, e3, hg0]; try (first | (refine ⟨fun h => hX ?_, fun h => hY ?_⟩; clear hX hY) | (refine hX ?_; clear hX hY) | (refine hY ?_; clear hX hY)))
    | refine ev_block ?_
    | (apply hK; clear hK)
    | apply_assumption -exfalso -symm only [*]
    | (refine And.intro ?_ ?_; first | omega | assumption | (unfold maxLen; omega) | (simp only [decide_eq_true_eq, decide_eq_false_iff_not, Int.not_lt, Int.not_le] at h; omega))
    | ((first | apply callP | apply callPG | apply callP0); (case' hv => (simp only [go_sem, reduceAdd, reduceSub, reduceMul, reduceEqDiff, reduceLeDiff, Nat.reduceBEq, reduceLT, reduceIte, reduceCtorEq, Int.reduceToNat, e1, e2, e3, hg0]; try exact rfl)); (case' hp => (first | refine' abs_pure x hx | (refine' (fun hg => ?_); refine' abs_pure x hx) | refine' abs_pure y hy | (refine' (fun hg => ?_); refine' abs_pure y hy) | refine' hg | (refine' (fun hg => ?_); refine' hg))); (case' h => ((first | refine evOps_fin ?_ | refine And.intro ?_ (evD_fin ?_) | refine evD_fin ?_) <;> simp only [go_sem, reduceAdd, reduceSub, reduceMul, reduceEqDiff, reduceLeDiff, Nat.reduceBEq, reduceLT, reduceIte, reduceCtorEq, Int.reduceToNat, e1, e2, e3, hg0])))
    | (refine callX ?_; (first | refine evOps_fin ?_ | refine And.intro ?_ (evD_fin ?_) | refine evD_fin ?_) <;> simp only [go_sem, reduceAdd, reduceSub, reduceMul, reduceEqDiff, reduceLeDiff, Nat.reduceBEq, reduceLT, reduceIte, reduceCtorEq, Int.reduceToNat, e1, e2, e3, hg0])
  rfl
structure VecR where
  (v : Vec)
  (e : Int)
def encVR (r : VecR) : V := .tup [.agg (encVec r.v), .int .i64 r.e]
def Vec.zero : Vec := ⟨0, 0, 0⟩
def normM (v : Vec) : VecR := if v.ok then ⟨lowV v, 0⟩ else ⟨Vec.zero, 1⟩
def turnM (a b : Vec) : VecR := if a.ok ∧ b.ok then (if 67108864 < (lowV (mulV a b)).d then ⟨Vec.zero, 2⟩ else ⟨lowV (mulV a b), 0⟩) else ⟨Vec.zero, 1⟩
theorem prod_le {x y k : Int} (hk : 0 ≤ k) (h1 : -k ≤ x) (h2 : x ≤ k) (h3 : -k ≤ y) (h4 : y ≤ k) : -(k * k) ≤ x * y ∧ x * y ≤ k * k := by
  have key : ∀ {x y : Int}, 0 ≤ x → x ≤ k → 0 ≤ y → y ≤ k → 0 ≤ x * y ∧ x * y ≤ k * k := fun a b c d => ⟨Int.mul_nonneg a c, Int.mul_le_mul b d c hk⟩
  rcases Int.le_total 0 x with hx | hx <;> rcases Int.le_total 0 y with hy | hy
  · have := key hx h2 hy h4; omega
  · have := key hx h2 (y := -y) (by omega) (by omega); rw [Int.mul_neg] at this; omega
  · have := key (x := -x) (by omega) (by omega) hy h4; rw [Int.neg_mul] at this; omega
  · have := key (x := -x) (y := -y) (by omega) (by omega) (by omega) (by omega); rw [Int.neg_mul_neg] at this; omega
structure Prods (a b : Vec) : Prop where
  xx : IntKind.i64.wrap (a.x * b.x) = a.x * b.x
  yy : IntKind.i64.wrap (a.y * b.y) = a.y * b.y
  xy : IntKind.i64.wrap (a.x * b.y) = a.x * b.y
  yx : IntKind.i64.wrap (a.y * b.x) = a.y * b.x
  dd : IntKind.i64.wrap (a.d * b.d) = a.d * b.d
  sub : IntKind.i64.wrap (a.x * b.x - a.y * b.y) = a.x * b.x - a.y * b.y
  add : IntKind.i64.wrap (a.x * b.y + a.y * b.x) = a.x * b.y + a.y * b.x
  cr : IntKind.i64.wrap (a.x * b.y - a.y * b.x) = a.x * b.y - a.y * b.x
  bd : 0 < a.d * b.d ∧ a.d * b.d ≤ 4611686018427387904
  bx : -4611686018427387904 ≤ a.x * b.x - a.y * b.y ∧ a.x * b.x - a.y * b.y ≤ 4611686018427387904
  by' : -4611686018427387904 ≤ a.x * b.y + a.y * b.x ∧ a.x * b.y + a.y * b.x ≤ 4611686018427387904
theorem prods {a b : Vec} (ha : a.ok) (hb : b.ok) : Prods a b := by
  obtain ⟨a1, a2, a3, a4, a5, a6, a7⟩ := ha
  obtain ⟨b1, b2, b3, b4, b5, b6, b7⟩ := hb
  have xx := prod_le (x := a.x) (y := b.x) (k := 67108864) (by omega) (by omega) (by omega) (by omega) (by omega)
  have yy := prod_le (x := a.y) (y := b.y) (k := 67108864) (by omega) (by omega) (by omega) (by omega) (by omega)
  have xy := prod_le (x := a.x) (y := b.y) (k := 67108864) (by omega) (by omega) (by omega) (by omega) (by omega)
  have yx := prod_le (x := a.y) (y := b.x) (k := 67108864) (by omega) (by omega) (by omega) (by omega) (by omega)
  have dd := prod_le (x := a.d) (y := b.d) (k := 67108864) (by omega) (by omega) (by omega) (by omega) (by omega)
  have dp := Int.mul_pos (show 0 < a.d by omega) (show 0 < b.d by omega)
  constructor <;> first | (rw [w64 (by omega) (by omega)]) | omega
end Go.Proofs.Ytmpmggbcmioipaa
