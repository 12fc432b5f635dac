import Derived.Test.YtbibplkhhdomnaaGreatW15
import Derived.Test.YtbibplkhhdomnaaGreatW11
set_option linter.all false
namespace Go.Proofs.YtbibplkhhdomnaaGreat
open Nat (reduceAdd reduceSub reduceMul reduceEqDiff reduceLeDiff reduceLT)
open Go Go.K
set_option maxRecDepth 20000
set_option maxHeartbeats 4000000
theorem div_exact {x : Int} {g : Nat} (hg : 0 < g) (h : (g : Int) ∣ x) (hx : -4611686018427387904 ≤ x ∧ x ≤ 4611686018427387904) : IntKind.i64.wrap (x.tdiv g) = x / g := by
  rw [Int.tdiv_eq_ediv_of_dvd h]
  have hg' : (0 : Int) < g := by omega
  have l1 : -4611686018427387904 ≤ x / g := Int.le_ediv_of_mul_le hg' (by omega)
  have l2 : x / g ≤ 4611686018427387904 := Int.ediv_le_of_le_mul hg' (by omega)
  rw [w64 (by omega) (by omega)]
theorem tmod_nat (g n : Nat) : (g : Int).tmod (n : Int) = ((g % n : Nat) : Int) := by
  rw [Int.tmod_eq_emod_of_nonneg (by omega)]; exact (Int.natCast_emod g n).symm
theorem lowest_pure (x y d : Int) (hd : 0 < d ∧ d ≤ 4611686018427387904) (hx : -4611686018427387904 ≤ x ∧ x ≤ 4611686018427387904) (hy : -4611686018427387904 ≤ y ∧ y ≤ 4611686018427387904) :
    Pure Tryz.prog 76 [.int .i64 x, .int .i64 y, .int .i64 d] (.agg (encVec (low x y d))) := by
  have w1 : IntKind.i64.wrap (0 + 1) = 1 := by decide
  have w2 : IntKind.i64.wrap (1 + 1) = 2 := by decide
  have nx : IntKind.i64.wrap (0 - x) = -x := by rw [w64] <;> omega
  have ny : IntKind.i64.wrap (0 - y) = -y := by rw [w64] <;> omega
  have mx : max x (-x) = (x.natAbs : Int) := by omega
  have my : max y (-y) = (y.natAbs : Int) := by omega
  (refine pure_of_ev tt_ok Tryz.func76 rfl (by decide +kernel) (Nat.le_of_ble_eq_true rfl) ?_; simp only [Tryz.f76])
  repeat' first
    | refine ev_seq (fun K hK => ?_)
    | ((first | refine evrd (id := 7) hmix tt_ok false [([], false), ([], false), ([], false), ([], false), ([], false), ([], false)] (by decide +kernel) ?_ | refine evrd (id := 9) hmix tt_ok false [([], false), ([], false), ([], false), ([], false), ([], false), ([], false), ([], false), ([], false), ([], false), ([], false), ([], false)] (by decide +kernel) ?_ | refine evr tt_ok false ?_ | refine ev_skip ?_ | refine ev_ret ?_ | refine ev_exit ?_ | refine evc (fun X Y hX hY => ?_)); simp only [go_sem, reduceAdd, reduceSub, reduceMul, reduceEqDiff, reduceLeDiff, Nat.reduceBEq, reduceLT, reduceIte, reduceCtorEq, Int.reduceToNat]; try (first | (refine ⟨fun h => hX ?_, fun h => hY ?_⟩; clear hX hY) | (refine hX ?_; clear hX hY) | (refine hY ?_; clear hX hY)))
    | refine ev_block ?_
    | (apply hK; clear hK)
    | apply_assumption -exfalso -symm only [*]
    | (refine And.intro ?_ ?_; first | omega | assumption | (unfold maxLen; omega) | (simp only [decide_eq_true_eq, decide_eq_false_iff_not, Int.not_lt, Int.not_le] at h; omega))
  refine ev_loop (fun p : Int × Nat => (p.1 = 0 ∧ p.2 = d.natAbs) ∨ (p.1 = 1 ∧ p.2 = Nat.gcd d.natAbs x.natAbs) ∨ (p.1 = 2 ∧ p.2 = g3 x y d))
    (fun p => ⟨38, [(14, .int .i64 p.1), (13, .agg [.int .i64 x, .int .i64 y]), (7, .int .i64 p.2), (6, .own 0 0 0 0), (0, .int .i64 x), (1, .int .i64 y), (2, .int .i64 d)], [.blk 83 0 3 [[.int .i64 0, .int .i64 0, .int .i64 0]]]⟩)
    (fun p => (2 - p.1).toNat) (0, d.natAbs) (.inl ⟨rfl, rfl⟩) ?_ ?_
  · have hdn : d = (d.natAbs : Int) := by omega
    simp only [go_sem, reduceAdd, reduceSub, reduceMul, reduceEqDiff, reduceLeDiff, Nat.reduceBEq, reduceLT, reduceIte, reduceCtorEq, Int.reduceToNat, fits, fitT, fitOs, fitO, V.under, unders, rowsUnder]
    repeat' first | rfl | (rw [← hdn]) | apply And.intro
  · rintro ⟨i, g⟩ (⟨h1, h2⟩ | ⟨h1, h2⟩ | ⟨h1, h2⟩)
    · simp only at h1 h2; subst h1 h2
      repeat' first
        | refine ev_seq (fun K hK => ?_)
        | ((first | refine evrd (id := 7) hmix tt_ok false [([], false), ([], false), ([], false), ([], false), ([], false), ([], false)] (by decide +kernel) ?_ | refine evrd (id := 9) hmix tt_ok false [([], false), ([], false), ([], false), ([], false), ([], false), ([], false), ([], false), ([], false), ([], false), ([], false), ([], false)] (by decide +kernel) ?_ | refine evr tt_ok false ?_ | refine ev_skip ?_ | refine ev_ret ?_ | refine ev_exit ?_ | refine evc (fun X Y hX hY => ?_)); simp only [go_sem, reduceAdd, reduceSub, reduceMul, reduceEqDiff, reduceLeDiff, Nat.reduceBEq, reduceLT, reduceIte, reduceCtorEq, Int.reduceToNat, w1, nx, mx, Int.reduceLT]; try (first | (refine ⟨fun h => hX ?_, fun h => hY ?_⟩; clear hX hY) | (refine hX ?_; clear hX hY) | (refine hY ?_; clear hX hY)))
        | refine ev_block ?_
        | (apply hK; clear hK)
        | apply_assumption -exfalso -symm only [*]
        | (refine And.intro ?_ ?_; first | omega | assumption | (unfold maxLen; omega) | (simp only [decide_eq_true_eq, decide_eq_false_iff_not, Int.not_lt, Int.not_le] at h; omega))
      refine ev_loop (fun q : Nat × Nat => Nat.gcd q.1 q.2 = Nat.gcd d.natAbs x.natAbs)
        (fun q => ⟨38, [(9, .int .i64 q.2), (14, .int .i64 0), (13, .agg [.int .i64 x, .int .i64 y]), (7, .int .i64 q.1), (6, .own 0 0 0 0), (0, .int .i64 x), (1, .int .i64 y), (2, .int .i64 d)], [.blk 83 0 3 [[.int .i64 0, .int .i64 0, .int .i64 0]]]⟩)
        (fun q => q.2) (d.natAbs, x.natAbs) rfl ?_ ?_
      · simp only [go_sem, reduceAdd, reduceSub, reduceMul, reduceEqDiff, reduceLeDiff, Nat.reduceBEq, reduceLT, reduceIte, reduceCtorEq, Int.reduceToNat, fits, fitT, fitOs, fitO, V.under, unders, rowsUnder]
        repeat' first | rfl | apply And.intro
      · rintro ⟨g, n⟩ hg
        simp only at hg
        have ht := tmod_nat g n
        by_cases hn : n = 0
        · have hne : (((n : Nat) : Int) != 0) = false := by simp [hn]
          subst hn
          repeat' first
            | refine ev_seq (fun K hK => ?_)
            | ((first | refine evrd (id := 7) hmix tt_ok false [([], false), ([], false), ([], false), ([], false), ([], false), ([], false)] (by decide +kernel) ?_ | refine evrd (id := 9) hmix tt_ok false [([], false), ([], false), ([], false), ([], false), ([], false), ([], false), ([], false), ([], false), ([], false), ([], false), ([], false)] (by decide +kernel) ?_ | refine evr tt_ok false ?_ | refine ev_skip ?_ | refine ev_ret ?_ | refine ev_exit ?_ | refine evc (fun X Y hX hY => ?_)); simp only [go_sem, reduceAdd, reduceSub, reduceMul, reduceEqDiff, reduceLeDiff, Nat.reduceBEq, reduceLT, reduceIte, reduceCtorEq, Int.reduceToNat, hne, w1]; try (first | (refine ⟨fun h => hX ?_, fun h => hY ?_⟩; clear hX hY) | (refine hX ?_; clear hX hY) | (refine hY ?_; clear hX hY)))
            | refine ev_block ?_
            | (apply hK; clear hK)
            | apply_assumption -exfalso -symm only [*]
            | (refine And.intro ?_ ?_; first | omega | assumption | (unfold maxLen; omega) | (simp only [decide_eq_true_eq, decide_eq_false_iff_not, Int.not_lt, Int.not_le] at h; omega))
          exact ⟨(1, g), .inr (.inl ⟨rfl, by rw [Nat.gcd_zero_right] at hg; exact hg⟩), ⟨rfl, rfl⟩, by simp only; omega⟩
        · have hne : (((n : Nat) : Int) != 0) = true := by simp [hn]
          have hn0 : ¬ ((n : Int) = 0) := by omega
          repeat' first
            | refine ev_seq (fun K hK => ?_)
            | ((first | refine evrd (id := 7) hmix tt_ok false [([], false), ([], false), ([], false), ([], false), ([], false), ([], false)] (by decide +kernel) ?_ | refine evrd (id := 9) hmix tt_ok false [([], false), ([], false), ([], false), ([], false), ([], false), ([], false), ([], false), ([], false), ([], false), ([], false), ([], false)] (by decide +kernel) ?_ | refine evr tt_ok false ?_ | refine ev_skip ?_ | refine ev_ret ?_ | refine ev_exit ?_ | refine evc (fun X Y hX hY => ?_)); simp only [go_sem, reduceAdd, reduceSub, reduceMul, reduceEqDiff, reduceLeDiff, Nat.reduceBEq, reduceLT, reduceIte, reduceCtorEq, Int.reduceToNat, hne, hn0, ht]; try (first | (refine ⟨fun h => hX ?_, fun h => hY ?_⟩; clear hX hY) | (refine hX ?_; clear hX hY) | (refine hY ?_; clear hX hY)))
            | refine ev_block ?_
            | (apply hK; clear hK)
            | apply_assumption -exfalso -symm only [*]
            | (refine And.intro ?_ ?_; first | omega | assumption | (unfold maxLen; omega) | (simp only [decide_eq_true_eq, decide_eq_false_iff_not, Int.not_lt, Int.not_le] at h; omega))
          exact ⟨(n, g % n), by rw [← hg, Nat.gcd_comm g n, Nat.gcd_rec n g, Nat.gcd_comm], ⟨rfl, rfl⟩, Nat.mod_lt _ (by omega)⟩
    · simp only at h1 h2; subst h1 h2
      repeat' first
        | refine ev_seq (fun K hK => ?_)
        | ((first | refine evrd (id := 7) hmix tt_ok false [([], false), ([], false), ([], false), ([], false), ([], false), ([], false)] (by decide +kernel) ?_ | refine evrd (id := 9) hmix tt_ok false [([], false), ([], false), ([], false), ([], false), ([], false), ([], false), ([], false), ([], false), ([], false), ([], false), ([], false)] (by decide +kernel) ?_ | refine evr tt_ok false ?_ | refine ev_skip ?_ | refine ev_ret ?_ | refine ev_exit ?_ | refine evc (fun X Y hX hY => ?_)); simp only [go_sem, reduceAdd, reduceSub, reduceMul, reduceEqDiff, reduceLeDiff, Nat.reduceBEq, reduceLT, reduceIte, reduceCtorEq, Int.reduceToNat, w2, ny, my, Int.reduceLT]; try (first | (refine ⟨fun h => hX ?_, fun h => hY ?_⟩; clear hX hY) | (refine hX ?_; clear hX hY) | (refine hY ?_; clear hX hY)))
        | refine ev_block ?_
        | (apply hK; clear hK)
        | apply_assumption -exfalso -symm only [*]
        | (refine And.intro ?_ ?_; first | omega | assumption | (unfold maxLen; omega) | (simp only [decide_eq_true_eq, decide_eq_false_iff_not, Int.not_lt, Int.not_le] at h; omega))
      refine ev_loop (fun q : Nat × Nat => Nat.gcd q.1 q.2 = g3 x y d)
        (fun q => ⟨38, [(9, .int .i64 q.2), (14, .int .i64 1), (13, .agg [.int .i64 x, .int .i64 y]), (7, .int .i64 q.1), (6, .own 0 0 0 0), (0, .int .i64 x), (1, .int .i64 y), (2, .int .i64 d)], [.blk 83 0 3 [[.int .i64 0, .int .i64 0, .int .i64 0]]]⟩)
        (fun q => q.2) (Nat.gcd d.natAbs x.natAbs, y.natAbs) rfl ?_ ?_
      · simp only [go_sem, reduceAdd, reduceSub, reduceMul, reduceEqDiff, reduceLeDiff, Nat.reduceBEq, reduceLT, reduceIte, reduceCtorEq, Int.reduceToNat, fits, fitT, fitOs, fitO, V.under, unders, rowsUnder]
        repeat' first | rfl | apply And.intro
      · rintro ⟨g, n⟩ hg
        simp only at hg
        have ht := tmod_nat g n
        by_cases hn : n = 0
        · have hne : (((n : Nat) : Int) != 0) = false := by simp [hn]
          subst hn
          repeat' first
            | refine ev_seq (fun K hK => ?_)
            | ((first | refine evrd (id := 7) hmix tt_ok false [([], false), ([], false), ([], false), ([], false), ([], false), ([], false)] (by decide +kernel) ?_ | refine evrd (id := 9) hmix tt_ok false [([], false), ([], false), ([], false), ([], false), ([], false), ([], false), ([], false), ([], false), ([], false), ([], false), ([], false)] (by decide +kernel) ?_ | refine evr tt_ok false ?_ | refine ev_skip ?_ | refine ev_ret ?_ | refine ev_exit ?_ | refine evc (fun X Y hX hY => ?_)); simp only [go_sem, reduceAdd, reduceSub, reduceMul, reduceEqDiff, reduceLeDiff, Nat.reduceBEq, reduceLT, reduceIte, reduceCtorEq, Int.reduceToNat, hne, w2]; try (first | (refine ⟨fun h => hX ?_, fun h => hY ?_⟩; clear hX hY) | (refine hX ?_; clear hX hY) | (refine hY ?_; clear hX hY)))
            | refine ev_block ?_
            | (apply hK; clear hK)
            | apply_assumption -exfalso -symm only [*]
            | (refine And.intro ?_ ?_; first | omega | assumption | (unfold maxLen; omega) | (simp only [decide_eq_true_eq, decide_eq_false_iff_not, Int.not_lt, Int.not_le] at h; omega))
          exact ⟨(2, g), .inr (.inr ⟨rfl, by rw [Nat.gcd_zero_right] at hg; exact hg⟩), ⟨rfl, rfl⟩, by simp only; omega⟩
        · have hne : (((n : Nat) : Int) != 0) = true := by simp [hn]
          have hn0 : ¬ ((n : Int) = 0) := by omega
          repeat' first
            | refine ev_seq (fun K hK => ?_)
            | ((first | refine evrd (id := 7) hmix tt_ok false [([], false), ([], false), ([], false), ([], false), ([], false), ([], false)] (by decide +kernel) ?_ | refine evrd (id := 9) hmix tt_ok false [([], false), ([], false), ([], false), ([], false), ([], false), ([], false), ([], false), ([], false), ([], false), ([], false), ([], false)] (by decide +kernel) ?_ | refine evr tt_ok false ?_ | refine ev_skip ?_ | refine ev_ret ?_ | refine ev_exit ?_ | refine evc (fun X Y hX hY => ?_)); simp only [go_sem, reduceAdd, reduceSub, reduceMul, reduceEqDiff, reduceLeDiff, Nat.reduceBEq, reduceLT, reduceIte, reduceCtorEq, Int.reduceToNat, hne, hn0, ht]; try (first | (refine ⟨fun h => hX ?_, fun h => hY ?_⟩; clear hX hY) | (refine hX ?_; clear hX hY) | (refine hY ?_; clear hX hY)))
            | refine ev_block ?_
            | (apply hK; clear hK)
            | apply_assumption -exfalso -symm only [*]
            | (refine And.intro ?_ ?_; first | omega | assumption | (unfold maxLen; omega) | (simp only [decide_eq_true_eq, decide_eq_false_iff_not, Int.not_lt, Int.not_le] at h; omega))
          exact ⟨(n, g % n), by rw [← hg, Nat.gcd_comm g n, Nat.gcd_rec n g, Nat.gcd_comm], ⟨rfl, rfl⟩, Nat.mod_lt _ (by omega)⟩
    · simp only at h1 h2; subst h1 h2
      have gp := g3_pos (x := x) (y := y) hd.1
      have e1 := div_exact gp (g3_x x y d) hx
      have e2 := div_exact gp (g3_y x y d) hy
      have e3 := div_exact gp (g3_d x y d) (by omega)
      have hg0 : ¬ ((g3 x y d : Nat) : Int) = 0 := by omega
      repeat' first
        | refine ev_seq (fun K hK => ?_)
        | ((first | refine evrd (id := 7) hmix tt_ok false [([], false), ([], false), ([], false), ([], false), ([], false), ([], false)] (by decide +kernel) ?_ | refine evrd (id := 9) hmix tt_ok false [([], false), ([], false), ([], false), ([], false), ([], false), ([], false), ([], false), ([], false), ([], false), ([], false), ([], false)] (by decide +kernel) ?_ | refine evr tt_ok false ?_ | refine ev_skip ?_ | refine ev_ret ?_ | refine ev_exit ?_ | refine evc (fun X Y hX hY => ?_)); simp only [go_sem, reduceAdd, reduceSub, reduceMul, reduceEqDiff, reduceLeDiff, Nat.reduceBEq, reduceLT, reduceIte, reduceCtorEq, Int.reduceToNat, e1, e2, e3, hg0, Int.reduceLT]; try (first | (refine ⟨fun h => hX ?_, fun h => hY ?_⟩; clear hX hY) | (refine hX ?_; clear hX hY) | (refine hY ?_; clear hX hY)))
        | refine ev_block ?_
        | (apply hK; clear hK)
        | apply_assumption -exfalso -symm only [*]
        | (refine And.intro ?_ ?_; first | omega | assumption | (unfold maxLen; omega) | (simp only [decide_eq_true_eq, decide_eq_false_iff_not, Int.not_lt, Int.not_le] at h; omega))
      rfl
set_option maxRecDepth 20000
set_option maxHeartbeats 4000000
structure VecR where
  (v : Vec)
  (e : Int)
def encVR (r : VecR) : V := .tup [.agg (encVec r.v), .int .i64 r.e]
def Vec.zero : Vec := ⟨0, 0, 0⟩
def normM (v : Vec) : VecR := if v.ok then ⟨lowV v, 0⟩ else ⟨Vec.zero, 1⟩
def turnM (a b : Vec) : VecR := if a.ok ∧ b.ok then (if 67108864 < (lowV (mulV a b)).d then ⟨Vec.zero, 2⟩ else ⟨lowV (mulV a b), 0⟩) else ⟨Vec.zero, 1⟩
theorem prod_le {x y k : Int} (hk : 0 ≤ k) (h1 : -k ≤ x) (h2 : x ≤ k) (h3 : -k ≤ y) (h4 : y ≤ k) : -(k * k) ≤ x * y ∧ x * y ≤ k * k := by
  have key : ∀ {x y : Int}, 0 ≤ x → x ≤ k → 0 ≤ y → y ≤ k → 0 ≤ x * y ∧ x * y ≤ k * k := fun a b c d => ⟨Int.mul_nonneg a c, Int.mul_le_mul b d c hk⟩
  rcases Int.le_total 0 x with hx | hx <;> rcases Int.le_total 0 y with hy | hy
  · have := key hx h2 hy h4; omega
  · have := key hx h2 (y := -y) (by omega) (by omega); rw [Int.mul_neg] at this; omega
  · have := key (x := -x) (by omega) (by omega) hy h4; rw [Int.neg_mul] at this; omega
  · have := key (x := -x) (y := -y) (by omega) (by omega) (by omega) (by omega); rw [Int.neg_mul_neg] at this; omega
structure Prods (a b : Vec) : Prop where
  xx : IntKind.i64.wrap (a.x * b.x) = a.x * b.x
  yy : IntKind.i64.wrap (a.y * b.y) = a.y * b.y
  xy : IntKind.i64.wrap (a.x * b.y) = a.x * b.y
  yx : IntKind.i64.wrap (a.y * b.x) = a.y * b.x
  dd : IntKind.i64.wrap (a.d * b.d) = a.d * b.d
  sub : IntKind.i64.wrap (a.x * b.x - a.y * b.y) = a.x * b.x - a.y * b.y
  add : IntKind.i64.wrap (a.x * b.y + a.y * b.x) = a.x * b.y + a.y * b.x
  cr : IntKind.i64.wrap (a.x * b.y - a.y * b.x) = a.x * b.y - a.y * b.x
  bd : 0 < a.d * b.d ∧ a.d * b.d ≤ 4611686018427387904
  bx : -4611686018427387904 ≤ a.x * b.x - a.y * b.y ∧ a.x * b.x - a.y * b.y ≤ 4611686018427387904
  by' : -4611686018427387904 ≤ a.x * b.y + a.y * b.x ∧ a.x * b.y + a.y * b.x ≤ 4611686018427387904
theorem prods {a b : Vec} (ha : a.ok) (hb : b.ok) : Prods a b := by
  obtain ⟨a1, a2, a3, a4, a5, a6, a7⟩ := ha
  obtain ⟨b1, b2, b3, b4, b5, b6, b7⟩ := hb
  have xx := prod_le (x := a.x) (y := b.x) (k := 67108864) (by omega) (by omega) (by omega) (by omega) (by omega)
  have yy := prod_le (x := a.y) (y := b.y) (k := 67108864) (by omega) (by omega) (by omega) (by omega) (by omega)
  have xy := prod_le (x := a.x) (y := b.y) (k := 67108864) (by omega) (by omega) (by omega) (by omega) (by omega)
  have yx := prod_le (x := a.y) (y := b.x) (k := 67108864) (by omega) (by omega) (by omega) (by omega) (by omega)
  have dd := prod_le (x := a.d) (y := b.d) (k := 67108864) (by omega) (by omega) (by omega) (by omega) (by omega)
  have dp := Int.mul_pos (show 0 < a.d by omega) (show 0 < b.d by omega)
  constructor <;> first | (rw [w64 (by omega) (by omega)]) | omega
theorem turn_pure (a b : Vec) : Pure Tryz.prog 52 [.agg [.int .i64 a.x, .int .i64 a.y, .int .i64 a.d], .agg [.int .i64 b.x, .int .i64 b.y, .int .i64 b.d]] (encVR (turnM a b)) := by
  unfold turnM
  by_cases ha : a.ok
  · by_cases hb : b.ok
    · rw [if_pos ⟨ha, hb⟩]
      obtain ⟨xx, yy, xy, yx, dd, sb, ad, cr, bd, bx, by'⟩ := prods ha hb
      have hl := lowest_pure _ _ _ bd bx by'
      have e : low (a.x * b.x - a.y * b.y) (a.x * b.y + a.y * b.x) (a.d * b.d) = lowV (mulV a b) := rfl
      rw [e] at hl
      by_cases hd : 67108864 < (lowV (mulV a b)).d
      · rw [if_pos hd]
        (refine pure_of_ev tt_ok Tryz.func52 rfl (by decide +kernel) (Nat.le_of_ble_eq_true rfl) ?_; simp only [Tryz.f52])
        repeat' first
          | refine ev_seq (fun K hK => ?_)
          | ((first | refine evr tt_ok false ?_ | refine ev_skip ?_ | refine ev_ret ?_ | refine ev_exit ?_ | refine evc (fun X Y hX hY => ?_)); simp only [go_sem, reduceAdd, reduceSub, reduceMul, reduceEqDiff, reduceLeDiff, Nat.reduceBEq, reduceLT, reduceIte, reduceCtorEq, Int.reduceToNat, ha, hb, hd, xx, yy, xy, yx, dd, sb, ad, encVec]; try (first | (refine ⟨fun h => hX ?_, fun h => hY ?_⟩; clear hX hY) | (refine hX ?_; clear hX hY) | (refine hY ?_; clear hX hY)))
          | refine ev_block ?_
          | (apply hK; clear hK)
          | apply_assumption -exfalso -symm only [*]
          | (refine And.intro ?_ ?_; first | omega | assumption | (unfold maxLen; omega) | (simp only [decide_eq_true_eq, decide_eq_false_iff_not, Int.not_lt, Int.not_le] at h; omega))
          | ((first | apply callP | apply callPG | apply callP0); (case' hv => (simp only [go_sem, reduceAdd, reduceSub, reduceMul, reduceEqDiff, reduceLeDiff, Nat.reduceBEq, reduceLT, reduceIte, reduceCtorEq, Int.reduceToNat, ha, hb, hd, xx, yy, xy, yx, dd, sb, ad, encVec]; try exact rfl)); (case' hp => (first | refine' valid_pure a | (refine' (fun hg => ?_); refine' valid_pure a) | refine' valid_pure b | (refine' (fun hg => ?_); refine' valid_pure b) | refine' hl | (refine' (fun hg => ?_); refine' hl))); (case' h => ((first | refine evOps_fin ?_ | refine And.intro ?_ (evD_fin ?_) | refine evD_fin ?_) <;> simp only [go_sem, reduceAdd, reduceSub, reduceMul, reduceEqDiff, reduceLeDiff, Nat.reduceBEq, reduceLT, reduceIte, reduceCtorEq, Int.reduceToNat, ha, hb, hd, xx, yy, xy, yx, dd, sb, ad, encVec])))
          | (refine callX ?_; (first | refine evOps_fin ?_ | refine And.intro ?_ (evD_fin ?_) | refine evD_fin ?_) <;> simp only [go_sem, reduceAdd, reduceSub, reduceMul, reduceEqDiff, reduceLeDiff, Nat.reduceBEq, reduceLT, reduceIte, reduceCtorEq, Int.reduceToNat, ha, hb, hd, xx, yy, xy, yx, dd, sb, ad, encVec])
        rfl
      · rw [if_neg hd]
        (refine pure_of_ev tt_ok Tryz.func52 rfl (by decide +kernel) (Nat.le_of_ble_eq_true rfl) ?_; simp only [Tryz.f52])
        repeat' first
          | refine ev_seq (fun K hK => ?_)
          | ((first | refine evr tt_ok false ?_ | refine ev_skip ?_ | refine ev_ret ?_ | refine ev_exit ?_ | refine evc (fun X Y hX hY => ?_)); simp only [go_sem, reduceAdd, reduceSub, reduceMul, reduceEqDiff, reduceLeDiff, Nat.reduceBEq, reduceLT, reduceIte, reduceCtorEq, Int.reduceToNat, ha, hb, hd, xx, yy, xy, yx, dd, sb, ad, encVec]; try (first | (refine ⟨fun h => hX ?_, fun h => hY ?_⟩; clear hX hY) | (refine hX ?_; clear hX hY) | (refine hY ?_; clear hX hY)))
          | refine ev_block ?_
          | (apply hK; clear hK)
          | apply_assumption -exfalso -symm only [*]
          | (refine And.intro ?_ ?_; first | omega | assumption | (unfold maxLen; omega) | (simp only [decide_eq_true_eq, decide_eq_false_iff_not, Int.not_lt, Int.not_le] at h; omega))
          | ((first | apply callP | apply callPG | apply callP0); (case' hv => (simp only [go_sem, reduceAdd, reduceSub, reduceMul, reduceEqDiff, reduceLeDiff, Nat.reduceBEq, reduceLT, reduceIte, reduceCtorEq, Int.reduceToNat, ha, hb, hd, xx, yy, xy, yx, dd, sb, ad, encVec]; try exact rfl)); (case' hp => (first | refine' valid_pure a | (refine' (fun hg => ?_); refine' valid_pure a) | refine' valid_pure b | (refine' (fun hg => ?_); refine' valid_pure b) | refine' hl | (refine' (fun hg => ?_); refine' hl))); (case' h => ((first | refine evOps_fin ?_ | refine And.intro ?_ (evD_fin ?_) | refine evD_fin ?_) <;> simp only [go_sem, reduceAdd, reduceSub, reduceMul, reduceEqDiff, reduceLeDiff, Nat.reduceBEq, reduceLT, reduceIte, reduceCtorEq, Int.reduceToNat, ha, hb, hd, xx, yy, xy, yx, dd, sb, ad, encVec])))
          | (refine callX ?_; (first | refine evOps_fin ?_ | refine And.intro ?_ (evD_fin ?_) | refine evD_fin ?_) <;> simp only [go_sem, reduceAdd, reduceSub, reduceMul, reduceEqDiff, reduceLeDiff, Nat.reduceBEq, reduceLT, reduceIte, reduceCtorEq, Int.reduceToNat, ha, hb, hd, xx, yy, xy, yx, dd, sb, ad, encVec])
        rfl
    · rw [if_neg (fun h => hb h.2)]
      (refine pure_of_ev tt_ok Tryz.func52 rfl (by decide +kernel) (Nat.le_of_ble_eq_true rfl) ?_; simp only [Tryz.f52])
      repeat' first
        | refine ev_seq (fun K hK => ?_)
        | ((first | refine evr tt_ok false ?_ | refine ev_skip ?_ | refine ev_ret ?_ | refine ev_exit ?_ | refine evc (fun X Y hX hY => ?_)); simp only [go_sem, reduceAdd, reduceSub, reduceMul, reduceEqDiff, reduceLeDiff, Nat.reduceBEq, reduceLT, reduceIte, reduceCtorEq, Int.reduceToNat, ha, hb]; try (first | (refine ⟨fun h => hX ?_, fun h => hY ?_⟩; clear hX hY) | (refine hX ?_; clear hX hY) | (refine hY ?_; clear hX hY)))
        | refine ev_block ?_
        | (apply hK; clear hK)
        | apply_assumption -exfalso -symm only [*]
        | (refine And.intro ?_ ?_; first | omega | assumption | (unfold maxLen; omega) | (simp only [decide_eq_true_eq, decide_eq_false_iff_not, Int.not_lt, Int.not_le] at h; omega))
        | ((first | apply callP | apply callPG | apply callP0); (case' hv => (simp only [go_sem, reduceAdd, reduceSub, reduceMul, reduceEqDiff, reduceLeDiff, Nat.reduceBEq, reduceLT, reduceIte, reduceCtorEq, Int.reduceToNat, ha, hb]; try exact rfl)); (case' hp => (first | refine' valid_pure a | (refine' (fun hg => ?_); refine' valid_pure a) | refine' valid_pure b | (refine' (fun hg => ?_); refine' valid_pure b))); (case' h => ((first | refine evOps_fin ?_ | refine And.intro ?_ (evD_fin ?_) | refine evD_fin ?_) <;> simp only [go_sem, reduceAdd, reduceSub, reduceMul, reduceEqDiff, reduceLeDiff, Nat.reduceBEq, reduceLT, reduceIte, reduceCtorEq, Int.reduceToNat, ha, hb])))
        | (refine callX ?_; (first | refine evOps_fin ?_ | refine And.intro ?_ (evD_fin ?_) | refine evD_fin ?_) <;> simp only [go_sem, reduceAdd, reduceSub, reduceMul, reduceEqDiff, reduceLeDiff, Nat.reduceBEq, reduceLT, reduceIte, reduceCtorEq, Int.reduceToNat, ha, hb])
      rfl
  · rw [if_neg (fun h => ha h.1)]
    (refine pure_of_ev tt_ok Tryz.func52 rfl (by decide +kernel) (Nat.le_of_ble_eq_true rfl) ?_; simp only [Tryz.f52])
    repeat' first
      | refine ev_seq (fun K hK => ?_)
      | ((first | refine evr tt_ok false ?_ | refine ev_skip ?_ | refine ev_ret ?_ | refine ev_exit ?_ | refine evc (fun X Y hX hY => ?_)); simp only [go_sem, reduceAdd, reduceSub, reduceMul, reduceEqDiff, reduceLeDiff, Nat.reduceBEq, reduceLT, reduceIte, reduceCtorEq, Int.reduceToNat, ha]; try (first | (refine ⟨fun h => hX ?_, fun h => hY ?_⟩; clear hX hY) | (refine hX ?_; clear hX hY) | (refine hY ?_; clear hX hY)))
      | refine ev_block ?_
      | (apply hK; clear hK)
      | apply_assumption -exfalso -symm only [*]
      | (refine And.intro ?_ ?_; first | omega | assumption | (unfold maxLen; omega) | (simp only [decide_eq_true_eq, decide_eq_false_iff_not, Int.not_lt, Int.not_le] at h; omega))
      | ((first | apply callP | apply callPG | apply callP0); (case' hv => (simp only [go_sem, reduceAdd, reduceSub, reduceMul, reduceEqDiff, reduceLeDiff, Nat.reduceBEq, reduceLT, reduceIte, reduceCtorEq, Int.reduceToNat, ha]; try exact rfl)); (case' hp => (first | refine' valid_pure a | (refine' (fun hg => ?_); refine' valid_pure a) | refine' valid_pure b | (refine' (fun hg => ?_); refine' valid_pure b))); (case' h => ((first | refine evOps_fin ?_ | refine And.intro ?_ (evD_fin ?_) | refine evD_fin ?_) <;> simp only [go_sem, reduceAdd, reduceSub, reduceMul, reduceEqDiff, reduceLeDiff, Nat.reduceBEq, reduceLT, reduceIte, reduceCtorEq, Int.reduceToNat, ha])))
      | (refine callX ?_; (first | refine evOps_fin ?_ | refine And.intro ?_ (evD_fin ?_) | refine evD_fin ?_) <;> simp only [go_sem, reduceAdd, reduceSub, reduceMul, reduceEqDiff, reduceLeDiff, Nat.reduceBEq, reduceLT, reduceIte, reduceCtorEq, Int.reduceToNat, ha])
    rfl
set_option maxRecDepth 20000
set_option maxHeartbeats 4000000
def cmpR (a b : Vec) : Int := if a.ok ∧ b.ok then cmpM a b else 0
def deltaM (a b : Int) : Int := if 128 ≤ (b - a) % 256 then (b - a) % 256 - 256 else (b - a) % 256
theorem quart_ok {k : Int} (h : 0 ≤ k ∧ k < 64) : (Vec.mk (4096 - k * k) (128 * k) (4096 + k * k)).ok := by
  have h1 : 0 ≤ k * k := Int.mul_nonneg h.1 h.1
  have h2 : k * k ≤ 63 * 63 := Int.mul_le_mul (by omega) (by omega) h.1 (by omega)
  have h3 : (4096 - k * k) * (4096 - k * k) + (128 * k) * (128 * k) = (4096 + k * k) * (4096 + k * k) := by grind
  have b2 := circle_le (x := 128 * k) (y := 4096 - k * k) (d := 4096 + k * k) (by omega) (by rw [Int.add_comm]; exact h3)
  refine ⟨?_, ?_, ?_, ?_, ?_, ?_, h3⟩ <;> simp only <;> omega
theorem rot_ok {v : Vec} (h : v.ok) : (rotV v).ok := by
  obtain ⟨h1, h2, h3, h4, h5, h6, h7⟩ := h
  refine ⟨h1, h2, ?_, ?_, h3, h4, ?_⟩ <;> simp only [rotV] <;> first | omega | grind
theorem rotN_ok {v : Vec} (h : v.ok) : ∀ n, (rotN n v).ok
  | 0 => h
  | n + 1 => rot_ok (rotN_ok h n)
theorem dir_pure (h : Int) : Pure Tryz.prog 53 [.int .i64 h] (.agg (encVec (dirM h))) := by
  obtain ⟨k, hk⟩ : ∃ k : Int, k = h % 256 % 64 := ⟨_, rfl⟩
  obtain ⟨r, hr⟩ : ∃ r : Nat, (r : Int) = h % 256 / 64 := ⟨(h % 256 / 64).toNat, by omega⟩
  have hk2 : 0 ≤ k ∧ k < 64 := by omega
  have h1 : 0 ≤ k * k := Int.mul_nonneg hk2.1 hk2.1
  have h2 : k * k ≤ 63 * 63 := Int.mul_le_mul (by omega) (by omega) hk2.1 (by omega)
  have t1 : (h % 256).tmod 64 = k := by rw [Int.tmod_eq_emod_of_nonneg (by omega)]; exact hk.symm
  have t2 : IntKind.i64.wrap ((h % 256).tdiv 64) = r := by rw [Int.tdiv_eq_ediv_of_nonneg (by omega), ← hr, w64 (by omega) (by omega)]
  have w1 : IntKind.i64.wrap (k * k) = k * k := w64 (by omega) (by omega)
  have w2 : IntKind.i64.wrap (4096 - k * k) = 4096 - k * k := w64 (by omega) (by omega)
  have w3 : IntKind.i64.wrap (128 * k) = 128 * k := w64 (by omega) (by omega)
  have w4 : IntKind.i64.wrap (4096 + k * k) = 4096 + k * k := w64 (by omega) (by omega)
  have hl := lowest_pure (4096 - k * k) (128 * k) (4096 + k * k) (by omega) (by omega) (by omega)
  have hd : dirM h = rotN r (quart k) := by unfold dirM; rw [← hk, ← hr, Int.toNat_natCast]
  have hq : low (4096 - k * k) (128 * k) (4096 + k * k) = quart k := rfl
  have ok := low_ok (quart_ok hk2)
  rw [hq] at hl
  have ok : (quart k).ok := ok
  rw [hd]
  (refine pure_of_ev tt_ok Tryz.func53 rfl (by decide +kernel) (Nat.le_of_ble_eq_true rfl) ?_; simp only [Tryz.f53])
  repeat' first
    | refine ev_seq (fun K hK => ?_)
    | ((first | refine evr tt_ok false ?_ | refine ev_skip ?_ | refine ev_ret ?_ | refine ev_exit ?_ | refine evc (fun X Y hX hY => ?_)); simp only [go_sem, reduceAdd, reduceSub, reduceMul, reduceEqDiff, reduceLeDiff, Nat.reduceBEq, reduceLT, reduceIte, reduceCtorEq, Int.reduceToNat, t1, t2, w1, w2, w3, w4, encVec]; try (first | (refine ⟨fun h => hX ?_, fun h => hY ?_⟩; clear hX hY) | (refine hX ?_; clear hX hY) | (refine hY ?_; clear hX hY)))
    | refine ev_block ?_
    | (apply hK; clear hK)
    | apply_assumption -exfalso -symm only [*]
    | (refine And.intro ?_ ?_; first | omega | assumption | (unfold maxLen; omega) | (simp only [decide_eq_true_eq, decide_eq_false_iff_not, Int.not_lt, Int.not_le] at h; omega))
    | ((first | apply callP | apply callPG | apply callP0); (case' hv => (simp only [go_sem, reduceAdd, reduceSub, reduceMul, reduceEqDiff, reduceLeDiff, Nat.reduceBEq, reduceLT, reduceIte, reduceCtorEq, Int.reduceToNat, t1, t2, w1, w2, w3, w4, encVec]; try exact rfl)); (case' hp => (first | refine' mark_pure _ | (refine' (fun hg => ?_); refine' mark_pure _) | refine' hl | (refine' (fun hg => ?_); refine' hl))); (case' h => ((first | refine evOps_fin ?_ | refine And.intro ?_ (evD_fin ?_) | refine evD_fin ?_) <;> simp only [go_sem, reduceAdd, reduceSub, reduceMul, reduceEqDiff, reduceLeDiff, Nat.reduceBEq, reduceLT, reduceIte, reduceCtorEq, Int.reduceToNat, t1, t2, w1, w2, w3, w4, encVec])))
    | (refine callX ?_; (first | refine evOps_fin ?_ | refine And.intro ?_ (evD_fin ?_) | refine evD_fin ?_) <;> simp only [go_sem, reduceAdd, reduceSub, reduceMul, reduceEqDiff, reduceLeDiff, Nat.reduceBEq, reduceLT, reduceIte, reduceCtorEq, Int.reduceToNat, t1, t2, w1, w2, w3, w4, encVec])
  refine ev_loop (fun i : Nat => i ≤ r)
    (fun i => ⟨33, [(22, .int .i64 i), (21, .int .i64 r), (4, .own 1 0 0 0), (2, .own 0 0 0 0)], [.blk 83 0 3 [[.int .i64 0, .int .i64 0, .int .i64 0]], .blk 83 0 3 [[.int .i64 (rotN i (quart k)).x, .int .i64 (rotN i (quart k)).y, .int .i64 (rotN i (quart k)).d]]]⟩)
    (fun i => r - i) 0 (Nat.zero_le _) ?_ ?_
  · simp only [go_sem, reduceAdd, reduceSub, reduceMul, reduceEqDiff, reduceLeDiff, Nat.reduceBEq, reduceLT, reduceIte, reduceCtorEq, Int.reduceToNat, fits, fitT, fitOs, fitO, V.under, unders, rowsUnder]
    repeat' first | rfl | apply And.intro
  · intro i hi
    have hw : IntKind.i64.wrap ((i : Int) + 1) = ((i + 1 : Nat) : Int) := by rw [w64] <;> omega
    have oki := rotN_ok ok i
    have hn : IntKind.i64.wrap (0 - (rotN i (quart k)).y) = - (rotN i (quart k)).y := by
      obtain ⟨h1, h2, h3, h4, h5, h6, h7⟩ := oki
      rw [w64] <;> omega
    by_cases hlt : (i : Int) < r
    · repeat' first
      | refine ev_seq (fun K hK => ?_)
      | ((first | refine evr tt_ok false ?_ | refine ev_skip ?_ | refine ev_ret ?_ | refine ev_exit ?_ | refine evc (fun X Y hX hY => ?_)); simp only [go_sem, reduceAdd, reduceSub, reduceMul, reduceEqDiff, reduceLeDiff, Nat.reduceBEq, reduceLT, reduceIte, reduceCtorEq, Int.reduceToNat, hw, hn, hlt]; try (first | (refine ⟨fun h => hX ?_, fun h => hY ?_⟩; clear hX hY) | (refine hX ?_; clear hX hY) | (refine hY ?_; clear hX hY)))
      | refine ev_block ?_
      | (apply hK; clear hK)
      | apply_assumption -exfalso -symm only [*]
      | (refine And.intro ?_ ?_; first | omega | assumption | (unfold maxLen; omega) | (simp only [decide_eq_true_eq, decide_eq_false_iff_not, Int.not_lt, Int.not_le] at h; omega))
      refine ⟨i + 1, by omega, ?_, by omega⟩
      repeat' first | rfl | apply And.intro
    · obtain rfl : i = r := by omega
      repeat' first
        | refine ev_seq (fun K hK => ?_)
        | ((first | refine evr tt_ok false ?_ | refine ev_skip ?_ | refine ev_ret ?_ | refine ev_exit ?_ | refine evc (fun X Y hX hY => ?_)); simp only [go_sem, reduceAdd, reduceSub, reduceMul, reduceEqDiff, reduceLeDiff, Nat.reduceBEq, reduceLT, reduceIte, reduceCtorEq, Int.reduceToNat, hlt]; try (first | (refine ⟨fun h => hX ?_, fun h => hY ?_⟩; clear hX hY) | (refine hX ?_; clear hX hY) | (refine hY ?_; clear hX hY)))
        | refine ev_block ?_
        | (apply hK; clear hK)
        | apply_assumption -exfalso -symm only [*]
        | (refine And.intro ?_ ?_; first | omega | assumption | (unfold maxLen; omega) | (simp only [decide_eq_true_eq, decide_eq_false_iff_not, Int.not_lt, Int.not_le] at h; omega))
      rfl
def beamM (h m : Int) : Vec := lowV (mulV (dirM h) (dirM m))
theorem turn_dirs (h m : Int) : turnM (dirM h) (dirM m) = ⟨beamM h m, 0⟩ := by
  unfold turnM
  rw [if_pos ⟨dir_ok h, dir_ok m⟩, if_neg]; rfl
  have d1 := dir_d h
  have d2 := dir_d m
  have p1 := (dir_ok h).1
  have p2 := (dir_ok m).1
  have hp : (mulV (dirM h) (dirM m)).d ≤ 8065 * 8065 := Int.mul_le_mul d1 d2 (by omega) (by omega)
  have hl := (low_le (x := (mulV (dirM h) (dirM m)).x) (y := (mulV (dirM h) (dirM m)).y) (d := (mulV (dirM h) (dirM m)).d) (Int.mul_pos (by omega) (by omega))).2
  have e : (lowV (mulV (dirM h) (dirM m))).d ≤ (mulV (dirM h) (dirM m)).d := hl
  omega
theorem beam_pure (h m : Int) : Pure Tryz.prog 27 [.int .i64 h, .int .i64 m] (.agg (encVec (beamM h m))) := by
  have ht := turn_pure (dirM h) (dirM m)
  rw [turn_dirs] at ht
  simp only [encVR] at ht
  (refine pure_of_ev tt_ok Tryz.func27 rfl (by decide +kernel) (Nat.le_of_ble_eq_true rfl) ?_; simp only [Tryz.f27])
  repeat' first
    | refine ev_seq (fun K hK => ?_)
    | ((first | refine evr tt_ok false ?_ | refine ev_skip ?_ | refine ev_ret ?_ | refine ev_exit ?_ | refine evc (fun X Y hX hY => ?_)); simp only [go_sem, reduceAdd, reduceSub, reduceMul, reduceEqDiff, reduceLeDiff, Nat.reduceBEq, reduceLT, reduceIte, reduceCtorEq, Int.reduceToNat, encVec]; try (first | (refine ⟨fun h => hX ?_, fun h => hY ?_⟩; clear hX hY) | (refine hX ?_; clear hX hY) | (refine hY ?_; clear hX hY)))
    | refine ev_block ?_
    | (apply hK; clear hK)
    | apply_assumption -exfalso -symm only [*]
    | (refine And.intro ?_ ?_; first | omega | assumption | (unfold maxLen; omega) | (simp only [decide_eq_true_eq, decide_eq_false_iff_not, Int.not_lt, Int.not_le] at h; omega))
    | ((first | apply callP | apply callPG | apply callP0); (case' hv => (simp only [go_sem, reduceAdd, reduceSub, reduceMul, reduceEqDiff, reduceLeDiff, Nat.reduceBEq, reduceLT, reduceIte, reduceCtorEq, Int.reduceToNat, encVec]; try exact rfl)); (case' hp => (first | refine' dir_pure _ | (refine' (fun hg => ?_); refine' dir_pure _) | refine' ht | (refine' (fun hg => ?_); refine' ht))); (case' h => ((first | refine evOps_fin ?_ | refine And.intro ?_ (evD_fin ?_) | refine evD_fin ?_) <;> simp only [go_sem, reduceAdd, reduceSub, reduceMul, reduceEqDiff, reduceLeDiff, Nat.reduceBEq, reduceLT, reduceIte, reduceCtorEq, Int.reduceToNat, encVec])))
    | (refine callX ?_; (first | refine evOps_fin ?_ | refine And.intro ?_ (evD_fin ?_) | refine evD_fin ?_) <;> simp only [go_sem, reduceAdd, reduceSub, reduceMul, reduceEqDiff, reduceLeDiff, Nat.reduceBEq, reduceLT, reduceIte, reduceCtorEq, Int.reduceToNat, encVec])
end Go.Proofs.YtbibplkhhdomnaaGreat
