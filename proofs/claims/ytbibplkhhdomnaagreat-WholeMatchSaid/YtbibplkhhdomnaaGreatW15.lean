import Derived.Test.YtbibplkhhdomnaaGreatW11
import Derived.Laws.BitsLemmas
import Derived.Test.YtbibplkhhdomnaaGreatW13
import Derived.Test.YtbibplkhhdomnaaGreatW12
set_option linter.all false
namespace Go.Proofs.YtbibplkhhdomnaaGreat
structure Arc where
  (f c : Int)
def Arc.ok (a : Arc) : Prop := 0 ≤ a.f ∧ a.f < 256 ∧ 1 ≤ a.c ∧ a.c ≤ 256 ∧ (a.f = 0 ∨ a.c < 256)
instance decArcOk (a : Arc) : Decidable a.ok := by unfold Arc.ok; infer_instance
structure Vec where
  (x y d : Int)
def Vec.ok (v : Vec) : Prop := 1 ≤ v.d ∧ v.d ≤ 67108864 ∧ -v.d ≤ v.x ∧ v.x ≤ v.d ∧ -v.d ≤ v.y ∧ v.y ≤ v.d ∧ v.x * v.x + v.y * v.y = v.d * v.d
instance decVecOk (v : Vec) : Decidable v.ok := by unfold Vec.ok; infer_instance
instance decVecEq : DecidableEq Vec := fun a b => if h : a.x = b.x ∧ a.y = b.y ∧ a.d = b.d then .isTrue (by cases a; cases b; simp_all) else .isFalse (fun e => h (by subst e; exact ⟨rfl, rfl, rfl⟩))
def g3 (x y d : Int) : Nat := Nat.gcd (Nat.gcd d.natAbs x.natAbs) y.natAbs
def low (x y d : Int) : Vec := ⟨x / g3 x y d, y / g3 x y d, d / g3 x y d⟩
theorem sq_nonneg (a : Int) : 0 ≤ a * a := by
  rcases Int.le_total 0 a with h | h
  · exact Int.mul_nonneg h h
  · exact Int.mul_nonneg_of_nonpos_of_nonpos h h
theorem g3_x (x y d : Int) : (g3 x y d : Int) ∣ x := Int.ofNat_dvd_left.2 (Nat.dvd_trans (Nat.gcd_dvd_left _ _) (Nat.gcd_dvd_right _ _))
theorem g3_y (x y d : Int) : (g3 x y d : Int) ∣ y := Int.ofNat_dvd_left.2 (Nat.gcd_dvd_right _ _)
theorem g3_d (x y d : Int) : (g3 x y d : Int) ∣ d := Int.ofNat_dvd_left.2 (Nat.dvd_trans (Nat.gcd_dvd_left _ _) (Nat.gcd_dvd_left _ _))
theorem g3_pos {x y d : Int} (hd : 0 < d) : 0 < g3 x y d := Nat.gcd_pos_of_pos_left _ (Nat.gcd_pos_of_pos_left _ (by omega))
theorem g3_mul (k : Nat) (x y d : Int) : g3 (k * x) (k * y) (k * d) = k * g3 x y d := by
  unfold g3
  simp only [Int.natAbs_mul, Int.natAbs_natCast, Nat.gcd_mul_left]
structure Vec.Low (v : Vec) : Prop where
  pos : 0 < v.d
  one : g3 v.x v.y v.d = 1
theorem low_spec {x y d : Int} (hd : 0 < d) : (low x y d).Low ∧ x = g3 x y d * (low x y d).x ∧ y = g3 x y d * (low x y d).y ∧ d = g3 x y d * (low x y d).d := by
  have hg : (0 : Int) < g3 x y d := by have := g3_pos (x := x) (y := y) hd; omega
  have ex := Int.mul_ediv_cancel' (g3_x x y d)
  have ey := Int.mul_ediv_cancel' (g3_y x y d)
  have ed := Int.mul_ediv_cancel' (g3_d x y d)
  refine ⟨⟨?_, ?_⟩, ex.symm, ey.symm, ed.symm⟩
  · show 0 < d / (g3 x y d : Int)
    refine Int.pos_of_mul_pos_right (a := (g3 x y d : Int)) ?_ hg
    rw [ed]; exact hd
  · show g3 (x / g3 x y d) (y / g3 x y d) (d / g3 x y d) = 1
    have := g3_mul (g3 x y d) (x / g3 x y d) (y / g3 x y d) (d / g3 x y d)
    rw [ex, ey, ed] at this
    have hp : 0 < g3 x y d := by omega
    exact Nat.eq_of_mul_eq_mul_left hp (by omega)
theorem low_le {x y d : Int} (hd : 0 < d) : 1 ≤ (low x y d).d ∧ (low x y d).d ≤ d := by
  obtain ⟨h1, e1, e2, e3⟩ := low_spec (x := x) (y := y) hd
  have hg : (0 : Int) < g3 x y d := by have := g3_pos (x := x) (y := y) hd; omega
  have hp := h1.pos
  refine ⟨by omega, ?_⟩
  generalize (g3 x y d : Int) = g at *
  generalize low x y d = v at *
  rw [e3]
  have := Int.mul_le_mul_of_nonneg_right (show 1 ≤ g by omega) (show 0 ≤ v.d by omega)
  rw [Int.one_mul] at this; exact this
theorem low_circle {x y d : Int} (hd : 0 < d) (h : x * x + y * y = d * d) : (low x y d).x * (low x y d).x + (low x y d).y * (low x y d).y = (low x y d).d * (low x y d).d := by
  obtain ⟨h1, e1, e2, e3⟩ := low_spec (x := x) (y := y) hd
  have hg : (0 : Int) < g3 x y d := by have := g3_pos (x := x) (y := y) hd; omega
  generalize (g3 x y d : Int) = g at *
  generalize low x y d = v at *
  refine Int.eq_of_mul_eq_mul_left (a := g * g) (Int.ne_of_gt (Int.mul_pos hg hg)) ?_
  rw [e1, e2, e3] at h
  grind
theorem circle_le {x y d : Int} (hd : 0 ≤ d) (h : x * x + y * y = d * d) : -d ≤ x ∧ x ≤ d := by
  have key : ∀ {x y d : Int}, 0 ≤ d → x * x + y * y = d * d → x ≤ d := by
    intro x y d hd h
    apply Int.not_lt.1
    intro hc
    have h1 : d * d ≤ d * x := Int.mul_le_mul_of_nonneg_left (by omega) hd
    have h2 : d * x < x * x := Int.mul_lt_mul_of_pos_right hc (by omega)
    have h3 : 0 ≤ y * y := sq_nonneg _
    omega
  refine ⟨?_, key hd h⟩
  have := key (x := -x) (y := y) hd (by rw [Int.neg_mul_neg]; exact h)
  omega
theorem low_ok {v : Vec} (h : v.ok) : (low v.x v.y v.d).ok := by
  obtain ⟨h1, h2, h3, h4, h5, h6, h7⟩ := h
  have hc := low_circle (by omega) h7
  have hl := low_le (x := v.x) (y := v.y) (d := v.d) (by omega)
  have b1 := circle_le (by omega) hc
  have b2 := circle_le (x := (low v.x v.y v.d).y) (y := (low v.x v.y v.d).x) (d := (low v.x v.y v.d).d) (by omega) (by rw [Int.add_comm]; exact hc)
  exact ⟨hl.1, by omega, b1.1, b1.2, b2.1, b2.2, hc⟩
def mulV (a b : Vec) : Vec := ⟨a.x * b.x - a.y * b.y, a.x * b.y + a.y * b.x, a.d * b.d⟩
def lowV (v : Vec) : Vec := low v.x v.y v.d
theorem mul_circle {a b : Vec} (ha : a.x * a.x + a.y * a.y = a.d * a.d) (hb : b.x * b.x + b.y * b.y = b.d * b.d) : (mulV a b).x * (mulV a b).x + (mulV a b).y * (mulV a b).y = (mulV a b).d * (mulV a b).d := by
  simp only [mulV]; grind
def half (v : Vec) : Int := if v.y > 0 ∨ v.y = 0 ∧ v.x > 0 then 0 else 1
def cross (a b : Vec) : Int := a.x * b.y - a.y * b.x
def sgn3 (a b : Int) : Int := if a < b then -1 else if b < a then 1 else 0
def cmpM (a b : Vec) : Int := if half a ≠ half b then sgn3 (half a) (half b) else - sgn3 (cross a b) 0
def negV (v : Vec) : Vec := ⟨-v.x, -v.y, v.d⟩
def rotV (v : Vec) : Vec := ⟨-v.y, v.x, v.d⟩
def rotN : Nat → Vec → Vec
  | 0, v => v
  | n + 1, v => rotV (rotN n v)
def quart (k : Int) : Vec := low (4096 - k * k) (128 * k) (4096 + k * k)
def dirM (h : Int) : Vec := rotN (h % 256 / 64).toNat (quart (h % 256 % 64))
theorem dir_mod (h : Int) : dirM (h % 256) = dirM h := by unfold dirM; rw [Int.emod_emod]
theorem dir_at (h : Int) : dirM h = dirM (((h % 256).toNat : Nat) : Int) := by rw [← dir_mod h]; congr 1; omega
def dirFacts (i : Nat) : Bool :=
  decide (dirM i).ok && decide ((dirM i).d ≤ 8065) && decide (dirM (i + 64) = rotV (dirM i)) && (i == 255 || cmpM (dirM i) (dirM (i + 1)) == -1)
theorem dir_all : (List.range 256).all dirFacts = true := by decide +kernel
theorem dir_fact (h : Int) : dirFacts (h % 256).toNat = true := List.all_eq_true.1 dir_all _ (List.mem_range.2 (by omega))
theorem dir_ok (h : Int) : (dirM h).ok := by
  have := dir_fact h
  simp only [dirFacts, Bool.and_eq_true, decide_eq_true_eq] at this
  rw [dir_at]; exact this.1.1.1
theorem dir_d (h : Int) : (dirM h).d ≤ 8065 := by
  have := dir_fact h
  simp only [dirFacts, Bool.and_eq_true, decide_eq_true_eq] at this
  rw [dir_at]; exact this.1.1.2
end Go.Proofs.YtbibplkhhdomnaaGreat
namespace Go.Proofs.YtbibplkhhdomnaaGreat
open Nat (reduceAdd reduceSub reduceMul reduceEqDiff reduceLeDiff reduceLT)
open Go Go.K
theorem hmix : Tryz.prog.follows .mixedOrders = true := by decide +kernel
set_option maxRecDepth 20000
set_option maxHeartbeats 4000000
theorem and255 (n : Int) : bits .and .i64 n 255 = n % 256 := by
  have h127 : (BitVec.ofInt 64 255).toNat = 2 ^ 8 - 1 := by decide
  have key : (BitVec.ofInt 64 n &&& BitVec.ofInt 64 255).toNat = (n % ((2 ^ 64 : Nat) : Int)).toNat % 2 ^ 8 := by
    rw [BitVec.toNat_and, BitVec.toNat_ofInt, h127, Nat.and_two_pow_sub_one_eq_mod]
  show IntKind.i64.wrap ((BitVec.ofInt 64 n &&& BitVec.ofInt 64 255).toNat : Nat) = n % 256
  rw [key, IntKind.wrap_i64]
  omega
theorem mod_pure (a b : Int) (hb : 0 < b) (h2 : b < 4611686018427387904) : Pure Tryz.prog 13 [.int .i64 a, .int .i64 b] (.int .i64 (a % b)) := by
  (refine pure_of_ev tt_ok Tryz.func13 rfl (by decide +kernel) (Nat.le_of_ble_eq_true rfl) ?_; simp only [Tryz.f13])
  repeat' first
    | refine ev_seq (fun K hK => ?_)
    | ((first | refine evr tt_ok false ?_ | refine ev_skip ?_ | refine ev_ret ?_ | refine ev_exit ?_ | refine evc (fun X Y hX hY => ?_)); simp only [go_sem, reduceAdd, reduceSub, reduceMul, reduceEqDiff, reduceLeDiff, Nat.reduceBEq, reduceLT, reduceIte, reduceCtorEq, Int.reduceToNat]; try (first | (refine ⟨fun h => hX ?_, fun h => hY ?_⟩; clear hX hY) | (refine hX ?_; clear hX hY) | (refine hY ?_; clear hX hY)))
    | refine ev_block ?_
    | (apply hK; clear hK)
    | apply_assumption -exfalso -symm only [*]
    | (refine And.intro ?_ ?_; first | omega | assumption | (unfold maxLen; omega) | (simp only [decide_eq_true_eq, decide_eq_false_iff_not, Int.not_lt, Int.not_le] at h; omega))
  · have h1 : a.tmod b < 0 := by simpa using h
    have h3 := Int.emod_nonneg a (Int.ne_of_gt hb)
    have h4 := Int.emod_lt_of_pos a hb
    have h5 := tmod_neg hb h1
    rw [w64 (by omega) (by omega), h5]
  · have h1 : ¬ a.tmod b < 0 := by simpa using h
    rw [tmod_nonneg hb h1]
theorem div_cases {a b : Int} (hb : 0 < b) (ha : -4611686018427387904 ≤ a ∧ a ≤ 4611686018427387904) :
    IntKind.i64.wrap (a.tdiv b) = a.tdiv b ∧ (a.tmod b < 0 → IntKind.i64.wrap (a.tdiv b - 1) = a / b) ∧ (¬ a.tmod b < 0 → a.tdiv b = a / b) := by
  have e1 := Int.tdiv_eq_ediv (a := a) (b := b)
  have e2 := Int.tmod_eq_emod (a := a) (b := b)
  have h3 := Int.emod_nonneg a (Int.ne_of_gt hb)
  have h4 := Int.emod_lt_of_pos a hb
  have l1 : -4611686018427387904 ≤ a / b := Int.le_ediv_of_mul_le hb (by omega)
  have l2 : a / b ≤ 4611686018427387904 := Int.ediv_le_of_le_mul hb (by omega)
  have hs : b.sign = 1 := Int.sign_eq_one_of_pos hb
  rw [hs] at e1
  by_cases hc : 0 ≤ a ∨ b ∣ a
  · rw [if_pos hc] at e1 e2
    refine ⟨?_, fun h => by omega, fun h => by omega⟩
    rw [w64 (by omega) (by omega)]
  · rw [if_neg hc] at e1 e2
    refine ⟨?_, fun h => ?_, fun h => by omega⟩
    · rw [w64 (by omega) (by omega)]
    · rw [w64 (by omega) (by omega)]; omega
theorem ite_max (x y : Int) : (if x < y then y else x) = max x y := by split <;> omega
theorem ite_min (x y : Int) : (if y < x then y else x) = min x y := by split <;> omega
attribute [go_sem] ite_max ite_min
theorem bool_ext {p q : Bool} (h : p = true ↔ q = true) : V.bool p = V.bool q := congrArg V.bool (Bool.eq_iff_iff.2 h)
theorem bool_dec {p : Bool} {q : Prop} [Decidable q] (h : p = true ↔ q) : V.bool p = V.bool (decide q) := bool_ext (by rw [decide_eq_true_eq]; exact h)
theorem varc_pure (a : Arc) : Pure Tryz.prog 37 [.agg [.int .i64 a.f, .int .i64 a.c]] (.bool (decide a.ok)) := by
  (refine pure_of_ev tt_ok Tryz.func37 rfl (by decide +kernel) (Nat.le_of_ble_eq_true rfl) ?_; simp only [Tryz.f37])
  repeat' first
    | refine ev_seq (fun K hK => ?_)
    | ((first | refine evr tt_ok false ?_ | refine ev_skip ?_ | refine ev_ret ?_ | refine ev_exit ?_ | refine evc (fun X Y hX hY => ?_)); simp only [go_sem, reduceAdd, reduceSub, reduceMul, reduceEqDiff, reduceLeDiff, Nat.reduceBEq, reduceLT, reduceIte, reduceCtorEq, Int.reduceToNat]; try (first | (refine ⟨fun h => hX ?_, fun h => hY ?_⟩; clear hX hY) | (refine hX ?_; clear hX hY) | (refine hY ?_; clear hX hY)))
    | refine ev_block ?_
    | (apply hK; clear hK)
    | apply_assumption -exfalso -symm only [*]
    | (refine And.intro ?_ ?_; first | omega | assumption | (unfold maxLen; omega) | (simp only [decide_eq_true_eq, decide_eq_false_iff_not, Int.not_lt, Int.not_le] at h; omega))
  refine bool_dec ?_
  simp only [Bool.and_eq_true, Bool.or_eq_true, decide_eq_true_eq, beq_iff_eq]; unfold Arc.ok; omega
theorem vec_prod {v : Vec} (h1 : 1 ≤ v.d) (h2 : v.d ≤ 67108864) (h3 : -v.d ≤ v.x) (h4 : v.x ≤ v.d) (h5 : -v.d ≤ v.y) (h6 : v.y ≤ v.d) :
    IntKind.i64.wrap (v.x * v.x) = v.x * v.x ∧ IntKind.i64.wrap (v.y * v.y) = v.y * v.y ∧ IntKind.i64.wrap (v.d * v.d) = v.d * v.d ∧ IntKind.i64.wrap (v.x * v.x + v.y * v.y) = v.x * v.x + v.y * v.y := by
  have sq : ∀ {x d : Int}, -d ≤ x → x ≤ d → d ≤ 67108864 → 0 ≤ x * x ∧ x * x ≤ 4503599627370496 := by
    intro x d h1 h2 h3
    refine ⟨sq_nonneg x, ?_⟩
    rcases Int.le_total 0 x with h | h
    · exact Int.mul_le_mul (c := 67108864) (d := 67108864) (by omega) (by omega) h (by omega)
    · have := Int.mul_le_mul (a := -x) (b := -x) (c := 67108864) (d := 67108864) (by omega) (by omega) (by omega) (by omega)
      rw [Int.neg_mul_neg] at this; exact this
  have a1 := sq h3 h4 h2
  have a2 := sq h5 h6 h2
  have a3 := sq (x := v.d) (d := v.d) (by omega) (by omega) h2
  refine ⟨w64 (by omega) (by omega), w64 (by omega) (by omega), w64 (by omega) (by omega), w64 (by omega) (by omega)⟩
theorem vec_neg {v : Vec} (h1 : 1 ≤ v.d) (h2 : v.d ≤ 67108864) : IntKind.i64.wrap (0 - v.d) = - v.d := by rw [w64] <;> omega
theorem valid_pure (v : Vec) : Pure Tryz.prog 75 [.agg [.int .i64 v.x, .int .i64 v.y, .int .i64 v.d]] (.bool (decide v.ok)) := by
  (refine pure_of_ev tt_ok Tryz.func75 rfl (by decide +kernel) (Nat.le_of_ble_eq_true rfl) ?_; simp only [Tryz.f75])
  repeat' first
    | refine ev_seq (fun K hK => ?_)
    | ((first | refine evr tt_ok false ?_ | refine ev_skip ?_ | refine ev_ret ?_ | refine ev_exit ?_ | refine evc (fun X Y hX hY => ?_)); simp only [go_sem, reduceAdd, reduceSub, reduceMul, reduceEqDiff, reduceLeDiff, Nat.reduceBEq, reduceLT, reduceIte, reduceCtorEq, Int.reduceToNat]; try (first | (refine ⟨fun h => hX ?_, fun h => hY ?_⟩; clear hX hY) | (refine hX ?_; clear hX hY) | (refine hY ?_; clear hX hY)))
    | refine ev_block ?_
    | (apply hK; clear hK)
    | apply_assumption -exfalso -symm only [*]
    | (refine And.intro ?_ ?_; first | omega | assumption | (unfold maxLen; omega) | (simp only [decide_eq_true_eq, decide_eq_false_iff_not, Int.not_lt, Int.not_le] at h; omega))
  · have hd : ¬ v.ok := by
      rintro ⟨h1, h2, h3, h4, h5, h6, h7⟩
      rw [vec_neg h1 h2] at h
      simp at h; omega
    simp [hd]
  · refine bool_dec ?_
    rw [beq_iff_eq]
    simp at h
    obtain ⟨⟨⟨⟨⟨h1, h2⟩, h3⟩, h4⟩, h5⟩, h6⟩ := h
    have vn := vec_neg h1 h2
    rw [Int.zero_sub] at vn
    rw [vn] at h3 h5
    obtain ⟨e1, e2, e3, e4⟩ := vec_prod h1 h2 h3 h4 h5 h6
    rw [e1, e2, e3, e4]
    constructor
    · intro h7; exact ⟨h1, h2, h3, h4, h5, h6, h7⟩
    · intro h; exact h.2.2.2.2.2.2
theorem mark_pure (h : Int) : Pure Tryz.prog 77 [.int .i64 h] (.int .i64 (h % 256)) := by
  (refine pure_of_ev tt_ok Tryz.func77 rfl (by decide +kernel) (Nat.le_of_ble_eq_true rfl) ?_; simp only [Tryz.f77])
  repeat' first
    | refine ev_seq (fun K hK => ?_)
    | ((first | refine evr tt_ok false ?_ | refine ev_skip ?_ | refine ev_ret ?_ | refine ev_exit ?_ | refine evc (fun X Y hX hY => ?_)); simp only [go_sem, reduceAdd, reduceSub, reduceMul, reduceEqDiff, reduceLeDiff, Nat.reduceBEq, reduceLT, reduceIte, reduceCtorEq, Int.reduceToNat, and255]; try (first | (refine ⟨fun h => hX ?_, fun h => hY ?_⟩; clear hX hY) | (refine hX ?_; clear hX hY) | (refine hY ?_; clear hX hY)))
    | refine ev_block ?_
    | (apply hK; clear hK)
    | apply_assumption -exfalso -symm only [*]
    | (refine And.intro ?_ ?_; first | omega | assumption | (unfold maxLen; omega) | (simp only [decide_eq_true_eq, decide_eq_false_iff_not, Int.not_lt, Int.not_le] at h; omega))
def encVec (v : Vec) : List V := [.int .i64 v.x, .int .i64 v.y, .int .i64 v.d]
theorem take_getD {α : Type} {l : List α} {i : Nat} (h : i < l.length) (d : α) : l.take (i + 1) = l.take i ++ [l.getD i d] := by
  rw [List.take_succ, List.getElem?_eq_getElem h]
  simp [List.getD_eq_getElem?_getD, List.getElem?_eq_getElem h]
end Go.Proofs.YtbibplkhhdomnaaGreat
namespace Go.Proofs.YtbibplkhhdomnaaGreat
structure Fld where
  (x y w h : Int)
  v : List Int
def Fld.ok (f : Fld) : Prop := 0 ≤ f.w ∧ f.w ≤ 64 ∧ 0 ≤ f.h ∧ f.h ≤ 64 ∧ (f.w = 0 ↔ f.h = 0) ∧ (f.v.length : Int) = f.w * f.h ∧ -16384 ≤ f.x ∧ f.x ≤ 16384 ∧ -16384 ≤ f.y ∧ f.y ≤ 16384 ∧ (f.w = 0 → f.x = 0 ∧ f.y = 0)
instance decFldOk (f : Fld) : Decidable f.ok := by unfold Fld.ok; infer_instance
def bytesL (l : List Int) : Prop := ∀ b ∈ l, 0 ≤ b ∧ b ≤ 255
def Fld.fine (f : Fld) : Prop := 0 ≤ f.w ∧ f.w ≤ 128 ∧ 0 ≤ f.h ∧ f.h ≤ 128 ∧ (f.v.length : Int) = f.w * f.h ∧ -32768 ≤ f.x ∧ f.x ≤ 32768 ∧ -32768 ≤ f.y ∧ f.y ≤ 32768 ∧ bytesL f.v
def inF (f : Fld) (x y : Int) : Prop := 0 ≤ x - f.x ∧ x - f.x < f.w ∧ 0 ≤ y - f.y ∧ y - f.y < f.h
instance decInF (f : Fld) (x y : Int) : Decidable (inF f x y) := by unfold inF; infer_instance
def atM (f : Fld) (x y : Int) : Int := if inF f x y then f.v.getD ((y - f.y) * f.w + (x - f.x)).toNat 0 else 0
theorem getD_byte {l : List Int} (h : bytesL l) (i : Nat) : 0 ≤ l.getD i 0 ∧ l.getD i 0 ≤ 255 := by
  rw [List.getD_eq_getElem?_getD]
  cases hi : l[i]? with
  | none => simp
  | some b => exact h b (List.mem_of_getElem? hi)
theorem at_byte {f : Fld} (h : bytesL f.v) (x y : Int) : 0 ≤ atM f x y ∧ atM f x y ≤ 255 := by
  unfold atM; split
  · exact getD_byte h _
  · omega
theorem mul_in {w h i j : Int} (hi : 0 ≤ i) (hi2 : i < w) (hj : 0 ≤ j) (hj2 : j < h) : 0 ≤ j * w + i ∧ j * w + i < w * h := by
  have h1 : 0 ≤ j * w := Int.mul_nonneg hj (by omega)
  have h2 : (j + 1) * w ≤ h * w := Int.mul_le_mul_of_nonneg_right (by omega) (by omega)
  rw [Int.add_mul, Int.one_mul] at h2
  rw [Int.mul_comm w h]
  omega
theorem mul_small {a b n m : Int} (ha : 0 ≤ a) (ha2 : a ≤ n) (hb : 0 ≤ b) (hb2 : b ≤ m) : 0 ≤ a * b ∧ a * b ≤ n * m :=
  ⟨Int.mul_nonneg ha hb, Int.mul_le_mul ha2 hb2 hb (by omega)⟩
def m4 (f : Fld) (k x y : Int) : Int := max (max (max (atM f x y) (atM f (x + k) y)) (atM f x (y + k))) (atM f (x + k) (y + k))
def raiseL (f : Fld) (k : Int) (n : Nat) : List Int := (List.range n).map fun i : Nat => m4 f k (f.x - k + i % (f.w + k)) (f.y - k + i / (f.w + k))
def raiseM (f : Fld) (k : Int) : Fld := ⟨f.x - k, f.y - k, f.w + k, f.h + k, raiseL f k ((f.w + k) * (f.h + k)).toNat⟩
theorem raiseL_len (f : Fld) (k : Int) (n : Nat) : (raiseL f k n).length = n := by simp [raiseL]
theorem raiseL_get (f : Fld) (k : Int) {i n : Nat} (h : i < n) : (raiseL f k n).getD i 0 = m4 f k (f.x - k + i % (f.w + k)) (f.y - k + i / (f.w + k)) := by
  simp [raiseL, List.getD_eq_getElem?_getD, h]
theorem m4_byte {f : Fld} (h : bytesL f.v) (k x y : Int) : 0 ≤ m4 f k x y ∧ m4 f k x y ≤ 255 := by
  have h1 := at_byte h x y
  have h2 := at_byte h (x + k) y
  have h3 := at_byte h x (y + k)
  have h4 := at_byte h (x + k) (y + k)
  unfold m4
  omega
theorem raise_bytes {f : Fld} (h : bytesL f.v) (k : Int) : bytesL (raiseM f k).v := by
  intro b hb
  obtain ⟨i, _, rfl⟩ := List.mem_map.1 hb
  exact m4_byte h _ _ _
theorem at_out {f : Fld} {x y : Int} (h : ¬ inF f x y) : atM f x y = 0 := if_neg h
theorem at_raise {f : Fld} {k : Int} (hk : 0 < k) (hw : 0 ≤ f.w) (hh : 0 ≤ f.h) (x y : Int) : atM (raiseM f k) x y = m4 f k x y := by
  by_cases hin : inF (raiseM f k) x y
  · have h0 := hin
    unfold inF at h0
    simp only [raiseM] at h0
    obtain ⟨h1, h2, h3, h4⟩ := h0
    obtain ⟨q1, q2⟩ := mul_in h1 h2 h3 h4
    unfold atM
    rw [if_pos hin]
    simp only [raiseM]
    rw [raiseL_get f k (by omega)]
    have e0 : ((((y - (f.y - k)) * (f.w + k) + (x - (f.x - k))).toNat : Nat) : Int) = (y - (f.y - k)) * (f.w + k) + (x - (f.x - k)) := by omega
    rw [e0]
    have e1 : ((y - (f.y - k)) * (f.w + k) + (x - (f.x - k))) % (f.w + k) = x - (f.x - k) := by
      rw [Int.add_comm, Int.add_mul_emod_self_right]
      exact Int.emod_eq_of_lt h1 h2
    have e2 : ((y - (f.y - k)) * (f.w + k) + (x - (f.x - k))) / (f.w + k) = y - (f.y - k) := by
      rw [Int.add_comm, Int.add_mul_ediv_right _ _ (by omega), Int.ediv_eq_zero_of_lt h1 h2]
      omega
    rw [e1, e2, show f.x - k + (x - (f.x - k)) = x by omega, show f.y - k + (y - (f.y - k)) = y by omega]
  · rw [at_out hin]
    have h0 := hin
    unfold inF at h0
    simp only [raiseM] at h0
    have o1 : ¬ inF f x y := fun h => h0 (by unfold inF at h; omega)
    have o2 : ¬ inF f (x + k) y := fun h => h0 (by unfold inF at h; omega)
    have o3 : ¬ inF f x (y + k) := fun h => h0 (by unfold inF at h; omega)
    have o4 : ¬ inF f (x + k) (y + k) := fun h => h0 (by unfold inF at h; omega)
    unfold m4
    rw [at_out o1, at_out o2, at_out o3, at_out o4]
    omega
def lev (f : Fld) : Nat → Fld
  | 0 => f
  | n + 1 => raiseM (lev f n) (2 ^ n)
theorem two_pos (n : Nat) : (0 : Int) < 2 ^ n := Int.pow_pos (by omega)
theorem lev_dims (f : Fld) : ∀ n : Nat, (lev f n).w = f.w + (2 ^ n - 1) ∧ (lev f n).h = f.h + (2 ^ n - 1) ∧ (lev f n).x = f.x - (2 ^ n - 1) ∧ (lev f n).y = f.y - (2 ^ n - 1)
  | 0 => by simp [lev]
  | n + 1 => by
    obtain ⟨h1, h2, h3, h4⟩ := lev_dims f n
    simp only [lev, raiseM, h1, h2, h3, h4, Int.pow_succ]
    omega
theorem lev_bytes {f : Fld} (h : bytesL f.v) : ∀ n : Nat, bytesL (lev f n).v
  | 0 => h
  | n + 1 => raise_bytes (lev_bytes h n) _
theorem pow_le6 {n : Nat} (h : n ≤ 6) : (2 : Int) ^ n ≤ 64 ∧ (1 : Int) ≤ 2 ^ n := by
  have : n = 0 ∨ n = 1 ∨ n = 2 ∨ n = 3 ∨ n = 4 ∨ n = 5 ∨ n = 6 := by omega
  rcases this with rfl | rfl | rfl | rfl | rfl | rfl | rfl <;> decide
theorem lev_fine {f : Fld} (h : f.ok) (hb : bytesL f.v) {n : Nat} (hn : n ≤ 6) : (lev f n).fine := by
  obtain ⟨h1, h2, h3, h4, h5, h6, h7, h8, h9, h10, h11⟩ := id h
  obtain ⟨p1, p2⟩ := pow_le6 hn
  obtain ⟨d1, d2, d3, d4⟩ := lev_dims f n
  refine ⟨by omega, by omega, by omega, by omega, ?_, by omega, by omega, by omega, by omega, lev_bytes hb n⟩
  cases n with
  | zero => exact h6
  | succ n =>
    simp only [lev, raiseM] at d1 d2 ⊢
    rw [raiseL_len]
    have := (mul_small (a := (lev f n).w + 2 ^ n) (b := (lev f n).h + 2 ^ n) (n := 128) (m := 128) (by omega) (by omega) (by omega) (by omega)).1
    omega
theorem at_lev {f : Fld} (hw : 0 ≤ f.w) (hh : 0 ≤ f.h) (n : Nat) (x y : Int) : atM (lev f (n + 1)) x y = m4 (lev f n) (2 ^ n) x y := by
  obtain ⟨d1, d2, _, _⟩ := lev_dims f n
  have := two_pos n
  exact at_raise this (by omega) (by omega) x y
structure SqMax (f : Fld) (k x y m : Int) : Prop where
  pos : 0 ≤ m
  all : ∀ i j : Int, 0 ≤ i → i < k → 0 ≤ j → j < k → atM f (x + i) (y + j) ≤ m
  att : m = 0 ∨ ∃ i j : Int, 0 ≤ i ∧ i < k ∧ 0 ≤ j ∧ j < k ∧ atM f (x + i) (y + j) = m
theorem SqMax.uniq {f : Fld} {k x y m n : Int} (h : SqMax f k x y m) (g : SqMax f k x y n) : m = n := by
  have key : ∀ {a b : Int}, SqMax f k x y a → SqMax f k x y b → a ≤ b := by
    intro a b ha hb
    rcases ha.att with e | ⟨i, j, h1, h2, h3, h4, e⟩
    · rw [e]; exact hb.pos
    · rw [← e]; exact hb.all i j h1 h2 h3 h4
  exact Int.le_antisymm (key h g) (key g h)
theorem sq_four {f : Fld} {k x y a b c d : Int} (ha : SqMax f k x y a) (hb : SqMax f k (x + k) y b) (hc : SqMax f k x (y + k) c) (hd : SqMax f k (x + k) (y + k) d) :
    SqMax f (2 * k) x y (max (max (max a b) c) d) := by
  have p1 := ha.pos; have p2 := hb.pos; have p3 := hc.pos; have p4 := hd.pos
  refine ⟨by omega, fun i j i0 i1 j0 j1 => ?_, ?_⟩
  · by_cases hi : i < k <;> by_cases hj : j < k
    · have := ha.all i j i0 hi j0 hj; omega
    · have := hc.all i (j - k) i0 hi (by omega) (by omega)
      rw [show y + k + (j - k) = y + j by omega] at this; omega
    · have := hb.all (i - k) j (by omega) (by omega) j0 hj
      rw [show x + k + (i - k) = x + i by omega] at this; omega
    · have := hd.all (i - k) (j - k) (by omega) (by omega) (by omega) (by omega)
      rw [show x + k + (i - k) = x + i by omega, show y + k + (j - k) = y + j by omega] at this; omega
  · have hm : max (max (max a b) c) d = a ∨ max (max (max a b) c) d = b ∨ max (max (max a b) c) d = c ∨ max (max (max a b) c) d = d := by omega
    rcases hm with e | e | e | e
    · rw [e]
      rcases ha.att with h | ⟨i, j, h1, h2, h3, h4, h5⟩
      · exact .inl h
      · exact .inr ⟨i, j, h1, by omega, h3, by omega, h5⟩
    · rw [e]
      rcases hb.att with h | ⟨i, j, h1, h2, h3, h4, h5⟩
      · exact .inl h
      · exact .inr ⟨k + i, j, by omega, by omega, h3, by omega, by rw [← h5]; congr 1; omega⟩
    · rw [e]
      rcases hc.att with h | ⟨i, j, h1, h2, h3, h4, h5⟩
      · exact .inl h
      · exact .inr ⟨i, k + j, h1, by omega, by omega, by omega, by rw [← h5]; congr 1; omega⟩
    · rw [e]
      rcases hd.att with h | ⟨i, j, h1, h2, h3, h4, h5⟩
      · exact .inl h
      · exact .inr ⟨k + i, k + j, by omega, by omega, by omega, by omega, by rw [← h5]; congr 1 <;> omega⟩
theorem lev_max {f : Fld} (hb : bytesL f.v) (hw : 0 ≤ f.w) (hh : 0 ≤ f.h) : ∀ (n : Nat) (x y : Int), SqMax f (2 ^ n) x y (atM (lev f n) x y)
  | 0, x, y => by
    simp only [lev, Int.pow_zero]
    refine ⟨(at_byte hb x y).1, fun i j i0 i1 j0 j1 => ?_, .inr ⟨0, 0, by omega, by omega, by omega, by omega, by simp⟩⟩
    obtain rfl : i = 0 := by omega
    obtain rfl : j = 0 := by omega
    simp
  | n + 1, x, y => by
    rw [at_lev hw hh, Int.pow_succ, Int.mul_comm]
    exact sq_four (lev_max hb hw hh n _ _) (lev_max hb hw hh n _ _) (lev_max hb hw hh n _ _) (lev_max hb hw hh n _ _)
end Go.Proofs.YtbibplkhhdomnaaGreat
namespace Go.Proofs.YtbibplkhhdomnaaGreat
def smN (g : Nat → Int) : Nat → Int
  | 0 => 0
  | n + 1 => smN g n + g n
theorem smN_bound {g : Nat → Int} {m : Int} (hm : 0 ≤ m) : ∀ (n : Nat), (∀ i, i < n → 0 ≤ g i ∧ g i ≤ m) → 0 ≤ smN g n ∧ smN g n ≤ n * m
  | 0, _ => by simp [smN]
  | n + 1, h => by
    have h1 := smN_bound hm n fun i hi => h i (by omega)
    have h2 := h n (by omega)
    simp only [smN]
    rw [show ((n + 1 : Nat) : Int) * m = n * m + m by rw [Int.natCast_add, Int.add_mul]; simp]
    omega
theorem smN_zero : ∀ n : Nat, smN (fun _ => 0) n = 0
  | 0 => rfl
  | n + 1 => by simp only [smN]; rw [smN_zero n]; rfl
def Fld.W (f : Fld) : Nat := f.w.toNat
def Fld.H (f : Fld) : Nat := f.h.toNat
def cellV (f : Fld) (j i : Nat) : Int := f.v.getD (j * f.W + i) 0
def rowS (f : Fld) (j c : Nat) : Int := smN (cellV f j) c
def preS (f : Fld) (r c : Nat) : Int := smN (fun j => rowS f j c) r
theorem preS_zero_c (f : Fld) (r : Nat) : preS f r 0 = 0 := smN_zero r
theorem preS_step (f : Fld) (r c : Nat) : preS f (r + 1) (c + 1) = cellV f r c + preS f (r + 1) c + preS f r (c + 1) - preS f r c := by
  simp only [preS, smN, rowS]; omega
theorem cell_byte {f : Fld} (h : bytesL f.v) (j i : Nat) : 0 ≤ cellV f j i ∧ cellV f j i ≤ 255 := getD_byte h _
theorem preS_bound {f : Fld} (h : bytesL f.v) {r c : Nat} (hr : r ≤ 64) (hc : c ≤ 64) : 0 ≤ preS f r c ∧ preS f r c ≤ 1044480 := by
  have h1 := smN_bound (g := fun j => rowS f j c) (m := 16320) (by omega) r fun j _ => by
    have := smN_bound (g := cellV f j) (m := 255) (by omega) c fun i _ => cell_byte h j i
    refine ⟨this.1, ?_⟩
    show smN (cellV f j) c ≤ 16320
    omega
  unfold preS
  omega
def sumsL (f : Fld) (i : Nat) : List Int := (List.range ((f.W + 1) * (f.H + 1))).map fun q =>
  if q / (f.W + 1) = 0 ∨ q % (f.W + 1) = 0 ∨ (q / (f.W + 1) - 1) * f.W + (q % (f.W + 1) - 1) < i then preS f (q / (f.W + 1)) (q % (f.W + 1)) else 0
theorem sumsL_len (f : Fld) (i : Nat) : (sumsL f i).length = (f.W + 1) * (f.H + 1) := by simp [sumsL]
theorem sumsL_get (f : Fld) (i : Nat) {q : Nat} (h : q < (f.W + 1) * (f.H + 1)) : (sumsL f i).getD q 0 = if q / (f.W + 1) = 0 ∨ q % (f.W + 1) = 0 ∨ (q / (f.W + 1) - 1) * f.W + (q % (f.W + 1) - 1) < i then preS f (q / (f.W + 1)) (q % (f.W + 1)) else 0 := by
  simp [sumsL, List.getD_eq_getElem?_getD, h]
theorem dm {w r c : Nat} (h : c < w) : (r * w + c) / w = r ∧ (r * w + c) % w = c := by
  constructor
  · rw [Nat.mul_comm, Nat.mul_add_div (by omega), Nat.div_eq_of_lt h, Nat.add_zero]
  · rw [Nat.mul_comm, Nat.mul_add_mod, Nat.mod_eq_of_lt h]
theorem lt_mul {w h r c : Nat} (hr : r < h) (hc : c < w) : r * w + c < w * h := by
  have := Nat.mul_le_mul_right w (Nat.succ_le_of_lt hr)
  rw [Nat.succ_mul, Nat.mul_comm h w] at this
  omega
theorem sumsL_at (f : Fld) (i : Nat) {r c : Nat} (hr : r ≤ f.H) (hc : c ≤ f.W) (hd : r = 0 ∨ c = 0 ∨ (r - 1) * f.W + (c - 1) < i) : (sumsL f i).getD (r * (f.W + 1) + c) 0 = preS f r c := by
  obtain ⟨d1, d2⟩ := dm (w := f.W + 1) (r := r) (c := c) (by omega)
  rw [sumsL_get f i (lt_mul (by omega) (by omega)), d1, d2, if_pos hd]
theorem sumsL_zero (f : Fld) : sumsL f 0 = List.replicate ((f.W + 1) * (f.H + 1)) 0 := by
  refine List.ext_getElem (by simp [sumsL]) fun q h1 h2 => ?_
  simp only [sumsL, List.getElem_map, List.getElem_range, List.getElem_replicate]
  split
  · rename_i h
    rcases h with h | h | h
    · rw [h]; rfl
    · rw [h]; exact preS_zero_c f _
    · omega
  · rfl
theorem sumsL_succ (f : Fld) {r c : Nat} (hr : r < f.H) (hc : c < f.W) : (sumsL f (r * f.W + c)).set ((r + 1) * (f.W + 1) + (c + 1)) (preS f (r + 1) (c + 1)) = sumsL f (r * f.W + c + 1) := by
  refine List.ext_getElem (by simp [sumsL]) fun q h1 h2 => ?_
  rw [List.getElem_set]
  obtain ⟨d1, d2⟩ := dm (w := f.W + 1) (r := r + 1) (c := c + 1) (by omega)
  split
  · rename_i e
    subst e
    simp only [sumsL, List.getElem_map, List.getElem_range, d1, d2]
    rw [if_pos (.inr (.inr (by simp)))]
  · rename_i e
    simp only [sumsL, List.getElem_map, List.getElem_range]
    by_cases hz : q / (f.W + 1) = 0 ∨ q % (f.W + 1) = 0
    · rw [if_pos (by rcases hz with h | h <;> simp [h]), if_pos (by rcases hz with h | h <;> simp [h])]
    · have hne : (q / (f.W + 1) - 1) * f.W + (q % (f.W + 1) - 1) ≠ r * f.W + c := by
        intro h
        have hm := Nat.mod_lt q (show 0 < f.W + 1 by omega)
        obtain ⟨a1, a2⟩ := dm (w := f.W) (r := q / (f.W + 1) - 1) (c := q % (f.W + 1) - 1) (by omega)
        obtain ⟨b1, b2⟩ := dm (w := f.W) (r := r) (c := c) hc
        rw [h] at a1 a2
        have hq := Nat.div_add_mod' q (f.W + 1)
        apply e
        have z1 : q / (f.W + 1) ≠ 0 := fun h => hz (.inl h)
        have z2 : q % (f.W + 1) ≠ 0 := fun h => hz (.inr h)
        have y1 := a1.symm.trans b1
        have y2 := a2.symm.trans b2
        generalize q / (f.W + 1) = u at *
        generalize q % (f.W + 1) = v at *
        rw [← hq, show u = r + 1 by omega, show v = c + 1 by omega]
      by_cases hlt : (q / (f.W + 1) - 1) * f.W + (q % (f.W + 1) - 1) < r * f.W + c
      · rw [if_pos (.inr (.inr hlt)), if_pos (.inr (.inr (by omega)))]
      · rw [if_neg (by intro h; rcases h with h | h | h; exact hz (.inl h); exact hz (.inr h); exact hlt h), if_neg (by intro h; rcases h with h | h | h; exact hz (.inl h); exact hz (.inr h); omega)]
structure Rc where
  (x0 y0 x1 y1 : Int)
def farM (n : Int) : Bool := decide (n < -32768) || decide (32768 < n)
def clipM (n m : Int) : Int := min (max n 0) m
def Rc.empty (r : Rc) : Prop := r.x1 < r.x0 ∨ r.y1 < r.y0 ∨ (farM r.x0 || farM r.y0 || farM r.x1 || farM r.y1) = true
instance decRcEmpty (r : Rc) : Decidable r.empty := by unfold Rc.empty; infer_instance
def preI (f : Fld) (y x : Int) : Int := preS f y.toNat x.toNat
def boxS (f : Fld) (x0 x1 y0 y1 : Int) : Int := preI f y1 x1 - preI f y1 x0 - preI f y0 x1 + preI f y0 x0
def sumM (f : Fld) (r : Rc) : Int :=
  if r.empty then 0 else boxS f (clipM (r.x0 - f.x) f.w) (clipM (r.x1 - f.x + 1) f.w) (clipM (r.y0 - f.y) f.h) (clipM (r.y1 - f.y + 1) f.h)
def inR (f : Fld) (r : Rc) (j i : Nat) : Prop := r.x0 ≤ f.x + i ∧ f.x + i ≤ r.x1 ∧ r.y0 ≤ f.y + j ∧ f.y + j ≤ r.y1
instance decInR (f : Fld) (r : Rc) (j i : Nat) : Decidable (inR f r j i) := by unfold inR; infer_instance
def rowR (f : Fld) (r : Rc) (j : Nat) : Nat → Int := smN fun i => if inR f r j i then cellV f j i else 0
def sumR (f : Fld) (r : Rc) : Int := smN (fun j => rowR f r j f.W) f.H
structure Pk (l : List Int) (n : Nat) (i : Nat) (b : Int) : Prop where
  all : ∀ j, j < n → l.getD j 0 ≤ b
  at_ : (b = 0 ∧ i = 0) ∨ (0 < b ∧ i < n ∧ l.getD i 0 = b ∧ ∀ j, j < i → l.getD j 0 < b)
theorem Pk.uniq {l : List Int} {n i j : Nat} {b c : Int} (h : Pk l n i b) (g : Pk l n j c) : i = j ∧ b = c := by
  rcases h.at_ with ⟨h1, h2⟩ | ⟨h1, h2, h3, h4⟩ <;> rcases g.at_ with ⟨g1, g2⟩ | ⟨g1, g2, g3, g4⟩
  · omega
  · have := h.all j g2; omega
  · have := g.all i h2; omega
  · have e1 := h.all j g2
    have e2 := g.all i h2
    have hb : b = c := by omega
    refine ⟨?_, hb⟩
    rcases Nat.lt_trichotomy i j with hl | hl | hl
    · have := g4 i hl; omega
    · exact hl
    · have := h4 j hl; omega
theorem Pk.step {l : List Int} {n i : Nat} {b : Int} (h : Pk l n i b) (h0 : 0 ≤ b) : (b < l.getD n 0 → Pk l (n + 1) n (l.getD n 0)) ∧ (¬ b < l.getD n 0 → Pk l (n + 1) i b) := by
  constructor
  · intro hb
    refine ⟨fun j hj => ?_, .inr ⟨by omega, by omega, rfl, fun j hj => ?_⟩⟩
    · by_cases e : j = n
      · subst e; omega
      · have := h.all j (by omega); omega
    · have := h.all j hj; omega
  · intro hb
    refine ⟨fun j hj => ?_, ?_⟩
    · by_cases e : j = n
      · subst e; omega
      · exact h.all j (by omega)
    · rcases h.at_ with h1 | ⟨h1, h2, h3, h4⟩
      · exact .inl h1
      · exact .inr ⟨h1, by omega, h3, h4⟩
def cntN (l : List Int) (v : Int) : Nat → Nat
  | 0 => 0
  | n + 1 => cntN l v n + if v ≤ l.getD n 0 then 1 else 0
end Go.Proofs.YtbibplkhhdomnaaGreat
namespace Go.Proofs.YtbibplkhhdomnaaGreat
open Go Go.K
end Go.Proofs.YtbibplkhhdomnaaGreat
