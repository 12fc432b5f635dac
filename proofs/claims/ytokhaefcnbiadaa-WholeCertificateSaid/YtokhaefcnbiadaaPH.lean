import Derived.Test.YtokhaefcnbiadaaPG
set_option linter.all false
namespace Go.Proofs.Ytokhaefcnbiadaa
open Nat (reduceAdd reduceSub reduceMul reduceEqDiff reduceLeDiff reduceLT)
open Go Go.K
set_option maxRecDepth 20000
set_option maxHeartbeats 8000000
def pkX (f : Fld) (i : Nat) (b : Int) : Int := if b = 0 then 0 else f.x + ((i % f.W : Nat) : Int)
def pkY (f : Fld) (i : Nat) (b : Int) : Int := if b = 0 then 0 else f.y + ((i / f.W : Nat) : Int)
/-! ### the reference -/
theorem rvalue_pure (f : Fld) (h : f.ok) (x y : Int) : Pure Try.prog 52 [.agg [.int .i64 f.x, .int .i64 f.y, .int .i64 f.w, .int .i64 f.h, .sl (f.v.map enB)], .agg [.int .i64 x, .int .i64 y]] (.int .u8 (atM f x y)) := by
  obtain ⟨h1, h2, h3, h4, h5, h6, h7, h8, h9, h10, h11⟩ := h
  have wx : IntKind.i64.wrap (f.x + f.w) = f.x + f.w := w64 (by omega) (by omega)
  have wy : IntKind.i64.wrap (f.y + f.h) = f.y + f.h := w64 (by omega) (by omega)
  by_cases hin : inF f x y
  · have h0 := hin
    unfold inF at h0
    obtain ⟨p1, p2, p3, p4⟩ := h0
    have n1 : ¬ x < f.x := by omega
    have n2 : ¬ f.x + f.w ≤ x := by omega
    have n3 : ¬ y < f.y := by omega
    have n4 : ¬ f.y + f.h ≤ y := by omega
    have e : atM f x y = f.v.getD ((y - f.y) * f.w + (x - f.x)).toNat 0 := by unfold atM; rw [if_pos hin]
    obtain ⟨q1, q2⟩ := mul_in (w := f.w) (h := f.h) p1 p2 p3 p4
    have q3 := (mul_ok (w := f.w) (h := f.h) h1 (by omega) h3 (by omega)).2.1
    have q4 := (mul_small (a := y - f.y) (b := f.w) (n := 64) (m := 64) (by omega) (by omega) h1 h2)
    have w1 : IntKind.i64.wrap (y - f.y) = y - f.y := w64 (by omega) (by omega)
    have w2 : IntKind.i64.wrap ((y - f.y) * f.w) = (y - f.y) * f.w := w64 (by omega) (by omega)
    have w3 : IntKind.i64.wrap ((y - f.y) * f.w + x) = (y - f.y) * f.w + x := w64 (by omega) (by omega)
    have w4 : IntKind.i64.wrap ((y - f.y) * f.w + x - f.x) = (y - f.y) * f.w + (x - f.x) := by rw [w64] <;> omega
    have q5 : (y - f.y) * f.w + (x - f.x) < (f.v.length : Int) := by omega
    rw [e]
    (refine pure_of_ev tt_ok Try.func52 rfl (by decide +kernel) (Nat.le_of_ble_eq_true rfl) ?_; simp only [Try.f52])
    repeat' first
      | refine ev_seq (fun K hK => ?_)
      | ((first | refine evr tt_ok false ?_ | refine ev_skip ?_ | refine ev_ret ?_ | refine ev_exit ?_ | refine evc (fun X Y hX hY => ?_)); simp only [go_sem, reduceAdd, reduceSub, reduceMul, reduceEqDiff, reduceLeDiff, Nat.reduceBEq, reduceLT, reduceIte, reduceCtorEq, Int.reduceToNat, wx, wy, n1, n2, n3, n4, w1, w2, w3, w4, q1, q5, List.length_map, byte_get]; try (first | (refine ⟨fun h => hX ?_, fun h => hY ?_⟩; clear hX hY) | (refine hX ?_; clear hX hY) | (refine hY ?_; clear hX hY)))
      | refine ev_block ?_
      | (apply hK; clear hK)
      | apply_assumption -exfalso -symm only [*]
      | (refine And.intro ?_ ?_; first | omega | assumption | (unfold maxLen; omega) | (simp only [decide_eq_true_eq, decide_eq_false_iff_not, Int.not_lt, Int.not_le] at h; omega))
  · have hc : (((decide (x < f.x) || decide (f.x + f.w ≤ x)) || decide (y < f.y)) || decide (f.y + f.h ≤ y)) = true := by
      simp only [Bool.or_eq_true, decide_eq_true_eq]
      unfold inF at hin
      omega
    rw [at_out hin]
    (refine pure_of_ev tt_ok Try.func52 rfl (by decide +kernel) (Nat.le_of_ble_eq_true rfl) ?_; simp only [Try.f52])
    repeat' first
      | refine ev_seq (fun K hK => ?_)
      | ((first | refine evr tt_ok false ?_ | refine ev_skip ?_ | refine ev_ret ?_ | refine ev_exit ?_ | refine evc (fun X Y hX hY => ?_)); simp only [go_sem, reduceAdd, reduceSub, reduceMul, reduceEqDiff, reduceLeDiff, Nat.reduceBEq, reduceLT, reduceIte, reduceCtorEq, Int.reduceToNat, wx, wy, hc]; try (first | (refine ⟨fun h => hX ?_, fun h => hY ?_⟩; clear hX hY) | (refine hX ?_; clear hX hY) | (refine hY ?_; clear hX hY)))
      | refine ev_block ?_
      | (apply hK; clear hK)
      | apply_assumption -exfalso -symm only [*]
      | (refine And.intro ?_ ?_; first | omega | assumption | (unfold maxLen; omega) | (simp only [decide_eq_true_eq, decide_eq_false_iff_not, Int.not_lt, Int.not_le] at h; omega))
/-! ### Sum of the reference -/
theorem rowR_bound {f : Fld} (hb : bytesL f.v) (r : Rc) (j : Nat) {i : Nat} (hi : i ≤ 64) : 0 ≤ rowR f r j i ∧ rowR f r j i ≤ 16320 := by
  have := smN_bound (g := fun i => if inR f r j i then cellV f j i else 0) (m := 255) (by omega) i fun k _ => by
    have := cell_byte hb j k
    show 0 ≤ (if inR f r j k then cellV f j k else 0) ∧ (if inR f r j k then cellV f j k else 0) ≤ 255
    split <;> omega
  unfold rowR
  omega
theorem sumR_bound {f : Fld} (hb : bytesL f.v) (r : Rc) {j w : Nat} (hj : j ≤ 64) (hw : w ≤ 64) : 0 ≤ smN (fun j => rowR f r j w) j ∧ smN (fun j => rowR f r j w) j ≤ 1044480 := by
  have := smN_bound (g := fun j => rowR f r j w) (m := 16320) (by omega) j fun k _ => rowR_bound hb r k hw
  omega
end Go.Proofs.Ytokhaefcnbiadaa
