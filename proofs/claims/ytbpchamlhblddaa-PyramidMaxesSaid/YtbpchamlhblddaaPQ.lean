import Derived.Test.YtbpchamlhblddaaKT
import Derived.Test.YtbpchamlhblddaaK14
import Derived.Test.YtbpchamlhblddaaK17
import Derived.Test.YtbpchamlhblddaaPB
import Derived.Laws.BitsLemmas
set_option linter.all false
namespace Go.Proofs.Ytbpchamlhblddaa
open Nat (reduceAdd reduceSub reduceMul reduceEqDiff reduceLeDiff reduceLT)
open Go Go.K
theorem hmix : Try.prog.follows .mixedOrders = true := by decide +kernel
set_option maxRecDepth 20000
set_option maxHeartbeats 4000000
theorem mod_pure (a b : Int) (hb : 0 < b) (h2 : b < 4611686018427387904) : Pure Try.prog 17 [.int .i64 a, .int .i64 b] (.int .i64 (a % b)) := by
  (refine pure_of_ev tt_ok Try.func17 rfl (by decide +kernel) (Nat.le_of_ble_eq_true rfl) ?_; simp only [Try.f17])
  repeat' first
    | refine ev_seq (fun K hK => ?_)
    | ((first | refine evr tt_ok false ?_ | refine ev_skip ?_ | refine ev_ret ?_ | refine ev_exit ?_ | refine evc (fun X Y hX hY => ?_)); simp only [go_sem, reduceAdd, reduceSub, reduceMul, reduceEqDiff, reduceLeDiff, Nat.reduceBEq, reduceLT, reduceIte, reduceCtorEq, Int.reduceToNat]; try (first | (refine ⟨fun h => hX ?_, fun h => hY ?_⟩; clear hX hY) | (refine hX ?_; clear hX hY) | (refine hY ?_; clear hX hY)))
    | refine ev_block ?_
    | (apply hK; clear hK)
    | apply_assumption -exfalso -symm only [*]
    | (refine And.intro ?_ ?_; first | omega | assumption | (unfold maxLen; omega) | (simp only [decide_eq_true_eq, decide_eq_false_iff_not, Int.not_lt, Int.not_le] at h; omega))
  · have h1 : a.tmod b < 0 := by simpa using h
    have h3 := Int.emod_nonneg a (Int.ne_of_gt hb)
    have h4 := Int.emod_lt_of_pos a hb
    have h5 := tmod_neg hb h1
    rw [w64 (by omega) (by omega), h5]
  · have h1 : ¬ a.tmod b < 0 := by simpa using h
    rw [tmod_nonneg hb h1]
theorem ite_max (x y : Int) : (if x < y then y else x) = max x y := by split <;> omega
theorem ite_min (x y : Int) : (if y < x then y else x) = min x y := by split <;> omega
attribute [go_sem] ite_max ite_min
theorem bool_ext {p q : Bool} (h : p = true ↔ q = true) : V.bool p = V.bool q := congrArg V.bool (Bool.eq_iff_iff.2 h)
theorem bool_dec {p : Bool} {q : Prop} [Decidable q] (h : p = true ↔ q) : V.bool p = V.bool (decide q) := bool_ext (by rw [decide_eq_true_eq]; exact h)
theorem clip_pure (n l h : Int) : Pure Try.prog 18 [.int .i64 n, .int .i64 l, .int .i64 h] (.int .i64 (max l (min n h))) := by
  (refine pure_of_ev tt_ok Try.func18 rfl (by decide +kernel) (Nat.le_of_ble_eq_true rfl) ?_; simp only [Try.f18])
  repeat' first
    | refine ev_seq (fun K hK => ?_)
    | ((first | refine evr tt_ok false ?_ | refine ev_skip ?_ | refine ev_ret ?_ | refine ev_exit ?_ | refine evc (fun X Y hX hY => ?_)); simp only [go_sem, reduceAdd, reduceSub, reduceMul, reduceEqDiff, reduceLeDiff, Nat.reduceBEq, reduceLT, reduceIte, reduceCtorEq, Int.reduceToNat]; try (first | (refine ⟨fun h => hX ?_, fun h => hY ?_⟩; clear hX hY) | (refine hX ?_; clear hX hY) | (refine hY ?_; clear hX hY)))
    | refine ev_block ?_
    | (apply hK; clear hK)
    | apply_assumption -exfalso -symm only [*]
    | (refine And.intro ?_ ?_; first | omega | assumption | (unfold maxLen; omega) | (simp only [decide_eq_true_eq, decide_eq_false_iff_not, Int.not_lt, Int.not_le] at h; omega))
theorem bsize_pure (n k : Int) (hk : -4611686018427387904 ≤ k ∧ k ≤ 4611686018427387904) : Pure Try.prog 32 [.int .i64 n, .int .i64 k] (.bool (decide (-k ≤ n) && decide (n ≤ k))) := by
  have hw : IntKind.i64.wrap (0 - k) = -k := by rw [w64] <;> omega
  (refine pure_of_ev tt_ok Try.func32 rfl (by decide +kernel) (Nat.le_of_ble_eq_true rfl) ?_; simp only [Try.f32])
  repeat' first
    | refine ev_seq (fun K hK => ?_)
    | ((first | refine evr tt_ok false ?_ | refine ev_skip ?_ | refine ev_ret ?_ | refine ev_exit ?_ | refine evc (fun X Y hX hY => ?_)); simp only [go_sem, reduceAdd, reduceSub, reduceMul, reduceEqDiff, reduceLeDiff, Nat.reduceBEq, reduceLT, reduceIte, reduceCtorEq, Int.reduceToNat, hw]; try (first | (refine ⟨fun h => hX ?_, fun h => hY ?_⟩; clear hX hY) | (refine hX ?_; clear hX hY) | (refine hY ?_; clear hX hY)))
    | refine ev_block ?_
    | (apply hK; clear hK)
    | apply_assumption -exfalso -symm only [*]
    | (refine And.intro ?_ ?_; first | omega | assumption | (unfold maxLen; omega) | (simp only [decide_eq_true_eq, decide_eq_false_iff_not, Int.not_lt, Int.not_le] at h; omega))
theorem take_getD {α : Type} {l : List α} {i : Nat} (h : i < l.length) (d : α) : l.take (i + 1) = l.take i ++ [l.getD i d] := by
  rw [List.take_succ, List.getElem?_eq_getElem h]
  simp [List.getD_eq_getElem?_getD, List.getElem?_eq_getElem h]
end Go.Proofs.Ytbpchamlhblddaa
