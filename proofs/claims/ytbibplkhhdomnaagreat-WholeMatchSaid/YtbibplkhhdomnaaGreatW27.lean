import Derived.Test.YtbibplkhhdomnaaGreatW26
import Derived.Test.YtbibplkhhdomnaaGreatW13
set_option linter.all false
namespace Go.Proofs.YtbibplkhhdomnaaGreat
open Nat (reduceAdd reduceSub reduceMul reduceEqDiff reduceLeDiff reduceLT)
open Go Go.K
set_option maxRecDepth 20000
set_option maxHeartbeats 8000000
theorem isnan_pure (n : Int) : Pure Tryz.prog 106 [.int .i64 n] (.bool false) := by
  (refine pure_of_ev tt_ok Tryz.func106 rfl (by decide +kernel) (Nat.le_of_ble_eq_true rfl) ?_; simp only [Tryz.f106])
  repeat' first
    | refine ev_seq (fun K hK => ?_)
    | ((first | refine evr tt_ok false ?_ | refine ev_skip ?_ | refine ev_ret ?_ | refine ev_exit ?_ | refine evc (fun X Y hX hY => ?_)); simp only [go_sem, reduceAdd, reduceSub, reduceMul, reduceEqDiff, reduceLeDiff, Nat.reduceBEq, reduceLT, reduceIte, reduceCtorEq, Int.reduceToNat, bne_self_eq_false]; try (first | (refine ⟨fun h => hX ?_, fun h => hY ?_⟩; clear hX hY) | (refine hX ?_; clear hX hY) | (refine hY ?_; clear hX hY)))
    | refine ev_block ?_
    | (apply hK; clear hK)
    | apply_assumption -exfalso -symm only [*]
    | (refine And.intro ?_ ?_; first | omega | assumption | (unfold maxLen; omega) | (simp only [decide_eq_true_eq, decide_eq_false_iff_not, Int.not_lt, Int.not_le] at h; omega))
def compM (a b : Int) : Int := if a < b then -1 else if b < a then 1 else 0
theorem cmpare_pure (a b : Int) : Pure Tryz.prog 90 [.int .i64 a, .int .i64 b] (.int .i64 (compM a b)) := by
  have v1 := isnan_pure a
  have v2 := isnan_pure b
  unfold compM
  by_cases h : a < b
  · rw [if_pos h]
    (refine pure_of_ev tt_ok Tryz.func90 rfl (by decide +kernel) (Nat.le_of_ble_eq_true rfl) ?_; simp only [Tryz.f90])
    repeat' first
      | refine ev_seq (fun K hK => ?_)
      | ((first | refine evr tt_ok false ?_ | refine ev_skip ?_ | refine ev_ret ?_ | refine ev_exit ?_ | refine evc (fun X Y hX hY => ?_)); simp only [go_sem, reduceAdd, reduceSub, reduceMul, reduceEqDiff, reduceLeDiff, Nat.reduceBEq, reduceLT, reduceIte, reduceCtorEq, Int.reduceToNat, h]; try (first | (refine ⟨fun h => hX ?_, fun h => hY ?_⟩; clear hX hY) | (refine hX ?_; clear hX hY) | (refine hY ?_; clear hX hY)))
      | refine ev_block ?_
      | (apply hK; clear hK)
      | apply_assumption -exfalso -symm only [*]
      | (refine And.intro ?_ ?_; first | omega | assumption | (unfold maxLen; omega) | (simp only [decide_eq_true_eq, decide_eq_false_iff_not, Int.not_lt, Int.not_le] at h; omega))
      | ((first | apply callP | apply callPG | apply callP0); (case' hv => (simp only [go_sem, reduceAdd, reduceSub, reduceMul, reduceEqDiff, reduceLeDiff, Nat.reduceBEq, reduceLT, reduceIte, reduceCtorEq, Int.reduceToNat, h]; try exact rfl)); (case' hp => (first | refine' v1 | (refine' (fun hg => ?_); refine' v1) | refine' v2 | (refine' (fun hg => ?_); refine' v2))); (case' h => ((first | refine evOps_fin ?_ | refine And.intro ?_ (evD_fin ?_) | refine evD_fin ?_) <;> simp only [go_sem, reduceAdd, reduceSub, reduceMul, reduceEqDiff, reduceLeDiff, Nat.reduceBEq, reduceLT, reduceIte, reduceCtorEq, Int.reduceToNat, h])))
      | (refine callX ?_; (first | refine evOps_fin ?_ | refine And.intro ?_ (evD_fin ?_) | refine evD_fin ?_) <;> simp only [go_sem, reduceAdd, reduceSub, reduceMul, reduceEqDiff, reduceLeDiff, Nat.reduceBEq, reduceLT, reduceIte, reduceCtorEq, Int.reduceToNat, h])
  · rw [if_neg h]
    by_cases h2 : b < a
    · rw [if_pos h2]
      (refine pure_of_ev tt_ok Tryz.func90 rfl (by decide +kernel) (Nat.le_of_ble_eq_true rfl) ?_; simp only [Tryz.f90])
      repeat' first
        | refine ev_seq (fun K hK => ?_)
        | ((first | refine evr tt_ok false ?_ | refine ev_skip ?_ | refine ev_ret ?_ | refine ev_exit ?_ | refine evc (fun X Y hX hY => ?_)); simp only [go_sem, reduceAdd, reduceSub, reduceMul, reduceEqDiff, reduceLeDiff, Nat.reduceBEq, reduceLT, reduceIte, reduceCtorEq, Int.reduceToNat, h, h2]; try (first | (refine ⟨fun h => hX ?_, fun h => hY ?_⟩; clear hX hY) | (refine hX ?_; clear hX hY) | (refine hY ?_; clear hX hY)))
        | refine ev_block ?_
        | (apply hK; clear hK)
        | apply_assumption -exfalso -symm only [*]
        | (refine And.intro ?_ ?_; first | omega | assumption | (unfold maxLen; omega) | (simp only [decide_eq_true_eq, decide_eq_false_iff_not, Int.not_lt, Int.not_le] at h; omega))
        | ((first | apply callP | apply callPG | apply callP0); (case' hv => (simp only [go_sem, reduceAdd, reduceSub, reduceMul, reduceEqDiff, reduceLeDiff, Nat.reduceBEq, reduceLT, reduceIte, reduceCtorEq, Int.reduceToNat, h, h2]; try exact rfl)); (case' hp => (first | refine' v1 | (refine' (fun hg => ?_); refine' v1) | refine' v2 | (refine' (fun hg => ?_); refine' v2))); (case' h => ((first | refine evOps_fin ?_ | refine And.intro ?_ (evD_fin ?_) | refine evD_fin ?_) <;> simp only [go_sem, reduceAdd, reduceSub, reduceMul, reduceEqDiff, reduceLeDiff, Nat.reduceBEq, reduceLT, reduceIte, reduceCtorEq, Int.reduceToNat, h, h2])))
        | (refine callX ?_; (first | refine evOps_fin ?_ | refine And.intro ?_ (evD_fin ?_) | refine evD_fin ?_) <;> simp only [go_sem, reduceAdd, reduceSub, reduceMul, reduceEqDiff, reduceLeDiff, Nat.reduceBEq, reduceLT, reduceIte, reduceCtorEq, Int.reduceToNat, h, h2])
    · rw [if_neg h2]
      (refine pure_of_ev tt_ok Tryz.func90 rfl (by decide +kernel) (Nat.le_of_ble_eq_true rfl) ?_; simp only [Tryz.f90])
      repeat' first
        | refine ev_seq (fun K hK => ?_)
        | ((first | refine evr tt_ok false ?_ | refine ev_skip ?_ | refine ev_ret ?_ | refine ev_exit ?_ | refine evc (fun X Y hX hY => ?_)); simp only [go_sem, reduceAdd, reduceSub, reduceMul, reduceEqDiff, reduceLeDiff, Nat.reduceBEq, reduceLT, reduceIte, reduceCtorEq, Int.reduceToNat, h, h2]; try (first | (refine ⟨fun h => hX ?_, fun h => hY ?_⟩; clear hX hY) | (refine hX ?_; clear hX hY) | (refine hY ?_; clear hX hY)))
        | refine ev_block ?_
        | (apply hK; clear hK)
        | apply_assumption -exfalso -symm only [*]
        | (refine And.intro ?_ ?_; first | omega | assumption | (unfold maxLen; omega) | (simp only [decide_eq_true_eq, decide_eq_false_iff_not, Int.not_lt, Int.not_le] at h; omega))
        | ((first | apply callP | apply callPG | apply callP0); (case' hv => (simp only [go_sem, reduceAdd, reduceSub, reduceMul, reduceEqDiff, reduceLeDiff, Nat.reduceBEq, reduceLT, reduceIte, reduceCtorEq, Int.reduceToNat, h, h2]; try exact rfl)); (case' hp => (first | refine' v1 | (refine' (fun hg => ?_); refine' v1) | refine' v2 | (refine' (fun hg => ?_); refine' v2))); (case' h => ((first | refine evOps_fin ?_ | refine And.intro ?_ (evD_fin ?_) | refine evD_fin ?_) <;> simp only [go_sem, reduceAdd, reduceSub, reduceMul, reduceEqDiff, reduceLeDiff, Nat.reduceBEq, reduceLT, reduceIte, reduceCtorEq, Int.reduceToNat, h, h2])))
        | (refine callX ?_; (first | refine evOps_fin ?_ | refine And.intro ?_ (evD_fin ?_) | refine evD_fin ?_) <;> simp only [go_sem, reduceAdd, reduceSub, reduceMul, reduceEqDiff, reduceLeDiff, Nat.reduceBEq, reduceLT, reduceIte, reduceCtorEq, Int.reduceToNat, h, h2])
def orM (a b c : Int) : Int := if a = 0 then (if b = 0 then c else b) else a
theorem or_pure (a b c : Int) : Pure Tryz.prog 89 [.sl [[.int .i64 a], [.int .i64 b], [.int .i64 c]]] (.int .i64 (orM a b c)) := by
  have w1 : IntKind.i64.wrap 1 = 1 := by decide
  have w2 : IntKind.i64.wrap 2 = 2 := by decide
  have w3 : IntKind.i64.wrap 3 = 3 := by decide
  have c2 : ((2 : Nat) : Int) = 2 := rfl
  have c3 : ((3 : Nat) : Int) = 3 := rfl
  (refine pure_of_ev tt_ok Tryz.func89 rfl (by decide +kernel) (Nat.le_of_ble_eq_true rfl) ?_; simp only [Tryz.f89])
  repeat' first
    | refine ev_seq (fun K hK => ?_)
    | ((first | refine evr tt_ok false ?_ | refine ev_skip ?_ | refine ev_ret ?_ | refine ev_exit ?_ | refine evc (fun X Y hX hY => ?_)); simp only [go_sem, reduceAdd, reduceSub, reduceMul, reduceEqDiff, reduceLeDiff, Nat.reduceBEq, reduceLT, reduceIte, reduceCtorEq, Int.reduceToNat]; try (first | (refine ⟨fun h => hX ?_, fun h => hY ?_⟩; clear hX hY) | (refine hX ?_; clear hX hY) | (refine hY ?_; clear hX hY)))
    | refine ev_block ?_
    | (apply hK; clear hK)
    | apply_assumption -exfalso -symm only [*]
    | (refine And.intro ?_ ?_; first | omega | assumption | (unfold maxLen; omega) | (simp only [decide_eq_true_eq, decide_eq_false_iff_not, Int.not_lt, Int.not_le] at h; omega))
  refine ev_loop (fun i : Nat => i ≤ 3 ∧ (1 ≤ i → a = 0) ∧ (2 ≤ i → b = 0) ∧ (3 ≤ i → c = 0))
    (fun i => ⟨18, [(8, .int .i64 (i : Int)), (7, .int .i64 3), (6, .sl [[.int .i64 a], [.int .i64 b], [.int .i64 c]]), (3, .int .i64 0)], []⟩)
    (fun i => 3 - i) 0 ⟨by omega, by omega, by omega, by omega⟩ ?_ ?_
  · simp only [go_sem, reduceAdd, reduceSub, reduceMul, reduceEqDiff, reduceLeDiff, Nat.reduceBEq, reduceLT, reduceIte, reduceCtorEq, Int.reduceToNat, fits, fitT, fitOs, fitO, V.under, unders, rowsUnder]
    repeat' first | rfl | apply And.intro
  · rintro i ⟨hi, h1, h2, h3⟩
    have hc : i = 0 ∨ i = 1 ∨ i = 2 ∨ i = 3 := by omega
    rcases hc with rfl | rfl | rfl | rfl
    · by_cases ha : a = 0
      · have ea : (a == 0) = true := by rw [ha]; rfl
        repeat' first
          | refine ev_seq (fun K hK => ?_)
          | ((first | refine evr tt_ok false ?_ | refine ev_skip ?_ | refine ev_ret ?_ | refine ev_exit ?_ | refine evc (fun X Y hX hY => ?_)); simp only [go_sem, reduceAdd, reduceSub, reduceMul, reduceEqDiff, reduceLeDiff, Nat.reduceBEq, reduceLT, reduceIte, reduceCtorEq, Int.reduceToNat, bne, ea, w1, c2, c3, Int.natCast_zero, Int.reduceLT, Int.reduceLE, Int.reduceAdd, Int.zero_add]; try (first | (refine ⟨fun h => hX ?_, fun h => hY ?_⟩; clear hX hY) | (refine hX ?_; clear hX hY) | (refine hY ?_; clear hX hY)))
          | refine ev_block ?_
          | (apply hK; clear hK)
          | apply_assumption -exfalso -symm only [*]
          | (refine And.intro ?_ ?_; first | omega | assumption | (unfold maxLen; omega) | (simp only [decide_eq_true_eq, decide_eq_false_iff_not, Int.not_lt, Int.not_le] at h; omega))
        refine ⟨1, ⟨by omega, by omega, by omega, by omega⟩, by (repeat' first | rfl | apply And.intro), by omega⟩
      · have ea : (a == 0) = false := by rw [beq_eq_false_iff_ne]; exact ha
        have er : orM a b c = a := if_neg ha
        rw [er]
        repeat' first
          | refine ev_seq (fun K hK => ?_)
          | ((first | refine evr tt_ok false ?_ | refine ev_skip ?_ | refine ev_ret ?_ | refine ev_exit ?_ | refine evc (fun X Y hX hY => ?_)); simp only [go_sem, reduceAdd, reduceSub, reduceMul, reduceEqDiff, reduceLeDiff, Nat.reduceBEq, reduceLT, reduceIte, reduceCtorEq, Int.reduceToNat, bne, ea, w1, c2, c3, Int.natCast_zero, Int.reduceLT, Int.reduceLE, Int.reduceAdd, Int.zero_add]; try (first | (refine ⟨fun h => hX ?_, fun h => hY ?_⟩; clear hX hY) | (refine hX ?_; clear hX hY) | (refine hY ?_; clear hX hY)))
          | refine ev_block ?_
          | (apply hK; clear hK)
          | apply_assumption -exfalso -symm only [*]
          | (refine And.intro ?_ ?_; first | omega | assumption | (unfold maxLen; omega) | (simp only [decide_eq_true_eq, decide_eq_false_iff_not, Int.not_lt, Int.not_le] at h; omega))
    · have ha := h1 (by omega)
      by_cases hb : b = 0
      · have ea : (b == 0) = true := by rw [hb]; rfl
        repeat' first
          | refine ev_seq (fun K hK => ?_)
          | ((first | refine evr tt_ok false ?_ | refine ev_skip ?_ | refine ev_ret ?_ | refine ev_exit ?_ | refine evc (fun X Y hX hY => ?_)); simp only [go_sem, reduceAdd, reduceSub, reduceMul, reduceEqDiff, reduceLeDiff, Nat.reduceBEq, reduceLT, reduceIte, reduceCtorEq, Int.reduceToNat, bne, ea, w2, c2, c3, Int.natCast_one, Int.reduceLT, Int.reduceLE, Int.reduceAdd]; try (first | (refine ⟨fun h => hX ?_, fun h => hY ?_⟩; clear hX hY) | (refine hX ?_; clear hX hY) | (refine hY ?_; clear hX hY)))
          | refine ev_block ?_
          | (apply hK; clear hK)
          | apply_assumption -exfalso -symm only [*]
          | (refine And.intro ?_ ?_; first | omega | assumption | (unfold maxLen; omega) | (simp only [decide_eq_true_eq, decide_eq_false_iff_not, Int.not_lt, Int.not_le] at h; omega))
        refine ⟨2, ⟨by omega, by omega, by omega, by omega⟩, by (repeat' first | rfl | apply And.intro), by omega⟩
      · have ea : (b == 0) = false := by rw [beq_eq_false_iff_ne]; exact hb
        have er : orM a b c = b := by unfold orM; rw [if_pos ha, if_neg hb]
        rw [er]
        repeat' first
          | refine ev_seq (fun K hK => ?_)
          | ((first | refine evr tt_ok false ?_ | refine ev_skip ?_ | refine ev_ret ?_ | refine ev_exit ?_ | refine evc (fun X Y hX hY => ?_)); simp only [go_sem, reduceAdd, reduceSub, reduceMul, reduceEqDiff, reduceLeDiff, Nat.reduceBEq, reduceLT, reduceIte, reduceCtorEq, Int.reduceToNat, bne, ea, w2, c2, c3, Int.natCast_one, Int.reduceLT, Int.reduceLE, Int.reduceAdd]; try (first | (refine ⟨fun h => hX ?_, fun h => hY ?_⟩; clear hX hY) | (refine hX ?_; clear hX hY) | (refine hY ?_; clear hX hY)))
          | refine ev_block ?_
          | (apply hK; clear hK)
          | apply_assumption -exfalso -symm only [*]
          | (refine And.intro ?_ ?_; first | omega | assumption | (unfold maxLen; omega) | (simp only [decide_eq_true_eq, decide_eq_false_iff_not, Int.not_lt, Int.not_le] at h; omega))
    · have ha := h1 (by omega)
      have hb := h2 (by omega)
      by_cases hc : c = 0
      · have ea : (c == 0) = true := by rw [hc]; rfl
        repeat' first
          | refine ev_seq (fun K hK => ?_)
          | ((first | refine evr tt_ok false ?_ | refine ev_skip ?_ | refine ev_ret ?_ | refine ev_exit ?_ | refine evc (fun X Y hX hY => ?_)); simp only [go_sem, reduceAdd, reduceSub, reduceMul, reduceEqDiff, reduceLeDiff, Nat.reduceBEq, reduceLT, reduceIte, reduceCtorEq, Int.reduceToNat, bne, ea, w3, c2, c3, Int.reduceLT, Int.reduceLE, Int.reduceAdd]; try (first | (refine ⟨fun h => hX ?_, fun h => hY ?_⟩; clear hX hY) | (refine hX ?_; clear hX hY) | (refine hY ?_; clear hX hY)))
          | refine ev_block ?_
          | (apply hK; clear hK)
          | apply_assumption -exfalso -symm only [*]
          | (refine And.intro ?_ ?_; first | omega | assumption | (unfold maxLen; omega) | (simp only [decide_eq_true_eq, decide_eq_false_iff_not, Int.not_lt, Int.not_le] at h; omega))
        refine ⟨3, ⟨by omega, by omega, by omega, by omega⟩, by (repeat' first | rfl | apply And.intro), by omega⟩
      · have ea : (c == 0) = false := by rw [beq_eq_false_iff_ne]; exact hc
        have er : orM a b c = c := by unfold orM; rw [if_pos ha, if_pos hb]
        rw [er]
        repeat' first
          | refine ev_seq (fun K hK => ?_)
          | ((first | refine evr tt_ok false ?_ | refine ev_skip ?_ | refine ev_ret ?_ | refine ev_exit ?_ | refine evc (fun X Y hX hY => ?_)); simp only [go_sem, reduceAdd, reduceSub, reduceMul, reduceEqDiff, reduceLeDiff, Nat.reduceBEq, reduceLT, reduceIte, reduceCtorEq, Int.reduceToNat, bne, ea, w3, c2, c3, Int.reduceLT, Int.reduceLE, Int.reduceAdd]; try (first | (refine ⟨fun h => hX ?_, fun h => hY ?_⟩; clear hX hY) | (refine hX ?_; clear hX hY) | (refine hY ?_; clear hX hY)))
          | refine ev_block ?_
          | (apply hK; clear hK)
          | apply_assumption -exfalso -symm only [*]
          | (refine And.intro ?_ ?_; first | omega | assumption | (unfold maxLen; omega) | (simp only [decide_eq_true_eq, decide_eq_false_iff_not, Int.not_lt, Int.not_le] at h; omega))
    · have er : orM a b c = 0 := by unfold orM; rw [if_pos (h1 (by omega)), if_pos (h2 (by omega)), h3 (by omega)]
      repeat' first
        | refine ev_seq (fun K hK => ?_)
        | ((first | refine evr tt_ok false ?_ | refine ev_skip ?_ | refine ev_ret ?_ | refine ev_exit ?_ | refine evc (fun X Y hX hY => ?_)); simp only [go_sem, reduceAdd, reduceSub, reduceMul, reduceEqDiff, reduceLeDiff, Nat.reduceBEq, reduceLT, reduceIte, reduceCtorEq, Int.reduceToNat, c2, c3, Int.reduceLT]; try (first | (refine ⟨fun h => hX ?_, fun h => hY ?_⟩; clear hX hY) | (refine hX ?_; clear hX hY) | (refine hY ?_; clear hX hY)))
        | refine ev_block ?_
        | (apply hK; clear hK)
        | apply_assumption -exfalso -symm only [*]
        | (refine And.intro ?_ ?_; first | omega | assumption | (unfold maxLen; omega) | (simp only [decide_eq_true_eq, decide_eq_false_iff_not, Int.not_lt, Int.not_le] at h; omega))
      rw [er]
def ordM (a b : Cnd) : Int := orM (compM a.k b.k) (compM a.y b.y) (compM a.x b.x)
theorem ord_bef (a b : Cnd) : ordM a b < 0 ↔ befM a b := by
  unfold ordM orM compM befM
  have c : ∀ x y : Int, (x < y ∧ (if x < y then (-1 : Int) else if y < x then 1 else 0) = -1) ∨ (y < x ∧ (if x < y then (-1 : Int) else if y < x then 1 else 0) = 1) ∨ (x = y ∧ (if x < y then (-1 : Int) else if y < x then 1 else 0) = 0) := fun x y => by
    by_cases h : x < y
    · exact .inl ⟨h, if_pos h⟩
    · by_cases h2 : y < x
      · exact .inr (.inl ⟨h2, by rw [if_neg h, if_pos h2]⟩)
      · exact .inr (.inr ⟨by omega, by rw [if_neg h, if_neg h2]⟩)
  rcases c a.k b.k with ⟨h1, e1⟩ | ⟨h1, e1⟩ | ⟨h1, e1⟩
  · rw [e1, if_neg (by decide)]; omega
  · rw [e1, if_neg (by decide)]; omega
  · rw [e1, if_pos rfl]
    rcases c a.y b.y with ⟨h2, e2⟩ | ⟨h2, e2⟩ | ⟨h2, e2⟩
    · rw [e2, if_neg (by decide)]; omega
    · rw [e2, if_neg (by decide)]; omega
    · rw [e2, if_pos rfl]
      rcases c a.x b.x with ⟨h3, e3⟩ | ⟨h3, e3⟩ | ⟨h3, e3⟩
      · rw [e3]; omega
      · rw [e3]; omega
      · rw [e3]; omega
theorem order_pure (a b : Cnd) : Pure Tryz.prog 73 [.agg (enC a), .agg (enC b)] (.int .i64 (ordM a b)) := by
  have v1 := cmpare_pure a.k b.k
  have v2 := cmpare_pure a.y b.y
  have v3 := cmpare_pure a.x b.x
  have v := or_pure (compM a.k b.k) (compM a.y b.y) (compM a.x b.x)
  unfold ordM
  simp only [enC]
  generalize compM a.k b.k = x at *
  generalize compM a.y b.y = y at *
  generalize compM a.x b.x = z at *
  (refine pure_of_ev tt_ok Tryz.func73 rfl (by decide +kernel) (Nat.le_of_ble_eq_true rfl) ?_; simp only [Tryz.f73])
  repeat' first
    | refine ev_seq (fun K hK => ?_)
    | ((first | refine evrd (id := 1) hmix tt_ok false [([], false), ([], false), ([], false), ([], false), ([], true), ([4], false), ([4], false), ([4], false), ([4], false), ([], true), ([4, 9], false), ([4, 9], false), ([4, 9], false), ([4, 9], false), ([], false), ([], false), ([], false), ([], false)] (by decide +kernel) ?_ | refine evr tt_ok false ?_ | refine ev_skip ?_ | refine ev_ret ?_ | refine ev_exit ?_ | refine evc (fun X Y hX hY => ?_)); simp only [go_sem, reduceAdd, reduceSub, reduceMul, reduceEqDiff, reduceLeDiff, Nat.reduceBEq, reduceLT, reduceIte, reduceCtorEq, Int.reduceToNat]; try (first | (refine ⟨fun h => hX ?_, fun h => hY ?_⟩; clear hX hY) | (refine hX ?_; clear hX hY) | (refine hY ?_; clear hX hY)))
    | refine ev_block ?_
    | (apply hK; clear hK)
    | apply_assumption -exfalso -symm only [*]
    | (refine And.intro ?_ ?_; first | omega | assumption | (unfold maxLen; omega) | (simp only [decide_eq_true_eq, decide_eq_false_iff_not, Int.not_lt, Int.not_le] at h; omega))
    | ((first | apply callP | apply callPG | apply callP0); (case' hv => (simp only [go_sem, reduceAdd, reduceSub, reduceMul, reduceEqDiff, reduceLeDiff, Nat.reduceBEq, reduceLT, reduceIte, reduceCtorEq, Int.reduceToNat]; try exact rfl)); (case' hp => (first | refine' v1 | (refine' (fun hg => ?_); refine' v1) | refine' v2 | (refine' (fun hg => ?_); refine' v2) | refine' v3 | (refine' (fun hg => ?_); refine' v3))); (case' h => ((first | refine evOps_fin ?_ | refine And.intro ?_ (evD_fin ?_) | refine evD_fin ?_) <;> simp only [go_sem, reduceAdd, reduceSub, reduceMul, reduceEqDiff, reduceLeDiff, Nat.reduceBEq, reduceLT, reduceIte, reduceCtorEq, Int.reduceToNat])))
    | ((first | apply callL | apply callLG | apply callL0); (case' hv => (simp only [go_sem, reduceAdd, reduceSub, reduceMul, reduceEqDiff, reduceLeDiff, Nat.reduceBEq, reduceLT, reduceIte, reduceCtorEq, Int.reduceToNat]; try exact rfl)); (case' hp => (first | refine' v | (refine' (fun hg => ?_); refine' v))); (case' hf => exact rfl); (case' h => ((first | refine evOps_fin ?_ | refine And.intro ?_ (evD_fin ?_) | refine evD_fin ?_) <;> simp only [go_sem, reduceAdd, reduceSub, reduceMul, reduceEqDiff, reduceLeDiff, Nat.reduceBEq, reduceLT, reduceIte, reduceCtorEq, Int.reduceToNat])))
    | (refine callX ?_; (first | refine evOps_fin ?_ | refine And.intro ?_ (evD_fin ?_) | refine evD_fin ?_) <;> simp only [go_sem, reduceAdd, reduceSub, reduceMul, reduceEqDiff, reduceLeDiff, Nat.reduceBEq, reduceLT, reduceIte, reduceCtorEq, Int.reduceToNat])
theorem settled_pure (n : Int) (b : Blc) (m : Mat) : Pure Tryz.prog 42 [.int .i64 n, .agg (enBl b), .agg (encM m)] (.bool (decide (n < m.sc ∨ n = m.sc ∧ ¬ befM (corM b) m.b))) := by
  have H : ∀ t : Bool, (t = true ↔ (n < m.sc ∨ n = m.sc ∧ ¬ befM (corM b) m.b)) → Pure Tryz.prog 42 [.int .i64 n, .agg (enBl b), .agg (encM m)] (.bool t) := by
    intro t ht
    have v1 := corner_pure b
    have v2 := order_pure (corM b) m.b
    have hb := ord_bef (corM b) m.b
    generalize ordM (corM b) m.b = o at *
    simp only [enBl, encM, enC, corM] at *
    by_cases h : n < m.sc
    · obtain rfl : t = true := ht.2 (Or.inl h)
      (refine pure_of_ev tt_ok Tryz.func42 rfl (by decide +kernel) (Nat.le_of_ble_eq_true rfl) ?_; simp only [Tryz.f42])
      repeat' first
        | refine ev_seq (fun K hK => ?_)
        | ((first | refine evrd (id := 1) hmix tt_ok false [([], false), ([], false), ([], false), ([], false), ([], false), ([], false), ([], false), ([], false), ([], false), ([], false), ([], false), ([], true), ([11], false), ([11], false), ([], false), ([], false), ([], false), ([], false), ([], false)] (by decide +kernel) ?_ | refine evr tt_ok false ?_ | refine ev_skip ?_ | refine ev_ret ?_ | refine ev_exit ?_ | refine evc (fun X Y hX hY => ?_)); simp only [go_sem, reduceAdd, reduceSub, reduceMul, reduceEqDiff, reduceLeDiff, Nat.reduceBEq, reduceLT, reduceIte, reduceCtorEq, Int.reduceToNat, h]; try (first | (refine ⟨fun h => hX ?_, fun h => hY ?_⟩; clear hX hY) | (refine hX ?_; clear hX hY) | (refine hY ?_; clear hX hY)))
        | refine ev_block ?_
        | (apply hK; clear hK)
        | apply_assumption -exfalso -symm only [*]
        | (refine And.intro ?_ ?_; first | omega | assumption | (unfold maxLen; omega) | (simp only [decide_eq_true_eq, decide_eq_false_iff_not, Int.not_lt, Int.not_le] at h; omega))
        | ((first | apply callP | apply callPG | apply callP0); (case' hv => (simp only [go_sem, reduceAdd, reduceSub, reduceMul, reduceEqDiff, reduceLeDiff, Nat.reduceBEq, reduceLT, reduceIte, reduceCtorEq, Int.reduceToNat, h]; try exact rfl)); (case' hp => (first | refine' v1 | (refine' (fun hg => ?_); refine' v1) | refine' v2 | (refine' (fun hg => ?_); refine' v2))); (case' h => ((first | refine evOps_fin ?_ | refine And.intro ?_ (evD_fin ?_) | refine evD_fin ?_) <;> simp only [go_sem, reduceAdd, reduceSub, reduceMul, reduceEqDiff, reduceLeDiff, Nat.reduceBEq, reduceLT, reduceIte, reduceCtorEq, Int.reduceToNat, h])))
        | (refine callX ?_; (first | refine evOps_fin ?_ | refine And.intro ?_ (evD_fin ?_) | refine evD_fin ?_) <;> simp only [go_sem, reduceAdd, reduceSub, reduceMul, reduceEqDiff, reduceLeDiff, Nat.reduceBEq, reduceLT, reduceIte, reduceCtorEq, Int.reduceToNat, h])
    · by_cases e : n = m.sc
      · have ee : (n == m.sc) = true := by rw [e]; exact beq_self_eq_true _
        by_cases ho : o < 0
        · obtain rfl : t = false := by rw [Bool.eq_false_iff]; exact fun hh => (ht.1 hh).elim h fun h2 => h2.2 (hb.1 ho)
          have ho2 : ¬ 0 ≤ o := by omega
          (refine pure_of_ev tt_ok Tryz.func42 rfl (by decide +kernel) (Nat.le_of_ble_eq_true rfl) ?_; simp only [Tryz.f42])
          repeat' first
            | refine ev_seq (fun K hK => ?_)
            | ((first | refine evrd (id := 1) hmix tt_ok false [([], false), ([], false), ([], false), ([], false), ([], false), ([], false), ([], false), ([], false), ([], false), ([], false), ([], false), ([], true), ([11], false), ([11], false), ([], false), ([], false), ([], false), ([], false), ([], false)] (by decide +kernel) ?_ | refine evr tt_ok false ?_ | refine ev_skip ?_ | refine ev_ret ?_ | refine ev_exit ?_ | refine evc (fun X Y hX hY => ?_)); simp only [go_sem, reduceAdd, reduceSub, reduceMul, reduceEqDiff, reduceLeDiff, Nat.reduceBEq, reduceLT, reduceIte, reduceCtorEq, Int.reduceToNat, h, ee, ho2]; try (first | (refine ⟨fun h => hX ?_, fun h => hY ?_⟩; clear hX hY) | (refine hX ?_; clear hX hY) | (refine hY ?_; clear hX hY)))
            | refine ev_block ?_
            | (apply hK; clear hK)
            | apply_assumption -exfalso -symm only [*]
            | (refine And.intro ?_ ?_; first | omega | assumption | (unfold maxLen; omega) | (simp only [decide_eq_true_eq, decide_eq_false_iff_not, Int.not_lt, Int.not_le] at h; omega))
            | ((first | apply callP | apply callPG | apply callP0); (case' hv => (simp only [go_sem, reduceAdd, reduceSub, reduceMul, reduceEqDiff, reduceLeDiff, Nat.reduceBEq, reduceLT, reduceIte, reduceCtorEq, Int.reduceToNat, h, ee, ho2]; try exact rfl)); (case' hp => (first | refine' v1 | (refine' (fun hg => ?_); refine' v1) | refine' v2 | (refine' (fun hg => ?_); refine' v2))); (case' h => ((first | refine evOps_fin ?_ | refine And.intro ?_ (evD_fin ?_) | refine evD_fin ?_) <;> simp only [go_sem, reduceAdd, reduceSub, reduceMul, reduceEqDiff, reduceLeDiff, Nat.reduceBEq, reduceLT, reduceIte, reduceCtorEq, Int.reduceToNat, h, ee, ho2])))
            | (refine callX ?_; (first | refine evOps_fin ?_ | refine And.intro ?_ (evD_fin ?_) | refine evD_fin ?_) <;> simp only [go_sem, reduceAdd, reduceSub, reduceMul, reduceEqDiff, reduceLeDiff, Nat.reduceBEq, reduceLT, reduceIte, reduceCtorEq, Int.reduceToNat, h, ee, ho2])
        · obtain rfl : t = true := ht.2 (Or.inr ⟨e, fun h2 => ho (hb.2 h2)⟩)
          have ho2 : 0 ≤ o := by omega
          (refine pure_of_ev tt_ok Tryz.func42 rfl (by decide +kernel) (Nat.le_of_ble_eq_true rfl) ?_; simp only [Tryz.f42])
          repeat' first
            | refine ev_seq (fun K hK => ?_)
            | ((first | refine evrd (id := 1) hmix tt_ok false [([], false), ([], false), ([], false), ([], false), ([], false), ([], false), ([], false), ([], false), ([], false), ([], false), ([], false), ([], true), ([11], false), ([11], false), ([], false), ([], false), ([], false), ([], false), ([], false)] (by decide +kernel) ?_ | refine evr tt_ok false ?_ | refine ev_skip ?_ | refine ev_ret ?_ | refine ev_exit ?_ | refine evc (fun X Y hX hY => ?_)); simp only [go_sem, reduceAdd, reduceSub, reduceMul, reduceEqDiff, reduceLeDiff, Nat.reduceBEq, reduceLT, reduceIte, reduceCtorEq, Int.reduceToNat, h, ee, ho2]; try (first | (refine ⟨fun h => hX ?_, fun h => hY ?_⟩; clear hX hY) | (refine hX ?_; clear hX hY) | (refine hY ?_; clear hX hY)))
            | refine ev_block ?_
            | (apply hK; clear hK)
            | apply_assumption -exfalso -symm only [*]
            | (refine And.intro ?_ ?_; first | omega | assumption | (unfold maxLen; omega) | (simp only [decide_eq_true_eq, decide_eq_false_iff_not, Int.not_lt, Int.not_le] at h; omega))
            | ((first | apply callP | apply callPG | apply callP0); (case' hv => (simp only [go_sem, reduceAdd, reduceSub, reduceMul, reduceEqDiff, reduceLeDiff, Nat.reduceBEq, reduceLT, reduceIte, reduceCtorEq, Int.reduceToNat, h, ee, ho2]; try exact rfl)); (case' hp => (first | refine' v1 | (refine' (fun hg => ?_); refine' v1) | refine' v2 | (refine' (fun hg => ?_); refine' v2))); (case' h => ((first | refine evOps_fin ?_ | refine And.intro ?_ (evD_fin ?_) | refine evD_fin ?_) <;> simp only [go_sem, reduceAdd, reduceSub, reduceMul, reduceEqDiff, reduceLeDiff, Nat.reduceBEq, reduceLT, reduceIte, reduceCtorEq, Int.reduceToNat, h, ee, ho2])))
            | (refine callX ?_; (first | refine evOps_fin ?_ | refine And.intro ?_ (evD_fin ?_) | refine evD_fin ?_) <;> simp only [go_sem, reduceAdd, reduceSub, reduceMul, reduceEqDiff, reduceLeDiff, Nat.reduceBEq, reduceLT, reduceIte, reduceCtorEq, Int.reduceToNat, h, ee, ho2])
      · have ee : (n == m.sc) = false := by rw [beq_eq_false_iff_ne]; exact e
        obtain rfl : t = false := by rw [Bool.eq_false_iff]; exact fun hh => (ht.1 hh).elim h fun h2 => e h2.1
        (refine pure_of_ev tt_ok Tryz.func42 rfl (by decide +kernel) (Nat.le_of_ble_eq_true rfl) ?_; simp only [Tryz.f42])
        repeat' first
          | refine ev_seq (fun K hK => ?_)
          | ((first | refine evrd (id := 1) hmix tt_ok false [([], false), ([], false), ([], false), ([], false), ([], false), ([], false), ([], false), ([], false), ([], false), ([], false), ([], false), ([], true), ([11], false), ([11], false), ([], false), ([], false), ([], false), ([], false), ([], false)] (by decide +kernel) ?_ | refine evr tt_ok false ?_ | refine ev_skip ?_ | refine ev_ret ?_ | refine ev_exit ?_ | refine evc (fun X Y hX hY => ?_)); simp only [go_sem, reduceAdd, reduceSub, reduceMul, reduceEqDiff, reduceLeDiff, Nat.reduceBEq, reduceLT, reduceIte, reduceCtorEq, Int.reduceToNat, h, ee]; try (first | (refine ⟨fun h => hX ?_, fun h => hY ?_⟩; clear hX hY) | (refine hX ?_; clear hX hY) | (refine hY ?_; clear hX hY)))
          | refine ev_block ?_
          | (apply hK; clear hK)
          | apply_assumption -exfalso -symm only [*]
          | (refine And.intro ?_ ?_; first | omega | assumption | (unfold maxLen; omega) | (simp only [decide_eq_true_eq, decide_eq_false_iff_not, Int.not_lt, Int.not_le] at h; omega))
          | ((first | apply callP | apply callPG | apply callP0); (case' hv => (simp only [go_sem, reduceAdd, reduceSub, reduceMul, reduceEqDiff, reduceLeDiff, Nat.reduceBEq, reduceLT, reduceIte, reduceCtorEq, Int.reduceToNat, h, ee]; try exact rfl)); (case' hp => (first | refine' v1 | (refine' (fun hg => ?_); refine' v1) | refine' v2 | (refine' (fun hg => ?_); refine' v2))); (case' h => ((first | refine evOps_fin ?_ | refine And.intro ?_ (evD_fin ?_) | refine evD_fin ?_) <;> simp only [go_sem, reduceAdd, reduceSub, reduceMul, reduceEqDiff, reduceLeDiff, Nat.reduceBEq, reduceLT, reduceIte, reduceCtorEq, Int.reduceToNat, h, ee])))
          | (refine callX ?_; (first | refine evOps_fin ?_ | refine And.intro ?_ (evD_fin ?_) | refine evD_fin ?_) <;> simp only [go_sem, reduceAdd, reduceSub, reduceMul, reduceEqDiff, reduceLeDiff, Nat.reduceBEq, reduceLT, reduceIte, reduceCtorEq, Int.reduceToNat, h, ee])
  exact H _ decide_eq_true_iff
set_option maxRecDepth 20000
set_option maxHeartbeats 16000000
def matV (m : Mat) (s : V) : List V := [.int .i64 m.b.k, .int .i64 m.b.y, .int .i64 m.b.x, .int .i64 m.px, .int .i64 m.py, .int .i64 m.ph, .int .i64 m.sc, s]
def stM (m : Mat) (j : Nat) : Own := .blk 46 0 8 [matV m (.rs j m.l.length 0 m.l.length)]
def stB (m : Mat) : Own := .blk 68 m.l.length 4 (m.l.map enBl)
theorem stM_under {n j : Nat} (h : j < n) (m : Mat) : ownUnder n (stM m j) := by
  refine ⟨?_, trivial⟩
  exact ⟨trivial, trivial, trivial, trivial, trivial, trivial, trivial, h, trivial⟩
theorem stB_under (n : Nat) (m : Mat) : ownUnder n (stB m) := rowsUnder_lit _ (lit_enBl m.l)
def CbOk (p : Prob) (d : Nat → Bool) (f : FuncId) (step : Blc → Mat → Mat) (i j : Nat) (q : Blc) (m : Mat) : Prop :=
  ∀ (a c : Nat) (F : List Own), F[i]? = some (stM m j) → F[j]? = some (stB m) → F[a]? = some (.blk 64 0 1 [[.pi (seaV p d) 0]]) → F[c]? = some (.blk 69 0 1 [[.own i 0 0 0]]) →
    Run Tryz.prog f [.agg (enBl q), .own a 0 0 0, .own c 0 0 0] [i, j, a, c] F (.tup []) [(i, stM (step q m) j), (j, stB (step q m))]
theorem fits_pre {m n N : Nat} {tm tm' : List (Nat × V)} {F k l : List Own} (hN : N = F.length + l.length) (hm : m ≤ N) (hT : fitT N tm tm') (hF : allU N F) (hk : fitOs N k l) : fits m ⟨n, tm, F ++ k⟩ ⟨n, tm', F ++ l⟩ := by
  have e : (F ++ l).length = N := by rw [List.length_append, hN]
  refine ⟨rfl, ?_, ?_, ?_⟩
  · show m ≤ (F ++ l).length
    rw [e]; exact hm
  · show fitT (F ++ l).length tm tm'
    rw [e]; exact hT
  · show fitOs (F ++ l).length (F ++ k) (F ++ l)
    rw [e]; exact fitOs_pre hk hF
theorem split_run (p : Prob) (h : p.ok) (d : Nat → Bool) (f : FuncId) (step : Blc → Mat → Mat) (b : Blc) (m : Mat) (hb : blkOk p b) (l1 : 1 ≤ b.l) (i j : Nat) (hij : i ≠ j)
    (cb : ∀ t, t < 4 → inW p (corM (qdM b t)) → CbOk p d f step i j (qdM b t) (foldQ p step b t m)) (a c : Nat) (hai : i ≠ a) (haj : j ≠ a) (hci : i ≠ c) (hcj : j ≠ c) (F : List Own)
    (hi : F[i]? = some (stM m j)) (hj : F[j]? = some (stB m)) (ha : F[a]? = some (.blk 64 0 1 [[.pi (seaV p d) 0]])) (hc : F[c]? = some (.blk 69 0 1 [[.own i 0 0 0]])) :
    Run Tryz.prog 44 [.pi (seaV p d) 0, .agg (enBl b), .fn f [.own a 0 0 0, .own c 0 0 0]] [i, j, a, c] F (.tup []) [(i, stM (foldQ p step b 4 m) j), (j, stB (foldQ p step b 4 m))] := by
  refine run_of_evU tt_ok Tryz.func44 rfl (by decide +kernel) (Nat.le_of_ble_eq_true rfl) (by simp) (fun G hG hU => ⟨?_, ?_⟩)
  · have := get_lt ((hG j (by simp)).symm.trans hj)
    exact ⟨stM_under this _, stB_under _ _, trivial⟩
  have gi := (hG i (by simp)).symm.trans hi
  have gj := (hG j (by simp)).symm.trans hj
  have ga := (hG a (by simp)).symm.trans ha
  have gc := (hG c (by simp)).symm.trans hc
  have li := get_lt gi
  have lj := get_lt gj
  have la := get_lt ga
  have lc := get_lt gc
  have g0 : G = set2 G i (stM (foldQ p step b 0 m) j) j (stB (foldQ p step b 0 m)) := (set2_same gi gj).symm
  have hz := sz_in (l := b.l - 1) (by omega) (by have := hb.2.2; omega)
  have hq := fun t (ht : t < 4) => qdW (p := p) (b := b) l1 hb.2.2 ht
  have l6 := hb.2.2
  obtain ⟨⟨c1, c2, c3, c4, c5, c6⟩, l0, _⟩ := id hb
  simp only at c1 c2 c3 c4 c5 c6
  have hr := h.2.2.2.2.2.1
  have w1 : IntKind.i64.wrap (b.l - 1) = b.l - 1 := w64 (by omega) (by omega)
  have hsh0 : (0 : Int) ≤ b.l - 1 := by omega
  have hl : b.l - 1 < 64 := by omega
  have hsh : IntKind.i64.wrap (1 * 2 ^ (b.l - 1).toNat) = szM (b.l - 1) := by rw [Int.one_mul]; exact w64 (by unfold szM at hz; omega) (by unfold szM at hz; omega)
  have hsh2 : IntKind.i64.wrap (2 ^ (b.l - 1).toNat) = szM (b.l - 1) := by rw [Int.one_mul] at hsh; exact hsh
  have hbits : ((IntKind.i64.bits : Nat) : Int) = 64 := rfl
  have e0 : foldQ p step b 0 m = m := rfl
  have cc0 : ((0 : Nat) : Int) = 0 := rfl
  have cc1 : ((1 : Nat) : Int) = 1 := rfl
  have cc2 : ((2 : Nat) : Int) = 2 := rfl
  have wr1 : IntKind.i64.wrap 1 = 1 := by decide
  have wr2 : IntKind.i64.wrap 2 = 2 := by decide
  have wr0 : IntKind.i64.wrap (0 + 1) = 1 := by decide
  have wr11 : IntKind.i64.wrap (1 + 1) = 2 := by decide
  have wy0 : IntKind.i64.wrap b.y = b.y := w64 (by omega) (by omega)
  have wx0 : IntKind.i64.wrap b.x = b.x := w64 (by omega) (by omega)
  have wyh : IntKind.i64.wrap (b.y + szM (b.l - 1)) = b.y + szM (b.l - 1) := w64 (by omega) (by omega)
  have wxh : IntKind.i64.wrap (b.x + szM (b.l - 1)) = b.x + szM (b.l - 1) := w64 (by omega) (by omega)
  have step1 : ∀ t, inW p (corM (qdM b t)) → foldQ p step b (t + 1) m = step (qdM b t) (foldQ p step b t m) := fun t ht => by
    show (if inW p (corM (qdM b t)) then _ else _) = _
    exact if_pos ht
  have step0 : ∀ t, ¬ inW p (corM (qdM b t)) → foldQ p step b (t + 1) m = foldQ p step b t m := fun t ht => by
    show (if inW p (corM (qdM b t)) then _ else _) = _
    exact if_neg ht
  have q0 : qdM b 0 = ⟨b.k, b.y, b.x, b.l - 1⟩ := by unfold qdM; simp
  have q1 : qdM b 1 = ⟨b.k, b.y, b.x + szM (b.l - 1), b.l - 1⟩ := by unfold qdM; simp
  have q2 : qdM b 2 = ⟨b.k, b.y + szM (b.l - 1), b.x, b.l - 1⟩ := by unfold qdM; simp
  have q3 : qdM b 3 = ⟨b.k, b.y + szM (b.l - 1), b.x + szM (b.l - 1), b.l - 1⟩ := by unfold qdM; simp
  have one : ∀ t, t < 4 → ∃ v : Bool, Pure Tryz.prog 43 [.agg [.int .i64 b.k, .int .i64 (qdM b t).y, .int .i64 (qdM b t).x, .int .i64 (b.l - 1)]] (.agg [.int .i64 b.k, .int .i64 (qdM b t).y, .int .i64 (qdM b t).x]) ∧ Pure Tryz.prog 47 [.agg (encP p), .agg [.int .i64 b.k, .int .i64 (qdM b t).y, .int .i64 (qdM b t).x]] (.bool v) ∧
      (v = true → ∀ l, Run Tryz.prog f [.agg [.int .i64 b.k, .int .i64 (qdM b t).y, .int .i64 (qdM b t).x, .int .i64 (b.l - 1)], .own a 0 0 0, .own c 0 0 0] [i, j, a, c] (set2 G i (stM (foldQ p step b t m) j) j (stB (foldQ p step b t m)) ++ l) (.tup []) [(i, stM (foldQ p step b (t + 1) m) j), (j, stB (foldQ p step b (t + 1) m))]) ∧
      (v = false → foldQ p step b (t + 1) m = foldQ p step b t m) := by
    intro t ht
    refine ⟨decide (inW p (corM (qdM b t))), corner_pure (qdM b t), min_pure p (corM (qdM b t)) h, ?_, fun hv => step0 t (of_decide_eq_false hv)⟩
    intro hv l
    have hin := of_decide_eq_true hv
    have hH : (set2 G i (stM (foldQ p step b t m) j) j (stB (foldQ p step b t m))).length = G.length := set2_len _ _ _ _ _
    have r := cb t ht hin a c (set2 G i (stM (foldQ p step b t m) j) j (stB (foldQ p step b t m)) ++ l)
      (by rw [List.getElem?_append_left (by omega)]; exact set2_i hij li)
      (by rw [List.getElem?_append_left (by omega)]; exact set2_j lj)
      (by rw [List.getElem?_append_left (by omega), set2_k hai haj]; exact ga)
      (by rw [List.getElem?_append_left (by omega), set2_k hci hcj]; exact gc)
    rw [← step1 t hin] at r
    exact r
  have hset : ∀ (A X : Own) (B Y : Own) (l : List Own), ((set2 G i A j B ++ l).set i X).set j Y = set2 G i X j Y ++ l := fun A X B Y l => by
    rw [set2_app (by rw [set2_len]; exact li) (by rw [set2_len]; exact lj)]
    exact congrArg (· ++ l) (set2_set2 hij _ _ _ _)
  have hUn : ∀ X Y, allU (G.length + 1) (set2 G i (stM X j) j (stB Y)) := fun X Y => set2_under (allU_mono (Nat.le_succ _) hU) (stM_under (Nat.lt_succ_of_lt lj) X) (stB_under _ Y)
  have hlen2 : ∀ X Y, (set2 G i (stM X j) j (stB Y)).length = G.length := fun X Y => set2_len _ _ _ _ _
  have eP : (seaV p d).take 11 = encP p := rfl
  clear cb hG
  simp only [Tryz.f44]
  simp only [seaV, encP, enBl] at *
  generalize pyrV p.f = D at *
  generalize srow p d = SR at *
  have hqd : ∀ r u : Nat, u < 2 → (qdM b (2 * r + u)).y = b.y + (r : Int) * szM (b.l - 1) ∧ (qdM b (2 * r + u)).x = b.x + (u : Int) * szM (b.l - 1) := fun r u hu => by
    have e1 : (2 * r + u) / 2 = r := by omega
    have e2 : (2 * r + u) % 2 = u := by omega
    unfold qdM
    simp only [e1, e2, and_self]
  generalize szM (b.l - 1) = hs at *
  have hmul : ∀ r : Nat, r < 2 → 0 ≤ (r : Int) * hs ∧ (r : Int) * hs ≤ 64 ∧ List.take 1 (List.drop r [V.int .i64 0, V.int .i64 hs]) = [V.int .i64 ((r : Int) * hs)] := fun r hr => by
    have hrc : r = 0 ∨ r = 1 := by omega
    rcases hrc with rfl | rfl
    · refine ⟨by simp, by simp, by simp⟩
    · refine ⟨by simp; omega, by simp; omega, by simp⟩
  repeat' first
    | refine ev_seq (fun K hK => ?_)
    | ((first | refine evrd (id := 9) hmix tt_ok false [([], true), ([], true), ([], true), ([], true), ([], false), ([0, 1, 2, 3], false), ([], false)] (by decide +kernel) ?_ | refine evr tt_ok false ?_ | refine ev_skip ?_ | refine ev_ret ?_ | refine ev_exit ?_ | refine evc (fun X Y hX hY => ?_)); simp only [go_sem, reduceAdd, reduceSub, reduceMul, reduceEqDiff, reduceLeDiff, Nat.reduceBEq, reduceLT, reduceIte, reduceCtorEq, Int.reduceToNat, ap_get0, ap_getk, ap_set0, ap_setk, List.append_assoc, List.length_append, w1, hsh, hsh2, hsh0, hl, hbits, Int.one_mul]; try (first | (refine ⟨fun h => hX ?_, fun h => hY ?_⟩; clear hX hY) | (refine hX ?_; clear hX hY) | (refine hY ?_; clear hX hY)))
    | refine ev_block ?_
    | (apply hK; clear hK)
    | apply_assumption -exfalso -symm only [*]
    | (refine And.intro ?_ ?_; first | omega | assumption | (unfold maxLen; omega) | (simp only [decide_eq_true_eq, decide_eq_false_iff_not, Int.not_lt, Int.not_le] at h; omega))
  refine ev_loop (fun r : Nat => r ≤ 2)
    (fun r => ⟨52, [(18, .int .i64 (r : Int)), (17, .agg [.int .i64 0, .int .i64 hs]), (6, .int .i64 hs), (4, .own G.length 0 0 0), (2, .fn f [.own a 0 0 0, .own c 0 0 0]), (0, .pi [.int .i64 p.f.x, .int .i64 p.f.y, .int .i64 p.f.w, .int .i64 p.f.h, .sl (p.f.v.map enB), .sl (p.s.map enBm), .int .i64 p.cx, .int .i64 p.cy, .int .i64 p.fr, .int .i64 p.ct, .int .i64 p.re, .pi D 0, .sl SR] 0)],
      set2 G i (stM (foldQ p step b (2 * r) m) j) j (stB (foldQ p step b (2 * r) m)) ++ [.blk 68 0 4 [[.int .i64 b.k, .int .i64 b.y, .int .i64 b.x, .int .i64 b.l]]]⟩)
    (fun r => 2 - r) 0 (by omega) ?_ ?_
  · rw [show foldQ p step b (2 * 0) m = m from rfl]
    have hh := hUn m m
    have hh2 := hlen2 m m
    rw [set2_same gi gj] at hh hh2 ⊢
    refine fits_pre (N := G.length + 1) rfl (Nat.le_succ _) ?_ hh ?_
    all_goals simp only [go_sem, reduceAdd, reduceSub, reduceMul, reduceEqDiff, reduceLeDiff, Nat.reduceBEq, reduceLT, reduceIte, reduceCtorEq, Int.reduceToNat, fits, fitT, fitOs, fitO, V.under, unders, rowsUnder, cc0]
    all_goals (repeat' first | rfl | omega | trivial | apply And.intro)
  · intro r hr2
    have hr0 : (0 : Int) ≤ (r : Int) := by omega
    have hrw : IntKind.i64.wrap ((r : Int) + 1) = ((r + 1 : Nat) : Int) := by rw [w64] <;> omega
    by_cases hrl : (r : Int) < 2
    · obtain ⟨y0, y1, yd⟩ := hmul r (by omega)
      have hqdr := hqd r
      have hwy : IntKind.i64.wrap (b.y + (r : Int) * hs) = b.y + (r : Int) * hs := w64 (by omega) (by omega)
      generalize (r : Int) * hs = yv at *
      repeat' first
        | refine ev_seq (fun K hK => ?_)
        | ((first | refine evrd (id := 9) hmix tt_ok false [([], true), ([], true), ([], true), ([], true), ([], false), ([0, 1, 2, 3], false), ([], false)] (by decide +kernel) ?_ | refine evr tt_ok false ?_ | refine ev_skip ?_ | refine ev_ret ?_ | refine ev_exit ?_ | refine evc (fun X Y hX hY => ?_)); simp only [go_sem, reduceAdd, reduceSub, reduceMul, reduceEqDiff, reduceLeDiff, Nat.reduceBEq, reduceLT, reduceIte, reduceCtorEq, Int.reduceToNat, hrl, hr0, yd, Int.toNat_natCast, Nat.mul_one]; try (first | (refine ⟨fun h => hX ?_, fun h => hY ?_⟩; clear hX hY) | (refine hX ?_; clear hX hY) | (refine hY ?_; clear hX hY)))
        | refine ev_block ?_
        | (apply hK; clear hK)
        | apply_assumption -exfalso -symm only [*]
        | (refine And.intro ?_ ?_; first | omega | assumption | (unfold maxLen; omega) | (simp only [decide_eq_true_eq, decide_eq_false_iff_not, Int.not_lt, Int.not_le] at h; omega))
      refine ev_loop (fun u : Nat => u ≤ 2)
        (fun u => ⟨52, [(23, .int .i64 (u : Int)), (22, .agg [.int .i64 0, .int .i64 hs]), (8, .int .i64 yv), (18, .int .i64 (r : Int)), (17, .agg [.int .i64 0, .int .i64 hs]), (6, .int .i64 hs), (4, .own G.length 0 0 0), (2, .fn f [.own a 0 0 0, .own c 0 0 0]), (0, .pi [.int .i64 p.f.x, .int .i64 p.f.y, .int .i64 p.f.w, .int .i64 p.f.h, .sl (p.f.v.map enB), .sl (p.s.map enBm), .int .i64 p.cx, .int .i64 p.cy, .int .i64 p.fr, .int .i64 p.ct, .int .i64 p.re, .pi D 0, .sl SR] 0)],
          set2 G i (stM (foldQ p step b (2 * r + u) m) j) j (stB (foldQ p step b (2 * r + u) m)) ++ [.blk 68 0 4 [[.int .i64 b.k, .int .i64 b.y, .int .i64 b.x, .int .i64 b.l]]]⟩)
        (fun u => 2 - u) 0 (by omega) ?_ ?_
      · refine fits_pre (N := G.length + 1) ?_ (Nat.le_succ _) ?_ (hUn _ _) ?_
        · rw [hlen2]; rfl
        all_goals simp only [go_sem, reduceAdd, reduceSub, reduceMul, reduceEqDiff, reduceLeDiff, Nat.reduceBEq, reduceLT, reduceIte, reduceCtorEq, Int.reduceToNat, fits, fitT, fitOs, fitO, V.under, unders, rowsUnder, cc0]
        all_goals (repeat' first | rfl | omega | trivial | apply And.intro)
      · intro u hu2
        have hu0 : (0 : Int) ≤ (u : Int) := by omega
        have huw : IntKind.i64.wrap ((u : Int) + 1) = ((u + 1 : Nat) : Int) := by rw [w64] <;> omega
        by_cases hul : (u : Int) < 2
        · obtain ⟨x0, x1, xd⟩ := hmul u (by omega)
          obtain ⟨qy, qx⟩ := hqdr u (by omega)
          have hwx : IntKind.i64.wrap (b.x + (u : Int) * hs) = b.x + (u : Int) * hs := w64 (by omega) (by omega)
          obtain ⟨v, vc, vi, vr, vn⟩ := one (2 * r + u) (by omega)
          rw [qy, qx] at vc vi vr
          generalize (u : Int) * hs = xv at *
          have hs2 := hset (stM (foldQ p step b (2 * r + u) m) j) (stM (foldQ p step b (2 * r + u + 1) m) j) (stB (foldQ p step b (2 * r + u) m)) (stB (foldQ p step b (2 * r + u + 1) m))
          have hHl := hlen2 (foldQ p step b (2 * r + u) m) (foldQ p step b (2 * r + u) m)
          have hUx := hUn (foldQ p step b (2 * r + u + 1) m) (foldQ p step b (2 * r + u + 1) m)
          have hUy := hUn (foldQ p step b (2 * r + u) m) (foldQ p step b (2 * r + u) m)
          have hH1 := hlen2 (foldQ p step b (2 * r + u + 1) m) (foldQ p step b (2 * r + u + 1) m)
          have e3 : 2 * r + (u + 1) = 2 * r + u + 1 := rfl
          cases v with
          | false =>
            have vn := vn rfl
            clear vr hs2
            rw [vn] at hUx hH1
            generalize hH : set2 G i (stM (foldQ p step b (2 * r + u) m) j) j (stB (foldQ p step b (2 * r + u) m)) = H at *
            have hx0 : ∀ l : List Own, (H ++ l)[G.length]? = l[0]? := fun l => by have := ap_get0 H l; rwa [hHl] at this
            have hx1 : ∀ (l : List Own) k, (H ++ l)[G.length + k]? = l[k]? := fun l k => by have := ap_getk H l k; rwa [hHl] at this
            have hx2 : ∀ (l : List Own) o, (H ++ l).set G.length o = H ++ l.set 0 o := fun l o => by have := ap_set0 H l o; rwa [hHl] at this
            have hx3 : ∀ (l : List Own) k o, (H ++ l).set (G.length + k) o = H ++ l.set k o := fun l k o => by have := ap_setk H l k o; rwa [hHl] at this
            repeat' first
              | refine ev_seq (fun K hK => ?_)
              | ((first | refine evrd (id := 9) hmix tt_ok false [([], true), ([], true), ([], true), ([], true), ([], false), ([0, 1, 2, 3], false), ([], false)] (by decide +kernel) ?_ | refine evr tt_ok false ?_ | refine ev_skip ?_ | refine ev_ret ?_ | refine ev_exit ?_ | refine evc (fun X Y hX hY => ?_)); simp only [go_sem, reduceAdd, reduceSub, reduceMul, reduceEqDiff, reduceLeDiff, Nat.reduceBEq, reduceLT, reduceIte, reduceCtorEq, Int.reduceToNat, hx0, hx1, hx2, hx3, hHl, hul, hu0, huw, xd, hwy, hwx, w1, Int.toNat_natCast, Nat.mul_one, List.append_assoc, List.length_append]; try (first | (refine ⟨fun h => hX ?_, fun h => hY ?_⟩; clear hX hY) | (refine hX ?_; clear hX hY) | (refine hY ?_; clear hX hY)))
              | refine ev_block ?_
              | (apply hK; clear hK)
              | apply_assumption -exfalso -symm only [*]
              | (refine And.intro ?_ ?_; first | omega | assumption | (unfold maxLen; omega) | (simp only [decide_eq_true_eq, decide_eq_false_iff_not, Int.not_lt, Int.not_le] at h; omega))
              | ((first | apply callP | apply callPG | apply callP0); (case' hv => (simp only [go_sem, reduceAdd, reduceSub, reduceMul, reduceEqDiff, reduceLeDiff, Nat.reduceBEq, reduceLT, reduceIte, reduceCtorEq, Int.reduceToNat, hx0, hx1, hx2, hx3, hHl, hul, hu0, huw, xd, hwy, hwx, w1, Int.toNat_natCast, Nat.mul_one, List.append_assoc, List.length_append]; try exact rfl)); (case' hp => (first | refine' vc | (refine' (fun hg => ?_); refine' vc) | refine' vi | (refine' (fun hg => ?_); refine' vi))); (case' h => ((first | refine evOps_fin ?_ | refine And.intro ?_ (evD_fin ?_) | refine evD_fin ?_) <;> simp only [go_sem, reduceAdd, reduceSub, reduceMul, reduceEqDiff, reduceLeDiff, Nat.reduceBEq, reduceLT, reduceIte, reduceCtorEq, Int.reduceToNat, hx0, hx1, hx2, hx3, hHl, hul, hu0, huw, xd, hwy, hwx, w1, Int.toNat_natCast, Nat.mul_one, List.append_assoc, List.length_append])))
              | (refine callX ?_; (first | refine evOps_fin ?_ | refine And.intro ?_ (evD_fin ?_) | refine evD_fin ?_) <;> simp only [go_sem, reduceAdd, reduceSub, reduceMul, reduceEqDiff, reduceLeDiff, Nat.reduceBEq, reduceLT, reduceIte, reduceCtorEq, Int.reduceToNat, hx0, hx1, hx2, hx3, hHl, hul, hu0, huw, xd, hwy, hwx, w1, Int.toNat_natCast, Nat.mul_one, List.append_assoc, List.length_append])
            refine ⟨u + 1, by omega, ?_, by omega⟩
            rw [e3, vn, hH]
            rw [hHl]
            refine ⟨Nat.le_succ _, ⟨rfl, by omega, by omega, by omega⟩, fitOs_pre ?_ hUy⟩
            exact ⟨⟨rfl, rfl, rfl, rfl, ⟨trivial, trivial, trivial, trivial, trivial⟩, trivial⟩, trivial⟩
          | true =>
            have vr := vr rfl
            clear vn
            generalize hH : set2 G i (stM (foldQ p step b (2 * r + u) m) j) j (stB (foldQ p step b (2 * r + u) m)) = H at *
            have hx0 : ∀ l : List Own, (H ++ l)[G.length]? = l[0]? := fun l => by have := ap_get0 H l; rwa [hHl] at this
            have hx1 : ∀ (l : List Own) k, (H ++ l)[G.length + k]? = l[k]? := fun l k => by have := ap_getk H l k; rwa [hHl] at this
            have hx2 : ∀ (l : List Own) o, (H ++ l).set G.length o = H ++ l.set 0 o := fun l o => by have := ap_set0 H l o; rwa [hHl] at this
            have hx3 : ∀ (l : List Own) k o, (H ++ l).set (G.length + k) o = H ++ l.set k o := fun l k o => by have := ap_setk H l k o; rwa [hHl] at this
            repeat' first
              | refine ev_seq (fun K hK => ?_)
              | ((first | refine evrd (id := 9) hmix tt_ok false [([], true), ([], true), ([], true), ([], true), ([], false), ([0, 1, 2, 3], false), ([], false)] (by decide +kernel) ?_ | refine evr tt_ok false ?_ | refine ev_skip ?_ | refine ev_ret ?_ | refine ev_exit ?_ | refine evc (fun X Y hX hY => ?_)); simp only [go_sem, reduceAdd, reduceSub, reduceMul, reduceEqDiff, reduceLeDiff, Nat.reduceBEq, reduceLT, reduceIte, reduceCtorEq, Int.reduceToNat, hs2, hx0, hx1, hx2, hx3, hHl, hul, hu0, huw, xd, hwy, hwx, w1, Int.toNat_natCast, Nat.mul_one, List.append_assoc, List.length_append]; try (first | (refine ⟨fun h => hX ?_, fun h => hY ?_⟩; clear hX hY) | (refine hX ?_; clear hX hY) | (refine hY ?_; clear hX hY)))
              | refine ev_block ?_
              | (apply hK; clear hK)
              | apply_assumption -exfalso -symm only [*]
              | (refine And.intro ?_ ?_; first | omega | assumption | (unfold maxLen; omega) | (simp only [decide_eq_true_eq, decide_eq_false_iff_not, Int.not_lt, Int.not_le] at h; omega))
              | ((first | apply callP | apply callPG | apply callP0); (case' hv => (simp only [go_sem, reduceAdd, reduceSub, reduceMul, reduceEqDiff, reduceLeDiff, Nat.reduceBEq, reduceLT, reduceIte, reduceCtorEq, Int.reduceToNat, hs2, hx0, hx1, hx2, hx3, hHl, hul, hu0, huw, xd, hwy, hwx, w1, Int.toNat_natCast, Nat.mul_one, List.append_assoc, List.length_append]; try exact rfl)); (case' hp => (first | refine' vc | (refine' (fun hg => ?_); refine' vc) | refine' vi | (refine' (fun hg => ?_); refine' vi))); (case' h => ((first | refine evOps_fin ?_ | refine And.intro ?_ (evD_fin ?_) | refine evD_fin ?_) <;> simp only [go_sem, reduceAdd, reduceSub, reduceMul, reduceEqDiff, reduceLeDiff, Nat.reduceBEq, reduceLT, reduceIte, reduceCtorEq, Int.reduceToNat, hs2, hx0, hx1, hx2, hx3, hHl, hul, hu0, huw, xd, hwy, hwx, w1, Int.toNat_natCast, Nat.mul_one, List.append_assoc, List.length_append])))
              | ((first | apply callE | apply callEG | apply callE0); (case' hp => (first | refine' vr _ | (refine' (fun hg => ?_); refine' vr _))); (case' h => ((first | refine evOps_fin ?_ | refine And.intro ?_ (evD_fin ?_) | refine evD_fin ?_) <;> simp only [go_sem, reduceAdd, reduceSub, reduceMul, reduceEqDiff, reduceLeDiff, Nat.reduceBEq, reduceLT, reduceIte, reduceCtorEq, Int.reduceToNat, hs2, hx0, hx1, hx2, hx3, hHl, hul, hu0, huw, xd, hwy, hwx, w1, Int.toNat_natCast, Nat.mul_one, List.append_assoc, List.length_append])))
              | (refine callX ?_; (first | refine evOps_fin ?_ | refine And.intro ?_ (evD_fin ?_) | refine evD_fin ?_) <;> simp only [go_sem, reduceAdd, reduceSub, reduceMul, reduceEqDiff, reduceLeDiff, Nat.reduceBEq, reduceLT, reduceIte, reduceCtorEq, Int.reduceToNat, hs2, hx0, hx1, hx2, hx3, hHl, hul, hu0, huw, xd, hwy, hwx, w1, Int.toNat_natCast, Nat.mul_one, List.append_assoc, List.length_append])
            refine ⟨u + 1, by omega, ?_, by omega⟩
            rw [e3]
            rw [hH1]
            refine ⟨Nat.le_succ _, ⟨rfl, by omega, by omega, by omega⟩, fitOs_pre ?_ hUx⟩
            exact ⟨⟨rfl, rfl, rfl, rfl, ⟨trivial, trivial, trivial, trivial, trivial⟩, trivial⟩, trivial⟩
        · obtain rfl : u = 2 := by omega
          have hUx := hUn (foldQ p step b (2 * r + 2) m) (foldQ p step b (2 * r + 2) m)
          have hH1 := hlen2 (foldQ p step b (2 * r + 2) m) (foldQ p step b (2 * r + 2) m)
          repeat' first
            | refine ev_seq (fun K hK => ?_)
            | ((first | refine evrd (id := 9) hmix tt_ok false [([], true), ([], true), ([], true), ([], true), ([], false), ([0, 1, 2, 3], false), ([], false)] (by decide +kernel) ?_ | refine evr tt_ok false ?_ | refine ev_skip ?_ | refine ev_ret ?_ | refine ev_exit ?_ | refine evc (fun X Y hX hY => ?_)); simp only [go_sem, reduceAdd, reduceSub, reduceMul, reduceEqDiff, reduceLeDiff, Nat.reduceBEq, reduceLT, reduceIte, reduceCtorEq, Int.reduceToNat, hul, hrw]; try (first | (refine ⟨fun h => hX ?_, fun h => hY ?_⟩; clear hX hY) | (refine hX ?_; clear hX hY) | (refine hY ?_; clear hX hY)))
            | refine ev_block ?_
            | (apply hK; clear hK)
            | apply_assumption -exfalso -symm only [*]
            | (refine And.intro ?_ ?_; first | omega | assumption | (unfold maxLen; omega) | (simp only [decide_eq_true_eq, decide_eq_false_iff_not, Int.not_lt, Int.not_le] at h; omega))
          refine ⟨r + 1, by omega, ?_, by omega⟩
          rw [show 2 * (r + 1) = 2 * r + 2 from rfl]
          rw [hH1]
          refine ⟨Nat.le_succ _, ⟨rfl, by omega, by omega, by omega⟩, fitOs_pre ?_ hUx⟩
          exact ⟨⟨rfl, rfl, rfl, rfl, ⟨trivial, trivial, trivial, trivial, trivial⟩, trivial⟩, trivial⟩
    · obtain rfl : r = 2 := by omega
      repeat' first
        | refine ev_seq (fun K hK => ?_)
        | ((first | refine evrd (id := 9) hmix tt_ok false [([], true), ([], true), ([], true), ([], true), ([], false), ([0, 1, 2, 3], false), ([], false)] (by decide +kernel) ?_ | refine evr tt_ok false ?_ | refine ev_skip ?_ | refine ev_ret ?_ | refine ev_exit ?_ | refine evc (fun X Y hX hY => ?_)); simp only [go_sem, reduceAdd, reduceSub, reduceMul, reduceEqDiff, reduceLeDiff, Nat.reduceBEq, reduceLT, reduceIte, reduceCtorEq, Int.reduceToNat, hrl]; try (first | (refine ⟨fun h => hX ?_, fun h => hY ?_⟩; clear hX hY) | (refine hX ?_; clear hX hY) | (refine hY ?_; clear hX hY)))
        | refine ev_block ?_
        | (apply hK; clear hK)
        | apply_assumption -exfalso -symm only [*]
        | (refine And.intro ?_ ?_; first | omega | assumption | (unfold maxLen; omega) | (simp only [decide_eq_true_eq, decide_eq_false_iff_not, Int.not_lt, Int.not_le] at h; omega))
      exact ⟨_, rfl⟩
set_option maxRecDepth 20000
set_option maxHeartbeats 16000000
theorem imp1_cb {p : Prob} {d : Nat → Bool} {n : Nat} {q : Blc} {m : Mat} {i j : Nat} (hij : i ≠ j)
    (IH : ∀ F : List Own, F[i]? = some (stM m j) → F[j]? = some (stB m) → Run Tryz.prog 16 [.pi (seaV p d) 0, .agg (enBl q), .own i 0 0 0] [i, j] F (.tup []) [(i, stM (impM p n q m) j), (j, stB (impM p n q m))]) :
    CbOk p d 45 (impM p n) i j q m := by
  intro a c F hi hj ha hc
  refine run_of_evU tt_ok Tryz.func45 rfl (by decide +kernel) (Nat.le_of_ble_eq_true rfl) (by simp) (fun G hG hU => ⟨?_, ?_⟩)
  · have := get_lt ((hG j (by simp)).symm.trans hj)
    exact ⟨stM_under this _, stB_under _ _, trivial⟩
  have gi := (hG i (by simp)).symm.trans hi
  have gj := (hG j (by simp)).symm.trans hj
  have ga := (hG a (by simp)).symm.trans ha
  have gc := (hG c (by simp)).symm.trans hc
  have li := get_lt gi
  have lj := get_lt gj
  have la := get_lt ga
  have lc := get_lt gc
  have r := fun l : List Own => IH (G ++ l) (by rw [List.getElem?_append_left li]; exact gi) (by rw [List.getElem?_append_left lj]; exact gj)
  have ga2 : ∀ l : List Own, (G ++ l)[a]? = _ := fun l => (List.getElem?_append_left la).trans ga
  have gc2 : ∀ l : List Own, (G ++ l)[c]? = _ := fun l => (List.getElem?_append_left lc).trans gc
  generalize impM p n q m = m' at *
  have hs2 : ∀ (X Y : Own) (l : List Own), ((G ++ l).set i X).set j Y = set2 G i X j Y ++ l := fun X Y l => set2_app li lj X Y
  have hap : app G [(i, stM m' j), (j, stB m')] = set2 G i (stM m' j) j (stB m') := rfl
  rw [hap]
  clear IH hG
  simp only [Tryz.f45]
  simp only [seaV, enBl] at *
  generalize pyrV p.f = D at *
  generalize srow p d = SR at *
  repeat' first
    | refine ev_seq (fun K hK => ?_)
    | ((first | refine evr tt_ok false ?_ | refine ev_skip ?_ | refine ev_ret ?_ | refine ev_exit ?_ | refine evc (fun X Y hX hY => ?_)); simp only [go_sem, reduceAdd, reduceSub, reduceMul, reduceEqDiff, reduceLeDiff, Nat.reduceBEq, reduceLT, reduceIte, reduceCtorEq, Int.reduceToNat, ap_get0, ap_getk, ap_set0, ap_setk, hs2, ga2, gc2, List.append_assoc, List.length_append]; try (first | (refine ⟨fun h => hX ?_, fun h => hY ?_⟩; clear hX hY) | (refine hX ?_; clear hX hY) | (refine hY ?_; clear hX hY)))
    | refine ev_block ?_
    | (apply hK; clear hK)
    | apply_assumption -exfalso -symm only [*]
    | (refine And.intro ?_ ?_; first | omega | assumption | (unfold maxLen; omega) | (simp only [decide_eq_true_eq, decide_eq_false_iff_not, Int.not_lt, Int.not_le] at h; omega))
    | ((first | apply callE | apply callEG | apply callE0); (case' hp => (first | refine' r _ | (refine' (fun hg => ?_); refine' r _))); (case' h => ((first | refine evOps_fin ?_ | refine And.intro ?_ (evD_fin ?_) | refine evD_fin ?_) <;> simp only [go_sem, reduceAdd, reduceSub, reduceMul, reduceEqDiff, reduceLeDiff, Nat.reduceBEq, reduceLT, reduceIte, reduceCtorEq, Int.reduceToNat, ap_get0, ap_getk, ap_set0, ap_setk, hs2, ga2, gc2, List.append_assoc, List.length_append])))
    | (refine callX ?_; (first | refine evOps_fin ?_ | refine And.intro ?_ (evD_fin ?_) | refine evD_fin ?_) <;> simp only [go_sem, reduceAdd, reduceSub, reduceMul, reduceEqDiff, reduceLeDiff, Nat.reduceBEq, reduceLT, reduceIte, reduceCtorEq, Int.reduceToNat, ap_get0, ap_getk, ap_set0, ap_setk, hs2, ga2, gc2, List.append_assoc, List.length_append])
  exact ⟨_, rfl⟩
theorem improve_run {p : Prob} (h : p.ok) (hbt : bytesL p.f.v) {d : Nat → Bool} (hd : ∀ k, k < p.K → d k = true) : ∀ (n : Nat) (b : Blc) (m : Mat), b.l = n → blkOk p b → ∀ (i j : Nat) (F : List Own), i ≠ j → F[i]? = some (stM m j) → F[j]? = some (stB m) →
    Run Tryz.prog 16 [.pi (seaV p d) 0, .agg (enBl b), .own i 0 0 0] [i, j] F (.tup []) [(i, stM (impM p n b m) j), (j, stB (impM p n b m))] := by
  intro n
  induction n with
  | zero =>
    intro b m hl hb i j F hij hi hj
    refine run_of_evU tt_ok Tryz.func16 rfl (by decide +kernel) (Nat.le_of_ble_eq_true rfl) (by simp) (fun G hG hU => ⟨?_, ?_⟩)
    · have := get_lt ((hG j (by simp)).symm.trans hj)
      exact ⟨stM_under this _, stB_under _ _, trivial⟩
    have gi := (hG i (by simp)).symm.trans hi
    have gj := (hG j (by simp)).symm.trans hj
    have li := get_lt gi
    have lj := get_lt gj
    obtain ⟨⟨c1, c2, c3, c4, c5, c6⟩, l0, l6⟩ := id hb
    simp only at c1 c2 c3 c4 c5 c6
    obtain ⟨es, ekk, en, r0, r1, k1, k2⟩ := winOk h
    have sb := sbound_pure p h hbt d b ⟨c1, c2⟩ (hd _ (by omega)) (by omega) (by omega)
    have st := settled_pure (boundM p b) b m
    have vc := corner_pure b
    have gi2 : ∀ l : List Own, (G ++ l)[i]? = _ := fun l => (List.getElem?_append_left li).trans gi
    have gj2 : ∀ l : List Own, (G ++ l)[j]? = _ := fun l => (List.getElem?_append_left lj).trans gj
    have htk : List.take m.l.length (List.map enBl m.l) = List.map enBl m.l := List.take_of_length_le (by simp)
    have hlt := li
    have ne0 : (i == G.length) = false := by rw [beq_eq_false_iff_ne]; omega
    have ne1 : (i == G.length + 1) = false := by rw [beq_eq_false_iff_ne]; omega
    have ne2 : (i == G.length + 2) = false := by rw [beq_eq_false_iff_ne]; omega
    have hl0 : (b.l == 0) = true := by rw [hl]; rfl
    have hsame := set2_same gi gj
    by_cases hs : stlM p b m.sc m.b
    · have hap : app G [(i, stM (impM p 0 b m) j), (j, stB (impM p 0 b m))] = G := by
        unfold impM
        rw [if_pos hs]; exact hsame
      rw [hap]
      rw [decide_eq_true (p := boundM p b < m.sc ∨ _) hs] at st
      clear hsame hap
      simp only [Tryz.f16]
      simp only [seaV, enBl, stM, stB, matV, encM, enC, corM] at *
      generalize pyrV p.f = D at *
      generalize srow p d = SR at *
      generalize boundM p b = bd at *
      repeat' first
        | refine ev_seq (fun K hK => ?_)
        | ((first | refine evrd (id := 2) hmix tt_ok false [([], false), ([], false), ([], false), ([], false), ([], false), ([], false)] (by decide +kernel) ?_ | refine evrd (id := 4) hmix tt_ok false [([], true), ([], true), ([], false), ([0, 1], true), ([3], true), ([], false), ([], false), ([1, 4], false), ([], false), ([], false), ([], false)] (by decide +kernel) ?_ | refine evr tt_ok false ?_ | refine ev_skip ?_ | refine ev_ret ?_ | refine ev_exit ?_ | refine evc (fun X Y hX hY => ?_)); simp only [go_sem, reduceAdd, reduceSub, reduceMul, reduceEqDiff, reduceLeDiff, Nat.reduceBEq, reduceLT, reduceIte, reduceCtorEq, Int.reduceToNat, Nat.add_assoc, ap_get0, ap_getk, ap_set0, ap_setk, gi2, gj2, htk, vrows_lit _ (lit_enBl m.l), List.length_map, Nat.le_refl, Nat.sub_zero, List.drop_zero, List.append_assoc, List.length_append]; try (first | (refine ⟨fun h => hX ?_, fun h => hY ?_⟩; clear hX hY) | (refine hX ?_; clear hX hY) | (refine hY ?_; clear hX hY)))
        | refine ev_block ?_
        | (apply hK; clear hK)
        | apply_assumption -exfalso -symm only [*]
        | (refine And.intro ?_ ?_; first | omega | assumption | (unfold maxLen; omega) | (simp only [decide_eq_true_eq, decide_eq_false_iff_not, Int.not_lt, Int.not_le] at h; omega))
        | ((first | apply callP | apply callPG | apply callP0); (case' hv => (simp only [go_sem, reduceAdd, reduceSub, reduceMul, reduceEqDiff, reduceLeDiff, Nat.reduceBEq, reduceLT, reduceIte, reduceCtorEq, Int.reduceToNat, Nat.add_assoc, ap_get0, ap_getk, ap_set0, ap_setk, gi2, gj2, htk, vrows_lit _ (lit_enBl m.l), List.length_map, Nat.le_refl, Nat.sub_zero, List.drop_zero, List.append_assoc, List.length_append]; try exact rfl)); (case' hp => (first | refine' sb | (refine' (fun hg => ?_); refine' sb))); (case' h => ((first | refine evOps_fin ?_ | refine And.intro ?_ (evD_fin ?_) | refine evD_fin ?_) <;> simp only [go_sem, reduceAdd, reduceSub, reduceMul, reduceEqDiff, reduceLeDiff, Nat.reduceBEq, reduceLT, reduceIte, reduceCtorEq, Int.reduceToNat, Nat.add_assoc, ap_get0, ap_getk, ap_set0, ap_setk, gi2, gj2, htk, vrows_lit _ (lit_enBl m.l), List.length_map, Nat.le_refl, Nat.sub_zero, List.drop_zero, List.append_assoc, List.length_append])))
        | ((first | apply callL | apply callLG | apply callL0); (case' hv => (simp only [go_sem, reduceAdd, reduceSub, reduceMul, reduceEqDiff, reduceLeDiff, Nat.reduceBEq, reduceLT, reduceIte, reduceCtorEq, Int.reduceToNat, Nat.add_assoc, ap_get0, ap_getk, ap_set0, ap_setk, gi2, gj2, htk, vrows_lit _ (lit_enBl m.l), List.length_map, Nat.le_refl, Nat.sub_zero, List.drop_zero, List.append_assoc, List.length_append]; try exact rfl)); (case' hp => (first | refine' st | (refine' (fun hg => ?_); refine' st))); (case' hf => exact rfl); (case' h => ((first | refine evOps_fin ?_ | refine And.intro ?_ (evD_fin ?_) | refine evD_fin ?_) <;> simp only [go_sem, reduceAdd, reduceSub, reduceMul, reduceEqDiff, reduceLeDiff, Nat.reduceBEq, reduceLT, reduceIte, reduceCtorEq, Int.reduceToNat, Nat.add_assoc, ap_get0, ap_getk, ap_set0, ap_setk, gi2, gj2, htk, vrows_lit _ (lit_enBl m.l), List.length_map, Nat.le_refl, Nat.sub_zero, List.drop_zero, List.append_assoc, List.length_append])))
        | (refine callX ?_; (first | refine evOps_fin ?_ | refine And.intro ?_ (evD_fin ?_) | refine evD_fin ?_) <;> simp only [go_sem, reduceAdd, reduceSub, reduceMul, reduceEqDiff, reduceLeDiff, Nat.reduceBEq, reduceLT, reduceIte, reduceCtorEq, Int.reduceToNat, Nat.add_assoc, ap_get0, ap_getk, ap_set0, ap_setk, gi2, gj2, htk, vrows_lit _ (lit_enBl m.l), List.length_map, Nat.le_refl, Nat.sub_zero, List.drop_zero, List.append_assoc, List.length_append])
      exact ⟨_, rfl⟩
    · have hap : app G [(i, stM (impM p 0 b m) j), (j, stB (impM p 0 b m))] = G.set i (stM ⟨corM b, m.px, m.py, m.ph, boundM p b, m.l⟩ j) := by
        unfold impM
        rw [if_neg hs]
        show (G.set i _).set j (stB m) = _
        exact set_same (by rw [List.getElem?_set_ne hij]; exact gj)
      rw [hap]
      rw [decide_eq_false (p := boundM p b < m.sc ∨ _) hs] at st
      clear hsame hap
      simp only [Tryz.f16]
      simp only [seaV, enBl, stM, stB, matV, encM, enC, corM] at *
      generalize pyrV p.f = D at *
      generalize srow p d = SR at *
      generalize boundM p b = bd at *
      repeat' first
        | refine ev_seq (fun K hK => ?_)
        | ((first | refine evrd (id := 2) hmix tt_ok false [([], false), ([], false), ([], false), ([], false), ([], false), ([], false)] (by decide +kernel) ?_ | refine evrd (id := 4) hmix tt_ok false [([], true), ([], true), ([], false), ([0, 1], true), ([3], true), ([], false), ([], false), ([1, 4], false), ([], false), ([], false), ([], false)] (by decide +kernel) ?_ | refine evr tt_ok false ?_ | refine ev_skip ?_ | refine ev_ret ?_ | refine ev_exit ?_ | refine evc (fun X Y hX hY => ?_)); simp only [go_sem, reduceAdd, reduceSub, reduceMul, reduceEqDiff, reduceLeDiff, Nat.reduceBEq, reduceLT, reduceIte, reduceCtorEq, Int.reduceToNat, Nat.add_assoc, ap_get0, ap_getk, ap_set0, ap_setk, ap_get _ _ hlt, ap_set _ _ hlt, aps_get0, aps_getk, aps_set0, aps_setk, aps_get hlt, aps_set hlt, List.append_assoc, List.length_append, List.length_set, gi, gj2, ne0, ne1, ne2, hl0, htk, vrows_lit _ (lit_enBl m.l), List.length_map, Nat.le_refl, Nat.sub_zero, List.drop_zero]; try (first | (refine ⟨fun h => hX ?_, fun h => hY ?_⟩; clear hX hY) | (refine hX ?_; clear hX hY) | (refine hY ?_; clear hX hY)))
        | refine ev_block ?_
        | (apply hK; clear hK)
        | apply_assumption -exfalso -symm only [*]
        | (refine And.intro ?_ ?_; first | omega | assumption | (unfold maxLen; omega) | (simp only [decide_eq_true_eq, decide_eq_false_iff_not, Int.not_lt, Int.not_le] at h; omega))
        | ((first | apply callP | apply callPG | apply callP0); (case' hv => (simp only [go_sem, reduceAdd, reduceSub, reduceMul, reduceEqDiff, reduceLeDiff, Nat.reduceBEq, reduceLT, reduceIte, reduceCtorEq, Int.reduceToNat, Nat.add_assoc, ap_get0, ap_getk, ap_set0, ap_setk, ap_get _ _ hlt, ap_set _ _ hlt, aps_get0, aps_getk, aps_set0, aps_setk, aps_get hlt, aps_set hlt, List.append_assoc, List.length_append, List.length_set, gi, gj2, ne0, ne1, ne2, hl0, htk, vrows_lit _ (lit_enBl m.l), List.length_map, Nat.le_refl, Nat.sub_zero, List.drop_zero]; try exact rfl)); (case' hp => (first | refine' sb | (refine' (fun hg => ?_); refine' sb) | refine' vc | (refine' (fun hg => ?_); refine' vc))); (case' h => ((first | refine evOps_fin ?_ | refine And.intro ?_ (evD_fin ?_) | refine evD_fin ?_) <;> simp only [go_sem, reduceAdd, reduceSub, reduceMul, reduceEqDiff, reduceLeDiff, Nat.reduceBEq, reduceLT, reduceIte, reduceCtorEq, Int.reduceToNat, Nat.add_assoc, ap_get0, ap_getk, ap_set0, ap_setk, ap_get _ _ hlt, ap_set _ _ hlt, aps_get0, aps_getk, aps_set0, aps_setk, aps_get hlt, aps_set hlt, List.append_assoc, List.length_append, List.length_set, gi, gj2, ne0, ne1, ne2, hl0, htk, vrows_lit _ (lit_enBl m.l), List.length_map, Nat.le_refl, Nat.sub_zero, List.drop_zero])))
        | ((first | apply callL | apply callLG | apply callL0); (case' hv => (simp only [go_sem, reduceAdd, reduceSub, reduceMul, reduceEqDiff, reduceLeDiff, Nat.reduceBEq, reduceLT, reduceIte, reduceCtorEq, Int.reduceToNat, Nat.add_assoc, ap_get0, ap_getk, ap_set0, ap_setk, ap_get _ _ hlt, ap_set _ _ hlt, aps_get0, aps_getk, aps_set0, aps_setk, aps_get hlt, aps_set hlt, List.append_assoc, List.length_append, List.length_set, gi, gj2, ne0, ne1, ne2, hl0, htk, vrows_lit _ (lit_enBl m.l), List.length_map, Nat.le_refl, Nat.sub_zero, List.drop_zero]; try exact rfl)); (case' hp => (first | refine' st | (refine' (fun hg => ?_); refine' st))); (case' hf => exact rfl); (case' h => ((first | refine evOps_fin ?_ | refine And.intro ?_ (evD_fin ?_) | refine evD_fin ?_) <;> simp only [go_sem, reduceAdd, reduceSub, reduceMul, reduceEqDiff, reduceLeDiff, Nat.reduceBEq, reduceLT, reduceIte, reduceCtorEq, Int.reduceToNat, Nat.add_assoc, ap_get0, ap_getk, ap_set0, ap_setk, ap_get _ _ hlt, ap_set _ _ hlt, aps_get0, aps_getk, aps_set0, aps_setk, aps_get hlt, aps_set hlt, List.append_assoc, List.length_append, List.length_set, gi, gj2, ne0, ne1, ne2, hl0, htk, vrows_lit _ (lit_enBl m.l), List.length_map, Nat.le_refl, Nat.sub_zero, List.drop_zero])))
        | (refine callX ?_; (first | refine evOps_fin ?_ | refine And.intro ?_ (evD_fin ?_) | refine evD_fin ?_) <;> simp only [go_sem, reduceAdd, reduceSub, reduceMul, reduceEqDiff, reduceLeDiff, Nat.reduceBEq, reduceLT, reduceIte, reduceCtorEq, Int.reduceToNat, Nat.add_assoc, ap_get0, ap_getk, ap_set0, ap_setk, ap_get _ _ hlt, ap_set _ _ hlt, aps_get0, aps_getk, aps_set0, aps_setk, aps_get hlt, aps_set hlt, List.append_assoc, List.length_append, List.length_set, gi, gj2, ne0, ne1, ne2, hl0, htk, vrows_lit _ (lit_enBl m.l), List.length_map, Nat.le_refl, Nat.sub_zero, List.drop_zero])
      exact ⟨_, rfl⟩
  | succ n ih =>
    intro b m hl hb i j F hij hi hj
    refine run_of_evU tt_ok Tryz.func16 rfl (by decide +kernel) (Nat.le_of_ble_eq_true rfl) (by simp) (fun G hG hU => ⟨?_, ?_⟩)
    · have := get_lt ((hG j (by simp)).symm.trans hj)
      exact ⟨stM_under this _, stB_under _ _, trivial⟩
    have gi := (hG i (by simp)).symm.trans hi
    have gj := (hG j (by simp)).symm.trans hj
    have li := get_lt gi
    have lj := get_lt gj
    obtain ⟨⟨c1, c2, c3, c4, c5, c6⟩, l0, l6⟩ := id hb
    simp only at c1 c2 c3 c4 c5 c6
    obtain ⟨es, ekk, en, r0, r1, k1, k2⟩ := winOk h
    have sb := sbound_pure p h hbt d b ⟨c1, c2⟩ (hd _ (by omega)) (by omega) (by omega)
    have st := settled_pure (boundM p b) b m
    have gi2 : ∀ l : List Own, (G ++ l)[i]? = _ := fun l => (List.getElem?_append_left li).trans gi
    have gj2 : ∀ l : List Own, (G ++ l)[j]? = _ := fun l => (List.getElem?_append_left lj).trans gj
    have htk : List.take m.l.length (List.map enBl m.l) = List.map enBl m.l := List.take_of_length_le (by simp)
    have hl0 : (b.l == 0) = false := by rw [beq_eq_false_iff_ne]; omega
    have hsame := set2_same gi gj
    by_cases hs : stlM p b m.sc m.b
    · have hap : app G [(i, stM (impM p (n + 1) b m) j), (j, stB (impM p (n + 1) b m))] = G := by
        unfold impM
        rw [if_pos hs]; exact hsame
      rw [hap]
      rw [decide_eq_true (p := boundM p b < m.sc ∨ _) hs] at st
      clear hsame hap ih
      simp only [Tryz.f16]
      simp only [seaV, enBl, stM, stB, matV, encM, enC, corM] at *
      generalize pyrV p.f = D at *
      generalize srow p d = SR at *
      generalize boundM p b = bd at *
      repeat' first
        | refine ev_seq (fun K hK => ?_)
        | ((first | refine evrd (id := 2) hmix tt_ok false [([], false), ([], false), ([], false), ([], false), ([], false), ([], false)] (by decide +kernel) ?_ | refine evrd (id := 4) hmix tt_ok false [([], true), ([], true), ([], false), ([0, 1], true), ([3], true), ([], false), ([], false), ([1, 4], false), ([], false), ([], false), ([], false)] (by decide +kernel) ?_ | refine evr tt_ok false ?_ | refine ev_skip ?_ | refine ev_ret ?_ | refine ev_exit ?_ | refine evc (fun X Y hX hY => ?_)); simp only [go_sem, reduceAdd, reduceSub, reduceMul, reduceEqDiff, reduceLeDiff, Nat.reduceBEq, reduceLT, reduceIte, reduceCtorEq, Int.reduceToNat, Nat.add_assoc, ap_get0, ap_getk, ap_set0, ap_setk, gi2, gj2, htk, vrows_lit _ (lit_enBl m.l), List.length_map, Nat.le_refl, Nat.sub_zero, List.drop_zero, List.append_assoc, List.length_append]; try (first | (refine ⟨fun h => hX ?_, fun h => hY ?_⟩; clear hX hY) | (refine hX ?_; clear hX hY) | (refine hY ?_; clear hX hY)))
        | refine ev_block ?_
        | (apply hK; clear hK)
        | apply_assumption -exfalso -symm only [*]
        | (refine And.intro ?_ ?_; first | omega | assumption | (unfold maxLen; omega) | (simp only [decide_eq_true_eq, decide_eq_false_iff_not, Int.not_lt, Int.not_le] at h; omega))
        | ((first | apply callP | apply callPG | apply callP0); (case' hv => (simp only [go_sem, reduceAdd, reduceSub, reduceMul, reduceEqDiff, reduceLeDiff, Nat.reduceBEq, reduceLT, reduceIte, reduceCtorEq, Int.reduceToNat, Nat.add_assoc, ap_get0, ap_getk, ap_set0, ap_setk, gi2, gj2, htk, vrows_lit _ (lit_enBl m.l), List.length_map, Nat.le_refl, Nat.sub_zero, List.drop_zero, List.append_assoc, List.length_append]; try exact rfl)); (case' hp => (first | refine' sb | (refine' (fun hg => ?_); refine' sb))); (case' h => ((first | refine evOps_fin ?_ | refine And.intro ?_ (evD_fin ?_) | refine evD_fin ?_) <;> simp only [go_sem, reduceAdd, reduceSub, reduceMul, reduceEqDiff, reduceLeDiff, Nat.reduceBEq, reduceLT, reduceIte, reduceCtorEq, Int.reduceToNat, Nat.add_assoc, ap_get0, ap_getk, ap_set0, ap_setk, gi2, gj2, htk, vrows_lit _ (lit_enBl m.l), List.length_map, Nat.le_refl, Nat.sub_zero, List.drop_zero, List.append_assoc, List.length_append])))
        | ((first | apply callL | apply callLG | apply callL0); (case' hv => (simp only [go_sem, reduceAdd, reduceSub, reduceMul, reduceEqDiff, reduceLeDiff, Nat.reduceBEq, reduceLT, reduceIte, reduceCtorEq, Int.reduceToNat, Nat.add_assoc, ap_get0, ap_getk, ap_set0, ap_setk, gi2, gj2, htk, vrows_lit _ (lit_enBl m.l), List.length_map, Nat.le_refl, Nat.sub_zero, List.drop_zero, List.append_assoc, List.length_append]; try exact rfl)); (case' hp => (first | refine' st | (refine' (fun hg => ?_); refine' st))); (case' hf => exact rfl); (case' h => ((first | refine evOps_fin ?_ | refine And.intro ?_ (evD_fin ?_) | refine evD_fin ?_) <;> simp only [go_sem, reduceAdd, reduceSub, reduceMul, reduceEqDiff, reduceLeDiff, Nat.reduceBEq, reduceLT, reduceIte, reduceCtorEq, Int.reduceToNat, Nat.add_assoc, ap_get0, ap_getk, ap_set0, ap_setk, gi2, gj2, htk, vrows_lit _ (lit_enBl m.l), List.length_map, Nat.le_refl, Nat.sub_zero, List.drop_zero, List.append_assoc, List.length_append])))
        | (refine callX ?_; (first | refine evOps_fin ?_ | refine And.intro ?_ (evD_fin ?_) | refine evD_fin ?_) <;> simp only [go_sem, reduceAdd, reduceSub, reduceMul, reduceEqDiff, reduceLeDiff, Nat.reduceBEq, reduceLT, reduceIte, reduceCtorEq, Int.reduceToNat, Nat.add_assoc, ap_get0, ap_getk, ap_set0, ap_setk, gi2, gj2, htk, vrows_lit _ (lit_enBl m.l), List.length_map, Nat.le_refl, Nat.sub_zero, List.drop_zero, List.append_assoc, List.length_append])
      exact ⟨_, rfl⟩
    · have l1 : 1 ≤ b.l := by omega
      have e : impM p (n + 1) b m = foldQ p (impM p n) b 4 m := by
        show (if _ then _ else _) = _
        exact if_neg hs
      rw [e]
      have hap : app G [(i, stM (foldQ p (impM p n) b 4 m) j), (j, stB (foldQ p (impM p n) b 4 m))] = set2 G i (stM (foldQ p (impM p n) b 4 m) j) j (stB (foldQ p (impM p n) b 4 m)) := rfl
      rw [hap]
      have sr := split_run p h d 45 (impM p n) b m hb l1 i j hij
        (fun t ht hin => imp1_cb hij (fun F' hi' hj' => ih (qdM b t) _ (by show b.l - 1 = _; omega) (qd_ok hb l1 hin) i j F' hij hi' hj'))
        G.length (G.length + 2) (Nat.ne_of_lt li) (Nat.ne_of_lt lj) (by omega) (by omega)
        (G ++ [.blk 64 0 1 [[.pi (seaV p d) 0]], .blk 68 0 4 [enBl b], .blk 69 0 1 [[.own i 0 0 0]]])
        (gi2 _) (gj2 _) (ap_get0 _ _) (ap_getk _ _ 2)
      rw [decide_eq_false (p := boundM p b < m.sc ∨ _) hs] at st
      have hs2 : ∀ (X Y : Own) (l : List Own), ((G ++ l).set i X).set j Y = set2 G i X j Y ++ l := fun X Y l => set2_app li lj X Y
      clear hsame hap ih
      generalize foldQ p (impM p n) b 4 m = m' at *
      generalize hX : stM m' j = X at *
      generalize hY : stB m' = Y at *
      simp only [Tryz.f16]
      simp only [seaV, enBl, stM, stB, matV, encM, enC, corM] at sb st gi2 gj2 sr ⊢
      generalize pyrV p.f = D at *
      generalize srow p d = SR at *
      generalize boundM p b = bd at *
      repeat' first
        | refine ev_seq (fun K hK => ?_)
        | ((first | refine evrd (id := 2) hmix tt_ok false [([], false), ([], false), ([], false), ([], false), ([], false), ([], false)] (by decide +kernel) ?_ | refine evrd (id := 4) hmix tt_ok false [([], true), ([], true), ([], false), ([0, 1], true), ([3], true), ([], false), ([], false), ([1, 4], false), ([], false), ([], false), ([], false)] (by decide +kernel) ?_ | refine evr tt_ok false ?_ | refine ev_skip ?_ | refine ev_ret ?_ | refine ev_exit ?_ | refine evc (fun X Y hX hY => ?_)); simp only [go_sem, reduceAdd, reduceSub, reduceMul, reduceEqDiff, reduceLeDiff, Nat.reduceBEq, reduceLT, reduceIte, reduceCtorEq, Int.reduceToNat, Nat.add_assoc, ap_get0, ap_getk, ap_set0, ap_setk, List.size_toArray, eq_self, hs2, gi2, gj2, hl0, htk, vrows_lit _ (lit_enBl m.l), List.length_map, Nat.le_refl, Nat.sub_zero, List.drop_zero, List.append_assoc, List.length_append]; try (first | (refine ⟨fun h => hX ?_, fun h => hY ?_⟩; clear hX hY) | (refine hX ?_; clear hX hY) | (refine hY ?_; clear hX hY)))
        | refine ev_block ?_
        | (apply hK; clear hK)
        | apply_assumption -exfalso -symm only [*]
        | (refine And.intro ?_ ?_; first | omega | assumption | (unfold maxLen; omega) | (simp only [decide_eq_true_eq, decide_eq_false_iff_not, Int.not_lt, Int.not_le] at h; omega))
        | ((first | apply callP | apply callPG | apply callP0); (case' hv => (simp only [go_sem, reduceAdd, reduceSub, reduceMul, reduceEqDiff, reduceLeDiff, Nat.reduceBEq, reduceLT, reduceIte, reduceCtorEq, Int.reduceToNat, Nat.add_assoc, ap_get0, ap_getk, ap_set0, ap_setk, List.size_toArray, eq_self, hs2, gi2, gj2, hl0, htk, vrows_lit _ (lit_enBl m.l), List.length_map, Nat.le_refl, Nat.sub_zero, List.drop_zero, List.append_assoc, List.length_append]; try exact rfl)); (case' hp => (first | refine' sb | (refine' (fun hg => ?_); refine' sb))); (case' h => ((first | refine evOps_fin ?_ | refine And.intro ?_ (evD_fin ?_) | refine evD_fin ?_) <;> simp only [go_sem, reduceAdd, reduceSub, reduceMul, reduceEqDiff, reduceLeDiff, Nat.reduceBEq, reduceLT, reduceIte, reduceCtorEq, Int.reduceToNat, Nat.add_assoc, ap_get0, ap_getk, ap_set0, ap_setk, List.size_toArray, eq_self, hs2, gi2, gj2, hl0, htk, vrows_lit _ (lit_enBl m.l), List.length_map, Nat.le_refl, Nat.sub_zero, List.drop_zero, List.append_assoc, List.length_append])))
        | ((first | apply callL | apply callLG | apply callL0); (case' hv => (simp only [go_sem, reduceAdd, reduceSub, reduceMul, reduceEqDiff, reduceLeDiff, Nat.reduceBEq, reduceLT, reduceIte, reduceCtorEq, Int.reduceToNat, Nat.add_assoc, ap_get0, ap_getk, ap_set0, ap_setk, List.size_toArray, eq_self, hs2, gi2, gj2, hl0, htk, vrows_lit _ (lit_enBl m.l), List.length_map, Nat.le_refl, Nat.sub_zero, List.drop_zero, List.append_assoc, List.length_append]; try exact rfl)); (case' hp => (first | refine' st | (refine' (fun hg => ?_); refine' st))); (case' hf => exact rfl); (case' h => ((first | refine evOps_fin ?_ | refine And.intro ?_ (evD_fin ?_) | refine evD_fin ?_) <;> simp only [go_sem, reduceAdd, reduceSub, reduceMul, reduceEqDiff, reduceLeDiff, Nat.reduceBEq, reduceLT, reduceIte, reduceCtorEq, Int.reduceToNat, Nat.add_assoc, ap_get0, ap_getk, ap_set0, ap_setk, List.size_toArray, eq_self, hs2, gi2, gj2, hl0, htk, vrows_lit _ (lit_enBl m.l), List.length_map, Nat.le_refl, Nat.sub_zero, List.drop_zero, List.append_assoc, List.length_append])))
        | ((first | apply callE | apply callEG | apply callE0); (case' hp => (first | refine' sr | (refine' (fun hg => ?_); refine' sr))); (case' h => ((first | refine evOps_fin ?_ | refine And.intro ?_ (evD_fin ?_) | refine evD_fin ?_) <;> simp only [go_sem, reduceAdd, reduceSub, reduceMul, reduceEqDiff, reduceLeDiff, Nat.reduceBEq, reduceLT, reduceIte, reduceCtorEq, Int.reduceToNat, Nat.add_assoc, ap_get0, ap_getk, ap_set0, ap_setk, List.size_toArray, eq_self, hs2, gi2, gj2, hl0, htk, vrows_lit _ (lit_enBl m.l), List.length_map, Nat.le_refl, Nat.sub_zero, List.drop_zero, List.append_assoc, List.length_append])))
        | (refine callX ?_; (first | refine evOps_fin ?_ | refine And.intro ?_ (evD_fin ?_) | refine evD_fin ?_) <;> simp only [go_sem, reduceAdd, reduceSub, reduceMul, reduceEqDiff, reduceLeDiff, Nat.reduceBEq, reduceLT, reduceIte, reduceCtorEq, Int.reduceToNat, Nat.add_assoc, ap_get0, ap_getk, ap_set0, ap_setk, List.size_toArray, eq_self, hs2, gi2, gj2, hl0, htk, vrows_lit _ (lit_enBl m.l), List.length_map, Nat.le_refl, Nat.sub_zero, List.drop_zero, List.append_assoc, List.length_append])
      exact ⟨_, rfl⟩
set_option maxRecDepth 20000
set_option maxHeartbeats 16000000
theorem catQ_len {p : Prob} {f : Blc → List Blc} {w : Nat} (hf : ∀ q, (f q).length ≤ w) (b : Blc) : ∀ t, (catQ p f b t).length ≤ t * w
  | 0 => Nat.zero_le _
  | t + 1 => by
    have := catQ_len (p := p) hf b t
    unfold catQ
    rw [List.length_append, Nat.add_mul, Nat.one_mul]
    split
    · have := hf (qdM b t); omega
    · rw [List.length_nil]; omega
theorem cerL_len (p : Prob) (s : Int) (d : Cnd) : ∀ (n : Nat) (b : Blc), (cerL p s d n b).length ≤ 4 ^ n
  | 0, b => Nat.le_refl _
  | n + 1, b => by
    unfold cerL
    split
    · exact Nat.pos_of_ne_zero (by simp)
    · have := catQ_len (p := p) (cerL_len p s d n) b 4
      rw [Nat.pow_succ]; omega
theorem cer1_cb {p : Prob} {d : Nat → Bool} {n : Nat} {q : Blc} {m : Mat} {i j : Nat} (hij : i ≠ j)
    (IH : ∀ F : List Own, F[i]? = some (stM m j) → F[j]? = some (stB m) → Run Tryz.prog 17 [.pi (seaV p d) 0, .agg (enBl q), .own i 0 0 0] [i, j] F (.tup []) [(i, stM (cerM p n q m) j), (j, stB (cerM p n q m))]) :
    CbOk p d 46 (cerM p n) i j q m := by
  intro a c F hi hj ha hc
  refine run_of_evU tt_ok Tryz.func46 rfl (by decide +kernel) (Nat.le_of_ble_eq_true rfl) (by simp) (fun G hG hU => ⟨?_, ?_⟩)
  · have := get_lt ((hG j (by simp)).symm.trans hj)
    exact ⟨stM_under this _, stB_under _ _, trivial⟩
  have gi := (hG i (by simp)).symm.trans hi
  have gj := (hG j (by simp)).symm.trans hj
  have ga := (hG a (by simp)).symm.trans ha
  have gc := (hG c (by simp)).symm.trans hc
  have li := get_lt gi
  have lj := get_lt gj
  have la := get_lt ga
  have lc := get_lt gc
  have r := fun l : List Own => IH (G ++ l) (by rw [List.getElem?_append_left li]; exact gi) (by rw [List.getElem?_append_left lj]; exact gj)
  have ga2 : ∀ l : List Own, (G ++ l)[a]? = _ := fun l => (List.getElem?_append_left la).trans ga
  have gc2 : ∀ l : List Own, (G ++ l)[c]? = _ := fun l => (List.getElem?_append_left lc).trans gc
  generalize cerM p n q m = m' at *
  have hs2 : ∀ (X Y : Own) (l : List Own), ((G ++ l).set i X).set j Y = set2 G i X j Y ++ l := fun X Y l => set2_app li lj X Y
  have hap : app G [(i, stM m' j), (j, stB m')] = set2 G i (stM m' j) j (stB m') := rfl
  rw [hap]
  clear IH hG
  simp only [Tryz.f46]
  simp only [seaV, enBl] at *
  generalize pyrV p.f = D at *
  generalize srow p d = SR at *
  repeat' first
    | refine ev_seq (fun K hK => ?_)
    | ((first | refine evr tt_ok false ?_ | refine ev_skip ?_ | refine ev_ret ?_ | refine ev_exit ?_ | refine evc (fun X Y hX hY => ?_)); simp only [go_sem, reduceAdd, reduceSub, reduceMul, reduceEqDiff, reduceLeDiff, Nat.reduceBEq, reduceLT, reduceIte, reduceCtorEq, Int.reduceToNat, ap_get0, ap_getk, ap_set0, ap_setk, hs2, ga2, gc2, List.append_assoc, List.length_append]; try (first | (refine ⟨fun h => hX ?_, fun h => hY ?_⟩; clear hX hY) | (refine hX ?_; clear hX hY) | (refine hY ?_; clear hX hY)))
    | refine ev_block ?_
    | (apply hK; clear hK)
    | apply_assumption -exfalso -symm only [*]
    | (refine And.intro ?_ ?_; first | omega | assumption | (unfold maxLen; omega) | (simp only [decide_eq_true_eq, decide_eq_false_iff_not, Int.not_lt, Int.not_le] at h; omega))
    | ((first | apply callE | apply callEG | apply callE0); (case' hp => (first | refine' r _ | (refine' (fun hg => ?_); refine' r _))); (case' h => ((first | refine evOps_fin ?_ | refine And.intro ?_ (evD_fin ?_) | refine evD_fin ?_) <;> simp only [go_sem, reduceAdd, reduceSub, reduceMul, reduceEqDiff, reduceLeDiff, Nat.reduceBEq, reduceLT, reduceIte, reduceCtorEq, Int.reduceToNat, ap_get0, ap_getk, ap_set0, ap_setk, hs2, ga2, gc2, List.append_assoc, List.length_append])))
    | (refine callX ?_; (first | refine evOps_fin ?_ | refine And.intro ?_ (evD_fin ?_) | refine evD_fin ?_) <;> simp only [go_sem, reduceAdd, reduceSub, reduceMul, reduceEqDiff, reduceLeDiff, Nat.reduceBEq, reduceLT, reduceIte, reduceCtorEq, Int.reduceToNat, ap_get0, ap_getk, ap_set0, ap_setk, hs2, ga2, gc2, List.append_assoc, List.length_append])
  exact ⟨_, rfl⟩
theorem cer_settled {p : Prob} (h : p.ok) (hbt : bytesL p.f.v) {d : Nat → Bool} (hd : ∀ k, k < p.K → d k = true) (b : Blc) (m : Mat) (hb : blkOk p b) (hs : stlM p b m.sc m.b) (n : Nat) (hc : cerL p m.sc m.b n b = [b]) (hln : m.l.length + 1 ≤ 1099511627776) (i j : Nat) (F : List Own) (hij : i ≠ j) (hi : F[i]? = some (stM m j)) (hj : F[j]? = some (stB m)) :
    Run Tryz.prog 17 [.pi (seaV p d) 0, .agg (enBl b), .own i 0 0 0] [i, j] F (.tup []) [(i, stM (cerM p n b m) j), (j, stB (cerM p n b m))] := by
  refine run_of_evU tt_ok Tryz.func17 rfl (by decide +kernel) (Nat.le_of_ble_eq_true rfl) (by simp) (fun G hG hU => ⟨?_, ?_⟩)
  · have := get_lt ((hG j (by simp)).symm.trans hj)
    exact ⟨stM_under this _, stB_under _ _, trivial⟩
  have gi := (hG i (by simp)).symm.trans hi
  have gj := (hG j (by simp)).symm.trans hj
  have li := get_lt gi
  have lj := get_lt gj
  obtain ⟨⟨c1, c2, c3, c4, c5, c6⟩, l0, l6⟩ := id hb
  simp only at c1 c2 c3 c4 c5 c6
  obtain ⟨es, ekk, en, r0, r1, k1, k2⟩ := winOk h
  have sb := sbound_pure p h hbt d b ⟨c1, c2⟩ (hd _ (by omega)) (by omega) (by omega)
  have st := settled_pure (boundM p b) b m
  rw [decide_eq_true (p := boundM p b < m.sc ∨ _) hs] at st
  have gi2 : ∀ l : List Own, (G ++ l)[i]? = _ := fun l => (List.getElem?_append_left li).trans gi
  have gj2 : ∀ l : List Own, (G ++ l)[j]? = _ := fun l => (List.getElem?_append_left lj).trans gj
  have htk : List.take m.l.length (List.map enBl m.l) = List.map enBl m.l := List.take_of_length_le (by simp)
  have el : (m.l ++ [b]).length = m.l.length + 1 := by simp
  have em : (m.l ++ [b]).map enBl = m.l.map enBl ++ [enBl b] := by simp
  have hap : app G [(i, stM (cerM p n b m) j), (j, stB (cerM p n b m))] = (G.set j (.blk 68 (m.l.length + 1) 4 (m.l.map enBl ++ [enBl b]))).set i (.blk 46 0 8 [matV m (.rs j (m.l.length + 1) 0 (m.l.length + 1))]) := by
    unfold cerM
    rw [hc]
    show (G.set i _).set j _ = _
    rw [List.set_comm _ _ hij]
    unfold stB stM matV
    simp only [el, em]
  rw [hap]
  have s1 : ∀ (Y : Own) (l : List Own), (G ++ l).set j Y = G.set j Y ++ l := fun Y l => List.set_append_left _ _ lj
  have s2 : ∀ (X Y : Own) (l : List Own), (G.set j Y ++ l).set i X = (G.set j Y).set i X ++ l := fun X Y l => List.set_append_left _ _ (by simpa using li)
  have g1 : ∀ (Y : Own) (l : List Own), (G.set j Y ++ l)[i]? = _ := fun Y l => (List.getElem?_append_left (by simpa using li)).trans ((List.getElem?_set_ne (Ne.symm hij)).trans gi)
  have i0 : (i == G.length) = false := by rw [beq_eq_false_iff_ne]; omega
  have iK : ∀ k, (i == G.length + k) = false := fun k => by rw [beq_eq_false_iff_ne]; omega
  have j0 : (j == G.length) = false := by rw [beq_eq_false_iff_ne]; omega
  have jK : ∀ k, (j == G.length + k) = false := fun k => by rw [beq_eq_false_iff_ne]; omega
  have i0' : (G.length == i) = false := by rw [beq_eq_false_iff_ne]; omega
  have iK' : ∀ k, (G.length + k == i) = false := fun k => by rw [beq_eq_false_iff_ne]; omega
  have j0' : (G.length == j) = false := by rw [beq_eq_false_iff_ne]; omega
  have jK' : ∀ k, (G.length + k == j) = false := fun k => by rw [beq_eq_false_iff_ne]; omega
  have hij' : (i == j) = false := by rw [beq_eq_false_iff_ne]; exact hij
  have hji' : (j == i) = false := by rw [beq_eq_false_iff_ne]; exact Ne.symm hij
  have hq : 1 ≤ maxLen ∧ m.l.length + 1 ≤ maxLen ∧ (m.l.length + 1) * 32 ≤ 140737488355328 := by
    have : maxLen = 9223372036854775807 := rfl
    omega
  have k32 : (G.length + 3 == G.length + 2) = false := by rw [beq_eq_false_iff_ne]; omega
  clear hap hc el em
  simp only [Tryz.f17]
  simp only [seaV, enBl, stM, stB, matV, encM, enC, corM] at *
  generalize pyrV p.f = D at *
  generalize srow p d = SR at *
  generalize boundM p b = bd at *
  repeat' first
    | refine ev_seq (fun K hK => ?_)
    | ((first | refine evrd (id := 1) hmix tt_ok false [([], false), ([], false), ([], true), ([2], false), ([2], false), ([2], false), ([2], false), ([], false)] (by decide +kernel) ?_ | refine evrd (id := 2) hmix tt_ok false [([], true), ([], true), ([], true), ([], true), ([], true), ([], false), ([0, 1, 2, 3, 4], false), ([0], false), ([], false), ([], false), ([], false)] (by decide +kernel) ?_ | refine evr tt_ok false ?_ | refine ev_skip ?_ | refine ev_ret ?_ | refine ev_exit ?_ | refine evc (fun X Y hX hY => ?_)); simp only [go_sem, reduceAdd, reduceSub, reduceMul, reduceEqDiff, reduceLeDiff, Nat.reduceBEq, reduceLT, reduceIte, reduceCtorEq, Int.reduceToNat, Nat.add_assoc, ap_get0, ap_getk, ap_set0, ap_setk, aps_get0, aps_getk, aps_set0, aps_setk, s1, s2, g1, gi2, gj2, i0, iK, j0, jK, i0', iK', j0', jK', hij', hji', k32, htk, vrows_lit _ (lit_enBl m.l), List.length_map, Nat.le_refl, Nat.sub_zero, List.drop_zero, List.append_assoc, List.length_append]; try (first | (refine ⟨fun h => hX ?_, fun h => hY ?_⟩; clear hX hY) | (refine hX ?_; clear hX hY) | (refine hY ?_; clear hX hY)))
    | refine ev_block ?_
    | (apply hK; clear hK)
    | apply_assumption -exfalso -symm only [*]
    | (refine And.intro ?_ ?_; first | omega | assumption | (unfold maxLen; omega) | (simp only [decide_eq_true_eq, decide_eq_false_iff_not, Int.not_lt, Int.not_le] at h; omega))
    | ((first | apply callP | apply callPG | apply callP0); (case' hv => (simp only [go_sem, reduceAdd, reduceSub, reduceMul, reduceEqDiff, reduceLeDiff, Nat.reduceBEq, reduceLT, reduceIte, reduceCtorEq, Int.reduceToNat, Nat.add_assoc, ap_get0, ap_getk, ap_set0, ap_setk, aps_get0, aps_getk, aps_set0, aps_setk, s1, s2, g1, gi2, gj2, i0, iK, j0, jK, i0', iK', j0', jK', hij', hji', k32, htk, vrows_lit _ (lit_enBl m.l), List.length_map, Nat.le_refl, Nat.sub_zero, List.drop_zero, List.append_assoc, List.length_append]; try exact rfl)); (case' hp => (first | refine' sb | (refine' (fun hg => ?_); refine' sb))); (case' h => ((first | refine evOps_fin ?_ | refine And.intro ?_ (evD_fin ?_) | refine evD_fin ?_) <;> simp only [go_sem, reduceAdd, reduceSub, reduceMul, reduceEqDiff, reduceLeDiff, Nat.reduceBEq, reduceLT, reduceIte, reduceCtorEq, Int.reduceToNat, Nat.add_assoc, ap_get0, ap_getk, ap_set0, ap_setk, aps_get0, aps_getk, aps_set0, aps_setk, s1, s2, g1, gi2, gj2, i0, iK, j0, jK, i0', iK', j0', jK', hij', hji', k32, htk, vrows_lit _ (lit_enBl m.l), List.length_map, Nat.le_refl, Nat.sub_zero, List.drop_zero, List.append_assoc, List.length_append])))
    | ((first | apply callL | apply callLG | apply callL0); (case' hv => (simp only [go_sem, reduceAdd, reduceSub, reduceMul, reduceEqDiff, reduceLeDiff, Nat.reduceBEq, reduceLT, reduceIte, reduceCtorEq, Int.reduceToNat, Nat.add_assoc, ap_get0, ap_getk, ap_set0, ap_setk, aps_get0, aps_getk, aps_set0, aps_setk, s1, s2, g1, gi2, gj2, i0, iK, j0, jK, i0', iK', j0', jK', hij', hji', k32, htk, vrows_lit _ (lit_enBl m.l), List.length_map, Nat.le_refl, Nat.sub_zero, List.drop_zero, List.append_assoc, List.length_append]; try exact rfl)); (case' hp => (first | refine' st | (refine' (fun hg => ?_); refine' st))); (case' hf => exact rfl); (case' h => ((first | refine evOps_fin ?_ | refine And.intro ?_ (evD_fin ?_) | refine evD_fin ?_) <;> simp only [go_sem, reduceAdd, reduceSub, reduceMul, reduceEqDiff, reduceLeDiff, Nat.reduceBEq, reduceLT, reduceIte, reduceCtorEq, Int.reduceToNat, Nat.add_assoc, ap_get0, ap_getk, ap_set0, ap_setk, aps_get0, aps_getk, aps_set0, aps_setk, s1, s2, g1, gi2, gj2, i0, iK, j0, jK, i0', iK', j0', jK', hij', hji', k32, htk, vrows_lit _ (lit_enBl m.l), List.length_map, Nat.le_refl, Nat.sub_zero, List.drop_zero, List.append_assoc, List.length_append])))
    | (refine callX ?_; (first | refine evOps_fin ?_ | refine And.intro ?_ (evD_fin ?_) | refine evD_fin ?_) <;> simp only [go_sem, reduceAdd, reduceSub, reduceMul, reduceEqDiff, reduceLeDiff, Nat.reduceBEq, reduceLT, reduceIte, reduceCtorEq, Int.reduceToNat, Nat.add_assoc, ap_get0, ap_getk, ap_set0, ap_setk, aps_get0, aps_getk, aps_set0, aps_setk, s1, s2, g1, gi2, gj2, i0, iK, j0, jK, i0', iK', j0', jK', hij', hji', k32, htk, vrows_lit _ (lit_enBl m.l), List.length_map, Nat.le_refl, Nat.sub_zero, List.drop_zero, List.append_assoc, List.length_append])
  exact ⟨_, rfl⟩
theorem certify_run {p : Prob} (h : p.ok) (hbt : bytesL p.f.v) {d : Nat → Bool} (hd : ∀ k, k < p.K → d k = true) : ∀ (n : Nat) (b : Blc) (m : Mat), b.l = n → blkOk p b → (∀ c, inW p c → nbM p c m.sc m.b) → m.l.length + 4 ^ n ≤ 1099511627776 → ∀ (i j : Nat) (F : List Own), i ≠ j → F[i]? = some (stM m j) → F[j]? = some (stB m) →
    Run Tryz.prog 17 [.pi (seaV p d) 0, .agg (enBl b), .own i 0 0 0] [i, j] F (.tup []) [(i, stM (cerM p n b m) j), (j, stB (cerM p n b m))] := by
  intro n
  induction n with
  | zero =>
    intro b m hl hb ho hln i j F hij hi hj
    have hs : stlM p b m.sc m.b := by
      refine stl_bet.2 ?_
      have := ho (corM b) hb.1
      unfold nbM at this
      rwa [toB_cor hl] at this
    exact cer_settled h hbt hd b m hb hs 0 rfl (by have : (4 : Nat) ^ 0 = 1 := rfl; omega) i j F hij hi hj
  | succ n ih =>
    intro b m hl hb ho hln i j F hij hi hj
    by_cases hs : stlM p b m.sc m.b
    · have h4 : 1 ≤ 4 ^ (n + 1) := Nat.pos_of_ne_zero (by simp)
      exact cer_settled h hbt hd b m hb hs (n + 1) (if_pos hs) (by omega) i j F hij hi hj
    refine run_of_evU tt_ok Tryz.func17 rfl (by decide +kernel) (Nat.le_of_ble_eq_true rfl) (by simp) (fun G hG hU => ⟨?_, ?_⟩)
    · have := get_lt ((hG j (by simp)).symm.trans hj)
      exact ⟨stM_under this _, stB_under _ _, trivial⟩
    have gi := (hG i (by simp)).symm.trans hi
    have gj := (hG j (by simp)).symm.trans hj
    have li := get_lt gi
    have lj := get_lt gj
    obtain ⟨⟨c1, c2, c3, c4, c5, c6⟩, l0, l6⟩ := id hb
    simp only at c1 c2 c3 c4 c5 c6
    obtain ⟨es, ekk, en, r0, r1, k1, k2⟩ := winOk h
    have sb := sbound_pure p h hbt d b ⟨c1, c2⟩ (hd _ (by omega)) (by omega) (by omega)
    have st := settled_pure (boundM p b) b m
    have gi2 : ∀ l : List Own, (G ++ l)[i]? = _ := fun l => (List.getElem?_append_left li).trans gi
    have gj2 : ∀ l : List Own, (G ++ l)[j]? = _ := fun l => (List.getElem?_append_left lj).trans gj
    have htk : List.take m.l.length (List.map enBl m.l) = List.map enBl m.l := List.take_of_length_le (by simp)
    have l1 : 1 ≤ b.l := by omega
    have e : cerM p (n + 1) b m = foldQ p (cerM p n) b 4 m := by
      rw [fold_cat]
      show Mat.mk _ _ _ _ _ (m.l ++ if _ then _ else _) = _
      rw [if_neg hs]
    rw [e]
    have hap : app G [(i, stM (foldQ p (cerM p n) b 4 m) j), (j, stB (foldQ p (cerM p n) b 4 m))] = set2 G i (stM (foldQ p (cerM p n) b 4 m) j) j (stB (foldQ p (cerM p n) b 4 m)) := rfl
    rw [hap]
    have sr := split_run p h d 46 (cerM p n) b m hb l1 i j hij
      (fun t ht hin => cer1_cb hij (fun F' hi' hj' => ih (qdM b t) _ (by show b.l - 1 = _; omega) (qd_ok hb l1 hin)
        (by rw [fold_cat]; exact ho)
        (by
          rw [fold_cat]
          have q1 := catQ_len (p := p) (cerL_len p m.sc m.b n) b t
          have q2 : t * 4 ^ n ≤ 3 * 4 ^ n := Nat.mul_le_mul_right _ (by omega)
          rw [Nat.pow_succ] at hln
          show (m.l ++ _).length + _ ≤ _
          rw [List.length_append]
          omega) i j F' hij hi' hj'))
      G.length (G.length + 2) (Nat.ne_of_lt li) (Nat.ne_of_lt lj) (by omega) (by omega)
      (G ++ [.blk 64 0 1 [[.pi (seaV p d) 0]], .blk 68 0 4 [enBl b], .blk 69 0 1 [[.own i 0 0 0]]])
      (gi2 _) (gj2 _) (ap_get0 _ _) (ap_getk _ _ 2)
    rw [decide_eq_false (p := boundM p b < m.sc ∨ _) hs] at st
    have hs2 : ∀ (X Y : Own) (l : List Own), ((G ++ l).set i X).set j Y = set2 G i X j Y ++ l := fun X Y l => set2_app li lj X Y
    clear hap ih
    generalize foldQ p (cerM p n) b 4 m = m' at *
    generalize hX : stM m' j = X at *
    generalize hY : stB m' = Y at *
    simp only [Tryz.f17]
    simp only [seaV, enBl, stM, stB, matV, encM, enC, corM] at sb st gi2 gj2 sr ⊢
    generalize pyrV p.f = D at *
    generalize srow p d = SR at *
    generalize boundM p b = bd at *
    repeat' first
      | refine ev_seq (fun K hK => ?_)
      | ((first | refine evrd (id := 1) hmix tt_ok false [([], false), ([], false), ([], true), ([2], false), ([2], false), ([2], false), ([2], false), ([], false)] (by decide +kernel) ?_ | refine evrd (id := 2) hmix tt_ok false [([], true), ([], true), ([], true), ([], true), ([], true), ([], false), ([0, 1, 2, 3, 4], false), ([0], false), ([], false), ([], false), ([], false)] (by decide +kernel) ?_ | refine evr tt_ok false ?_ | refine ev_skip ?_ | refine ev_ret ?_ | refine ev_exit ?_ | refine evc (fun X Y hX hY => ?_)); simp only [go_sem, reduceAdd, reduceSub, reduceMul, reduceEqDiff, reduceLeDiff, Nat.reduceBEq, reduceLT, reduceIte, reduceCtorEq, Int.reduceToNat, Nat.add_assoc, ap_get0, ap_getk, ap_set0, ap_setk, List.size_toArray, eq_self, hs2, gi2, gj2, htk, vrows_lit _ (lit_enBl m.l), List.length_map, Nat.le_refl, Nat.sub_zero, List.drop_zero, List.append_assoc, List.length_append]; try (first | (refine ⟨fun h => hX ?_, fun h => hY ?_⟩; clear hX hY) | (refine hX ?_; clear hX hY) | (refine hY ?_; clear hX hY)))
      | refine ev_block ?_
      | (apply hK; clear hK)
      | apply_assumption -exfalso -symm only [*]
      | (refine And.intro ?_ ?_; first | omega | assumption | (unfold maxLen; omega) | (simp only [decide_eq_true_eq, decide_eq_false_iff_not, Int.not_lt, Int.not_le] at h; omega))
      | ((first | apply callP | apply callPG | apply callP0); (case' hv => (simp only [go_sem, reduceAdd, reduceSub, reduceMul, reduceEqDiff, reduceLeDiff, Nat.reduceBEq, reduceLT, reduceIte, reduceCtorEq, Int.reduceToNat, Nat.add_assoc, ap_get0, ap_getk, ap_set0, ap_setk, List.size_toArray, eq_self, hs2, gi2, gj2, htk, vrows_lit _ (lit_enBl m.l), List.length_map, Nat.le_refl, Nat.sub_zero, List.drop_zero, List.append_assoc, List.length_append]; try exact rfl)); (case' hp => (first | refine' sb | (refine' (fun hg => ?_); refine' sb))); (case' h => ((first | refine evOps_fin ?_ | refine And.intro ?_ (evD_fin ?_) | refine evD_fin ?_) <;> simp only [go_sem, reduceAdd, reduceSub, reduceMul, reduceEqDiff, reduceLeDiff, Nat.reduceBEq, reduceLT, reduceIte, reduceCtorEq, Int.reduceToNat, Nat.add_assoc, ap_get0, ap_getk, ap_set0, ap_setk, List.size_toArray, eq_self, hs2, gi2, gj2, htk, vrows_lit _ (lit_enBl m.l), List.length_map, Nat.le_refl, Nat.sub_zero, List.drop_zero, List.append_assoc, List.length_append])))
      | ((first | apply callL | apply callLG | apply callL0); (case' hv => (simp only [go_sem, reduceAdd, reduceSub, reduceMul, reduceEqDiff, reduceLeDiff, Nat.reduceBEq, reduceLT, reduceIte, reduceCtorEq, Int.reduceToNat, Nat.add_assoc, ap_get0, ap_getk, ap_set0, ap_setk, List.size_toArray, eq_self, hs2, gi2, gj2, htk, vrows_lit _ (lit_enBl m.l), List.length_map, Nat.le_refl, Nat.sub_zero, List.drop_zero, List.append_assoc, List.length_append]; try exact rfl)); (case' hp => (first | refine' st | (refine' (fun hg => ?_); refine' st))); (case' hf => exact rfl); (case' h => ((first | refine evOps_fin ?_ | refine And.intro ?_ (evD_fin ?_) | refine evD_fin ?_) <;> simp only [go_sem, reduceAdd, reduceSub, reduceMul, reduceEqDiff, reduceLeDiff, Nat.reduceBEq, reduceLT, reduceIte, reduceCtorEq, Int.reduceToNat, Nat.add_assoc, ap_get0, ap_getk, ap_set0, ap_setk, List.size_toArray, eq_self, hs2, gi2, gj2, htk, vrows_lit _ (lit_enBl m.l), List.length_map, Nat.le_refl, Nat.sub_zero, List.drop_zero, List.append_assoc, List.length_append])))
      | ((first | apply callE | apply callEG | apply callE0); (case' hp => (first | refine' sr | (refine' (fun hg => ?_); refine' sr))); (case' h => ((first | refine evOps_fin ?_ | refine And.intro ?_ (evD_fin ?_) | refine evD_fin ?_) <;> simp only [go_sem, reduceAdd, reduceSub, reduceMul, reduceEqDiff, reduceLeDiff, Nat.reduceBEq, reduceLT, reduceIte, reduceCtorEq, Int.reduceToNat, Nat.add_assoc, ap_get0, ap_getk, ap_set0, ap_setk, List.size_toArray, eq_self, hs2, gi2, gj2, htk, vrows_lit _ (lit_enBl m.l), List.length_map, Nat.le_refl, Nat.sub_zero, List.drop_zero, List.append_assoc, List.length_append])))
      | (refine callX ?_; (first | refine evOps_fin ?_ | refine And.intro ?_ (evD_fin ?_) | refine evD_fin ?_) <;> simp only [go_sem, reduceAdd, reduceSub, reduceMul, reduceEqDiff, reduceLeDiff, Nat.reduceBEq, reduceLT, reduceIte, reduceCtorEq, Int.reduceToNat, Nat.add_assoc, ap_get0, ap_getk, ap_set0, ap_setk, List.size_toArray, eq_self, hs2, gi2, gj2, htk, vrows_lit _ (lit_enBl m.l), List.length_map, Nat.le_refl, Nat.sub_zero, List.drop_zero, List.append_assoc, List.length_append])
    exact ⟨_, rfl⟩
set_option maxRecDepth 20000
set_option maxHeartbeats 16000000
def fndR (p : Prob) : MaR := if p.ok then ⟨fndM p, 0⟩ else ⟨Mat.zero, 1⟩
def fndA (p : Prob) (s : Int) (d : Cnd) (k : Nat) : Mat := ⟨d, 0, 0, 0, s, fndC p s d k⟩
theorem fndA_zero {p : Prob} (h : p.ok) (hb : bytesL p.f.v) : fndI p p.K = fndA p (fndI p p.K).sc (fndI p p.K).b 0 := by
  have i := fndI_spec h hb p.K (Nat.le_refl _)
  have e1 := i.l; have e2 := i.px; have e3 := i.py; have e4 := i.ph
  generalize fndI p p.K = m at *
  cases m
  simp only at e1 e2 e3 e4
  subst e1 e2 e3 e4
  rfl
theorem fndA_succ (p : Prob) (s : Int) (d : Cnd) (k : Nat) : cerM p (lvM (2 * p.re + 1)) (rotM p k) (fndA p s d k) = fndA p s d (k + 1) := rfl
theorem rangeK_succ (n : Nat) : (List.range (n + 1)).map enK = (List.range n).map enK ++ [[.int .i64 (n : Int)]] := by rw [List.range_succ, List.map_append]; rfl
theorem hasK_all (n : Nat) : ∀ k, k < n → hasK (List.range n) (List.range n).length k = true := fun k hk => by
  unfold hasK
  rw [List.take_length]
  simp [hk]
theorem find_pure (p : Prob) (hb : bytesL p.f.v) (hl : (p.s.length : Int) < 4611686018427387904) : Pure Tryz.prog 7 [.agg (encP p)] (encMa (fndR p)) := by
  have v := mvalid_pure p hl
  unfold fndR
  by_cases h : p.ok
  · rw [decide_eq_true h] at v
    rw [if_pos h]
    obtain ⟨es, ekk, en, r0, r1, k1, k2⟩ := winOk h
    have o := opt_of h hb
    have hA0 := fndA_zero h hb
    have hcl := fun k hk => (fndC_spec h o.nb k hk).2.2
    have vp := mpose_pure p hl (fndI p p.K).b
    unfold poseM at vp
    rw [if_pos h, if_pos o.in'] at vp
    have hd := hasK_all p.K
    have bg := begin_pure p h hb (List.range p.K) (fun j hj => by
      rw [List.length_range] at hj
      rw [List.getD_eq_getElem?_getD, List.getElem?_range hj]
      show (j : Int) < p.ct
      omega) (by rw [List.length_range]; exact k2)
    have ir : ∀ (k : Nat) (F : List Own), k < p.K → F[3]? = some (stM (fndI p k) 4) → F[4]? = some (stB (fndI p k)) → _ := fun k F hk h3 h4 => improve_run h hb hd (lvM (2 * p.re + 1)) (rotM p k) (fndI p k) rfl (root_ok h hk) 3 4 F (by decide) h3 h4
    have cr : ∀ (k : Nat) (F : List Own), k < p.K → F[3]? = some (stM (fndA p (fndI p p.K).sc (fndI p p.K).b k) 4) → F[4]? = some (stB (fndA p (fndI p p.K).sc (fndI p p.K).b k)) → _ := fun k F hk h3 h4 => certify_run h hb hd (lvM (2 * p.re + 1)) (rotM p k) (fndA p (fndI p p.K).sc (fndI p p.K).b k) rfl (root_ok h hk) o.nb (by
      have q1 := hcl k (by omega)
      have q2 : 4 ^ lvM (2 * p.re + 1) ≤ 4 ^ 6 := Nat.pow_le_pow_right (by omega) (lv_le _)
      have e6 : (4 : Nat) ^ 6 = 4096 := rfl
      show (fndC p _ _ k).length + _ ≤ _
      omega) 3 4 F (by decide) h3 h4
    have eI : ∀ k, impM p (lvM (2 * p.re + 1)) (rotM p k) (fndI p k) = fndI p (k + 1) := fun k => rfl
    have eC := fndA_succ p (fndI p p.K).sc (fndI p p.K).b
    have hres : fndM p = ⟨(fndI p p.K).b, p.cx + 64 * (fndI p p.K).b.x, p.cy + 64 * (fndI p p.K).b.y, (p.fr + (fndI p p.K).b.k) % 256, (fndI p p.K).sc, fndC p (fndI p p.K).sc (fndI p p.K).b p.K⟩ := rfl
    rw [hres]
    clear hres o
    have hlv := fun j hj => @lv_lt (2 * p.re + 1) (by omega) j hj
    have hl6 := lv_le (2 * p.re + 1)
    have hrot : ∀ k, rotM p k = ⟨(k : Int), -p.re, -p.re, ((lvM (2 * p.re + 1) : Nat) : Int)⟩ := fun k => rfl
    have hre := negre (r := p.re) ⟨r0, r1⟩
    have w2 : IntKind.i64.wrap (2 * p.re) = 2 * p.re := w64 (by omega) (by omega)
    have w3 : IntKind.i64.wrap (2 * p.re + 1) = 2 * p.re + 1 := w64 (by omega) (by omega)
    have hK4 := hcl p.K (Nat.le_refl _)
    have hI0 : fndI p 0 = mat0 := rfl
    have hbits : ((IntKind.i64.bits : Nat) : Int) = 64 := rfl
    simp only [hrot] at ir cr eI eC
    generalize hSea : seaV p (hasK (List.range p.K) (List.range p.K).length) = C at *
    generalize hL : lvM (2 * p.re + 1) = L at *
    generalize hF : fndI p = fI at *
    generalize hc : fndC p (fI p.K).sc (fI p.K).b p.K = cl at *
    generalize hA : fndA p (fI p.K).sc (fI p.K).b = A at *
    have hAK : A p.K = ⟨(fI p.K).b, 0, 0, 0, (fI p.K).sc, cl⟩ := by rw [← hA, ← hc]; rfl
    clear hcl hA hc hF hL hSea hd hrot
    generalize (fI p.K).b = bd at *
    generalize (fI p.K).sc = sc at *
    have nr : ∀ ow : List Own, ow[2]? = some (.blk 3 p.K 1 ((List.range p.K).map enK)) → Run Tryz.prog 15 [.agg [.int .i64 p.f.x, .int .i64 p.f.y, .int .i64 p.f.w, .int .i64 p.f.h, .sl (p.f.v.map enB), .sl (p.s.map enBm), .int .i64 p.cx, .int .i64 p.cy, .int .i64 p.fr, .int .i64 p.ct, .int .i64 p.re], .rs 2 p.K 0 p.K] [2, 2] ow (.pi C 0) [(2, .froz 3 p.K 1 ((List.range p.K).map enK))] := fun ow ho => by
      have htk : List.take p.K ((List.range p.K).map enK) = (List.range p.K).map enK := List.take_of_length_le (by simp)
      refine run_fz ho (lit_enK _) ?_ bg
      simp only [go_sem, reduceAdd, reduceSub, reduceMul, reduceEqDiff, reduceLeDiff, Nat.reduceBEq, reduceLT, reduceIte, reduceCtorEq, Int.reduceToNat, encP, List.getElem?_set_self (get_lt ho), Nat.sub_zero, Nat.le_refl, List.length_map, List.length_range, List.drop_zero, htk]
    have hKs := rangeK_succ
    have hKl : ∀ n, ((List.range n).map enK).length = n := fun n => by simp
    have hK0 : (List.range 0).map enK = [] := rfl
    simp only [encMa, encM, encP, enBl, enC, encPo] at *
    (refine pure_of_ev tt_ok Tryz.func7 rfl (by decide +kernel) (Nat.le_of_ble_eq_true rfl) ?_; simp only [Tryz.f7])
    repeat' first
      | refine ev_seq (fun K hK => ?_)
      | ((first | refine evrd (id := 5) hmix tt_ok false [([], false), ([], false), ([], false), ([], false), ([], false), ([], false), ([], false)] (by decide +kernel) ?_ | refine evr tt_ok false ?_ | refine ev_skip ?_ | refine ev_ret ?_ | refine ev_exit ?_ | refine evc (fun X Y hX hY => ?_)); simp only [go_sem, reduceAdd, reduceSub, reduceMul, reduceEqDiff, reduceLeDiff, Nat.reduceBEq, reduceLT, reduceIte, reduceCtorEq, Int.reduceToNat]; try (first | (refine ⟨fun h => hX ?_, fun h => hY ?_⟩; clear hX hY) | (refine hX ?_; clear hX hY) | (refine hY ?_; clear hX hY)))
      | refine ev_block ?_
      | (apply hK; clear hK)
      | apply_assumption -exfalso -symm only [*]
      | (refine And.intro ?_ ?_; first | omega | assumption | (unfold maxLen; omega) | (simp only [decide_eq_true_eq, decide_eq_false_iff_not, Int.not_lt, Int.not_le] at h; omega))
      | ((first | apply callP | apply callPG | apply callP0); (case' hv => (simp only [go_sem, reduceAdd, reduceSub, reduceMul, reduceEqDiff, reduceLeDiff, Nat.reduceBEq, reduceLT, reduceIte, reduceCtorEq, Int.reduceToNat]; try exact rfl)); (case' hp => (first | refine' v | (refine' (fun hg => ?_); refine' v))); (case' h => ((first | refine evOps_fin ?_ | refine And.intro ?_ (evD_fin ?_) | refine evD_fin ?_) <;> simp only [go_sem, reduceAdd, reduceSub, reduceMul, reduceEqDiff, reduceLeDiff, Nat.reduceBEq, reduceLT, reduceIte, reduceCtorEq, Int.reduceToNat])))
      | (refine callX ?_; (first | refine evOps_fin ?_ | refine And.intro ?_ (evD_fin ?_) | refine evD_fin ?_) <;> simp only [go_sem, reduceAdd, reduceSub, reduceMul, reduceEqDiff, reduceLeDiff, Nat.reduceBEq, reduceLT, reduceIte, reduceCtorEq, Int.reduceToNat])
    refine ev_adopt 4 3 1 (by decide) rfl ?_
    refine ev_loop (fun l : Nat => l ≤ L)
      (fun l => ⟨84, [(5, .int .i64 (l : Int)), (4, .rs 2 0 0 0), (2, .own 1 0 0 0), (1, .own 0 0 0 0)],
        [.blk 37 0 11 [[.int .i64 p.f.x, .int .i64 p.f.y, .int .i64 p.f.w, .int .i64 p.f.h, .sl (p.f.v.map enB), .sl (p.s.map enBm), .int .i64 p.cx, .int .i64 p.cy, .int .i64 p.fr, .int .i64 p.ct, .int .i64 p.re]], .blk 46 0 8 [[.int .i64 0, .int .i64 0, .int .i64 0, .int .i64 0, .int .i64 0, .int .i64 0, .int .i64 0, .emp]], .blk 3 0 1 []]⟩)
      (fun l => L - l) 0 (Nat.zero_le _) ?_ ?_
    · simp only [go_sem, reduceAdd, reduceSub, reduceMul, reduceEqDiff, reduceLeDiff, Nat.reduceBEq, reduceLT, reduceIte, reduceCtorEq, Int.reduceToNat, fits, fitT, fitOs, fitO, V.under, unders, rowsUnder]
      repeat' first | rfl | exact fitO_refl (stM_under (by decide) _) | exact fitO_refl (stB_under _ _) | exact rowsUnder_lit _ (lit_enK _) | (simp only [V.under, unders, rowsUnder, Nat.reduceLT]; done) | apply And.intro
    · intro l hll
      have hl0 : (0 : Int) ≤ (l : Int) := by omega
      have hl64 : (l : Int) < 64 := by omega
      have hlw : IntKind.i64.wrap ((l : Int) + 1) = ((l + 1 : Nat) : Int) := by rw [w64] <;> omega
      have hpw := pow_le6 (n := l) (by omega)
      have hsh : IntKind.i64.wrap ((2 : Int) ^ l) = 2 ^ l := w64 (by omega) (by omega)
      have hj := hlv l (by omega)
      by_cases hlt : (2 : Int) ^ l < 2 * p.re + 1
      · have := hj.1 hlt
        repeat' first
          | refine ev_seq (fun K hK => ?_)
          | ((first | refine evrd (id := 5) hmix tt_ok false [([], false), ([], false), ([], false), ([], false), ([], false), ([], false), ([], false)] (by decide +kernel) ?_ | refine evr tt_ok false ?_ | refine ev_skip ?_ | refine ev_ret ?_ | refine ev_exit ?_ | refine evc (fun X Y hX hY => ?_)); simp only [go_sem, reduceAdd, reduceSub, reduceMul, reduceEqDiff, reduceLeDiff, Nat.reduceBEq, reduceLT, reduceIte, reduceCtorEq, Int.reduceToNat, hlt, hl0, hl64, hlw, hsh, w2, w3, hbits, Int.one_mul, Int.toNat_natCast]; try (first | (refine ⟨fun h => hX ?_, fun h => hY ?_⟩; clear hX hY) | (refine hX ?_; clear hX hY) | (refine hY ?_; clear hX hY)))
          | refine ev_block ?_
          | (apply hK; clear hK)
          | apply_assumption -exfalso -symm only [*]
          | (refine And.intro ?_ ?_; first | omega | assumption | (unfold maxLen; omega) | (simp only [decide_eq_true_eq, decide_eq_false_iff_not, Int.not_lt, Int.not_le] at h; omega))
        exact ⟨l + 1, by omega, by (repeat' first | rfl | exact fitO_refl (stM_under (by decide) _) | exact fitO_refl (stB_under _ _) | exact rowsUnder_lit _ (lit_enK _) | (simp only [V.under, unders, rowsUnder, Nat.reduceLT]; done) | apply And.intro), by omega⟩
      · obtain rfl : l = L := by
          have : ¬ l < L := fun hh => hlt (hj.2 hh)
          omega
        clear hj hpw hlv
        repeat' first
          | refine ev_seq (fun K hK => ?_)
          | ((first | refine evrd (id := 5) hmix tt_ok false [([], false), ([], false), ([], false), ([], false), ([], false), ([], false), ([], false)] (by decide +kernel) ?_ | refine evr tt_ok false ?_ | refine ev_skip ?_ | refine ev_ret ?_ | refine ev_exit ?_ | refine evc (fun X Y hX hY => ?_)); simp only [go_sem, reduceAdd, reduceSub, reduceMul, reduceEqDiff, reduceLeDiff, Nat.reduceBEq, reduceLT, reduceIte, reduceCtorEq, Int.reduceToNat, hlt, hl0, hl64, hlw, hsh, w2, w3, hbits, Int.one_mul, Int.toNat_natCast]; try (first | (refine ⟨fun h => hX ?_, fun h => hY ?_⟩; clear hX hY) | (refine hX ?_; clear hX hY) | (refine hY ?_; clear hX hY)))
          | refine ev_block ?_
          | (apply hK; clear hK)
          | apply_assumption -exfalso -symm only [*]
          | (refine And.intro ?_ ?_; first | omega | assumption | (unfold maxLen; omega) | (simp only [decide_eq_true_eq, decide_eq_false_iff_not, Int.not_lt, Int.not_le] at h; omega))
        refine ev_loop (fun k : Nat => k ≤ p.K)
          (fun k => ⟨84, [(27, .int .i64 (k : Int)), (26, .int .i64 p.ct), (5, .int .i64 (l : Int)), (4, .rs 2 k 0 k), (2, .own 1 0 0 0), (1, .own 0 0 0 0)],
            [.blk 37 0 11 [[.int .i64 p.f.x, .int .i64 p.f.y, .int .i64 p.f.w, .int .i64 p.f.h, .sl (p.f.v.map enB), .sl (p.s.map enBm), .int .i64 p.cx, .int .i64 p.cy, .int .i64 p.fr, .int .i64 p.ct, .int .i64 p.re]], .blk 46 0 8 [[.int .i64 0, .int .i64 0, .int .i64 0, .int .i64 0, .int .i64 0, .int .i64 0, .int .i64 0, .emp]], .blk 3 k 1 ((List.range k).map enK)]⟩)
          (fun k => p.K - k) 0 (Nat.zero_le _) ?_ ?_
        · simp only [go_sem, reduceAdd, reduceSub, reduceMul, reduceEqDiff, reduceLeDiff, Nat.reduceBEq, reduceLT, reduceIte, reduceCtorEq, Int.reduceToNat, fits, fitT, fitOs, fitO, V.under, unders, rowsUnder, hK0]
          repeat' first | rfl | exact fitO_refl (stM_under (by decide) _) | exact fitO_refl (stB_under _ _) | exact rowsUnder_lit _ (lit_enK _) | (simp only [V.under, unders, rowsUnder, Nat.reduceLT]; done) | apply And.intro
        · intro k hkk
          have hkw : IntKind.i64.wrap ((k : Int) + 1) = ((k + 1 : Nat) : Int) := by rw [w64] <;> omega
          have hKlk := hKl k
          by_cases hkl : (k : Int) < p.ct
          · have hst := hKs k
            have hq : 1 ≤ maxLen ∧ k + 1 ≤ maxLen ∧ (k + 1) * 8 ≤ 140737488355328 := by
              have : maxLen = 9223372036854775807 := rfl
              omega
            repeat' first
              | refine ev_seq (fun K hK => ?_)
              | ((first | refine evrd (id := 5) hmix tt_ok false [([], false), ([], false), ([], false), ([], false), ([], false), ([], false), ([], false)] (by decide +kernel) ?_ | refine evr tt_ok false ?_ | refine ev_skip ?_ | refine ev_ret ?_ | refine ev_exit ?_ | refine evc (fun X Y hX hY => ?_)); simp only [go_sem, reduceAdd, reduceSub, reduceMul, reduceEqDiff, reduceLeDiff, Nat.reduceBEq, reduceLT, reduceIte, reduceCtorEq, Int.reduceToNat, hkl, hkw, hKlk, List.length_map, List.length_range, Int.toNat_natCast, Nat.le_refl]; try (first | (refine ⟨fun h => hX ?_, fun h => hY ?_⟩; clear hX hY) | (refine hX ?_; clear hX hY) | (refine hY ?_; clear hX hY)))
              | refine ev_block ?_
              | (apply hK; clear hK)
              | apply_assumption -exfalso -symm only [*]
              | (refine And.intro ?_ ?_; first | omega | assumption | (unfold maxLen; omega) | (simp only [decide_eq_true_eq, decide_eq_false_iff_not, Int.not_lt, Int.not_le] at h; omega))
            refine ⟨k + 1, by omega, ?_, by omega⟩
            repeat' first | rfl | exact rowsUnder_lit _ (lit_enK _) | exact hst | (rw [hst]; rfl) | (simp only [V.under, unders, rowsUnder, Nat.reduceLT]; done) | apply And.intro
          · obtain rfl : k = p.K := by omega
            clear hlt
            repeat' first
              | refine ev_seq (fun K hK => ?_)
              | ((first | refine evrd (id := 5) hmix tt_ok false [([], false), ([], false), ([], false), ([], false), ([], false), ([], false), ([], false)] (by decide +kernel) ?_ | refine evr tt_ok false ?_ | refine ev_skip ?_ | refine ev_ret ?_ | refine ev_exit ?_ | refine evc (fun X Y hX hY => ?_)); simp only [go_sem, reduceAdd, reduceSub, reduceMul, reduceEqDiff, reduceLeDiff, Nat.reduceBEq, reduceLT, reduceIte, reduceCtorEq, Int.reduceToNat, hkl]; try (first | (refine ⟨fun h => hX ?_, fun h => hY ?_⟩; clear hX hY) | (refine hX ?_; clear hX hY) | (refine hY ?_; clear hX hY)))
              | refine ev_block ?_
              | (apply hK; clear hK)
              | apply_assumption -exfalso -symm only [*]
              | (refine And.intro ?_ ?_; first | omega | assumption | (unfold maxLen; omega) | (simp only [decide_eq_true_eq, decide_eq_false_iff_not, Int.not_lt, Int.not_le] at h; omega))
              | ((first | apply callE | apply callEG | apply callE0); (case' hp => (first | refine' nr _ rfl | (refine' (fun hg => ?_); refine' nr _ rfl))); (case' h => ((first | refine evOps_fin ?_ | refine And.intro ?_ (evD_fin ?_) | refine evD_fin ?_) <;> simp only [go_sem, reduceAdd, reduceSub, reduceMul, reduceEqDiff, reduceLeDiff, Nat.reduceBEq, reduceLT, reduceIte, reduceCtorEq, Int.reduceToNat, hkl])))
              | (refine callX ?_; (first | refine evOps_fin ?_ | refine And.intro ?_ (evD_fin ?_) | refine evD_fin ?_) <;> simp only [go_sem, reduceAdd, reduceSub, reduceMul, reduceEqDiff, reduceLeDiff, Nat.reduceBEq, reduceLT, reduceIte, reduceCtorEq, Int.reduceToNat, hkl])
            refine ev_adoptC 3 0 7 68 4 (by decide) rfl rfl rfl ?_
            refine ev_loop (fun k : Nat => k ≤ p.K)
              (fun k => ⟨84, [(42, .int .i64 (k : Int)), (41, .int .i64 p.ct), (8, .own 3 0 0 0), (7, .pi C 0), (5, .int .i64 (l : Int)), (2, .own 1 0 0 0), (1, .own 0 0 0 0)],
                [.blk 37 0 11 [[.int .i64 p.f.x, .int .i64 p.f.y, .int .i64 p.f.w, .int .i64 p.f.h, .sl (p.f.v.map enB), .sl (p.s.map enBm), .int .i64 p.cx, .int .i64 p.cy, .int .i64 p.fr, .int .i64 p.ct, .int .i64 p.re]], .blk 46 0 8 [[.int .i64 0, .int .i64 0, .int .i64 0, .int .i64 0, .int .i64 0, .int .i64 0, .int .i64 0, .emp]], .froz 3 p.K 1 ((List.range p.K).map enK), stM (fI k) 4, stB (fI k)]⟩)
              (fun k => p.K - k) 0 (Nat.zero_le _) ?_ ?_
            · simp only [go_sem, reduceAdd, reduceSub, reduceMul, reduceEqDiff, reduceLeDiff, Nat.reduceBEq, reduceLT, reduceIte, reduceCtorEq, Int.reduceToNat, fits, fitT, fitOs, fitO, V.under, unders, rowsUnder, hI0]
              repeat' first | rfl | exact fitO_refl (o := stM mat0 4) (stM_under (by decide) _) | exact fitO_refl (o := stB mat0) (stB_under _ _) | apply And.intro
            · intro k hkk
              have hkw : IntKind.i64.wrap ((k : Int) + 1) = ((k + 1 : Nat) : Int) := by rw [w64] <;> omega
              by_cases hkl : (k : Int) < p.ct
              · have r := ir k [.blk 37 0 11 [[.int .i64 p.f.x, .int .i64 p.f.y, .int .i64 p.f.w, .int .i64 p.f.h, .sl (p.f.v.map enB), .sl (p.s.map enBm), .int .i64 p.cx, .int .i64 p.cy, .int .i64 p.fr, .int .i64 p.ct, .int .i64 p.re]], .blk 46 0 8 [[.int .i64 0, .int .i64 0, .int .i64 0, .int .i64 0, .int .i64 0, .int .i64 0, .int .i64 0, .emp]], .froz 3 p.K 1 ((List.range p.K).map enK), stM (fI k) 4, stB (fI k)] (by omega) rfl rfl
                rw [eI k] at r
                repeat' first
                  | refine ev_seq (fun K hK => ?_)
                  | ((first | refine evrd (id := 5) hmix tt_ok false [([], false), ([], false), ([], false), ([], false), ([], false), ([], false), ([], false)] (by decide +kernel) ?_ | refine evr tt_ok false ?_ | refine ev_skip ?_ | refine ev_ret ?_ | refine ev_exit ?_ | refine evc (fun X Y hX hY => ?_)); simp only [go_sem, reduceAdd, reduceSub, reduceMul, reduceEqDiff, reduceLeDiff, Nat.reduceBEq, reduceLT, reduceIte, reduceCtorEq, Int.reduceToNat, hkl, hkw, hre]; try (first | (refine ⟨fun h => hX ?_, fun h => hY ?_⟩; clear hX hY) | (refine hX ?_; clear hX hY) | (refine hY ?_; clear hX hY)))
                  | refine ev_block ?_
                  | (apply hK; clear hK)
                  | apply_assumption -exfalso -symm only [*]
                  | (refine And.intro ?_ ?_; first | omega | assumption | (unfold maxLen; omega) | (simp only [decide_eq_true_eq, decide_eq_false_iff_not, Int.not_lt, Int.not_le] at h; omega))
                  | ((first | apply callE | apply callEG | apply callE0); (case' hp => (first | refine' r | (refine' (fun hg => ?_); refine' r))); (case' h => ((first | refine evOps_fin ?_ | refine And.intro ?_ (evD_fin ?_) | refine evD_fin ?_) <;> simp only [go_sem, reduceAdd, reduceSub, reduceMul, reduceEqDiff, reduceLeDiff, Nat.reduceBEq, reduceLT, reduceIte, reduceCtorEq, Int.reduceToNat, hkl, hkw, hre])))
                  | (refine callX ?_; (first | refine evOps_fin ?_ | refine And.intro ?_ (evD_fin ?_) | refine evD_fin ?_) <;> simp only [go_sem, reduceAdd, reduceSub, reduceMul, reduceEqDiff, reduceLeDiff, Nat.reduceBEq, reduceLT, reduceIte, reduceCtorEq, Int.reduceToNat, hkl, hkw, hre])
                refine ⟨k + 1, by omega, ?_, by omega⟩
                repeat' first | rfl | exact fitO_refl (stM_under (by decide) _) | exact fitO_refl (stB_under _ _) | exact rowsUnder_lit _ (lit_enK _) | (simp only [V.under, unders, rowsUnder, Nat.reduceLT]; done) | apply And.intro
              · obtain rfl : k = p.K := by omega
                repeat' first
                  | refine ev_seq (fun K hK => ?_)
                  | ((first | refine evrd (id := 5) hmix tt_ok false [([], false), ([], false), ([], false), ([], false), ([], false), ([], false), ([], false)] (by decide +kernel) ?_ | refine evr tt_ok false ?_ | refine ev_skip ?_ | refine ev_ret ?_ | refine ev_exit ?_ | refine evc (fun X Y hX hY => ?_)); simp only [go_sem, reduceAdd, reduceSub, reduceMul, reduceEqDiff, reduceLeDiff, Nat.reduceBEq, reduceLT, reduceIte, reduceCtorEq, Int.reduceToNat, hkl]; try (first | (refine ⟨fun h => hX ?_, fun h => hY ?_⟩; clear hX hY) | (refine hX ?_; clear hX hY) | (refine hY ?_; clear hX hY)))
                  | refine ev_block ?_
                  | (apply hK; clear hK)
                  | apply_assumption -exfalso -symm only [*]
                  | (refine And.intro ?_ ?_; first | omega | assumption | (unfold maxLen; omega) | (simp only [decide_eq_true_eq, decide_eq_false_iff_not, Int.not_lt, Int.not_le] at h; omega))
                refine ev_loop (fun k : Nat => k ≤ p.K)
                  (fun k => ⟨84, [(60, .int .i64 (k : Int)), (59, .int .i64 p.ct), (8, .own 3 0 0 0), (7, .pi C 0), (5, .int .i64 (l : Int)), (2, .own 1 0 0 0), (1, .own 0 0 0 0)],
                    [.blk 37 0 11 [[.int .i64 p.f.x, .int .i64 p.f.y, .int .i64 p.f.w, .int .i64 p.f.h, .sl (p.f.v.map enB), .sl (p.s.map enBm), .int .i64 p.cx, .int .i64 p.cy, .int .i64 p.fr, .int .i64 p.ct, .int .i64 p.re]], .blk 46 0 8 [[.int .i64 0, .int .i64 0, .int .i64 0, .int .i64 0, .int .i64 0, .int .i64 0, .int .i64 0, .emp]], .froz 3 p.K 1 ((List.range p.K).map enK), stM (A k) 4, stB (A k)]⟩)
                  (fun k => p.K - k) 0 (Nat.zero_le _) ?_ ?_
                · simp only [go_sem, reduceAdd, reduceSub, reduceMul, reduceEqDiff, reduceLeDiff, Nat.reduceBEq, reduceLT, reduceIte, reduceCtorEq, Int.reduceToNat, fits, fitT, fitOs, fitO, V.under, unders, rowsUnder, hA0]
                  repeat' first | rfl | exact fitO_refl (stM_under (by decide) _) | exact fitO_refl (stB_under _ _) | exact rowsUnder_lit _ (lit_enK _) | (simp only [V.under, unders, rowsUnder, Nat.reduceLT]; done) | apply And.intro
                · intro k hkk
                  have hkw : IntKind.i64.wrap ((k : Int) + 1) = ((k + 1 : Nat) : Int) := by rw [w64] <;> omega
                  by_cases hkl : (k : Int) < p.ct
                  · have r := cr k [.blk 37 0 11 [[.int .i64 p.f.x, .int .i64 p.f.y, .int .i64 p.f.w, .int .i64 p.f.h, .sl (p.f.v.map enB), .sl (p.s.map enBm), .int .i64 p.cx, .int .i64 p.cy, .int .i64 p.fr, .int .i64 p.ct, .int .i64 p.re]], .blk 46 0 8 [[.int .i64 0, .int .i64 0, .int .i64 0, .int .i64 0, .int .i64 0, .int .i64 0, .int .i64 0, .emp]], .froz 3 p.K 1 ((List.range p.K).map enK), stM (A k) 4, stB (A k)] (by omega) rfl rfl
                    rw [eC k] at r
                    repeat' first
                      | refine ev_seq (fun K hK => ?_)
                      | ((first | refine evrd (id := 5) hmix tt_ok false [([], false), ([], false), ([], false), ([], false), ([], false), ([], false), ([], false)] (by decide +kernel) ?_ | refine evr tt_ok false ?_ | refine ev_skip ?_ | refine ev_ret ?_ | refine ev_exit ?_ | refine evc (fun X Y hX hY => ?_)); simp only [go_sem, reduceAdd, reduceSub, reduceMul, reduceEqDiff, reduceLeDiff, Nat.reduceBEq, reduceLT, reduceIte, reduceCtorEq, Int.reduceToNat, hkl, hkw, hre]; try (first | (refine ⟨fun h => hX ?_, fun h => hY ?_⟩; clear hX hY) | (refine hX ?_; clear hX hY) | (refine hY ?_; clear hX hY)))
                      | refine ev_block ?_
                      | (apply hK; clear hK)
                      | apply_assumption -exfalso -symm only [*]
                      | (refine And.intro ?_ ?_; first | omega | assumption | (unfold maxLen; omega) | (simp only [decide_eq_true_eq, decide_eq_false_iff_not, Int.not_lt, Int.not_le] at h; omega))
                      | ((first | apply callE | apply callEG | apply callE0); (case' hp => (first | refine' r | (refine' (fun hg => ?_); refine' r))); (case' h => ((first | refine evOps_fin ?_ | refine And.intro ?_ (evD_fin ?_) | refine evD_fin ?_) <;> simp only [go_sem, reduceAdd, reduceSub, reduceMul, reduceEqDiff, reduceLeDiff, Nat.reduceBEq, reduceLT, reduceIte, reduceCtorEq, Int.reduceToNat, hkl, hkw, hre])))
                      | (refine callX ?_; (first | refine evOps_fin ?_ | refine And.intro ?_ (evD_fin ?_) | refine evD_fin ?_) <;> simp only [go_sem, reduceAdd, reduceSub, reduceMul, reduceEqDiff, reduceLeDiff, Nat.reduceBEq, reduceLT, reduceIte, reduceCtorEq, Int.reduceToNat, hkl, hkw, hre])
                    refine ⟨k + 1, by omega, ?_, by omega⟩
                    repeat' first | rfl | exact fitO_refl (stM_under (by decide) _) | exact fitO_refl (stB_under _ _) | exact rowsUnder_lit _ (lit_enK _) | (simp only [V.under, unders, rowsUnder, Nat.reduceLT]; done) | apply And.intro
                  · obtain rfl : k = p.K := by omega
                    have htk : List.take cl.length (List.map enBl cl) = List.map enBl cl := List.take_of_length_le (by simp)
                    rw [hAK]
                    simp only [stM, stB, matV]
                    repeat' first
                      | refine ev_seq (fun K hK => ?_)
                      | ((first | refine evrd (id := 5) hmix tt_ok false [([], false), ([], false), ([], false), ([], false), ([], false), ([], false), ([], false)] (by decide +kernel) ?_ | refine evr tt_ok false ?_ | refine ev_skip ?_ | refine ev_ret ?_ | refine ev_exit ?_ | refine evc (fun X Y hX hY => ?_)); simp only [go_sem, reduceAdd, reduceSub, reduceMul, reduceEqDiff, reduceLeDiff, Nat.reduceBEq, reduceLT, reduceIte, reduceCtorEq, Int.reduceToNat, hkl, htk, vrows_lit _ (lit_enBl cl), List.length_map, Nat.le_refl, Nat.sub_zero, List.drop_zero]; try (first | (refine ⟨fun h => hX ?_, fun h => hY ?_⟩; clear hX hY) | (refine hX ?_; clear hX hY) | (refine hY ?_; clear hX hY)))
                      | refine ev_block ?_
                      | (apply hK; clear hK)
                      | apply_assumption -exfalso -symm only [*]
                      | (refine And.intro ?_ ?_; first | omega | assumption | (unfold maxLen; omega) | (simp only [decide_eq_true_eq, decide_eq_false_iff_not, Int.not_lt, Int.not_le] at h; omega))
                      | ((first | apply callP | apply callPG | apply callP0); (case' hv => (simp only [go_sem, reduceAdd, reduceSub, reduceMul, reduceEqDiff, reduceLeDiff, Nat.reduceBEq, reduceLT, reduceIte, reduceCtorEq, Int.reduceToNat, hkl, htk, vrows_lit _ (lit_enBl cl), List.length_map, Nat.le_refl, Nat.sub_zero, List.drop_zero]; try exact rfl)); (case' hp => (first | refine' vp | (refine' (fun hg => ?_); refine' vp))); (case' h => ((first | refine evOps_fin ?_ | refine And.intro ?_ (evD_fin ?_) | refine evD_fin ?_) <;> simp only [go_sem, reduceAdd, reduceSub, reduceMul, reduceEqDiff, reduceLeDiff, Nat.reduceBEq, reduceLT, reduceIte, reduceCtorEq, Int.reduceToNat, hkl, htk, vrows_lit _ (lit_enBl cl), List.length_map, Nat.le_refl, Nat.sub_zero, List.drop_zero])))
                      | (refine callX ?_; (first | refine evOps_fin ?_ | refine And.intro ?_ (evD_fin ?_) | refine evD_fin ?_) <;> simp only [go_sem, reduceAdd, reduceSub, reduceMul, reduceEqDiff, reduceLeDiff, Nat.reduceBEq, reduceLT, reduceIte, reduceCtorEq, Int.reduceToNat, hkl, htk, vrows_lit _ (lit_enBl cl), List.length_map, Nat.le_refl, Nat.sub_zero, List.drop_zero])
                    all_goals rfl
  · rw [decide_eq_false h] at v
    rw [if_neg h]
    simp only [encMa, encM, encP, Mat.zero, List.map_nil] at *
    (refine pure_of_ev tt_ok Tryz.func7 rfl (by decide +kernel) (Nat.le_of_ble_eq_true rfl) ?_; simp only [Tryz.f7])
    repeat' first
      | refine ev_seq (fun K hK => ?_)
      | ((first | refine evrd (id := 5) hmix tt_ok false [([], false), ([], false), ([], false), ([], false), ([], false), ([], false), ([], false)] (by decide +kernel) ?_ | refine evr tt_ok false ?_ | refine ev_skip ?_ | refine ev_exit ?_ | refine evc (fun X Y hX hY => ?_)); simp only [go_sem, reduceAdd, reduceSub, reduceMul, reduceEqDiff, reduceLeDiff, Nat.reduceBEq, reduceLT, reduceIte, reduceCtorEq, Int.reduceToNat]; try (first | (refine ⟨fun h => hX ?_, fun h => hY ?_⟩; clear hX hY) | (refine hX ?_; clear hX hY) | (refine hY ?_; clear hX hY)))
      | refine ev_block ?_
      | (apply hK; clear hK)
      | apply_assumption -exfalso -symm only [*]
      | (refine And.intro ?_ ?_; first | omega | assumption | (unfold maxLen; omega) | (simp only [decide_eq_true_eq, decide_eq_false_iff_not, Int.not_lt, Int.not_le] at h; omega))
      | ((first | apply callP | apply callPG | apply callP0); (case' hv => (simp only [go_sem, reduceAdd, reduceSub, reduceMul, reduceEqDiff, reduceLeDiff, Nat.reduceBEq, reduceLT, reduceIte, reduceCtorEq, Int.reduceToNat]; try exact rfl)); (case' hp => (first | refine' v | (refine' (fun hg => ?_); refine' v))); (case' h => ((first | refine evOps_fin ?_ | refine And.intro ?_ (evD_fin ?_) | refine evD_fin ?_) <;> simp only [go_sem, reduceAdd, reduceSub, reduceMul, reduceEqDiff, reduceLeDiff, Nat.reduceBEq, reduceLT, reduceIte, reduceCtorEq, Int.reduceToNat])))
      | (refine callX ?_; (first | refine evOps_fin ?_ | refine And.intro ?_ (evD_fin ?_) | refine evD_fin ?_) <;> simp only [go_sem, reduceAdd, reduceSub, reduceMul, reduceEqDiff, reduceLeDiff, Nat.reduceBEq, reduceLT, reduceIte, reduceCtorEq, Int.reduceToNat])
    refine ev_adoptC 1 0 7 68 4 (by decide) rfl rfl rfl ?_
    repeat' first
      | refine ev_seq (fun K hK => ?_)
      | ((first | refine evrd (id := 5) hmix tt_ok false [([], false), ([], false), ([], false), ([], false), ([], false), ([], false), ([], false)] (by decide +kernel) ?_ | refine evr tt_ok false ?_ | refine ev_skip ?_ | refine ev_ret ?_ | refine ev_exit ?_ | refine evc (fun X Y hX hY => ?_)); simp only [go_sem, reduceAdd, reduceSub, reduceMul, reduceEqDiff, reduceLeDiff, Nat.reduceBEq, reduceLT, reduceIte, reduceCtorEq, Int.reduceToNat]; try (first | (refine ⟨fun h => hX ?_, fun h => hY ?_⟩; clear hX hY) | (refine hX ?_; clear hX hY) | (refine hY ?_; clear hX hY)))
      | refine ev_block ?_
      | (apply hK; clear hK)
      | apply_assumption -exfalso -symm only [*]
      | (refine And.intro ?_ ?_; first | omega | assumption | (unfold maxLen; omega) | (simp only [decide_eq_true_eq, decide_eq_false_iff_not, Int.not_lt, Int.not_le] at h; omega))
    all_goals rfl
end Go.Proofs.YtbibplkhhdomnaaGreat
