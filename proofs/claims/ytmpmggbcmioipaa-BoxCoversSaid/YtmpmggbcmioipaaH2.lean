import Derived.Test.YtmpmggbcmioipaaH1
set_option linter.all false
namespace Go.Proofs.Ytmpmggbcmioipaa
open Nat (reduceAdd reduceSub reduceMul reduceEqDiff reduceLeDiff reduceLT)
open Go Go.K
set_option maxRecDepth 20000
set_option maxHeartbeats 4000000
def enI (n : Int) : List V := [.int .i64 n]
theorem int_get (L : List Int) (i : Nat) : (L.map enI).getD i [.int .i64 0] = [.int .i64 (L.getD i 0)] := getD_map (f := enI) (d := 0) rfl
def idxF {α : Type} (q : α → Bool) : List α → Nat → Int
  | [], _ => -1
  | x :: r, i => if q x then i else idxF q r (i + 1)
theorem idx_any {α : Type} (q : α → Bool) : ∀ (l : List α) (i : Nat), decide (0 ≤ idxF q l i) = l.any q
  | [], i => rfl
  | x :: r, i => by
    unfold idxF
    rw [List.any_cons]
    split
    · rename_i h; rw [h]; simp
    · rename_i h; rw [idx_any q r (i + 1)]; simp at h; simp [h]
theorem drop_getD {α : Type} {l : List α} {i : Nat} (h : i < l.length) (d : α) : l.drop i = l.getD i d :: l.drop (i + 1) := by
  rw [List.drop_eq_getElem_cons h]
  simp [List.getD_eq_getElem?_getD, List.getElem?_eq_getElem h]
theorem indexI_pure (l : List Int) (f : FuncId) (q : Int → Bool) (hq : ∀ n, Pure Try.prog f [.int .i64 n] (.bool (q n))) (hl : (l.length : Int) < 4611686018427387904) :
    Pure Try.prog 99 [.sl (l.map enI), .fn f []] (.int .i64 (idxF q l 0)) := by
  (refine pure_of_ev tt_ok Try.func99 rfl (by decide +kernel) (Nat.le_of_ble_eq_true rfl) ?_; simp only [Try.f99])
  repeat' first
    | refine ev_seq (fun K hK => ?_)
    | ((first | refine evr tt_ok true ?_ | refine ev_skip ?_ | refine ev_ret ?_ | refine ev_exit ?_ | refine evc (fun X Y hX hY => ?_)); simp only [go_sem, reduceAdd, reduceSub, reduceMul, reduceEqDiff, reduceLeDiff, Nat.reduceBEq, reduceLT, reduceIte, reduceCtorEq, Int.reduceToNat, List.length_map]; try (first | (refine ⟨fun h => hX ?_, fun h => hY ?_⟩; clear hX hY) | (refine hX ?_; clear hX hY) | (refine hY ?_; clear hX hY)))
    | refine ev_block ?_
    | (apply hK; clear hK)
    | apply_assumption -exfalso -symm only [*]
    | (refine And.intro ?_ ?_; first | omega | assumption | (unfold maxLen; omega) | (simp only [decide_eq_true_eq, decide_eq_false_iff_not, Int.not_lt, Int.not_le] at h; omega))
  refine ev_loop (fun i : Nat => i ≤ l.length ∧ idxF q l 0 = idxF q (l.drop i) i)
    (fun i => ⟨19, [(8, .int .i64 i), (7, .int .i64 l.length), (1, .fn f []), (0, .sl (l.map enI))], []⟩)
    (fun i => l.length - i) 0 ⟨Nat.zero_le _, rfl⟩ ?_ ?_
  · simp only [go_sem, reduceAdd, reduceSub, reduceMul, reduceEqDiff, reduceLeDiff, Nat.reduceBEq, reduceLT, reduceIte, reduceCtorEq, Int.reduceToNat, fits, fitT, fitOs, fitO, V.under, unders, rowsUnder]
    repeat' first | rfl | apply And.intro
  · rintro i ⟨hi, he⟩
    have hb0 : 0 ≤ (i : Int) := by omega
    have hw : IntKind.i64.wrap ((i : Int) + 1) = ((i + 1 : Nat) : Int) := by rw [w64] <;> omega
    by_cases hlt : (i : Int) < l.length
    · rw [drop_getD (by omega) 0, idxF] at he
      cases hqi : q (l.getD i 0)
      · rw [hqi] at he
        repeat' first
          | refine ev_seq (fun K hK => ?_)
          | ((first | refine evr tt_ok true ?_ | refine ev_skip ?_ | refine ev_ret ?_ | refine ev_exit ?_ | refine evc (fun X Y hX hY => ?_)); simp only [go_sem, reduceAdd, reduceSub, reduceMul, reduceEqDiff, reduceLeDiff, Nat.reduceBEq, reduceLT, reduceIte, reduceCtorEq, Int.reduceToNat, List.length_map, hb0, hw, hlt, int_get, Int.toNat_natCast, hqi]; try (first | (refine ⟨fun h => hX ?_, fun h => hY ?_⟩; clear hX hY) | (refine hX ?_; clear hX hY) | (refine hY ?_; clear hX hY)))
          | refine ev_block ?_
          | (apply hK; clear hK)
          | apply_assumption -exfalso -symm only [*]
          | (refine And.intro ?_ ?_; first | omega | assumption | (unfold maxLen; omega) | (simp only [decide_eq_true_eq, decide_eq_false_iff_not, Int.not_lt, Int.not_le] at h; omega))
          | ((first | apply callP | apply callPG | apply callP0); (case' hv => (simp only [go_sem, reduceAdd, reduceSub, reduceMul, reduceEqDiff, reduceLeDiff, Nat.reduceBEq, reduceLT, reduceIte, reduceCtorEq, Int.reduceToNat, List.length_map, hb0, hw, hlt, int_get, Int.toNat_natCast, hqi]; try exact rfl)); (case' hp => (first | refine' hq _ | (refine' (fun hg => ?_); refine' hq _))); (case' h => ((first | refine evOps_fin ?_ | refine And.intro ?_ (evD_fin ?_) | refine evD_fin ?_) <;> simp only [go_sem, reduceAdd, reduceSub, reduceMul, reduceEqDiff, reduceLeDiff, Nat.reduceBEq, reduceLT, reduceIte, reduceCtorEq, Int.reduceToNat, List.length_map, hb0, hw, hlt, int_get, Int.toNat_natCast, hqi])))
          | (refine callX ?_; (first | refine evOps_fin ?_ | refine And.intro ?_ (evD_fin ?_) | refine evD_fin ?_) <;> simp only [go_sem, reduceAdd, reduceSub, reduceMul, reduceEqDiff, reduceLeDiff, Nat.reduceBEq, reduceLT, reduceIte, reduceCtorEq, Int.reduceToNat, List.length_map, hb0, hw, hlt, int_get, Int.toNat_natCast, hqi])
        exact ⟨i + 1, ⟨by omega, by simpa using he⟩, rfl, by omega⟩
      · rw [hqi] at he
        repeat' first
          | refine ev_seq (fun K hK => ?_)
          | ((first | refine evr tt_ok true ?_ | refine ev_skip ?_ | refine ev_ret ?_ | refine ev_exit ?_ | refine evc (fun X Y hX hY => ?_)); simp only [go_sem, reduceAdd, reduceSub, reduceMul, reduceEqDiff, reduceLeDiff, Nat.reduceBEq, reduceLT, reduceIte, reduceCtorEq, Int.reduceToNat, List.length_map, hb0, hw, hlt, int_get, Int.toNat_natCast, hqi]; try (first | (refine ⟨fun h => hX ?_, fun h => hY ?_⟩; clear hX hY) | (refine hX ?_; clear hX hY) | (refine hY ?_; clear hX hY)))
          | refine ev_block ?_
          | (apply hK; clear hK)
          | apply_assumption -exfalso -symm only [*]
          | (refine And.intro ?_ ?_; first | omega | assumption | (unfold maxLen; omega) | (simp only [decide_eq_true_eq, decide_eq_false_iff_not, Int.not_lt, Int.not_le] at h; omega))
          | ((first | apply callP | apply callPG | apply callP0); (case' hv => (simp only [go_sem, reduceAdd, reduceSub, reduceMul, reduceEqDiff, reduceLeDiff, Nat.reduceBEq, reduceLT, reduceIte, reduceCtorEq, Int.reduceToNat, List.length_map, hb0, hw, hlt, int_get, Int.toNat_natCast, hqi]; try exact rfl)); (case' hp => (first | refine' hq _ | (refine' (fun hg => ?_); refine' hq _))); (case' h => ((first | refine evOps_fin ?_ | refine And.intro ?_ (evD_fin ?_) | refine evD_fin ?_) <;> simp only [go_sem, reduceAdd, reduceSub, reduceMul, reduceEqDiff, reduceLeDiff, Nat.reduceBEq, reduceLT, reduceIte, reduceCtorEq, Int.reduceToNat, List.length_map, hb0, hw, hlt, int_get, Int.toNat_natCast, hqi])))
          | (refine callX ?_; (first | refine evOps_fin ?_ | refine And.intro ?_ (evD_fin ?_) | refine evD_fin ?_) <;> simp only [go_sem, reduceAdd, reduceSub, reduceMul, reduceEqDiff, reduceLeDiff, Nat.reduceBEq, reduceLT, reduceIte, reduceCtorEq, Int.reduceToNat, List.length_map, hb0, hw, hlt, int_get, Int.toNat_natCast, hqi])
        rw [he]; rfl
    · obtain rfl : i = l.length := by omega
      repeat' first
        | refine ev_seq (fun K hK => ?_)
        | ((first | refine evr tt_ok true ?_ | refine ev_skip ?_ | refine ev_ret ?_ | refine ev_exit ?_ | refine evc (fun X Y hX hY => ?_)); simp only [go_sem, reduceAdd, reduceSub, reduceMul, reduceEqDiff, reduceLeDiff, Nat.reduceBEq, reduceLT, reduceIte, reduceCtorEq, Int.reduceToNat, List.length_map, hb0, hw, hlt]; try (first | (refine ⟨fun h => hX ?_, fun h => hY ?_⟩; clear hX hY) | (refine hX ?_; clear hX hY) | (refine hY ?_; clear hX hY)))
        | refine ev_block ?_
        | (apply hK; clear hK)
        | apply_assumption -exfalso -symm only [*]
        | (refine And.intro ?_ ?_; first | omega | assumption | (unfold maxLen; omega) | (simp only [decide_eq_true_eq, decide_eq_false_iff_not, Int.not_lt, Int.not_le] at h; omega))
        | ((first | apply callP | apply callPG | apply callP0); (case' hv => (simp only [go_sem, reduceAdd, reduceSub, reduceMul, reduceEqDiff, reduceLeDiff, Nat.reduceBEq, reduceLT, reduceIte, reduceCtorEq, Int.reduceToNat, List.length_map, hb0, hw, hlt]; try exact rfl)); (case' hp => (first | refine' hq _ | (refine' (fun hg => ?_); refine' hq _))); (case' h => ((first | refine evOps_fin ?_ | refine And.intro ?_ (evD_fin ?_) | refine evD_fin ?_) <;> simp only [go_sem, reduceAdd, reduceSub, reduceMul, reduceEqDiff, reduceLeDiff, Nat.reduceBEq, reduceLT, reduceIte, reduceCtorEq, Int.reduceToNat, List.length_map, hb0, hw, hlt])))
        | (refine callX ?_; (first | refine evOps_fin ?_ | refine And.intro ?_ (evD_fin ?_) | refine evD_fin ?_) <;> simp only [go_sem, reduceAdd, reduceSub, reduceMul, reduceEqDiff, reduceLeDiff, Nat.reduceBEq, reduceLT, reduceIte, reduceCtorEq, Int.reduceToNat, List.length_map, hb0, hw, hlt])
      rw [he, List.drop_length]; rfl
theorem containsI_pure (l : List Int) (f : FuncId) (q : Int → Bool) (hq : ∀ n, Pure Try.prog f [.int .i64 n] (.bool (q n))) (hl : (l.length : Int) < 4611686018427387904) :
    Pure Try.prog 88 [.sl (l.map enI), .fn f []] (.bool (l.any q)) := by
  (refine pure_of_ev tt_ok Try.func88 rfl (by decide +kernel) (Nat.le_of_ble_eq_true rfl) ?_; simp only [Try.f88])
  repeat' first
    | refine ev_seq (fun K hK => ?_)
    | ((first | refine evr tt_ok false ?_ | refine ev_skip ?_ | refine ev_ret ?_ | refine ev_exit ?_ | refine evc (fun X Y hX hY => ?_)); simp only [go_sem, reduceAdd, reduceSub, reduceMul, reduceEqDiff, reduceLeDiff, Nat.reduceBEq, reduceLT, reduceIte, reduceCtorEq, Int.reduceToNat, idx_any]; try (first | (refine ⟨fun h => hX ?_, fun h => hY ?_⟩; clear hX hY) | (refine hX ?_; clear hX hY) | (refine hY ?_; clear hX hY)))
    | refine ev_block ?_
    | (apply hK; clear hK)
    | apply_assumption -exfalso -symm only [*]
    | (refine And.intro ?_ ?_; first | omega | assumption | (unfold maxLen; omega) | (simp only [decide_eq_true_eq, decide_eq_false_iff_not, Int.not_lt, Int.not_le] at h; omega))
    | ((first | apply callP | apply callPG | apply callP0); (case' hv => (simp only [go_sem, reduceAdd, reduceSub, reduceMul, reduceEqDiff, reduceLeDiff, Nat.reduceBEq, reduceLT, reduceIte, reduceCtorEq, Int.reduceToNat, idx_any]; try exact rfl)); (case' hp => (first | refine' indexI_pure l f q hq hl | (refine' (fun hg => ?_); refine' indexI_pure l f q hq hl))); (case' h => ((first | refine evOps_fin ?_ | refine And.intro ?_ (evD_fin ?_) | refine evD_fin ?_) <;> simp only [go_sem, reduceAdd, reduceSub, reduceMul, reduceEqDiff, reduceLeDiff, Nat.reduceBEq, reduceLT, reduceIte, reduceCtorEq, Int.reduceToNat, idx_any])))
    | (refine callX ?_; (first | refine evOps_fin ?_ | refine And.intro ?_ (evD_fin ?_) | refine evD_fin ?_) <;> simp only [go_sem, reduceAdd, reduceSub, reduceMul, reduceEqDiff, reduceLeDiff, Nat.reduceBEq, reduceLT, reduceIte, reduceCtorEq, Int.reduceToNat, idx_any])
theorem small1_pure (n : Int) : Pure Try.prog 89 [.int .i64 n] (.bool (decide (n < -1048576) || decide (1048576 < n))) := by
  (refine pure_of_ev tt_ok Try.func89 rfl (by decide +kernel) (Nat.le_of_ble_eq_true rfl) ?_; simp only [Try.f89])
  repeat' first
    | refine ev_seq (fun K hK => ?_)
    | ((first | refine evr tt_ok false ?_ | refine ev_skip ?_ | refine ev_ret ?_ | refine ev_exit ?_ | refine evc (fun X Y hX hY => ?_)); simp only [go_sem, reduceAdd, reduceSub, reduceMul, reduceEqDiff, reduceLeDiff, Nat.reduceBEq, reduceLT, reduceIte, reduceCtorEq, Int.reduceToNat]; try (first | (refine ⟨fun h => hX ?_, fun h => hY ?_⟩; clear hX hY) | (refine hX ?_; clear hX hY) | (refine hY ?_; clear hX hY)))
    | refine ev_block ?_
    | (apply hK; clear hK)
    | apply_assumption -exfalso -symm only [*]
    | (refine And.intro ?_ ?_; first | omega | assumption | (unfold maxLen; omega) | (simp only [decide_eq_true_eq, decide_eq_false_iff_not, Int.not_lt, Int.not_le] at h; omega))
theorem far1_pure (n : Int) : Pure Try.prog 93 [.int .i64 n] (.bool (decide (n < -2097152) || decide (2097152 < n))) := by
  (refine pure_of_ev tt_ok Try.func93 rfl (by decide +kernel) (Nat.le_of_ble_eq_true rfl) ?_; simp only [Try.f93])
  repeat' first
    | refine ev_seq (fun K hK => ?_)
    | ((first | refine evr tt_ok false ?_ | refine ev_skip ?_ | refine ev_ret ?_ | refine ev_exit ?_ | refine evc (fun X Y hX hY => ?_)); simp only [go_sem, reduceAdd, reduceSub, reduceMul, reduceEqDiff, reduceLeDiff, Nat.reduceBEq, reduceLT, reduceIte, reduceCtorEq, Int.reduceToNat]; try (first | (refine ⟨fun h => hX ?_, fun h => hY ?_⟩; clear hX hY) | (refine hX ?_; clear hX hY) | (refine hY ?_; clear hX hY)))
    | refine ev_block ?_
    | (apply hK; clear hK)
    | apply_assumption -exfalso -symm only [*]
    | (refine And.intro ?_ ?_; first | omega | assumption | (unfold maxLen; omega) | (simp only [decide_eq_true_eq, decide_eq_false_iff_not, Int.not_lt, Int.not_le] at h; omega))
def isSmall (n : Int) : Prop := -1048576 ≤ n ∧ n ≤ 1048576
instance decSmall (n : Int) : Decidable (isSmall n) := by unfold isSmall; infer_instance
theorem small_pure (a b c d : Int) : Pure Try.prog 66 [.sl [[.int .i64 a], [.int .i64 b], [.int .i64 c], [.int .i64 d]]] (.bool (decide (isSmall a ∧ isSmall b ∧ isSmall c ∧ isSmall d))) := by
  (refine pure_of_ev tt_ok Try.func66 rfl (by decide +kernel) (Nat.le_of_ble_eq_true rfl) ?_; simp only [Try.f66])
  repeat' first
    | refine ev_seq (fun K hK => ?_)
    | ((first | refine evr tt_ok false ?_ | refine ev_skip ?_ | refine ev_ret ?_ | refine ev_exit ?_ | refine evc (fun X Y hX hY => ?_)); simp only [go_sem, reduceAdd, reduceSub, reduceMul, reduceEqDiff, reduceLeDiff, Nat.reduceBEq, reduceLT, reduceIte, reduceCtorEq, Int.reduceToNat]; try (first | (refine ⟨fun h => hX ?_, fun h => hY ?_⟩; clear hX hY) | (refine hX ?_; clear hX hY) | (refine hY ?_; clear hX hY)))
    | refine ev_block ?_
    | (apply hK; clear hK)
    | apply_assumption -exfalso -symm only [*]
    | (refine And.intro ?_ ?_; first | omega | assumption | (unfold maxLen; omega) | (simp only [decide_eq_true_eq, decide_eq_false_iff_not, Int.not_lt, Int.not_le] at h; omega))
    | ((first | apply callP | apply callPG | apply callP0); (case' hv => (simp only [go_sem, reduceAdd, reduceSub, reduceMul, reduceEqDiff, reduceLeDiff, Nat.reduceBEq, reduceLT, reduceIte, reduceCtorEq, Int.reduceToNat]; try exact rfl)); (case' hp => (first | refine' containsI_pure [a, b, c, d] _ _ small1_pure (by simp) | (refine' (fun hg => ?_); refine' containsI_pure [a, b, c, d] _ _ small1_pure (by simp)))); (case' h => ((first | refine evOps_fin ?_ | refine And.intro ?_ (evD_fin ?_) | refine evD_fin ?_) <;> simp only [go_sem, reduceAdd, reduceSub, reduceMul, reduceEqDiff, reduceLeDiff, Nat.reduceBEq, reduceLT, reduceIte, reduceCtorEq, Int.reduceToNat])))
    | (refine callX ?_; (first | refine evOps_fin ?_ | refine And.intro ?_ (evD_fin ?_) | refine evD_fin ?_) <;> simp only [go_sem, reduceAdd, reduceSub, reduceMul, reduceEqDiff, reduceLeDiff, Nat.reduceBEq, reduceLT, reduceIte, reduceCtorEq, Int.reduceToNat])
  refine bool_dec ?_
  simp only [List.any_cons, List.any_nil, isSmall]
  simp
theorem arc_pure (b : Box) : Pure Try.prog 60 [.agg [.int .i64 b.x0, .int .i64 b.y0, .int .i64 b.x1, .int .i64 b.y1, .int .i64 b.f, .int .i64 b.c]] (.agg [.int .i64 b.f, .int .i64 b.c]) := by
  (refine pure_of_ev tt_ok Try.func60 rfl (by decide +kernel) (Nat.le_of_ble_eq_true rfl) ?_; simp only [Try.f60])
  repeat' first
    | refine ev_seq (fun K hK => ?_)
    | ((first | refine evr tt_ok true ?_ | refine ev_skip ?_ | refine ev_ret ?_ | refine ev_exit ?_ | refine evc (fun X Y hX hY => ?_)); simp only [go_sem, reduceAdd, reduceSub, reduceMul, reduceEqDiff, reduceLeDiff, Nat.reduceBEq, reduceLT, reduceIte, reduceCtorEq, Int.reduceToNat]; try (first | (refine ⟨fun h => hX ?_, fun h => hY ?_⟩; clear hX hY) | (refine hX ?_; clear hX hY) | (refine hY ?_; clear hX hY)))
    | refine ev_block ?_
    | (apply hK; clear hK)
    | apply_assumption -exfalso -symm only [*]
    | (refine And.intro ?_ ?_; first | omega | assumption | (unfold maxLen; omega) | (simp only [decide_eq_true_eq, decide_eq_false_iff_not, Int.not_lt, Int.not_le] at h; omega))
theorem rarc_pure (b : Box) : Pure Try.prog 69 [.agg [.int .i64 b.x0, .int .i64 b.y0, .int .i64 b.x1, .int .i64 b.y1, .int .i64 b.f, .int .i64 b.c]] (.agg [.int .i64 b.f, .int .i64 b.c]) := by
  (refine pure_of_ev tt_ok Try.func69 rfl (by decide +kernel) (Nat.le_of_ble_eq_true rfl) ?_; simp only [Try.f69])
  repeat' first
    | refine ev_seq (fun K hK => ?_)
    | ((first | refine evr tt_ok true ?_ | refine ev_skip ?_ | refine ev_ret ?_ | refine ev_exit ?_ | refine evc (fun X Y hX hY => ?_)); simp only [go_sem, reduceAdd, reduceSub, reduceMul, reduceEqDiff, reduceLeDiff, Nat.reduceBEq, reduceLT, reduceIte, reduceCtorEq, Int.reduceToNat]; try (first | (refine ⟨fun h => hX ?_, fun h => hY ?_⟩; clear hX hY) | (refine hX ?_; clear hX hY) | (refine hY ?_; clear hX hY)))
    | refine ev_block ?_
    | (apply hK; clear hK)
    | apply_assumption -exfalso -symm only [*]
    | (refine And.intro ?_ ?_; first | omega | assumption | (unfold maxLen; omega) | (simp only [decide_eq_true_eq, decide_eq_false_iff_not, Int.not_lt, Int.not_le] at h; omega))
theorem with_pure (x0 y0 x1 y1 f c : Int) : Pure Try.prog 64 [.agg [.int .i64 x0, .int .i64 y0, .int .i64 x1, .int .i64 y1], .agg [.int .i64 f, .int .i64 c]] (.agg [.int .i64 x0, .int .i64 y0, .int .i64 x1, .int .i64 y1, .int .i64 f, .int .i64 c]) := by
  (refine pure_of_ev tt_ok Try.func64 rfl (by decide +kernel) (Nat.le_of_ble_eq_true rfl) ?_; simp only [Try.f64])
  repeat' first
    | refine ev_seq (fun K hK => ?_)
    | ((first | refine evr tt_ok true ?_ | refine ev_skip ?_ | refine ev_ret ?_ | refine ev_exit ?_ | refine evc (fun X Y hX hY => ?_)); simp only [go_sem, reduceAdd, reduceSub, reduceMul, reduceEqDiff, reduceLeDiff, Nat.reduceBEq, reduceLT, reduceIte, reduceCtorEq, Int.reduceToNat]; try (first | (refine ⟨fun h => hX ?_, fun h => hY ?_⟩; clear hX hY) | (refine hX ?_; clear hX hY) | (refine hY ?_; clear hX hY)))
    | refine ev_block ?_
    | (apply hK; clear hK)
    | apply_assumption -exfalso -symm only [*]
    | (refine And.intro ?_ ?_; first | omega | assumption | (unfold maxLen; omega) | (simp only [decide_eq_true_eq, decide_eq_false_iff_not, Int.not_lt, Int.not_le] at h; omega))
theorem vbox_pure (b : Box) : Pure Try.prog 34 [.agg [.int .i64 b.x0, .int .i64 b.y0, .int .i64 b.x1, .int .i64 b.y1, .int .i64 b.f, .int .i64 b.c]] (.bool (decide b.ok)) := by
  by_cases h1 : b.x0 ≤ b.x1
  · by_cases h2 : b.y0 ≤ b.y1
    · (refine pure_of_ev tt_ok Try.func34 rfl (by decide +kernel) (Nat.le_of_ble_eq_true rfl) ?_; simp only [Try.f34])
      repeat' first
        | refine ev_seq (fun K hK => ?_)
        | ((first | refine evr tt_ok true ?_ | refine ev_skip ?_ | refine ev_ret ?_ | refine ev_exit ?_ | refine evc (fun X Y hX hY => ?_)); simp only [go_sem, reduceAdd, reduceSub, reduceMul, reduceEqDiff, reduceLeDiff, Nat.reduceBEq, reduceLT, reduceIte, reduceCtorEq, Int.reduceToNat, h1, h2]; try (first | (refine ⟨fun h => hX ?_, fun h => hY ?_⟩; clear hX hY) | (refine hX ?_; clear hX hY) | (refine hY ?_; clear hX hY)))
        | refine ev_block ?_
        | (apply hK; clear hK)
        | apply_assumption -exfalso -symm only [*]
        | (refine And.intro ?_ ?_; first | omega | assumption | (unfold maxLen; omega) | (simp only [decide_eq_true_eq, decide_eq_false_iff_not, Int.not_lt, Int.not_le] at h; omega))
        | ((first | apply callL | apply callLG | apply callL0); (case' hv => (simp only [go_sem, reduceAdd, reduceSub, reduceMul, reduceEqDiff, reduceLeDiff, Nat.reduceBEq, reduceLT, reduceIte, reduceCtorEq, Int.reduceToNat, h1, h2]; try exact rfl)); (case' hp => (first | refine' small_pure _ _ _ _ | (refine' (fun hg => ?_); refine' small_pure _ _ _ _))); (case' hf => exact rfl); (case' h => ((first | refine evOps_fin ?_ | refine And.intro ?_ (evD_fin ?_) | refine evD_fin ?_) <;> simp only [go_sem, reduceAdd, reduceSub, reduceMul, reduceEqDiff, reduceLeDiff, Nat.reduceBEq, reduceLT, reduceIte, reduceCtorEq, Int.reduceToNat, h1, h2])))
        | ((first | apply callP | apply callPG | apply callP0); (case' hv => (simp only [go_sem, reduceAdd, reduceSub, reduceMul, reduceEqDiff, reduceLeDiff, Nat.reduceBEq, reduceLT, reduceIte, reduceCtorEq, Int.reduceToNat, h1, h2]; try exact rfl)); (case' hp => (first | refine' arc_pure b | (refine' (fun hg => ?_); refine' arc_pure b) | refine' varc_pure ⟨b.f, b.c⟩ | (refine' (fun hg => ?_); refine' varc_pure ⟨b.f, b.c⟩))); (case' h => ((first | refine evOps_fin ?_ | refine And.intro ?_ (evD_fin ?_) | refine evD_fin ?_) <;> simp only [go_sem, reduceAdd, reduceSub, reduceMul, reduceEqDiff, reduceLeDiff, Nat.reduceBEq, reduceLT, reduceIte, reduceCtorEq, Int.reduceToNat, h1, h2])))
        | (refine callX ?_; (first | refine evOps_fin ?_ | refine And.intro ?_ (evD_fin ?_) | refine evD_fin ?_) <;> simp only [go_sem, reduceAdd, reduceSub, reduceMul, reduceEqDiff, reduceLeDiff, Nat.reduceBEq, reduceLT, reduceIte, reduceCtorEq, Int.reduceToNat, h1, h2])
      refine bool_dec ?_
      unfold Box.ok Box.arc isSmall; simp only [Bool.and_eq_true, decide_eq_true_eq]
      constructor
      · rintro ⟨h3, h4⟩; exact ⟨by omega, by omega, by omega, by omega, by omega, by omega, h4⟩
      · rintro ⟨k1, k2, k3, k4, k5, k6, k7⟩; exact ⟨by omega, k7⟩
    · have hn : ¬ b.ok := fun h => by obtain ⟨k1, k2, k3, k4, k5, k6, k7⟩ := h; omega
      (refine pure_of_ev tt_ok Try.func34 rfl (by decide +kernel) (Nat.le_of_ble_eq_true rfl) ?_; simp only [Try.f34])
      repeat' first
        | refine ev_seq (fun K hK => ?_)
        | ((first | refine evr tt_ok true ?_ | refine ev_skip ?_ | refine ev_ret ?_ | refine ev_exit ?_ | refine evc (fun X Y hX hY => ?_)); simp only [go_sem, reduceAdd, reduceSub, reduceMul, reduceEqDiff, reduceLeDiff, Nat.reduceBEq, reduceLT, reduceIte, reduceCtorEq, Int.reduceToNat, h1, h2, hn]; try (first | (refine ⟨fun h => hX ?_, fun h => hY ?_⟩; clear hX hY) | (refine hX ?_; clear hX hY) | (refine hY ?_; clear hX hY)))
        | refine ev_block ?_
        | (apply hK; clear hK)
        | apply_assumption -exfalso -symm only [*]
        | (refine And.intro ?_ ?_; first | omega | assumption | (unfold maxLen; omega) | (simp only [decide_eq_true_eq, decide_eq_false_iff_not, Int.not_lt, Int.not_le] at h; omega))
        | ((first | apply callP | apply callPG | apply callP0); (case' hv => (simp only [go_sem, reduceAdd, reduceSub, reduceMul, reduceEqDiff, reduceLeDiff, Nat.reduceBEq, reduceLT, reduceIte, reduceCtorEq, Int.reduceToNat, h1, h2, hn]; try exact rfl)); (case' hp => (first | refine' small_pure 0 0 0 0 | (refine' (fun hg => ?_); refine' small_pure 0 0 0 0) | refine' arc_pure b | (refine' (fun hg => ?_); refine' arc_pure b) | refine' varc_pure ⟨b.f, b.c⟩ | (refine' (fun hg => ?_); refine' varc_pure ⟨b.f, b.c⟩))); (case' h => ((first | refine evOps_fin ?_ | refine And.intro ?_ (evD_fin ?_) | refine evD_fin ?_) <;> simp only [go_sem, reduceAdd, reduceSub, reduceMul, reduceEqDiff, reduceLeDiff, Nat.reduceBEq, reduceLT, reduceIte, reduceCtorEq, Int.reduceToNat, h1, h2, hn])))
        | (refine callX ?_; (first | refine evOps_fin ?_ | refine And.intro ?_ (evD_fin ?_) | refine evD_fin ?_) <;> simp only [go_sem, reduceAdd, reduceSub, reduceMul, reduceEqDiff, reduceLeDiff, Nat.reduceBEq, reduceLT, reduceIte, reduceCtorEq, Int.reduceToNat, h1, h2, hn])
  · have hn : ¬ b.ok := fun h => by obtain ⟨k1, k2, k3, k4, k5, k6, k7⟩ := h; omega
    (refine pure_of_ev tt_ok Try.func34 rfl (by decide +kernel) (Nat.le_of_ble_eq_true rfl) ?_; simp only [Try.f34])
    repeat' first
      | refine ev_seq (fun K hK => ?_)
      | ((first | refine evr tt_ok true ?_ | refine ev_skip ?_ | refine ev_ret ?_ | refine ev_exit ?_ | refine evc (fun X Y hX hY => ?_)); simp only [go_sem, reduceAdd, reduceSub, reduceMul, reduceEqDiff, reduceLeDiff, Nat.reduceBEq, reduceLT, reduceIte, reduceCtorEq, Int.reduceToNat, h1, hn]; try (first | (refine ⟨fun h => hX ?_, fun h => hY ?_⟩; clear hX hY) | (refine hX ?_; clear hX hY) | (refine hY ?_; clear hX hY)))
      | refine ev_block ?_
      | (apply hK; clear hK)
      | apply_assumption -exfalso -symm only [*]
      | (refine And.intro ?_ ?_; first | omega | assumption | (unfold maxLen; omega) | (simp only [decide_eq_true_eq, decide_eq_false_iff_not, Int.not_lt, Int.not_le] at h; omega))
      | ((first | apply callP | apply callPG | apply callP0); (case' hv => (simp only [go_sem, reduceAdd, reduceSub, reduceMul, reduceEqDiff, reduceLeDiff, Nat.reduceBEq, reduceLT, reduceIte, reduceCtorEq, Int.reduceToNat, h1, hn]; try exact rfl)); (case' hp => (first | refine' small_pure 0 0 0 0 | (refine' (fun hg => ?_); refine' small_pure 0 0 0 0) | refine' arc_pure b | (refine' (fun hg => ?_); refine' arc_pure b) | refine' varc_pure ⟨b.f, b.c⟩ | (refine' (fun hg => ?_); refine' varc_pure ⟨b.f, b.c⟩))); (case' h => ((first | refine evOps_fin ?_ | refine And.intro ?_ (evD_fin ?_) | refine evD_fin ?_) <;> simp only [go_sem, reduceAdd, reduceSub, reduceMul, reduceEqDiff, reduceLeDiff, Nat.reduceBEq, reduceLT, reduceIte, reduceCtorEq, Int.reduceToNat, h1, hn])))
      | (refine callX ?_; (first | refine evOps_fin ?_ | refine And.intro ?_ (evD_fin ?_) | refine evD_fin ?_) <;> simp only [go_sem, reduceAdd, reduceSub, reduceMul, reduceEqDiff, reduceLeDiff, Nat.reduceBEq, reduceLT, reduceIte, reduceCtorEq, Int.reduceToNat, h1, hn])
end Go.Proofs.Ytmpmggbcmioipaa
