import Derived.Test.YtmpmggbcmioipaaH6
set_option linter.all false
namespace Go.Proofs.Ytmpmggbcmioipaa
open Nat (reduceAdd reduceSub reduceMul reduceEqDiff reduceLeDiff reduceLT)
open Go Go.K
set_option maxRecDepth 20000
set_option maxHeartbeats 4000000
theorem take_getD {α : Type} {l : List α} {i : Nat} (h : i < l.length) (d : α) : l.take (i + 1) = l.take i ++ [l.getD i d] := by
  rw [List.take_succ, List.getElem?_eq_getElem h]
  simp [List.getD_eq_getElem?_getD, List.getElem?_eq_getElem h]
structure Pt where
  (x y : Int)
def encPt (p : Pt) : List V := [.int .i64 p.x, .int .i64 p.y]
instance decPtEq : DecidableEq Pt := fun a b => if h : a.x = b.x ∧ a.y = b.y then .isTrue (by cases a; cases b; simp_all) else .isFalse (fun e => h (by subst e; exact ⟨rfl, rfl⟩))
instance decArcEq : DecidableEq Arc := fun a b => if h : a.f = b.f ∧ a.c = b.c then .isTrue (by cases a; cases b; simp_all) else .isFalse (fun e => h (by subst e; exact ⟨rfl, rfl⟩))
instance decBoxEq : DecidableEq Box := fun a b => if h : a.x0 = b.x0 ∧ a.y0 = b.y0 ∧ a.x1 = b.x1 ∧ a.y1 = b.y1 ∧ a.f = b.f ∧ a.c = b.c then .isTrue (by cases a; cases b; simp_all) else .isFalse (fun e => h (by subst e; exact ⟨rfl, rfl, rfl, rfl, rfl, rfl⟩))
theorem pure_args {P : Program} {f : FuncId} {args args' : List V} {r : V} (h : Pure P f args r) (ha : ∀ (E : Ext) (vs : List Value), IsAll E [] args' vs → IsAll E [] args vs) : Pure P f args' r :=
  ⟨h.enters, fun w E vs hi hx => h.run w E vs hi (ha E vs hx)⟩

theorem pt_get (L : List Pt) (i : Nat) : (L.map encPt).getD i [.int .i64 0, .int .i64 0] = [.int .i64 (L.getD i ⟨0, 0⟩).x, .int .i64 (L.getD i ⟨0, 0⟩).y] := getD_map (f := encPt) (d := ⟨0, 0⟩) rfl
theorem arc_get (L : List Arc) (i : Nat) : (L.map encArc).getD i [.int .i64 0, .int .i64 0] = [.int .i64 (L.getD i ⟨0, 0⟩).f, .int .i64 (L.getD i ⟨0, 0⟩).c] := getD_map (f := encArc) (d := ⟨0, 0⟩) rfl
theorem box_get (L : List Box) (i : Nat) : (L.map encBox).getD i [.int .i64 0, .int .i64 0, .int .i64 0, .int .i64 0, .int .i64 0, .int .i64 0] = [.int .i64 (L.getD i Box.zero).x0, .int .i64 (L.getD i Box.zero).y0, .int .i64 (L.getD i Box.zero).x1, .int .i64 (L.getD i Box.zero).y1, .int .i64 (L.getD i Box.zero).f, .int .i64 (L.getD i Box.zero).c] := getD_map (f := encBox) (d := Box.zero) rfl
theorem boxes_pure (L M : List Box) (hl : (L.length : Int) < 4611686018427387904) : Pure Try.prog 11 [.sl (L.map encBox), .sl (M.map encBox)] (.bool (decide (L = M))) := by
  by_cases hlen : L.length = M.length
  · have hne : ((L.length : Int) != (M.length : Int)) = false := by simp [hlen]
    (refine pure_of_ev tt_ok Try.func11 rfl (by decide +kernel) (Nat.le_of_ble_eq_true rfl) ?_; simp only [Try.f11])
    repeat' first
      | refine ev_seq (fun K hK => ?_)
      | ((first | refine evrd (id := 6) hmix tt_ok false [([], false), ([], false), ([], false), ([], false), ([], false), ([], false), ([], false), ([], false), ([], false)] (by decide +kernel) ?_ | refine evr tt_ok false ?_ | refine ev_skip ?_ | refine ev_ret ?_ | refine ev_exit ?_ | refine evc (fun X Y hX hY => ?_)); simp only [go_sem, reduceAdd, reduceSub, reduceMul, reduceEqDiff, reduceLeDiff, Nat.reduceBEq, reduceLT, reduceIte, reduceCtorEq, Int.reduceToNat, List.length_map, hne]; try (first | (refine ⟨fun h => hX ?_, fun h => hY ?_⟩; clear hX hY) | (refine hX ?_; clear hX hY) | (refine hY ?_; clear hX hY)))
      | refine ev_block ?_
      | (apply hK; clear hK)
      | apply_assumption -exfalso -symm only [*]
      | (refine And.intro ?_ ?_; first | omega | assumption | (unfold maxLen; omega) | (simp only [decide_eq_true_eq, decide_eq_false_iff_not, Int.not_lt, Int.not_le] at h; omega))
    refine ev_loop (fun i : Nat => i ≤ L.length ∧ L.take i = M.take i)
      (fun i => ⟨26, [(5, .int .i64 i), (4, .bool false), (1, .sl (M.map encBox)), (0, .sl (L.map encBox))], []⟩)
      (fun i => L.length - i) 0 ⟨Nat.zero_le _, rfl⟩ ?_ ?_
    · simp only [go_sem, reduceAdd, reduceSub, reduceMul, reduceEqDiff, reduceLeDiff, Nat.reduceBEq, reduceLT, reduceIte, reduceCtorEq, Int.reduceToNat, fits, fitT, fitOs, fitO, V.under, unders, rowsUnder]
      repeat' first | rfl | apply And.intro
    · rintro i ⟨hi, ht⟩
      have hb0 : 0 ≤ (i : Int) := by omega
      have hw : IntKind.i64.wrap ((i : Int) + 1) = ((i + 1 : Nat) : Int) := by rw [w64] <;> omega
      by_cases hlt : (i : Int) < L.length
      · have hlt2 : (i : Int) < M.length := by omega
        by_cases he : L.getD i Box.zero = M.getD i Box.zero
        · have hm : (M.map encBox).getD i [.int .i64 0, .int .i64 0, .int .i64 0, .int .i64 0, .int .i64 0, .int .i64 0] = [.int .i64 (L.getD i Box.zero).x0, .int .i64 (L.getD i Box.zero).y0, .int .i64 (L.getD i Box.zero).x1, .int .i64 (L.getD i Box.zero).y1, .int .i64 (L.getD i Box.zero).f, .int .i64 (L.getD i Box.zero).c] := by rw [box_get, ← he]
          repeat' first
            | refine ev_seq (fun K hK => ?_)
            | ((first | refine evrd (id := 6) hmix tt_ok false [([], false), ([], false), ([], false), ([], false), ([], false), ([], false), ([], false), ([], false), ([], false)] (by decide +kernel) ?_ | refine evr tt_ok false ?_ | refine ev_skip ?_ | refine ev_ret ?_ | refine ev_exit ?_ | refine evc (fun X Y hX hY => ?_)); simp only [go_sem, reduceAdd, reduceSub, reduceMul, reduceEqDiff, reduceLeDiff, Nat.reduceBEq, reduceLT, reduceIte, reduceCtorEq, Int.reduceToNat, List.length_map, hb0, hw, hlt, hlt2, box_get L, hm, Int.toNat_natCast, bne_self_eq_false]; try (first | (refine ⟨fun h => hX ?_, fun h => hY ?_⟩; clear hX hY) | (refine hX ?_; clear hX hY) | (refine hY ?_; clear hX hY)))
            | refine ev_block ?_
            | (apply hK; clear hK)
            | apply_assumption -exfalso -symm only [*]
            | (refine And.intro ?_ ?_; first | omega | assumption | (unfold maxLen; omega) | (simp only [decide_eq_true_eq, decide_eq_false_iff_not, Int.not_lt, Int.not_le] at h; omega))
          exact ⟨i + 1, ⟨by omega, by rw [take_getD (by omega) Box.zero, take_getD (by omega) Box.zero, ht, he]⟩, rfl, by omega⟩
        · have hx : (((L.getD i Box.zero).x0 == (M.getD i Box.zero).x0 && ((L.getD i Box.zero).y0 == (M.getD i Box.zero).y0 && ((L.getD i Box.zero).x1 == (M.getD i Box.zero).x1 && ((L.getD i Box.zero).y1 == (M.getD i Box.zero).y1 && ((L.getD i Box.zero).f == (M.getD i Box.zero).f && (L.getD i Box.zero).c == (M.getD i Box.zero).c)))))) = false := by
            rw [Bool.eq_false_iff]; intro h; apply he
            simp only [Bool.and_eq_true, beq_iff_eq] at h
            generalize L.getD i Box.zero = p at *
            generalize M.getD i Box.zero = q at *
            cases p; cases q; simp_all
          have hnn : decide (L = M) = false := by simp; rintro rfl; exact he rfl
          repeat' first
            | refine ev_seq (fun K hK => ?_)
            | ((first | refine evrd (id := 6) hmix tt_ok false [([], false), ([], false), ([], false), ([], false), ([], false), ([], false), ([], false), ([], false), ([], false)] (by decide +kernel) ?_ | refine evr tt_ok false ?_ | refine ev_skip ?_ | refine ev_ret ?_ | refine ev_exit ?_ | refine evc (fun X Y hX hY => ?_)); simp only [go_sem, reduceAdd, reduceSub, reduceMul, reduceEqDiff, reduceLeDiff, Nat.reduceBEq, reduceLT, reduceIte, reduceCtorEq, Int.reduceToNat, List.length_map, hb0, hw, hlt, hlt2, box_get, Int.toNat_natCast, bne, hx, hnn]; try (first | (refine ⟨fun h => hX ?_, fun h => hY ?_⟩; clear hX hY) | (refine hX ?_; clear hX hY) | (refine hY ?_; clear hX hY)))
            | refine ev_block ?_
            | (apply hK; clear hK)
            | apply_assumption -exfalso -symm only [*]
            | (refine And.intro ?_ ?_; first | omega | assumption | (unfold maxLen; omega) | (simp only [decide_eq_true_eq, decide_eq_false_iff_not, Int.not_lt, Int.not_le] at h; omega))
      · obtain rfl : i = L.length := by omega
        have hnn : decide (L = M) = true := by
          rw [List.take_length, hlen, List.take_length] at ht; simp [ht]
        repeat' first
          | refine ev_seq (fun K hK => ?_)
          | ((first | refine evrd (id := 6) hmix tt_ok false [([], false), ([], false), ([], false), ([], false), ([], false), ([], false), ([], false), ([], false), ([], false)] (by decide +kernel) ?_ | refine evr tt_ok false ?_ | refine ev_skip ?_ | refine ev_ret ?_ | refine ev_exit ?_ | refine evc (fun X Y hX hY => ?_)); simp only [go_sem, reduceAdd, reduceSub, reduceMul, reduceEqDiff, reduceLeDiff, Nat.reduceBEq, reduceLT, reduceIte, reduceCtorEq, Int.reduceToNat, List.length_map, hb0, hlt, hnn]; try (first | (refine ⟨fun h => hX ?_, fun h => hY ?_⟩; clear hX hY) | (refine hX ?_; clear hX hY) | (refine hY ?_; clear hX hY)))
          | refine ev_block ?_
          | (apply hK; clear hK)
          | apply_assumption -exfalso -symm only [*]
          | (refine And.intro ?_ ?_; first | omega | assumption | (unfold maxLen; omega) | (simp only [decide_eq_true_eq, decide_eq_false_iff_not, Int.not_lt, Int.not_le] at h; omega))
  · have hne : ((L.length : Int) != (M.length : Int)) = true := by simp; omega
    have hnn : decide (L = M) = false := by simp; rintro rfl; exact hlen rfl
    (refine pure_of_ev tt_ok Try.func11 rfl (by decide +kernel) (Nat.le_of_ble_eq_true rfl) ?_; simp only [Try.f11])
    repeat' first
      | refine ev_seq (fun K hK => ?_)
      | ((first | refine evrd (id := 6) hmix tt_ok false [([], false), ([], false), ([], false), ([], false), ([], false), ([], false), ([], false), ([], false), ([], false)] (by decide +kernel) ?_ | refine evr tt_ok false ?_ | refine ev_skip ?_ | refine ev_ret ?_ | refine ev_exit ?_ | refine evc (fun X Y hX hY => ?_)); simp only [go_sem, reduceAdd, reduceSub, reduceMul, reduceEqDiff, reduceLeDiff, Nat.reduceBEq, reduceLT, reduceIte, reduceCtorEq, Int.reduceToNat, List.length_map, hne, hnn]; try (first | (refine ⟨fun h => hX ?_, fun h => hY ?_⟩; clear hX hY) | (refine hX ?_; clear hX hY) | (refine hY ?_; clear hX hY)))
      | refine ev_block ?_
      | (apply hK; clear hK)
      | apply_assumption -exfalso -symm only [*]
      | (refine And.intro ?_ ?_; first | omega | assumption | (unfold maxLen; omega) | (simp only [decide_eq_true_eq, decide_eq_false_iff_not, Int.not_lt, Int.not_le] at h; omega))

theorem int_get2 (L : List Int) (i : Nat) : (L.map enI).getD i [.int .i64 0] = [.int .i64 (L.getD i 0)] := getD_map (f := enI) (d := 0) rfl
end Go.Proofs.Ytmpmggbcmioipaa
