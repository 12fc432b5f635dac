import Derived.Test.YtokhaefcnbiadaaPC
set_option linter.all false
namespace Go.Proofs.Ytokhaefcnbiadaa
open Nat (reduceAdd reduceSub reduceMul reduceEqDiff reduceLeDiff reduceLT)
open Go Go.K
set_option maxRecDepth 20000
set_option maxHeartbeats 8000000
/-! ### problems -/
structure Bem where
  (m r : Int)
structure Prob where
  f : Fld
  s : List Bem
  (cx cy fr ct re : Int)
structure Cnd where
  (k y x : Int)
structure Blc where
  (k y x l : Int)
def enBm (b : Bem) : List V := [.int .i64 b.m, .int .i64 b.r]
def encP (p : Prob) : List V := [.int .i64 p.f.x, .int .i64 p.f.y, .int .i64 p.f.w, .int .i64 p.f.h, .sl (p.f.v.map enB), .sl (p.s.map enBm), .int .i64 p.cx, .int .i64 p.cy, .int .i64 p.fr, .int .i64 p.ct, .int .i64 p.re]
def enC (c : Cnd) : List V := [.int .i64 c.k, .int .i64 c.y, .int .i64 c.x]
def enBl (b : Blc) : List V := [.int .i64 b.k, .int .i64 b.y, .int .i64 b.x, .int .i64 b.l]
def Bem.ok (b : Bem) : Prop := 0 ≤ b.m ∧ b.m ≤ 255 ∧ -1 ≤ b.r ∧ b.r ≤ 1024
instance (b : Bem) : Decidable b.ok := by unfold Bem.ok; infer_instance
def scanOk (s : List Bem) : Prop := s.length ≤ 32 ∧ ∀ i, i < s.length → (s.getD i ⟨0, 0⟩).ok
instance (s : List Bem) : Decidable (scanOk s) := by unfold scanOk; infer_instance
def Prob.side (p : Prob) : Int := 2 * p.re + 1
def Prob.ok (p : Prob) : Prop := p.f.ok ∧ scanOk p.s ∧ (Arc.mk p.fr p.ct).ok ∧ (-262144 ≤ p.cx ∧ p.cx ≤ 262144) ∧ (-262144 ≤ p.cy ∧ p.cy ≤ 262144) ∧ (0 ≤ p.re ∧ p.re ≤ 31) ∧ p.ct * p.side * p.side ≤ 16384
instance (p : Prob) : Decidable p.ok := by unfold Prob.ok; infer_instance
theorem beam_get (L : List Bem) (i : Nat) : (L.map enBm).getD i [.int .i64 0, .int .i64 0] = [.int .i64 (L.getD i ⟨0, 0⟩).m, .int .i64 (L.getD i ⟨0, 0⟩).r] := getD_map (f := enBm) (d := ⟨0, 0⟩) rfl
theorem lit_beam (l : List Bem) : litRows (l.map enBm) = true := litRows_map (fun _ => rfl) l
theorem lit_enC (l : List Cnd) : litRows (l.map enC) = true := litRows_map (fun _ => rfl) l
theorem lit_enBl (l : List Blc) : litRows (l.map enBl) = true := litRows_map (fun _ => rfl) l
theorem mwithin_pure (n l h : Int) : Pure Try.prog 58 [.int .i64 n, .int .i64 l, .int .i64 h] (.bool (decide (l ≤ n) && decide (n ≤ h))) := by
  (refine pure_of_ev tt_ok Try.func58 rfl (by decide +kernel) (Nat.le_of_ble_eq_true rfl) ?_; simp only [Try.f58])
  repeat' first
    | refine ev_seq (fun K hK => ?_)
    | ((first | refine evr tt_ok false ?_ | refine ev_skip ?_ | refine ev_ret ?_ | refine ev_exit ?_ | refine evc (fun X Y hX hY => ?_)); simp only [go_sem, reduceAdd, reduceSub, reduceMul, reduceEqDiff, reduceLeDiff, Nat.reduceBEq, reduceLT, reduceIte, reduceCtorEq, Int.reduceToNat]; try (first | (refine ⟨fun h => hX ?_, fun h => hY ?_⟩; clear hX hY) | (refine hX ?_; clear hX hY) | (refine hY ?_; clear hX hY)))
    | refine ev_block ?_
    | (apply hK; clear hK)
    | apply_assumption -exfalso -symm only [*]
    | (refine And.intro ?_ ?_; first | omega | assumption | (unfold maxLen; omega) | (simp only [decide_eq_true_eq, decide_eq_false_iff_not, Int.not_lt, Int.not_le] at h; omega))
  all_goals rfl
theorem beamB_pure (b : Bem) : Pure Try.prog 92 [.agg [.int .i64 b.m, .int .i64 b.r]] (.bool (decide b.ok)) := by
  (refine pure_of_ev tt_ok Try.func92 rfl (by decide +kernel) (Nat.le_of_ble_eq_true rfl) ?_; simp only [Try.f92])
  repeat' first
    | refine ev_seq (fun K hK => ?_)
    | ((first | refine evr tt_ok false ?_ | refine ev_skip ?_ | refine ev_ret ?_ | refine ev_exit ?_ | refine evc (fun X Y hX hY => ?_)); simp only [go_sem, reduceAdd, reduceSub, reduceMul, reduceEqDiff, reduceLeDiff, Nat.reduceBEq, reduceLT, reduceIte, reduceCtorEq, Int.reduceToNat]; try (first | (refine ⟨fun h => hX ?_, fun h => hY ?_⟩; clear hX hY) | (refine hX ?_; clear hX hY) | (refine hY ?_; clear hX hY)))
    | refine ev_block ?_
    | (apply hK; clear hK)
    | apply_assumption -exfalso -symm only [*]
    | (refine And.intro ?_ ?_; first | omega | assumption | (unfold maxLen; omega) | (simp only [decide_eq_true_eq, decide_eq_false_iff_not, Int.not_lt, Int.not_le] at h; omega))
  all_goals refine bool_dec ?_
  all_goals simp only [Bool.and_eq_true, decide_eq_true_eq, Bem.ok]
  all_goals omega
theorem bscan_pure (s : List Bem) (hl : (s.length : Int) < 4611686018427387904) : Pure Try.prog 75 [.sl (s.map enBm)] (.bool (decide (scanOk s))) := by
  by_cases hn : (32 : Int) < s.length
  · have hno : decide (scanOk s) = false := by rw [decide_eq_false_iff_not]; unfold scanOk; omega
    rw [hno]
    (refine pure_of_ev tt_ok Try.func75 rfl (by decide +kernel) (Nat.le_of_ble_eq_true rfl) ?_; simp only [Try.f75])
    repeat' first
      | refine ev_seq (fun K hK => ?_)
      | ((first | refine evr tt_ok false ?_ | refine ev_skip ?_ | refine ev_ret ?_ | refine ev_exit ?_ | refine evc (fun X Y hX hY => ?_)); simp only [go_sem, reduceAdd, reduceSub, reduceMul, reduceEqDiff, reduceLeDiff, Nat.reduceBEq, reduceLT, reduceIte, reduceCtorEq, Int.reduceToNat, List.length_map, hn]; try (first | (refine ⟨fun h => hX ?_, fun h => hY ?_⟩; clear hX hY) | (refine hX ?_; clear hX hY) | (refine hY ?_; clear hX hY)))
      | refine ev_block ?_
      | (apply hK; clear hK)
      | apply_assumption -exfalso -symm only [*]
      | (refine And.intro ?_ ?_; first | omega | assumption | (unfold maxLen; omega) | (simp only [decide_eq_true_eq, decide_eq_false_iff_not, Int.not_lt, Int.not_le] at h; omega))
  · (refine pure_of_ev tt_ok Try.func75 rfl (by decide +kernel) (Nat.le_of_ble_eq_true rfl) ?_; simp only [Try.f75])
    repeat' first
      | refine ev_seq (fun K hK => ?_)
      | ((first | refine evr tt_ok false ?_ | refine ev_skip ?_ | refine ev_ret ?_ | refine ev_exit ?_ | refine evc (fun X Y hX hY => ?_)); simp only [go_sem, reduceAdd, reduceSub, reduceMul, reduceEqDiff, reduceLeDiff, Nat.reduceBEq, reduceLT, reduceIte, reduceCtorEq, Int.reduceToNat, List.length_map, hn]; try (first | (refine ⟨fun h => hX ?_, fun h => hY ?_⟩; clear hX hY) | (refine hX ?_; clear hX hY) | (refine hY ?_; clear hX hY)))
      | refine ev_block ?_
      | (apply hK; clear hK)
      | apply_assumption -exfalso -symm only [*]
      | (refine And.intro ?_ ?_; first | omega | assumption | (unfold maxLen; omega) | (simp only [decide_eq_true_eq, decide_eq_false_iff_not, Int.not_lt, Int.not_le] at h; omega))
    refine ev_loop (fun i : Nat => i ≤ s.length ∧ ∀ j, j < i → (s.getD j ⟨0, 0⟩).ok)
      (fun i => ⟨19, [(3, .int .i64 i), (2, .bool false), (0, .sl (s.map enBm))], []⟩)
      (fun i => s.length - i) 0 ⟨Nat.zero_le _, fun j hj => by omega⟩ ?_ ?_
    · simp only [go_sem, reduceAdd, reduceSub, reduceMul, reduceEqDiff, reduceLeDiff, Nat.reduceBEq, reduceLT, reduceIte, reduceCtorEq, Int.reduceToNat, fits, fitT, fitOs, fitO, V.under, unders, rowsUnder]
      repeat' first | rfl | apply And.intro
    · rintro i ⟨hi, hall⟩
      have hb0 : 0 ≤ (i : Int) := by omega
      have hw : IntKind.i64.wrap ((i : Int) + 1) = ((i + 1 : Nat) : Int) := by rw [w64] <;> omega
      by_cases hlt : (i : Int) < s.length
      · have b := beamB_pure (s.getD i ⟨0, 0⟩)
        by_cases hk : (s.getD i ⟨0, 0⟩).ok
        · rw [decide_eq_true hk] at b
          repeat' first
            | refine ev_seq (fun K hK => ?_)
            | ((first | refine evr tt_ok false ?_ | refine ev_skip ?_ | refine ev_ret ?_ | refine ev_exit ?_ | refine evc (fun X Y hX hY => ?_)); simp only [go_sem, reduceAdd, reduceSub, reduceMul, reduceEqDiff, reduceLeDiff, Nat.reduceBEq, reduceLT, reduceIte, reduceCtorEq, Int.reduceToNat, List.length_map, hb0, hw, hlt, beam_get, Int.toNat_natCast]; try (first | (refine ⟨fun h => hX ?_, fun h => hY ?_⟩; clear hX hY) | (refine hX ?_; clear hX hY) | (refine hY ?_; clear hX hY)))
            | refine ev_block ?_
            | (apply hK; clear hK)
            | apply_assumption -exfalso -symm only [*]
            | (refine And.intro ?_ ?_; first | omega | assumption | (unfold maxLen; omega) | (simp only [decide_eq_true_eq, decide_eq_false_iff_not, Int.not_lt, Int.not_le] at h; omega))
            | ((first | apply callP | apply callPG | apply callP0); (case' hv => (simp only [go_sem, reduceAdd, reduceSub, reduceMul, reduceEqDiff, reduceLeDiff, Nat.reduceBEq, reduceLT, reduceIte, reduceCtorEq, Int.reduceToNat, List.length_map, hb0, hw, hlt, beam_get, Int.toNat_natCast]; try exact rfl)); (case' hp => (first | refine' b | (refine' (fun hg => ?_); refine' b))); (case' h => ((first | refine evOps_fin ?_ | refine And.intro ?_ (evD_fin ?_) | refine evD_fin ?_) <;> simp only [go_sem, reduceAdd, reduceSub, reduceMul, reduceEqDiff, reduceLeDiff, Nat.reduceBEq, reduceLT, reduceIte, reduceCtorEq, Int.reduceToNat, List.length_map, hb0, hw, hlt, beam_get, Int.toNat_natCast])))
            | (refine callX ?_; (first | refine evOps_fin ?_ | refine And.intro ?_ (evD_fin ?_) | refine evD_fin ?_) <;> simp only [go_sem, reduceAdd, reduceSub, reduceMul, reduceEqDiff, reduceLeDiff, Nat.reduceBEq, reduceLT, reduceIte, reduceCtorEq, Int.reduceToNat, List.length_map, hb0, hw, hlt, beam_get, Int.toNat_natCast])
          refine ⟨i + 1, ⟨by omega, fun j hj => ?_⟩, rfl, by omega⟩
          by_cases e : j = i
          · subst e; exact hk
          · exact hall j (by omega)
        · rw [decide_eq_false hk] at b
          have hno : decide (scanOk s) = false := by rw [decide_eq_false_iff_not]; exact fun h => hk (h.2 i (by omega))
          rw [hno]
          repeat' first
            | refine ev_seq (fun K hK => ?_)
            | ((first | refine evr tt_ok false ?_ | refine ev_skip ?_ | refine ev_ret ?_ | refine ev_exit ?_ | refine evc (fun X Y hX hY => ?_)); simp only [go_sem, reduceAdd, reduceSub, reduceMul, reduceEqDiff, reduceLeDiff, Nat.reduceBEq, reduceLT, reduceIte, reduceCtorEq, Int.reduceToNat, List.length_map, hb0, hw, hlt, beam_get, Int.toNat_natCast]; try (first | (refine ⟨fun h => hX ?_, fun h => hY ?_⟩; clear hX hY) | (refine hX ?_; clear hX hY) | (refine hY ?_; clear hX hY)))
            | refine ev_block ?_
            | (apply hK; clear hK)
            | apply_assumption -exfalso -symm only [*]
            | (refine And.intro ?_ ?_; first | omega | assumption | (unfold maxLen; omega) | (simp only [decide_eq_true_eq, decide_eq_false_iff_not, Int.not_lt, Int.not_le] at h; omega))
            | ((first | apply callP | apply callPG | apply callP0); (case' hv => (simp only [go_sem, reduceAdd, reduceSub, reduceMul, reduceEqDiff, reduceLeDiff, Nat.reduceBEq, reduceLT, reduceIte, reduceCtorEq, Int.reduceToNat, List.length_map, hb0, hw, hlt, beam_get, Int.toNat_natCast]; try exact rfl)); (case' hp => (first | refine' b | (refine' (fun hg => ?_); refine' b))); (case' h => ((first | refine evOps_fin ?_ | refine And.intro ?_ (evD_fin ?_) | refine evD_fin ?_) <;> simp only [go_sem, reduceAdd, reduceSub, reduceMul, reduceEqDiff, reduceLeDiff, Nat.reduceBEq, reduceLT, reduceIte, reduceCtorEq, Int.reduceToNat, List.length_map, hb0, hw, hlt, beam_get, Int.toNat_natCast])))
            | (refine callX ?_; (first | refine evOps_fin ?_ | refine And.intro ?_ (evD_fin ?_) | refine evD_fin ?_) <;> simp only [go_sem, reduceAdd, reduceSub, reduceMul, reduceEqDiff, reduceLeDiff, Nat.reduceBEq, reduceLT, reduceIte, reduceCtorEq, Int.reduceToNat, List.length_map, hb0, hw, hlt, beam_get, Int.toNat_natCast])
      · obtain rfl : i = s.length := by omega
        have hyes : decide (scanOk s) = true := by rw [decide_eq_true_eq]; exact ⟨by omega, fun j hj => hall j hj⟩
        repeat' first
          | refine ev_seq (fun K hK => ?_)
          | ((first | refine evr tt_ok false ?_ | refine ev_skip ?_ | refine ev_ret ?_ | refine ev_exit ?_ | refine evc (fun X Y hX hY => ?_)); simp only [go_sem, reduceAdd, reduceSub, reduceMul, reduceEqDiff, reduceLeDiff, Nat.reduceBEq, reduceLT, reduceIte, reduceCtorEq, Int.reduceToNat, List.length_map, hlt]; try (first | (refine ⟨fun h => hX ?_, fun h => hY ?_⟩; clear hX hY) | (refine hX ?_; clear hX hY) | (refine hY ?_; clear hX hY)))
          | refine ev_block ?_
          | (apply hK; clear hK)
          | apply_assumption -exfalso -symm only [*]
          | (refine And.intro ?_ ?_; first | omega | assumption | (unfold maxLen; omega) | (simp only [decide_eq_true_eq, decide_eq_false_iff_not, Int.not_lt, Int.not_le] at h; omega))
        rw [hyes]
theorem mscan_pure (s : List Bem) (hl : (s.length : Int) < 4611686018427387904) : Pure Try.prog 56 [.sl (s.map enBm)] (.bool (decide (scanOk s))) := by
  (refine pure_of_ev tt_ok Try.func56 rfl (by decide +kernel) (Nat.le_of_ble_eq_true rfl) ?_; simp only [Try.f56])
  repeat' first
    | refine ev_seq (fun K hK => ?_)
    | ((first | refine evr tt_ok false ?_ | refine ev_skip ?_ | refine ev_ret ?_ | refine ev_exit ?_ | refine evc (fun X Y hX hY => ?_)); simp only [go_sem, reduceAdd, reduceSub, reduceMul, reduceEqDiff, reduceLeDiff, Nat.reduceBEq, reduceLT, reduceIte, reduceCtorEq, Int.reduceToNat, List.length_map]; try (first | (refine ⟨fun h => hX ?_, fun h => hY ?_⟩; clear hX hY) | (refine hX ?_; clear hX hY) | (refine hY ?_; clear hX hY)))
    | refine ev_block ?_
    | (apply hK; clear hK)
    | apply_assumption -exfalso -symm only [*]
    | (refine And.intro ?_ ?_; first | omega | assumption | (unfold maxLen; omega) | (simp only [decide_eq_true_eq, decide_eq_false_iff_not, Int.not_lt, Int.not_le] at h; omega))
  refine ev_loop (fun i : Nat => i ≤ s.length ∧ ∀ j, j < i → (s.getD j ⟨0, 0⟩).ok)
    (fun i => ⟨25, [(7, .int .i64 i), (6, .int .i64 s.length), (5, .sl (s.map enBm)), (0, .sl (s.map enBm))], []⟩)
    (fun i => s.length - i) 0 ⟨Nat.zero_le _, fun j hj => by omega⟩ ?_ ?_
  · simp only [go_sem, reduceAdd, reduceSub, reduceMul, reduceEqDiff, reduceLeDiff, Nat.reduceBEq, reduceLT, reduceIte, reduceCtorEq, Int.reduceToNat, fits, fitT, fitOs, fitO, V.under, unders, rowsUnder]
    repeat' first | rfl | apply And.intro
  · rintro i ⟨hi, hall⟩
    have hb0 : 0 ≤ (i : Int) := by omega
    have hw : IntKind.i64.wrap ((i : Int) + 1) = ((i + 1 : Nat) : Int) := by rw [w64] <;> omega
    by_cases hlt : (i : Int) < s.length
    · have b1 := mwithin_pure (s.getD i ⟨0, 0⟩).m 0 255
      have b2 := mwithin_pure (s.getD i ⟨0, 0⟩).r (-1) 1024
      by_cases hk : (s.getD i ⟨0, 0⟩).ok
      · have e1 : (decide (0 ≤ (s.getD i ⟨0, 0⟩).m) && decide ((s.getD i ⟨0, 0⟩).m ≤ 255)) = true := by
          obtain ⟨h1, h2, h3, h4⟩ := hk; simp only [Bool.and_eq_true, decide_eq_true_eq]; exact ⟨h1, h2⟩
        have e2 : (decide (-1 ≤ (s.getD i ⟨0, 0⟩).r) && decide ((s.getD i ⟨0, 0⟩).r ≤ 1024)) = true := by
          obtain ⟨h1, h2, h3, h4⟩ := hk; simp only [Bool.and_eq_true, decide_eq_true_eq]; exact ⟨h3, h4⟩
        rw [e1] at b1
        rw [e2] at b2
        repeat' first
          | refine ev_seq (fun K hK => ?_)
          | ((first | refine evr tt_ok false ?_ | refine ev_skip ?_ | refine ev_ret ?_ | refine ev_exit ?_ | refine evc (fun X Y hX hY => ?_)); simp only [go_sem, reduceAdd, reduceSub, reduceMul, reduceEqDiff, reduceLeDiff, Nat.reduceBEq, reduceLT, reduceIte, reduceCtorEq, Int.reduceToNat, List.length_map, hb0, hw, hlt, beam_get, Int.toNat_natCast]; try (first | (refine ⟨fun h => hX ?_, fun h => hY ?_⟩; clear hX hY) | (refine hX ?_; clear hX hY) | (refine hY ?_; clear hX hY)))
          | refine ev_block ?_
          | (apply hK; clear hK)
          | apply_assumption -exfalso -symm only [*]
          | (refine And.intro ?_ ?_; first | omega | assumption | (unfold maxLen; omega) | (simp only [decide_eq_true_eq, decide_eq_false_iff_not, Int.not_lt, Int.not_le] at h; omega))
          | ((first | apply callP | apply callPG | apply callP0); (case' hv => (simp only [go_sem, reduceAdd, reduceSub, reduceMul, reduceEqDiff, reduceLeDiff, Nat.reduceBEq, reduceLT, reduceIte, reduceCtorEq, Int.reduceToNat, List.length_map, hb0, hw, hlt, beam_get, Int.toNat_natCast]; try exact rfl)); (case' hp => (first | refine' b1 | (refine' (fun hg => ?_); refine' b1) | refine' b2 | (refine' (fun hg => ?_); refine' b2))); (case' h => ((first | refine evOps_fin ?_ | refine And.intro ?_ (evD_fin ?_) | refine evD_fin ?_) <;> simp only [go_sem, reduceAdd, reduceSub, reduceMul, reduceEqDiff, reduceLeDiff, Nat.reduceBEq, reduceLT, reduceIte, reduceCtorEq, Int.reduceToNat, List.length_map, hb0, hw, hlt, beam_get, Int.toNat_natCast])))
          | (refine callX ?_; (first | refine evOps_fin ?_ | refine And.intro ?_ (evD_fin ?_) | refine evD_fin ?_) <;> simp only [go_sem, reduceAdd, reduceSub, reduceMul, reduceEqDiff, reduceLeDiff, Nat.reduceBEq, reduceLT, reduceIte, reduceCtorEq, Int.reduceToNat, List.length_map, hb0, hw, hlt, beam_get, Int.toNat_natCast])
        refine ⟨i + 1, ⟨by omega, fun j hj => ?_⟩, rfl, by omega⟩
        by_cases e : j = i
        · subst e; exact hk
        · exact hall j (by omega)
      · have hno : decide (scanOk s) = false := by rw [decide_eq_false_iff_not]; exact fun h => hk (h.2 i (by omega))
        rw [hno]
        by_cases e1 : (decide (0 ≤ (s.getD i ⟨0, 0⟩).m) && decide ((s.getD i ⟨0, 0⟩).m ≤ 255)) = true
        · have e2 : (decide (-1 ≤ (s.getD i ⟨0, 0⟩).r) && decide ((s.getD i ⟨0, 0⟩).r ≤ 1024)) = false := by
            rw [Bool.eq_false_iff]; intro h
            simp only [Bool.and_eq_true, decide_eq_true_eq] at h e1
            exact hk ⟨e1.1, e1.2, h.1, h.2⟩
          rw [e1] at b1
          rw [e2] at b2
          repeat' first
            | refine ev_seq (fun K hK => ?_)
            | ((first | refine evr tt_ok false ?_ | refine ev_skip ?_ | refine ev_ret ?_ | refine ev_exit ?_ | refine evc (fun X Y hX hY => ?_)); simp only [go_sem, reduceAdd, reduceSub, reduceMul, reduceEqDiff, reduceLeDiff, Nat.reduceBEq, reduceLT, reduceIte, reduceCtorEq, Int.reduceToNat, List.length_map, hb0, hw, hlt, beam_get, Int.toNat_natCast]; try (first | (refine ⟨fun h => hX ?_, fun h => hY ?_⟩; clear hX hY) | (refine hX ?_; clear hX hY) | (refine hY ?_; clear hX hY)))
            | refine ev_block ?_
            | (apply hK; clear hK)
            | apply_assumption -exfalso -symm only [*]
            | (refine And.intro ?_ ?_; first | omega | assumption | (unfold maxLen; omega) | (simp only [decide_eq_true_eq, decide_eq_false_iff_not, Int.not_lt, Int.not_le] at h; omega))
            | ((first | apply callP | apply callPG | apply callP0); (case' hv => (simp only [go_sem, reduceAdd, reduceSub, reduceMul, reduceEqDiff, reduceLeDiff, Nat.reduceBEq, reduceLT, reduceIte, reduceCtorEq, Int.reduceToNat, List.length_map, hb0, hw, hlt, beam_get, Int.toNat_natCast]; try exact rfl)); (case' hp => (first | refine' b1 | (refine' (fun hg => ?_); refine' b1) | refine' b2 | (refine' (fun hg => ?_); refine' b2))); (case' h => ((first | refine evOps_fin ?_ | refine And.intro ?_ (evD_fin ?_) | refine evD_fin ?_) <;> simp only [go_sem, reduceAdd, reduceSub, reduceMul, reduceEqDiff, reduceLeDiff, Nat.reduceBEq, reduceLT, reduceIte, reduceCtorEq, Int.reduceToNat, List.length_map, hb0, hw, hlt, beam_get, Int.toNat_natCast])))
            | (refine callX ?_; (first | refine evOps_fin ?_ | refine And.intro ?_ (evD_fin ?_) | refine evD_fin ?_) <;> simp only [go_sem, reduceAdd, reduceSub, reduceMul, reduceEqDiff, reduceLeDiff, Nat.reduceBEq, reduceLT, reduceIte, reduceCtorEq, Int.reduceToNat, List.length_map, hb0, hw, hlt, beam_get, Int.toNat_natCast])
        · rw [Bool.eq_false_iff.2 e1] at b1
          repeat' first
            | refine ev_seq (fun K hK => ?_)
            | ((first | refine evr tt_ok false ?_ | refine ev_skip ?_ | refine ev_ret ?_ | refine ev_exit ?_ | refine evc (fun X Y hX hY => ?_)); simp only [go_sem, reduceAdd, reduceSub, reduceMul, reduceEqDiff, reduceLeDiff, Nat.reduceBEq, reduceLT, reduceIte, reduceCtorEq, Int.reduceToNat, List.length_map, hb0, hw, hlt, beam_get, Int.toNat_natCast]; try (first | (refine ⟨fun h => hX ?_, fun h => hY ?_⟩; clear hX hY) | (refine hX ?_; clear hX hY) | (refine hY ?_; clear hX hY)))
            | refine ev_block ?_
            | (apply hK; clear hK)
            | apply_assumption -exfalso -symm only [*]
            | (refine And.intro ?_ ?_; first | omega | assumption | (unfold maxLen; omega) | (simp only [decide_eq_true_eq, decide_eq_false_iff_not, Int.not_lt, Int.not_le] at h; omega))
            | ((first | apply callP | apply callPG | apply callP0); (case' hv => (simp only [go_sem, reduceAdd, reduceSub, reduceMul, reduceEqDiff, reduceLeDiff, Nat.reduceBEq, reduceLT, reduceIte, reduceCtorEq, Int.reduceToNat, List.length_map, hb0, hw, hlt, beam_get, Int.toNat_natCast]; try exact rfl)); (case' hp => (first | refine' b1 | (refine' (fun hg => ?_); refine' b1) | refine' b2 | (refine' (fun hg => ?_); refine' b2))); (case' h => ((first | refine evOps_fin ?_ | refine And.intro ?_ (evD_fin ?_) | refine evD_fin ?_) <;> simp only [go_sem, reduceAdd, reduceSub, reduceMul, reduceEqDiff, reduceLeDiff, Nat.reduceBEq, reduceLT, reduceIte, reduceCtorEq, Int.reduceToNat, List.length_map, hb0, hw, hlt, beam_get, Int.toNat_natCast])))
            | (refine callX ?_; (first | refine evOps_fin ?_ | refine And.intro ?_ (evD_fin ?_) | refine evD_fin ?_) <;> simp only [go_sem, reduceAdd, reduceSub, reduceMul, reduceEqDiff, reduceLeDiff, Nat.reduceBEq, reduceLT, reduceIte, reduceCtorEq, Int.reduceToNat, List.length_map, hb0, hw, hlt, beam_get, Int.toNat_natCast])
    · obtain rfl : i = s.length := by omega
      have hyes : decide (scanOk s) = decide ((s.length : Int) ≤ 32) := by
        rw [Bool.eq_iff_iff]; simp only [decide_eq_true_eq]
        exact ⟨fun h => by have := h.1; omega, fun h => ⟨by omega, fun j hj => hall j hj⟩⟩
      repeat' first
        | refine ev_seq (fun K hK => ?_)
        | ((first | refine evr tt_ok false ?_ | refine ev_skip ?_ | refine ev_ret ?_ | refine ev_exit ?_ | refine evc (fun X Y hX hY => ?_)); simp only [go_sem, reduceAdd, reduceSub, reduceMul, reduceEqDiff, reduceLeDiff, Nat.reduceBEq, reduceLT, reduceIte, reduceCtorEq, Int.reduceToNat, List.length_map, hlt]; try (first | (refine ⟨fun h => hX ?_, fun h => hY ?_⟩; clear hX hY) | (refine hX ?_; clear hX hY) | (refine hY ?_; clear hX hY)))
        | refine ev_block ?_
        | (apply hK; clear hK)
        | apply_assumption -exfalso -symm only [*]
        | (refine And.intro ?_ ?_; first | omega | assumption | (unfold maxLen; omega) | (simp only [decide_eq_true_eq, decide_eq_false_iff_not, Int.not_lt, Int.not_le] at h; omega))
      rw [hyes]
end Go.Proofs.Ytokhaefcnbiadaa
