import Derived.Test.YtbpchamlhblddaaPQ
set_option linter.all false
namespace Go.Proofs.Ytbpchamlhblddaa
open Nat (reduceAdd reduceSub reduceMul reduceEqDiff reduceLeDiff reduceLT)
open Go Go.K
set_option maxRecDepth 20000
set_option maxHeartbeats 4000000
/-! ### lists that are filled from the front -/
def prt (g : Nat → Int) (i n : Nat) : List Int := (List.range n).map fun j => if j < i then g j else 0
theorem prt_len (g : Nat → Int) (i n : Nat) : (prt g i n).length = n := by simp [prt]
theorem prt_zero (g : Nat → Int) (n : Nat) : prt g 0 n = List.replicate n 0 := by
  refine List.ext_getElem (by simp [prt]) fun i h1 h2 => by simp [prt]
theorem prt_set (g : Nat → Int) {i n : Nat} (h : i < n) : (prt g i n).set i (g i) = prt g (i + 1) n := by
  refine List.ext_getElem (by simp [prt]) fun k h1 h2 => ?_
  rw [List.getElem_set]
  split
  · rename_i h3; subst h3; simp [prt]
  · simp only [prt, List.getElem_map, List.getElem_range]
    by_cases h4 : k < i
    · rw [if_pos h4, if_pos (by omega)]
    · rw [if_neg h4, if_neg (by omega)]
theorem prt_all (g : Nat → Int) (n : Nat) : prt g n n = (List.range n).map g := by
  unfold prt
  refine List.map_congr_left fun j hj => if_pos (List.mem_range.1 hj)
def enB (b : Int) : List V := [.int .u8 b]
def enJ (b : Int) : List V := [.int .i64 b]
theorem byte_get (L : List Int) (i : Nat) : (L.map enB).getD i [.int .u8 0] = [.int .u8 (L.getD i 0)] := getD_map (f := enB) (d := 0) rfl
theorem num_get (L : List Int) (i : Nat) : (L.map enJ).getD i [.int .i64 0] = [.int .i64 (L.getD i 0)] := getD_map (f := enJ) (d := 0) rfl
theorem lit_enB (l : List Int) : litRows (l.map enB) = true := litRows_map (fun _ => rfl) l
theorem lit_enJ (l : List Int) : litRows (l.map enJ) = true := litRows_map (fun _ => rfl) l
theorem rep_enB (n : Nat) : List.replicate n [V.int .u8 0] = (List.replicate n 0).map enB := by rw [List.map_replicate]; rfl
theorem rep_enJ (n : Nat) : List.replicate n [V.int .i64 0] = (List.replicate n 0).map enJ := by rw [List.map_replicate]; rfl
def encF (f : Fld) : List V := [.int .i64 f.x, .int .i64 f.y, .int .i64 f.w, .int .i64 f.h, .sl (f.v.map enB)]
theorem ewithin_pure (n k : Int) (hk : -4611686018427387904 ≤ k ∧ k ≤ 4611686018427387904) : Pure Try.prog 39 [.int .i64 n, .int .i64 k] (.bool (decide (-k ≤ n) && decide (n ≤ k))) := by
  have hw : IntKind.i64.wrap (0 - k) = -k := by rw [w64] <;> omega
  (refine pure_of_ev tt_ok Try.func39 rfl (by decide +kernel) (Nat.le_of_ble_eq_true rfl) ?_; simp only [Try.f39])
  repeat' first
    | refine ev_seq (fun K hK => ?_)
    | ((first | refine evr tt_ok false ?_ | refine ev_skip ?_ | refine ev_ret ?_ | refine ev_exit ?_ | refine evc (fun X Y hX hY => ?_)); simp only [go_sem, reduceAdd, reduceSub, reduceMul, reduceEqDiff, reduceLeDiff, Nat.reduceBEq, reduceLT, reduceIte, reduceCtorEq, Int.reduceToNat, hw]; try (first | (refine ⟨fun h => hX ?_, fun h => hY ?_⟩; clear hX hY) | (refine hX ?_; clear hX hY) | (refine hY ?_; clear hX hY)))
    | refine ev_block ?_
    | (apply hK; clear hK)
    | apply_assumption -exfalso -symm only [*]
    | (refine And.intro ?_ ?_; first | omega | assumption | (unfold maxLen; omega) | (simp only [decide_eq_true_eq, decide_eq_false_iff_not, Int.not_lt, Int.not_le] at h; omega))
theorem mul_ok {w h : Int} (h1 : 0 ≤ w) (h2 : w ≤ 128) (h3 : 0 ≤ h) (h4 : h ≤ 128) : 0 ≤ w * h ∧ w * h ≤ 16384 ∧ IntKind.i64.wrap (w * h) = w * h := by
  have := mul_small h1 h2 h3 h4
  exact ⟨by omega, by omega, w64 (by omega) (by omega)⟩
theorem vfield_pure (f : Fld) : Pure Try.prog 29 [.agg [.int .i64 f.x, .int .i64 f.y, .int .i64 f.w, .int .i64 f.h, .sl (f.v.map enB)]] (.bool (decide f.ok)) := by
  by_cases hz : (f.w == 0 || f.h == 0) = true
  · (refine pure_of_ev tt_ok Try.func29 rfl (by decide +kernel) (Nat.le_of_ble_eq_true rfl) ?_; simp only [Try.f29])
    repeat' first
      | refine ev_seq (fun K hK => ?_)
      | ((first | refine evr tt_ok false ?_ | refine ev_skip ?_ | refine ev_ret ?_ | refine ev_exit ?_ | refine evc (fun X Y hX hY => ?_)); simp only [go_sem, reduceAdd, reduceSub, reduceMul, reduceEqDiff, reduceLeDiff, Nat.reduceBEq, reduceLT, reduceIte, reduceCtorEq, Int.reduceToNat, hz, List.length_map]; try (first | (refine ⟨fun h => hX ?_, fun h => hY ?_⟩; clear hX hY) | (refine hX ?_; clear hX hY) | (refine hY ?_; clear hX hY)))
      | refine ev_block ?_
      | (apply hK; clear hK)
      | apply_assumption -exfalso -symm only [*]
      | (refine And.intro ?_ ?_; first | omega | assumption | (unfold maxLen; omega) | (simp only [decide_eq_true_eq, decide_eq_false_iff_not, Int.not_lt, Int.not_le] at h; omega))
    refine bool_dec ?_
    simp only [Bool.and_eq_true, Bool.or_eq_true, beq_iff_eq] at hz ⊢
    unfold Fld.ok
    constructor
    · rintro ⟨⟨⟨⟨h1, h2⟩, h3⟩, h4⟩, h5⟩
      rw [h1, h2, h3, h4, h5]
      simp
    · rintro ⟨h1, h2, h3, h4, h5, h6, h7, h8, h9, h10, h11⟩
      have hw : f.w = 0 := by rcases hz with h | h; exact h; exact h5.2 h
      have hh := h5.1 hw
      have h12 := h11 hw
      rw [hw, hh] at h6
      exact ⟨⟨⟨⟨hw, hh⟩, h12.1⟩, h12.2⟩, by simpa using h6⟩
  · have hz' : (f.w == 0 || f.h == 0) = false := by simpa using hz
    by_cases hs : (((decide (0 < f.w) && decide (f.w ≤ 64)) && decide (0 < f.h)) && decide (f.h ≤ 64)) = true
    · have hs' := hs
      simp only [Bool.and_eq_true, decide_eq_true_eq] at hs'
      obtain ⟨⟨⟨s1, s2⟩, s3⟩, s4⟩ := hs'
      obtain ⟨m1, m2, m3⟩ := mul_ok (w := f.w) (h := f.h) (by omega) (by omega) (by omega) (by omega)
      (refine pure_of_ev tt_ok Try.func29 rfl (by decide +kernel) (Nat.le_of_ble_eq_true rfl) ?_; simp only [Try.f29])
      repeat' first
        | refine ev_seq (fun K hK => ?_)
        | ((first | refine evr tt_ok false ?_ | refine ev_skip ?_ | refine ev_ret ?_ | refine ev_exit ?_ | refine evc (fun X Y hX hY => ?_)); simp only [go_sem, reduceAdd, reduceSub, reduceMul, reduceEqDiff, reduceLeDiff, Nat.reduceBEq, reduceLT, reduceIte, reduceCtorEq, Int.reduceToNat, hz', hs, m3, List.length_map]; try (first | (refine ⟨fun h => hX ?_, fun h => hY ?_⟩; clear hX hY) | (refine hX ?_; clear hX hY) | (refine hY ?_; clear hX hY)))
        | refine ev_block ?_
        | (apply hK; clear hK)
        | apply_assumption -exfalso -symm only [*]
        | (refine And.intro ?_ ?_; first | omega | assumption | (unfold maxLen; omega) | (simp only [decide_eq_true_eq, decide_eq_false_iff_not, Int.not_lt, Int.not_le] at h; omega))
        | ((first | apply callP | apply callPG | apply callP0); (case' hv => (simp only [go_sem, reduceAdd, reduceSub, reduceMul, reduceEqDiff, reduceLeDiff, Nat.reduceBEq, reduceLT, reduceIte, reduceCtorEq, Int.reduceToNat, hz', hs, m3, List.length_map]; try exact rfl)); (case' hp => (first | refine' ewithin_pure f.x 16384 (by omega) | (refine' (fun hg => ?_); refine' ewithin_pure f.x 16384 (by omega)) | refine' ewithin_pure f.y 16384 (by omega) | (refine' (fun hg => ?_); refine' ewithin_pure f.y 16384 (by omega)))); (case' h => ((first | refine evOps_fin ?_ | refine And.intro ?_ (evD_fin ?_) | refine evD_fin ?_) <;> simp only [go_sem, reduceAdd, reduceSub, reduceMul, reduceEqDiff, reduceLeDiff, Nat.reduceBEq, reduceLT, reduceIte, reduceCtorEq, Int.reduceToNat, hz', hs, m3, List.length_map])))
        | (refine callX ?_; (first | refine evOps_fin ?_ | refine And.intro ?_ (evD_fin ?_) | refine evD_fin ?_) <;> simp only [go_sem, reduceAdd, reduceSub, reduceMul, reduceEqDiff, reduceLeDiff, Nat.reduceBEq, reduceLT, reduceIte, reduceCtorEq, Int.reduceToNat, hz', hs, m3, List.length_map])
      refine bool_dec ?_
      simp only [Bool.and_eq_true, decide_eq_true_eq, beq_iff_eq]
      unfold Fld.ok
      constructor
      · rintro ⟨⟨h1, h2, h3⟩, h4, h5⟩
        exact ⟨by omega, s2, by omega, s4, by omega, h1, h2, h3, h4, h5, by omega⟩
      · rintro ⟨_, _, _, _, _, h6, h7, h8, h9, h10, _⟩
        exact ⟨⟨h6, h7, h8⟩, h9, h10⟩
    · have hs' : (((decide (0 < f.w) && decide (f.w ≤ 64)) && decide (0 < f.h)) && decide (f.h ≤ 64)) = false := by simpa using hs
      have hn : decide f.ok = false := decide_eq_false fun h => by
        obtain ⟨h1, h2, h3, h4, h5, _⟩ := h
        simp only [Bool.or_eq_true, beq_iff_eq] at hz
        simp only [Bool.and_eq_true, decide_eq_true_eq] at hs
        omega
      rw [hn]
      (refine pure_of_ev tt_ok Try.func29 rfl (by decide +kernel) (Nat.le_of_ble_eq_true rfl) ?_; simp only [Try.f29])
      repeat' first
        | refine ev_seq (fun K hK => ?_)
        | ((first | refine evr tt_ok false ?_ | refine ev_skip ?_ | refine ev_ret ?_ | refine ev_exit ?_ | refine evc (fun X Y hX hY => ?_)); simp only [go_sem, reduceAdd, reduceSub, reduceMul, reduceEqDiff, reduceLeDiff, Nat.reduceBEq, reduceLT, reduceIte, reduceCtorEq, Int.reduceToNat, hz', hs', List.length_map]; try (first | (refine ⟨fun h => hX ?_, fun h => hY ?_⟩; clear hX hY) | (refine hX ?_; clear hX hY) | (refine hY ?_; clear hX hY)))
        | refine ev_block ?_
        | (apply hK; clear hK)
        | apply_assumption -exfalso -symm only [*]
        | (refine And.intro ?_ ?_; first | omega | assumption | (unfold maxLen; omega) | (simp only [decide_eq_true_eq, decide_eq_false_iff_not, Int.not_lt, Int.not_le] at h; omega))
        | ((first | apply callP | apply callPG | apply callP0); (case' hv => (simp only [go_sem, reduceAdd, reduceSub, reduceMul, reduceEqDiff, reduceLeDiff, Nat.reduceBEq, reduceLT, reduceIte, reduceCtorEq, Int.reduceToNat, hz', hs', List.length_map]; try exact rfl)); (case' hp => (first | refine' ewithin_pure f.x 16384 (by omega) | (refine' (fun hg => ?_); refine' ewithin_pure f.x 16384 (by omega)) | refine' ewithin_pure f.y 16384 (by omega) | (refine' (fun hg => ?_); refine' ewithin_pure f.y 16384 (by omega)))); (case' h => ((first | refine evOps_fin ?_ | refine And.intro ?_ (evD_fin ?_) | refine evD_fin ?_) <;> simp only [go_sem, reduceAdd, reduceSub, reduceMul, reduceEqDiff, reduceLeDiff, Nat.reduceBEq, reduceLT, reduceIte, reduceCtorEq, Int.reduceToNat, hz', hs', List.length_map])))
        | (refine callX ?_; (first | refine evOps_fin ?_ | refine And.intro ?_ (evD_fin ?_) | refine evD_fin ?_) <;> simp only [go_sem, reduceAdd, reduceSub, reduceMul, reduceEqDiff, reduceLeDiff, Nat.reduceBEq, reduceLT, reduceIte, reduceCtorEq, Int.reduceToNat, hz', hs', List.length_map])
theorem rvfield_pure (f : Fld) : Pure Try.prog 14 [.agg [.int .i64 f.x, .int .i64 f.y, .int .i64 f.w, .int .i64 f.h, .sl (f.v.map enB)]] (.bool (decide f.ok)) := by
  by_cases hb : 0 ≤ f.w ∧ f.w ≤ 64 ∧ 0 ≤ f.h ∧ f.h ≤ 64
  · obtain ⟨b1, b2, b3, b4⟩ := hb
    obtain ⟨m1, m2, m3⟩ := mul_ok (w := f.w) (h := f.h) b1 (by omega) b3 (by omega)
    have n1 : ¬ f.w < 0 := by omega
    have n2 : ¬ 64 < f.w := by omega
    have n3 : ¬ f.h < 0 := by omega
    have n4 : ¬ 64 < f.h := by omega
    by_cases hc : ((!((f.w == 0) == (f.h == 0))) || ((f.v.length : Int) != f.w * f.h)) = true
    · have hn : decide f.ok = false := decide_eq_false fun h => by
        obtain ⟨_, _, _, _, h5, h6, _⟩ := h
        simp only [Bool.or_eq_true, Bool.not_eq_true', bne_iff_ne, ne_eq] at hc
        rcases hc with hc | hc
        · rw [beq_eq_false_iff_ne] at hc
          apply hc
          rw [Bool.eq_iff_iff, beq_iff_eq, beq_iff_eq]; exact h5
        · exact hc h6
      rw [hn]
      (refine pure_of_ev tt_ok Try.func14 rfl (by decide +kernel) (Nat.le_of_ble_eq_true rfl) ?_; simp only [Try.f14])
      repeat' first
        | refine ev_seq (fun K hK => ?_)
        | ((first | refine evr tt_ok false ?_ | refine ev_skip ?_ | refine ev_ret ?_ | refine ev_exit ?_ | refine evc (fun X Y hX hY => ?_)); simp only [go_sem, reduceAdd, reduceSub, reduceMul, reduceEqDiff, reduceLeDiff, Nat.reduceBEq, reduceLT, reduceIte, reduceCtorEq, Int.reduceToNat, n1, n2, n3, n4, m3, hc, List.length_map]; try (first | (refine ⟨fun h => hX ?_, fun h => hY ?_⟩; clear hX hY) | (refine hX ?_; clear hX hY) | (refine hY ?_; clear hX hY)))
        | refine ev_block ?_
        | (apply hK; clear hK)
        | apply_assumption -exfalso -symm only [*]
        | (refine And.intro ?_ ?_; first | omega | assumption | (unfold maxLen; omega) | (simp only [decide_eq_true_eq, decide_eq_false_iff_not, Int.not_lt, Int.not_le] at h; omega))
    · have hc' : ((!((f.w == 0) == (f.h == 0))) || ((f.v.length : Int) != f.w * f.h)) = false := by simpa using hc
      have hc2 := hc'
      simp only [Bool.or_eq_false_iff, Bool.not_eq_false', beq_iff_eq, bne_eq_false_iff_eq] at hc2
      obtain ⟨e1, e2⟩ := hc2
      rw [Bool.eq_iff_iff, beq_iff_eq, beq_iff_eq] at e1
      (refine pure_of_ev tt_ok Try.func14 rfl (by decide +kernel) (Nat.le_of_ble_eq_true rfl) ?_; simp only [Try.f14])
      repeat' first
        | refine ev_seq (fun K hK => ?_)
        | ((first | refine evr tt_ok false ?_ | refine ev_skip ?_ | refine ev_ret ?_ | refine ev_exit ?_ | refine evc (fun X Y hX hY => ?_)); simp only [go_sem, reduceAdd, reduceSub, reduceMul, reduceEqDiff, reduceLeDiff, Nat.reduceBEq, reduceLT, reduceIte, reduceCtorEq, Int.reduceToNat, n1, n2, n3, n4, m3, hc', List.length_map]; try (first | (refine ⟨fun h => hX ?_, fun h => hY ?_⟩; clear hX hY) | (refine hX ?_; clear hX hY) | (refine hY ?_; clear hX hY)))
        | refine ev_block ?_
        | (apply hK; clear hK)
        | apply_assumption -exfalso -symm only [*]
        | (refine And.intro ?_ ?_; first | omega | assumption | (unfold maxLen; omega) | (simp only [decide_eq_true_eq, decide_eq_false_iff_not, Int.not_lt, Int.not_le] at h; omega))
        | ((first | apply callP | apply callPG | apply callP0); (case' hv => (simp only [go_sem, reduceAdd, reduceSub, reduceMul, reduceEqDiff, reduceLeDiff, Nat.reduceBEq, reduceLT, reduceIte, reduceCtorEq, Int.reduceToNat, n1, n2, n3, n4, m3, hc', List.length_map]; try exact rfl)); (case' hp => (first | refine' bsize_pure f.x 16384 (by omega) | (refine' (fun hg => ?_); refine' bsize_pure f.x 16384 (by omega)) | refine' bsize_pure f.y 16384 (by omega) | (refine' (fun hg => ?_); refine' bsize_pure f.y 16384 (by omega)))); (case' h => ((first | refine evOps_fin ?_ | refine And.intro ?_ (evD_fin ?_) | refine evD_fin ?_) <;> simp only [go_sem, reduceAdd, reduceSub, reduceMul, reduceEqDiff, reduceLeDiff, Nat.reduceBEq, reduceLT, reduceIte, reduceCtorEq, Int.reduceToNat, n1, n2, n3, n4, m3, hc', List.length_map])))
        | (refine callX ?_; (first | refine evOps_fin ?_ | refine And.intro ?_ (evD_fin ?_) | refine evD_fin ?_) <;> simp only [go_sem, reduceAdd, reduceSub, reduceMul, reduceEqDiff, reduceLeDiff, Nat.reduceBEq, reduceLT, reduceIte, reduceCtorEq, Int.reduceToNat, n1, n2, n3, n4, m3, hc', List.length_map])
      refine bool_dec ?_
      simp only [Bool.and_eq_true, Bool.or_eq_true, decide_eq_true_eq, beq_iff_eq]
      unfold Fld.ok
      constructor
      · rintro ⟨⟨⟨h1, h2⟩, h3, h4⟩, h5⟩
        exact ⟨b1, b2, b3, b4, e1, e2, by omega, h2, by omega, h4, fun h => by rcases h5 with h5 | h5; omega; exact h5⟩
      · rintro ⟨_, _, _, _, _, _, h7, h8, h9, h10, h11⟩
        refine ⟨⟨⟨by omega, h8⟩, by omega, h10⟩, ?_⟩
        by_cases h : 0 < f.w
        · exact .inl h
        · exact .inr (h11 (by omega))
  · have hn : decide f.ok = false := decide_eq_false fun h => hb ⟨h.1, h.2.1, h.2.2.1, h.2.2.2.1⟩
    rw [hn]
    have hc : (((decide (f.w < 0) || decide (64 < f.w)) || decide (f.h < 0)) || decide (64 < f.h)) = true := by
      simp only [Bool.or_eq_true, decide_eq_true_eq]; omega
    (refine pure_of_ev tt_ok Try.func14 rfl (by decide +kernel) (Nat.le_of_ble_eq_true rfl) ?_; simp only [Try.f14])
    repeat' first
      | refine ev_seq (fun K hK => ?_)
      | ((first | refine evr tt_ok false ?_ | refine ev_skip ?_ | refine ev_ret ?_ | refine ev_exit ?_ | refine evc (fun X Y hX hY => ?_)); simp only [go_sem, reduceAdd, reduceSub, reduceMul, reduceEqDiff, reduceLeDiff, Nat.reduceBEq, reduceLT, reduceIte, reduceCtorEq, Int.reduceToNat, hc, List.length_map]; try (first | (refine ⟨fun h => hX ?_, fun h => hY ?_⟩; clear hX hY) | (refine hX ?_; clear hX hY) | (refine hY ?_; clear hX hY)))
      | refine ev_block ?_
      | (apply hK; clear hK)
      | apply_assumption -exfalso -symm only [*]
      | (refine And.intro ?_ ?_; first | omega | assumption | (unfold maxLen; omega) | (simp only [decide_eq_true_eq, decide_eq_false_iff_not, Int.not_lt, Int.not_le] at h; omega))
theorem far_pure (n : Int) : Pure Try.prog 33 [.int .i64 n] (.bool (farM n)) := by
  (refine pure_of_ev tt_ok Try.func33 rfl (by decide +kernel) (Nat.le_of_ble_eq_true rfl) ?_; simp only [Try.f33])
  repeat' first
    | refine ev_seq (fun K hK => ?_)
    | ((first | refine evr tt_ok false ?_ | refine ev_skip ?_ | refine ev_ret ?_ | refine ev_exit ?_ | refine evc (fun X Y hX hY => ?_)); simp only [go_sem, reduceAdd, reduceSub, reduceMul, reduceEqDiff, reduceLeDiff, Nat.reduceBEq, reduceLT, reduceIte, reduceCtorEq, Int.reduceToNat]; try (first | (refine ⟨fun h => hX ?_, fun h => hY ?_⟩; clear hX hY) | (refine hX ?_; clear hX hY) | (refine hY ?_; clear hX hY)))
    | refine ev_block ?_
    | (apply hK; clear hK)
    | apply_assumption -exfalso -symm only [*]
    | (refine And.intro ?_ ?_; first | omega | assumption | (unfold maxLen; omega) | (simp only [decide_eq_true_eq, decide_eq_false_iff_not, Int.not_lt, Int.not_le] at h; omega))
  rfl
/-! ### a value of a field -/
theorem wrapIn {x a w : Int} (hx : -9223372036854775808 ≤ x ∧ x ≤ 9223372036854775807) (ha : -32768 ≤ a ∧ a ≤ 32768) (hw : 0 ≤ w ∧ w ≤ 128) :
    (0 ≤ IntKind.i64.wrap (x - a) ∧ IntKind.i64.wrap (x - a) < w → IntKind.i64.wrap (x - a) = x - a) ∧ (0 ≤ x - a ∧ x - a < w → IntKind.i64.wrap (x - a) = x - a) := by
  rw [IntKind.wrap_i64]; omega
theorem at_pure (f : Fld) (hf : f.fine) (x y : Int) (hx : -9223372036854775808 ≤ x ∧ x ≤ 9223372036854775807) (hy : -9223372036854775808 ≤ y ∧ y ≤ 9223372036854775807) :
    Pure Try.prog 36 [.agg [.int .i64 f.x, .int .i64 f.y, .int .i64 f.w, .int .i64 f.h, .sl (f.v.map enB)], .int .i64 x, .int .i64 y] (.int .u8 (atM f x y)) := by
  obtain ⟨f1, f2, f3, f4, f5, f6, f7, f8, f9, f10⟩ := hf
  have ki := wrapIn (x := x) (a := f.x) (w := f.w) hx ⟨f6, f7⟩ ⟨f1, f2⟩
  have kj := wrapIn (x := y) (a := f.y) (w := f.h) hy ⟨f8, f9⟩ ⟨f3, f4⟩
  obtain ⟨i, hi⟩ : ∃ i, IntKind.i64.wrap (x - f.x) = i := ⟨_, rfl⟩
  obtain ⟨j, hj⟩ : ∃ j, IntKind.i64.wrap (y - f.y) = j := ⟨_, rfl⟩
  rw [hi] at ki
  rw [hj] at kj
  by_cases hin : inF f x y
  · have h0 := hin
    unfold inF at h0
    obtain ⟨p1, p2, p3, p4⟩ := h0
    have ei := ki.2 ⟨p1, p2⟩
    have ej := kj.2 ⟨p3, p4⟩
    have n1 : ¬ i < 0 := by omega
    have n2 : ¬ f.w ≤ i := by omega
    have n3 : ¬ j < 0 := by omega
    have n4 : ¬ f.h ≤ j := by omega
    have e : atM f x y = f.v.getD (j * f.w + i).toNat 0 := by unfold atM; rw [if_pos hin, ei, ej]
    obtain ⟨q1, q2⟩ := mul_in (w := f.w) (h := f.h) (i := i) (j := j) (by omega) (by omega) (by omega) (by omega)
    have q3 := (mul_ok f1 f2 f3 f4).2.1
    have q4 := (mul_small (a := j) (b := f.w) (n := 128) (m := 128) (by omega) (by omega) f1 f2)
    have w1 : IntKind.i64.wrap (j * f.w) = j * f.w := w64 (by omega) (by omega)
    have w2 : IntKind.i64.wrap (j * f.w + i) = j * f.w + i := w64 (by omega) (by omega)
    have q5 : j * f.w + i < (f.v.length : Int) := by omega
    rw [e]
    (refine pure_of_ev tt_ok Try.func36 rfl (by decide +kernel) (Nat.le_of_ble_eq_true rfl) ?_; simp only [Try.f36])
    repeat' first
      | refine ev_seq (fun K hK => ?_)
      | ((first | refine evrd (id := 1) hmix tt_ok false [([], false), ([], false), ([], false), ([], false), ([], false), ([], false), ([], false), ([], false), ([], false), ([], false)] (by decide +kernel) ?_ | refine evr tt_ok false ?_ | refine ev_skip ?_ | refine ev_ret ?_ | refine ev_exit ?_ | refine evc (fun X Y hX hY => ?_)); simp only [go_sem, reduceAdd, reduceSub, reduceMul, reduceEqDiff, reduceLeDiff, Nat.reduceBEq, reduceLT, reduceIte, reduceCtorEq, Int.reduceToNat, hi, hj, n1, n2, n3, n4, w1, w2, q1, q5, List.length_map, byte_get]; try (first | (refine ⟨fun h => hX ?_, fun h => hY ?_⟩; clear hX hY) | (refine hX ?_; clear hX hY) | (refine hY ?_; clear hX hY)))
      | refine ev_block ?_
      | (apply hK; clear hK)
      | apply_assumption -exfalso -symm only [*]
      | (refine And.intro ?_ ?_; first | omega | assumption | (unfold maxLen; omega) | (simp only [decide_eq_true_eq, decide_eq_false_iff_not, Int.not_lt, Int.not_le] at h; omega))
  · have hc : (((decide (i < 0) || decide (f.w ≤ i)) || decide (j < 0)) || decide (f.h ≤ j)) = true := by
      simp only [Bool.or_eq_true, decide_eq_true_eq]
      unfold inF at hin
      omega
    rw [at_out hin]
    (refine pure_of_ev tt_ok Try.func36 rfl (by decide +kernel) (Nat.le_of_ble_eq_true rfl) ?_; simp only [Try.f36])
    repeat' first
      | refine ev_seq (fun K hK => ?_)
      | ((first | refine evrd (id := 1) hmix tt_ok false [([], false), ([], false), ([], false), ([], false), ([], false), ([], false), ([], false), ([], false), ([], false), ([], false)] (by decide +kernel) ?_ | refine evr tt_ok false ?_ | refine ev_skip ?_ | refine ev_ret ?_ | refine ev_exit ?_ | refine evc (fun X Y hX hY => ?_)); simp only [go_sem, reduceAdd, reduceSub, reduceMul, reduceEqDiff, reduceLeDiff, Nat.reduceBEq, reduceLT, reduceIte, reduceCtorEq, Int.reduceToNat, hi, hj, hc]; try (first | (refine ⟨fun h => hX ?_, fun h => hY ?_⟩; clear hX hY) | (refine hX ?_; clear hX hY) | (refine hY ?_; clear hX hY)))
      | refine ev_block ?_
      | (apply hK; clear hK)
      | apply_assumption -exfalso -symm only [*]
      | (refine And.intro ?_ ?_; first | omega | assumption | (unfold maxLen; omega) | (simp only [decide_eq_true_eq, decide_eq_false_iff_not, Int.not_lt, Int.not_le] at h; omega))
end Go.Proofs.Ytbpchamlhblddaa
