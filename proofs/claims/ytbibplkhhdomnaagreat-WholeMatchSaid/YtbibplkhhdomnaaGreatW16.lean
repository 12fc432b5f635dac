import Derived.Test.YtbibplkhhdomnaaGreatW15
set_option linter.all false
namespace Go.Proofs.YtbibplkhhdomnaaGreat
open Nat (reduceAdd reduceSub reduceMul reduceEqDiff reduceLeDiff reduceLT)
open Go Go.K
set_option maxRecDepth 20000
set_option maxHeartbeats 4000000
def prt (g : Nat → Int) (i n : Nat) : List Int := (List.range n).map fun j => if j < i then g j else 0
theorem prt_len (g : Nat → Int) (i n : Nat) : (prt g i n).length = n := by simp [prt]
theorem prt_zero (g : Nat → Int) (n : Nat) : prt g 0 n = List.replicate n 0 := by
  refine List.ext_getElem (by simp [prt]) fun i h1 h2 => by simp [prt]
theorem prt_set (g : Nat → Int) {i n : Nat} (h : i < n) : (prt g i n).set i (g i) = prt g (i + 1) n := by
  refine List.ext_getElem (by simp [prt]) fun k h1 h2 => ?_
  rw [List.getElem_set]
  split
  · rename_i h3; subst h3; simp [prt]
  · simp only [prt, List.getElem_map, List.getElem_range]
    by_cases h4 : k < i
    · rw [if_pos h4, if_pos (by omega)]
    · rw [if_neg h4, if_neg (by omega)]
theorem prt_all (g : Nat → Int) (n : Nat) : prt g n n = (List.range n).map g := by
  unfold prt
  refine List.map_congr_left fun j hj => if_pos (List.mem_range.1 hj)
def enB (b : Int) : List V := [.int .u8 b]
def enJ (b : Int) : List V := [.int .i64 b]
theorem byte_get (L : List Int) (i : Nat) : (L.map enB).getD i [.int .u8 0] = [.int .u8 (L.getD i 0)] := getD_map (f := enB) (d := 0) rfl
theorem num_get (L : List Int) (i : Nat) : (L.map enJ).getD i [.int .i64 0] = [.int .i64 (L.getD i 0)] := getD_map (f := enJ) (d := 0) rfl
theorem lit_enB (l : List Int) : litRows (l.map enB) = true := litRows_map (fun _ => rfl) l
theorem lit_enJ (l : List Int) : litRows (l.map enJ) = true := litRows_map (fun _ => rfl) l
theorem rep_enB (n : Nat) : List.replicate n [V.int .u8 0] = (List.replicate n 0).map enB := by rw [List.map_replicate]; rfl
theorem rep_enJ (n : Nat) : List.replicate n [V.int .i64 0] = (List.replicate n 0).map enJ := by rw [List.map_replicate]; rfl
def encF (f : Fld) : List V := [.int .i64 f.x, .int .i64 f.y, .int .i64 f.w, .int .i64 f.h, .sl (f.v.map enB)]
theorem ewithin_pure (n k : Int) (hk : -4611686018427387904 ≤ k ∧ k ≤ 4611686018427387904) : Pure Tryz.prog 25 [.int .i64 n, .int .i64 k] (.bool (decide (-k ≤ n) && decide (n ≤ k))) := by
  have hw : IntKind.i64.wrap (0 - k) = -k := by rw [w64] <;> omega
  (refine pure_of_ev tt_ok Tryz.func25 rfl (by decide +kernel) (Nat.le_of_ble_eq_true rfl) ?_; simp only [Tryz.f25])
  repeat' first
    | refine ev_seq (fun K hK => ?_)
    | ((first | refine evr tt_ok false ?_ | refine ev_skip ?_ | refine ev_ret ?_ | refine ev_exit ?_ | refine evc (fun X Y hX hY => ?_)); simp only [go_sem, reduceAdd, reduceSub, reduceMul, reduceEqDiff, reduceLeDiff, Nat.reduceBEq, reduceLT, reduceIte, reduceCtorEq, Int.reduceToNat, hw]; try (first | (refine ⟨fun h => hX ?_, fun h => hY ?_⟩; clear hX hY) | (refine hX ?_; clear hX hY) | (refine hY ?_; clear hX hY)))
    | refine ev_block ?_
    | (apply hK; clear hK)
    | apply_assumption -exfalso -symm only [*]
    | (refine And.intro ?_ ?_; first | omega | assumption | (unfold maxLen; omega) | (simp only [decide_eq_true_eq, decide_eq_false_iff_not, Int.not_lt, Int.not_le] at h; omega))
theorem mul_ok {w h : Int} (h1 : 0 ≤ w) (h2 : w ≤ 128) (h3 : 0 ≤ h) (h4 : h ≤ 128) : 0 ≤ w * h ∧ w * h ≤ 16384 ∧ IntKind.i64.wrap (w * h) = w * h := by
  have := mul_small h1 h2 h3 h4
  exact ⟨by omega, by omega, w64 (by omega) (by omega)⟩
theorem vfield_pure (f : Fld) : Pure Tryz.prog 35 [.agg [.int .i64 f.x, .int .i64 f.y, .int .i64 f.w, .int .i64 f.h, .sl (f.v.map enB)]] (.bool (decide f.ok)) := by
  by_cases hz : (f.w == 0 || f.h == 0) = true
  · (refine pure_of_ev tt_ok Tryz.func35 rfl (by decide +kernel) (Nat.le_of_ble_eq_true rfl) ?_; simp only [Tryz.f35])
    repeat' first
      | refine ev_seq (fun K hK => ?_)
      | ((first | refine evr tt_ok false ?_ | refine ev_skip ?_ | refine ev_ret ?_ | refine ev_exit ?_ | refine evc (fun X Y hX hY => ?_)); simp only [go_sem, reduceAdd, reduceSub, reduceMul, reduceEqDiff, reduceLeDiff, Nat.reduceBEq, reduceLT, reduceIte, reduceCtorEq, Int.reduceToNat, hz, List.length_map]; try (first | (refine ⟨fun h => hX ?_, fun h => hY ?_⟩; clear hX hY) | (refine hX ?_; clear hX hY) | (refine hY ?_; clear hX hY)))
      | refine ev_block ?_
      | (apply hK; clear hK)
      | apply_assumption -exfalso -symm only [*]
      | (refine And.intro ?_ ?_; first | omega | assumption | (unfold maxLen; omega) | (simp only [decide_eq_true_eq, decide_eq_false_iff_not, Int.not_lt, Int.not_le] at h; omega))
    refine bool_dec ?_
    simp only [Bool.and_eq_true, Bool.or_eq_true, beq_iff_eq] at hz ⊢
    unfold Fld.ok
    constructor
    · rintro ⟨⟨⟨⟨h1, h2⟩, h3⟩, h4⟩, h5⟩
      rw [h1, h2, h3, h4, h5]
      simp
    · rintro ⟨h1, h2, h3, h4, h5, h6, h7, h8, h9, h10, h11⟩
      have hw : f.w = 0 := by rcases hz with h | h; exact h; exact h5.2 h
      have hh := h5.1 hw
      have h12 := h11 hw
      rw [hw, hh] at h6
      exact ⟨⟨⟨⟨hw, hh⟩, h12.1⟩, h12.2⟩, by simpa using h6⟩
  · have hz' : (f.w == 0 || f.h == 0) = false := by simpa using hz
    by_cases hs : (((decide (0 < f.w) && decide (f.w ≤ 64)) && decide (0 < f.h)) && decide (f.h ≤ 64)) = true
    · have hs' := hs
      simp only [Bool.and_eq_true, decide_eq_true_eq] at hs'
      obtain ⟨⟨⟨s1, s2⟩, s3⟩, s4⟩ := hs'
      obtain ⟨m1, m2, m3⟩ := mul_ok (w := f.w) (h := f.h) (by omega) (by omega) (by omega) (by omega)
      (refine pure_of_ev tt_ok Tryz.func35 rfl (by decide +kernel) (Nat.le_of_ble_eq_true rfl) ?_; simp only [Tryz.f35])
      repeat' first
        | refine ev_seq (fun K hK => ?_)
        | ((first | refine evr tt_ok false ?_ | refine ev_skip ?_ | refine ev_ret ?_ | refine ev_exit ?_ | refine evc (fun X Y hX hY => ?_)); simp only [go_sem, reduceAdd, reduceSub, reduceMul, reduceEqDiff, reduceLeDiff, Nat.reduceBEq, reduceLT, reduceIte, reduceCtorEq, Int.reduceToNat, hz', hs, m3, List.length_map]; try (first | (refine ⟨fun h => hX ?_, fun h => hY ?_⟩; clear hX hY) | (refine hX ?_; clear hX hY) | (refine hY ?_; clear hX hY)))
        | refine ev_block ?_
        | (apply hK; clear hK)
        | apply_assumption -exfalso -symm only [*]
        | (refine And.intro ?_ ?_; first | omega | assumption | (unfold maxLen; omega) | (simp only [decide_eq_true_eq, decide_eq_false_iff_not, Int.not_lt, Int.not_le] at h; omega))
        | ((first | apply callP | apply callPG | apply callP0); (case' hv => (simp only [go_sem, reduceAdd, reduceSub, reduceMul, reduceEqDiff, reduceLeDiff, Nat.reduceBEq, reduceLT, reduceIte, reduceCtorEq, Int.reduceToNat, hz', hs, m3, List.length_map]; try exact rfl)); (case' hp => (first | refine' ewithin_pure f.x 16384 (by omega) | (refine' (fun hg => ?_); refine' ewithin_pure f.x 16384 (by omega)) | refine' ewithin_pure f.y 16384 (by omega) | (refine' (fun hg => ?_); refine' ewithin_pure f.y 16384 (by omega)))); (case' h => ((first | refine evOps_fin ?_ | refine And.intro ?_ (evD_fin ?_) | refine evD_fin ?_) <;> simp only [go_sem, reduceAdd, reduceSub, reduceMul, reduceEqDiff, reduceLeDiff, Nat.reduceBEq, reduceLT, reduceIte, reduceCtorEq, Int.reduceToNat, hz', hs, m3, List.length_map])))
        | (refine callX ?_; (first | refine evOps_fin ?_ | refine And.intro ?_ (evD_fin ?_) | refine evD_fin ?_) <;> simp only [go_sem, reduceAdd, reduceSub, reduceMul, reduceEqDiff, reduceLeDiff, Nat.reduceBEq, reduceLT, reduceIte, reduceCtorEq, Int.reduceToNat, hz', hs, m3, List.length_map])
      refine bool_dec ?_
      simp only [Bool.and_eq_true, decide_eq_true_eq, beq_iff_eq]
      unfold Fld.ok
      constructor
      · rintro ⟨⟨h1, h2, h3⟩, h4, h5⟩
        exact ⟨by omega, s2, by omega, s4, by omega, h1, h2, h3, h4, h5, by omega⟩
      · rintro ⟨_, _, _, _, _, h6, h7, h8, h9, h10, _⟩
        exact ⟨⟨h6, h7, h8⟩, h9, h10⟩
    · have hs' : (((decide (0 < f.w) && decide (f.w ≤ 64)) && decide (0 < f.h)) && decide (f.h ≤ 64)) = false := by simpa using hs
      have hn : decide f.ok = false := decide_eq_false fun h => by
        obtain ⟨h1, h2, h3, h4, h5, _⟩ := h
        simp only [Bool.or_eq_true, beq_iff_eq] at hz
        simp only [Bool.and_eq_true, decide_eq_true_eq] at hs
        omega
      rw [hn]
      (refine pure_of_ev tt_ok Tryz.func35 rfl (by decide +kernel) (Nat.le_of_ble_eq_true rfl) ?_; simp only [Tryz.f35])
      repeat' first
        | refine ev_seq (fun K hK => ?_)
        | ((first | refine evr tt_ok false ?_ | refine ev_skip ?_ | refine ev_ret ?_ | refine ev_exit ?_ | refine evc (fun X Y hX hY => ?_)); simp only [go_sem, reduceAdd, reduceSub, reduceMul, reduceEqDiff, reduceLeDiff, Nat.reduceBEq, reduceLT, reduceIte, reduceCtorEq, Int.reduceToNat, hz', hs', List.length_map]; try (first | (refine ⟨fun h => hX ?_, fun h => hY ?_⟩; clear hX hY) | (refine hX ?_; clear hX hY) | (refine hY ?_; clear hX hY)))
        | refine ev_block ?_
        | (apply hK; clear hK)
        | apply_assumption -exfalso -symm only [*]
        | (refine And.intro ?_ ?_; first | omega | assumption | (unfold maxLen; omega) | (simp only [decide_eq_true_eq, decide_eq_false_iff_not, Int.not_lt, Int.not_le] at h; omega))
        | ((first | apply callP | apply callPG | apply callP0); (case' hv => (simp only [go_sem, reduceAdd, reduceSub, reduceMul, reduceEqDiff, reduceLeDiff, Nat.reduceBEq, reduceLT, reduceIte, reduceCtorEq, Int.reduceToNat, hz', hs', List.length_map]; try exact rfl)); (case' hp => (first | refine' ewithin_pure f.x 16384 (by omega) | (refine' (fun hg => ?_); refine' ewithin_pure f.x 16384 (by omega)) | refine' ewithin_pure f.y 16384 (by omega) | (refine' (fun hg => ?_); refine' ewithin_pure f.y 16384 (by omega)))); (case' h => ((first | refine evOps_fin ?_ | refine And.intro ?_ (evD_fin ?_) | refine evD_fin ?_) <;> simp only [go_sem, reduceAdd, reduceSub, reduceMul, reduceEqDiff, reduceLeDiff, Nat.reduceBEq, reduceLT, reduceIte, reduceCtorEq, Int.reduceToNat, hz', hs', List.length_map])))
        | (refine callX ?_; (first | refine evOps_fin ?_ | refine And.intro ?_ (evD_fin ?_) | refine evD_fin ?_) <;> simp only [go_sem, reduceAdd, reduceSub, reduceMul, reduceEqDiff, reduceLeDiff, Nat.reduceBEq, reduceLT, reduceIte, reduceCtorEq, Int.reduceToNat, hz', hs', List.length_map])
theorem far_pure (n : Int) : Pure Tryz.prog 92 [.int .i64 n] (.bool (farM n)) := by
  (refine pure_of_ev tt_ok Tryz.func92 rfl (by decide +kernel) (Nat.le_of_ble_eq_true rfl) ?_; simp only [Tryz.f92])
  repeat' first
    | refine ev_seq (fun K hK => ?_)
    | ((first | refine evr tt_ok false ?_ | refine ev_skip ?_ | refine ev_ret ?_ | refine ev_exit ?_ | refine evc (fun X Y hX hY => ?_)); simp only [go_sem, reduceAdd, reduceSub, reduceMul, reduceEqDiff, reduceLeDiff, Nat.reduceBEq, reduceLT, reduceIte, reduceCtorEq, Int.reduceToNat]; try (first | (refine ⟨fun h => hX ?_, fun h => hY ?_⟩; clear hX hY) | (refine hX ?_; clear hX hY) | (refine hY ?_; clear hX hY)))
    | refine ev_block ?_
    | (apply hK; clear hK)
    | apply_assumption -exfalso -symm only [*]
    | (refine And.intro ?_ ?_; first | omega | assumption | (unfold maxLen; omega) | (simp only [decide_eq_true_eq, decide_eq_false_iff_not, Int.not_lt, Int.not_le] at h; omega))
  rfl
theorem wrapIn {x a w : Int} (hx : -9223372036854775808 ≤ x ∧ x ≤ 9223372036854775807) (ha : -32768 ≤ a ∧ a ≤ 32768) (hw : 0 ≤ w ∧ w ≤ 128) :
    (0 ≤ IntKind.i64.wrap (x - a) ∧ IntKind.i64.wrap (x - a) < w → IntKind.i64.wrap (x - a) = x - a) ∧ (0 ≤ x - a ∧ x - a < w → IntKind.i64.wrap (x - a) = x - a) := by
  rw [IntKind.wrap_i64]; omega
theorem at_pure (f : Fld) (hf : f.fine) (x y : Int) (hx : -9223372036854775808 ≤ x ∧ x ≤ 9223372036854775807) (hy : -9223372036854775808 ≤ y ∧ y ≤ 9223372036854775807) :
    Pure Tryz.prog 91 [.agg [.int .i64 f.x, .int .i64 f.y, .int .i64 f.w, .int .i64 f.h, .sl (f.v.map enB)], .int .i64 x, .int .i64 y] (.int .u8 (atM f x y)) := by
  obtain ⟨f1, f2, f3, f4, f5, f6, f7, f8, f9, f10⟩ := hf
  have ki := wrapIn (x := x) (a := f.x) (w := f.w) hx ⟨f6, f7⟩ ⟨f1, f2⟩
  have kj := wrapIn (x := y) (a := f.y) (w := f.h) hy ⟨f8, f9⟩ ⟨f3, f4⟩
  obtain ⟨i, hi⟩ : ∃ i, IntKind.i64.wrap (x - f.x) = i := ⟨_, rfl⟩
  obtain ⟨j, hj⟩ : ∃ j, IntKind.i64.wrap (y - f.y) = j := ⟨_, rfl⟩
  rw [hi] at ki
  rw [hj] at kj
  by_cases hin : inF f x y
  · have h0 := hin
    unfold inF at h0
    obtain ⟨p1, p2, p3, p4⟩ := h0
    have ei := ki.2 ⟨p1, p2⟩
    have ej := kj.2 ⟨p3, p4⟩
    have n1 : ¬ i < 0 := by omega
    have n2 : ¬ f.w ≤ i := by omega
    have n3 : ¬ j < 0 := by omega
    have n4 : ¬ f.h ≤ j := by omega
    have e : atM f x y = f.v.getD (j * f.w + i).toNat 0 := by unfold atM; rw [if_pos hin, ei, ej]
    obtain ⟨q1, q2⟩ := mul_in (w := f.w) (h := f.h) (i := i) (j := j) (by omega) (by omega) (by omega) (by omega)
    have q3 := (mul_ok f1 f2 f3 f4).2.1
    have q4 := (mul_small (a := j) (b := f.w) (n := 128) (m := 128) (by omega) (by omega) f1 f2)
    have w1 : IntKind.i64.wrap (j * f.w) = j * f.w := w64 (by omega) (by omega)
    have w2 : IntKind.i64.wrap (j * f.w + i) = j * f.w + i := w64 (by omega) (by omega)
    have q5 : j * f.w + i < (f.v.length : Int) := by omega
    rw [e]
    (refine pure_of_ev tt_ok Tryz.func91 rfl (by decide +kernel) (Nat.le_of_ble_eq_true rfl) ?_; simp only [Tryz.f91])
    repeat' first
      | refine ev_seq (fun K hK => ?_)
      | ((first | refine evrd (id := 1) hmix tt_ok false [([], false), ([], false), ([], false), ([], false), ([], false), ([], false), ([], false), ([], false), ([], false), ([], false)] (by decide +kernel) ?_ | refine evr tt_ok false ?_ | refine ev_skip ?_ | refine ev_ret ?_ | refine ev_exit ?_ | refine evc (fun X Y hX hY => ?_)); simp only [go_sem, reduceAdd, reduceSub, reduceMul, reduceEqDiff, reduceLeDiff, Nat.reduceBEq, reduceLT, reduceIte, reduceCtorEq, Int.reduceToNat, hi, hj, n1, n2, n3, n4, w1, w2, q1, q5, List.length_map, byte_get]; try (first | (refine ⟨fun h => hX ?_, fun h => hY ?_⟩; clear hX hY) | (refine hX ?_; clear hX hY) | (refine hY ?_; clear hX hY)))
      | refine ev_block ?_
      | (apply hK; clear hK)
      | apply_assumption -exfalso -symm only [*]
      | (refine And.intro ?_ ?_; first | omega | assumption | (unfold maxLen; omega) | (simp only [decide_eq_true_eq, decide_eq_false_iff_not, Int.not_lt, Int.not_le] at h; omega))
  · have hc : (((decide (i < 0) || decide (f.w ≤ i)) || decide (j < 0)) || decide (f.h ≤ j)) = true := by
      simp only [Bool.or_eq_true, decide_eq_true_eq]
      unfold inF at hin
      omega
    rw [at_out hin]
    (refine pure_of_ev tt_ok Tryz.func91 rfl (by decide +kernel) (Nat.le_of_ble_eq_true rfl) ?_; simp only [Tryz.f91])
    repeat' first
      | refine ev_seq (fun K hK => ?_)
      | ((first | refine evrd (id := 1) hmix tt_ok false [([], false), ([], false), ([], false), ([], false), ([], false), ([], false), ([], false), ([], false), ([], false), ([], false)] (by decide +kernel) ?_ | refine evr tt_ok false ?_ | refine ev_skip ?_ | refine ev_ret ?_ | refine ev_exit ?_ | refine evc (fun X Y hX hY => ?_)); simp only [go_sem, reduceAdd, reduceSub, reduceMul, reduceEqDiff, reduceLeDiff, Nat.reduceBEq, reduceLT, reduceIte, reduceCtorEq, Int.reduceToNat, hi, hj, hc]; try (first | (refine ⟨fun h => hX ?_, fun h => hY ?_⟩; clear hX hY) | (refine hX ?_; clear hX hY) | (refine hY ?_; clear hX hY)))
      | refine ev_block ?_
      | (apply hK; clear hK)
      | apply_assumption -exfalso -symm only [*]
      | (refine And.intro ?_ ?_; first | omega | assumption | (unfold maxLen; omega) | (simp only [decide_eq_true_eq, decide_eq_false_iff_not, Int.not_lt, Int.not_le] at h; omega))
end Go.Proofs.YtbibplkhhdomnaaGreat
namespace Go.Proofs.YtbibplkhhdomnaaGreat
open Nat (reduceAdd reduceSub reduceMul reduceEqDiff reduceLeDiff reduceLT)
open Go Go.K
set_option maxRecDepth 20000
set_option maxHeartbeats 8000000
structure Bem where
  (m r : Int)
structure Prob where
  f : Fld
  s : List Bem
  (cx cy fr ct re : Int)
structure Cnd where
  (k y x : Int)
structure Blc where
  (k y x l : Int)
def enBm (b : Bem) : List V := [.int .i64 b.m, .int .i64 b.r]
def encP (p : Prob) : List V := [.int .i64 p.f.x, .int .i64 p.f.y, .int .i64 p.f.w, .int .i64 p.f.h, .sl (p.f.v.map enB), .sl (p.s.map enBm), .int .i64 p.cx, .int .i64 p.cy, .int .i64 p.fr, .int .i64 p.ct, .int .i64 p.re]
def enC (c : Cnd) : List V := [.int .i64 c.k, .int .i64 c.y, .int .i64 c.x]
def enBl (b : Blc) : List V := [.int .i64 b.k, .int .i64 b.y, .int .i64 b.x, .int .i64 b.l]
def Bem.ok (b : Bem) : Prop := 0 ≤ b.m ∧ b.m ≤ 255 ∧ -1 ≤ b.r ∧ b.r ≤ 1024
instance (b : Bem) : Decidable b.ok := by unfold Bem.ok; infer_instance
def scanOk (s : List Bem) : Prop := s.length ≤ 32 ∧ ∀ i, i < s.length → (s.getD i ⟨0, 0⟩).ok
instance (s : List Bem) : Decidable (scanOk s) := by unfold scanOk; infer_instance
def Prob.side (p : Prob) : Int := 2 * p.re + 1
def Prob.ok (p : Prob) : Prop := p.f.ok ∧ scanOk p.s ∧ (Arc.mk p.fr p.ct).ok ∧ (-262144 ≤ p.cx ∧ p.cx ≤ 262144) ∧ (-262144 ≤ p.cy ∧ p.cy ≤ 262144) ∧ (0 ≤ p.re ∧ p.re ≤ 31) ∧ p.ct * p.side * p.side ≤ 16384
instance (p : Prob) : Decidable p.ok := by unfold Prob.ok; infer_instance
theorem beam_get (L : List Bem) (i : Nat) : (L.map enBm).getD i [.int .i64 0, .int .i64 0] = [.int .i64 (L.getD i ⟨0, 0⟩).m, .int .i64 (L.getD i ⟨0, 0⟩).r] := getD_map (f := enBm) (d := ⟨0, 0⟩) rfl
theorem lit_enBl (l : List Blc) : litRows (l.map enBl) = true := litRows_map (fun _ => rfl) l
theorem mwithin_pure (n l h : Int) : Pure Tryz.prog 38 [.int .i64 n, .int .i64 l, .int .i64 h] (.bool (decide (l ≤ n) && decide (n ≤ h))) := by
  (refine pure_of_ev tt_ok Tryz.func38 rfl (by decide +kernel) (Nat.le_of_ble_eq_true rfl) ?_; simp only [Tryz.f38])
  repeat' first
    | refine ev_seq (fun K hK => ?_)
    | ((first | refine evr tt_ok false ?_ | refine ev_skip ?_ | refine ev_ret ?_ | refine ev_exit ?_ | refine evc (fun X Y hX hY => ?_)); simp only [go_sem, reduceAdd, reduceSub, reduceMul, reduceEqDiff, reduceLeDiff, Nat.reduceBEq, reduceLT, reduceIte, reduceCtorEq, Int.reduceToNat]; try (first | (refine ⟨fun h => hX ?_, fun h => hY ?_⟩; clear hX hY) | (refine hX ?_; clear hX hY) | (refine hY ?_; clear hX hY)))
    | refine ev_block ?_
    | (apply hK; clear hK)
    | apply_assumption -exfalso -symm only [*]
    | (refine And.intro ?_ ?_; first | omega | assumption | (unfold maxLen; omega) | (simp only [decide_eq_true_eq, decide_eq_false_iff_not, Int.not_lt, Int.not_le] at h; omega))
  all_goals rfl
theorem mscan_pure (s : List Bem) (hl : (s.length : Int) < 4611686018427387904) : Pure Tryz.prog 36 [.sl (s.map enBm)] (.bool (decide (scanOk s))) := by
  (refine pure_of_ev tt_ok Tryz.func36 rfl (by decide +kernel) (Nat.le_of_ble_eq_true rfl) ?_; simp only [Tryz.f36])
  repeat' first
    | refine ev_seq (fun K hK => ?_)
    | ((first | refine evr tt_ok false ?_ | refine ev_skip ?_ | refine ev_ret ?_ | refine ev_exit ?_ | refine evc (fun X Y hX hY => ?_)); simp only [go_sem, reduceAdd, reduceSub, reduceMul, reduceEqDiff, reduceLeDiff, Nat.reduceBEq, reduceLT, reduceIte, reduceCtorEq, Int.reduceToNat, List.length_map]; try (first | (refine ⟨fun h => hX ?_, fun h => hY ?_⟩; clear hX hY) | (refine hX ?_; clear hX hY) | (refine hY ?_; clear hX hY)))
    | refine ev_block ?_
    | (apply hK; clear hK)
    | apply_assumption -exfalso -symm only [*]
    | (refine And.intro ?_ ?_; first | omega | assumption | (unfold maxLen; omega) | (simp only [decide_eq_true_eq, decide_eq_false_iff_not, Int.not_lt, Int.not_le] at h; omega))
  refine ev_loop (fun i : Nat => i ≤ s.length ∧ ∀ j, j < i → (s.getD j ⟨0, 0⟩).ok)
    (fun i => ⟨25, [(7, .int .i64 i), (6, .int .i64 s.length), (5, .sl (s.map enBm)), (0, .sl (s.map enBm))], []⟩)
    (fun i => s.length - i) 0 ⟨Nat.zero_le _, fun j hj => by omega⟩ ?_ ?_
  · simp only [go_sem, reduceAdd, reduceSub, reduceMul, reduceEqDiff, reduceLeDiff, Nat.reduceBEq, reduceLT, reduceIte, reduceCtorEq, Int.reduceToNat, fits, fitT, fitOs, fitO, V.under, unders, rowsUnder]
    repeat' first | rfl | apply And.intro
  · rintro i ⟨hi, hall⟩
    have hb0 : 0 ≤ (i : Int) := by omega
    have hw : IntKind.i64.wrap ((i : Int) + 1) = ((i + 1 : Nat) : Int) := by rw [w64] <;> omega
    by_cases hlt : (i : Int) < s.length
    · have b1 := mwithin_pure (s.getD i ⟨0, 0⟩).m 0 255
      have b2 := mwithin_pure (s.getD i ⟨0, 0⟩).r (-1) 1024
      by_cases hk : (s.getD i ⟨0, 0⟩).ok
      · have e1 : (decide (0 ≤ (s.getD i ⟨0, 0⟩).m) && decide ((s.getD i ⟨0, 0⟩).m ≤ 255)) = true := by
          obtain ⟨h1, h2, h3, h4⟩ := hk; simp only [Bool.and_eq_true, decide_eq_true_eq]; exact ⟨h1, h2⟩
        have e2 : (decide (-1 ≤ (s.getD i ⟨0, 0⟩).r) && decide ((s.getD i ⟨0, 0⟩).r ≤ 1024)) = true := by
          obtain ⟨h1, h2, h3, h4⟩ := hk; simp only [Bool.and_eq_true, decide_eq_true_eq]; exact ⟨h3, h4⟩
        rw [e1] at b1
        rw [e2] at b2
        repeat' first
          | refine ev_seq (fun K hK => ?_)
          | ((first | refine evr tt_ok false ?_ | refine ev_skip ?_ | refine ev_ret ?_ | refine ev_exit ?_ | refine evc (fun X Y hX hY => ?_)); simp only [go_sem, reduceAdd, reduceSub, reduceMul, reduceEqDiff, reduceLeDiff, Nat.reduceBEq, reduceLT, reduceIte, reduceCtorEq, Int.reduceToNat, List.length_map, hb0, hw, hlt, beam_get, Int.toNat_natCast]; try (first | (refine ⟨fun h => hX ?_, fun h => hY ?_⟩; clear hX hY) | (refine hX ?_; clear hX hY) | (refine hY ?_; clear hX hY)))
          | refine ev_block ?_
          | (apply hK; clear hK)
          | apply_assumption -exfalso -symm only [*]
          | (refine And.intro ?_ ?_; first | omega | assumption | (unfold maxLen; omega) | (simp only [decide_eq_true_eq, decide_eq_false_iff_not, Int.not_lt, Int.not_le] at h; omega))
          | ((first | apply callP | apply callPG | apply callP0); (case' hv => (simp only [go_sem, reduceAdd, reduceSub, reduceMul, reduceEqDiff, reduceLeDiff, Nat.reduceBEq, reduceLT, reduceIte, reduceCtorEq, Int.reduceToNat, List.length_map, hb0, hw, hlt, beam_get, Int.toNat_natCast]; try exact rfl)); (case' hp => (first | refine' b1 | (refine' (fun hg => ?_); refine' b1) | refine' b2 | (refine' (fun hg => ?_); refine' b2))); (case' h => ((first | refine evOps_fin ?_ | refine And.intro ?_ (evD_fin ?_) | refine evD_fin ?_) <;> simp only [go_sem, reduceAdd, reduceSub, reduceMul, reduceEqDiff, reduceLeDiff, Nat.reduceBEq, reduceLT, reduceIte, reduceCtorEq, Int.reduceToNat, List.length_map, hb0, hw, hlt, beam_get, Int.toNat_natCast])))
          | (refine callX ?_; (first | refine evOps_fin ?_ | refine And.intro ?_ (evD_fin ?_) | refine evD_fin ?_) <;> simp only [go_sem, reduceAdd, reduceSub, reduceMul, reduceEqDiff, reduceLeDiff, Nat.reduceBEq, reduceLT, reduceIte, reduceCtorEq, Int.reduceToNat, List.length_map, hb0, hw, hlt, beam_get, Int.toNat_natCast])
        refine ⟨i + 1, ⟨by omega, fun j hj => ?_⟩, rfl, by omega⟩
        by_cases e : j = i
        · subst e; exact hk
        · exact hall j (by omega)
      · have hno : decide (scanOk s) = false := by rw [decide_eq_false_iff_not]; exact fun h => hk (h.2 i (by omega))
        rw [hno]
        by_cases e1 : (decide (0 ≤ (s.getD i ⟨0, 0⟩).m) && decide ((s.getD i ⟨0, 0⟩).m ≤ 255)) = true
        · have e2 : (decide (-1 ≤ (s.getD i ⟨0, 0⟩).r) && decide ((s.getD i ⟨0, 0⟩).r ≤ 1024)) = false := by
            rw [Bool.eq_false_iff]; intro h
            simp only [Bool.and_eq_true, decide_eq_true_eq] at h e1
            exact hk ⟨e1.1, e1.2, h.1, h.2⟩
          rw [e1] at b1
          rw [e2] at b2
          repeat' first
            | refine ev_seq (fun K hK => ?_)
            | ((first | refine evr tt_ok false ?_ | refine ev_skip ?_ | refine ev_ret ?_ | refine ev_exit ?_ | refine evc (fun X Y hX hY => ?_)); simp only [go_sem, reduceAdd, reduceSub, reduceMul, reduceEqDiff, reduceLeDiff, Nat.reduceBEq, reduceLT, reduceIte, reduceCtorEq, Int.reduceToNat, List.length_map, hb0, hw, hlt, beam_get, Int.toNat_natCast]; try (first | (refine ⟨fun h => hX ?_, fun h => hY ?_⟩; clear hX hY) | (refine hX ?_; clear hX hY) | (refine hY ?_; clear hX hY)))
            | refine ev_block ?_
            | (apply hK; clear hK)
            | apply_assumption -exfalso -symm only [*]
            | (refine And.intro ?_ ?_; first | omega | assumption | (unfold maxLen; omega) | (simp only [decide_eq_true_eq, decide_eq_false_iff_not, Int.not_lt, Int.not_le] at h; omega))
            | ((first | apply callP | apply callPG | apply callP0); (case' hv => (simp only [go_sem, reduceAdd, reduceSub, reduceMul, reduceEqDiff, reduceLeDiff, Nat.reduceBEq, reduceLT, reduceIte, reduceCtorEq, Int.reduceToNat, List.length_map, hb0, hw, hlt, beam_get, Int.toNat_natCast]; try exact rfl)); (case' hp => (first | refine' b1 | (refine' (fun hg => ?_); refine' b1) | refine' b2 | (refine' (fun hg => ?_); refine' b2))); (case' h => ((first | refine evOps_fin ?_ | refine And.intro ?_ (evD_fin ?_) | refine evD_fin ?_) <;> simp only [go_sem, reduceAdd, reduceSub, reduceMul, reduceEqDiff, reduceLeDiff, Nat.reduceBEq, reduceLT, reduceIte, reduceCtorEq, Int.reduceToNat, List.length_map, hb0, hw, hlt, beam_get, Int.toNat_natCast])))
            | (refine callX ?_; (first | refine evOps_fin ?_ | refine And.intro ?_ (evD_fin ?_) | refine evD_fin ?_) <;> simp only [go_sem, reduceAdd, reduceSub, reduceMul, reduceEqDiff, reduceLeDiff, Nat.reduceBEq, reduceLT, reduceIte, reduceCtorEq, Int.reduceToNat, List.length_map, hb0, hw, hlt, beam_get, Int.toNat_natCast])
        · rw [Bool.eq_false_iff.2 e1] at b1
          repeat' first
            | refine ev_seq (fun K hK => ?_)
            | ((first | refine evr tt_ok false ?_ | refine ev_skip ?_ | refine ev_ret ?_ | refine ev_exit ?_ | refine evc (fun X Y hX hY => ?_)); simp only [go_sem, reduceAdd, reduceSub, reduceMul, reduceEqDiff, reduceLeDiff, Nat.reduceBEq, reduceLT, reduceIte, reduceCtorEq, Int.reduceToNat, List.length_map, hb0, hw, hlt, beam_get, Int.toNat_natCast]; try (first | (refine ⟨fun h => hX ?_, fun h => hY ?_⟩; clear hX hY) | (refine hX ?_; clear hX hY) | (refine hY ?_; clear hX hY)))
            | refine ev_block ?_
            | (apply hK; clear hK)
            | apply_assumption -exfalso -symm only [*]
            | (refine And.intro ?_ ?_; first | omega | assumption | (unfold maxLen; omega) | (simp only [decide_eq_true_eq, decide_eq_false_iff_not, Int.not_lt, Int.not_le] at h; omega))
            | ((first | apply callP | apply callPG | apply callP0); (case' hv => (simp only [go_sem, reduceAdd, reduceSub, reduceMul, reduceEqDiff, reduceLeDiff, Nat.reduceBEq, reduceLT, reduceIte, reduceCtorEq, Int.reduceToNat, List.length_map, hb0, hw, hlt, beam_get, Int.toNat_natCast]; try exact rfl)); (case' hp => (first | refine' b1 | (refine' (fun hg => ?_); refine' b1) | refine' b2 | (refine' (fun hg => ?_); refine' b2))); (case' h => ((first | refine evOps_fin ?_ | refine And.intro ?_ (evD_fin ?_) | refine evD_fin ?_) <;> simp only [go_sem, reduceAdd, reduceSub, reduceMul, reduceEqDiff, reduceLeDiff, Nat.reduceBEq, reduceLT, reduceIte, reduceCtorEq, Int.reduceToNat, List.length_map, hb0, hw, hlt, beam_get, Int.toNat_natCast])))
            | (refine callX ?_; (first | refine evOps_fin ?_ | refine And.intro ?_ (evD_fin ?_) | refine evD_fin ?_) <;> simp only [go_sem, reduceAdd, reduceSub, reduceMul, reduceEqDiff, reduceLeDiff, Nat.reduceBEq, reduceLT, reduceIte, reduceCtorEq, Int.reduceToNat, List.length_map, hb0, hw, hlt, beam_get, Int.toNat_natCast])
    · obtain rfl : i = s.length := by omega
      have hyes : decide (scanOk s) = decide ((s.length : Int) ≤ 32) := by
        rw [Bool.eq_iff_iff]; simp only [decide_eq_true_eq]
        exact ⟨fun h => by have := h.1; omega, fun h => ⟨by omega, fun j hj => hall j hj⟩⟩
      repeat' first
        | refine ev_seq (fun K hK => ?_)
        | ((first | refine evr tt_ok false ?_ | refine ev_skip ?_ | refine ev_ret ?_ | refine ev_exit ?_ | refine evc (fun X Y hX hY => ?_)); simp only [go_sem, reduceAdd, reduceSub, reduceMul, reduceEqDiff, reduceLeDiff, Nat.reduceBEq, reduceLT, reduceIte, reduceCtorEq, Int.reduceToNat, List.length_map, hlt]; try (first | (refine ⟨fun h => hX ?_, fun h => hY ?_⟩; clear hX hY) | (refine hX ?_; clear hX hY) | (refine hY ?_; clear hX hY)))
        | refine ev_block ?_
        | (apply hK; clear hK)
        | apply_assumption -exfalso -symm only [*]
        | (refine And.intro ?_ ?_; first | omega | assumption | (unfold maxLen; omega) | (simp only [decide_eq_true_eq, decide_eq_false_iff_not, Int.not_lt, Int.not_le] at h; omega))
      rw [hyes]
end Go.Proofs.YtbibplkhhdomnaaGreat
