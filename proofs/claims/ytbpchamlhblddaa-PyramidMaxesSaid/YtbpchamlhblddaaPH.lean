import Derived.Test.YtbpchamlhblddaaPG
set_option linter.all false
namespace Go.Proofs.Ytbpchamlhblddaa
open Nat (reduceAdd reduceSub reduceMul reduceEqDiff reduceLeDiff reduceLT)
open Go Go.K
set_option maxRecDepth 20000
set_option maxHeartbeats 8000000
def pkX (f : Fld) (i : Nat) (b : Int) : Int := if b = 0 then 0 else f.x + ((i % f.W : Nat) : Int)
def pkY (f : Fld) (i : Nat) (b : Int) : Int := if b = 0 then 0 else f.y + ((i / f.W : Nat) : Int)
theorem ppeak_pure (f : Fld) (h : f.ok) (hb : bytesL f.v) {i : Nat} {b : Int} (hp : Pk f.v f.v.length i b) :
    Pure Try.prog 21 [.pi (pyrV f) 0] (.tup [.agg [.int .i64 (pkX f i b), .int .i64 (pkY f i b)], .int .u8 b]) := by
  have hlen := pyr_len f
  have p4 : List.take 1 (List.drop 4 (pyrV f)) = [.sl (f.v.map enB)] := rfl
  have p0 : List.take 1 (pyrV f) = [.int .i64 f.x] := rfl
  have p1 : List.take 1 (List.drop 1 (pyrV f)) = [.int .i64 f.y] := rfl
  have p2 : List.take 1 (List.drop 2 (pyrV f)) = [.int .i64 f.w] := rfl
  obtain ⟨eW, eH, hW, hH, hn⟩ := ok_W h
  have hns : f.W * f.H ≤ 64 * 64 := Nat.mul_le_mul hW hH
  generalize pyrV f = C at *
  by_cases h0 : f.v.length = 0
  · have hb0 : b = 0 := by
      rcases hp.at_ with ⟨e, _⟩ | ⟨_, e, _⟩
      · exact e
      · omega
    subst hb0
    have hz : ((f.v.length : Int) == 0) = true := by rw [h0]; rfl
    simp only [pkX, pkY, if_true]
    (refine pure_of_ev tt_ok Try.func21 rfl (by decide +kernel) (Nat.le_of_ble_eq_true rfl) ?_; simp only [Try.f21])
    repeat' first
      | refine ev_seq (fun K hK => ?_)
      | ((first | refine evrd (id := 7) hmix tt_ok false [([], false), ([], false), ([], false), ([], false), ([], false), ([], false), ([], false), ([], false), ([], false), ([], false), ([], false), ([], false), ([], false), ([], false), ([], false), ([], false), ([], false), ([], false), ([], false), ([], false), ([], false), ([], false), ([], false), ([], false), ([], false), ([], false), ([], false), ([], true), ([27], false), ([], false)] (by decide +kernel) ?_ | refine evr tt_ok false ?_ | refine ev_skip ?_ | refine ev_ret ?_ | refine ev_exit ?_ | refine evc (fun X Y hX hY => ?_)); simp only [go_sem, reduceAdd, reduceSub, reduceMul, reduceEqDiff, reduceLeDiff, Nat.reduceBEq, reduceLT, reduceIte, reduceCtorEq, Int.reduceToNat, hlen, p4, hz, List.length_map]; try (first | (refine ⟨fun h => hX ?_, fun h => hY ?_⟩; clear hX hY) | (refine hX ?_; clear hX hY) | (refine hY ?_; clear hX hY)))
      | refine ev_block ?_
      | (apply hK; clear hK)
      | apply_assumption -exfalso -symm only [*]
      | (refine And.intro ?_ ?_; first | omega | assumption | (unfold maxLen; omega) | (simp only [decide_eq_true_eq, decide_eq_false_iff_not, Int.not_lt, Int.not_le] at h; omega))
  · have hz : ((f.v.length : Int) == 0) = false := by rw [beq_eq_false_iff_ne]; omega
    obtain ⟨m1, k, m2, m3⟩ := mxN_spec f.v (f.v.length - 1)
    have hbm : b = mxN f.v (f.v.length - 1) := by
      have a1 := hp.all k (by omega)
      rcases hp.at_ with ⟨e, _⟩ | ⟨e1, e2, e3, _⟩
      · have := getD_byte hb k
        omega
      · have := m1 i (by omega)
        omega
    have sm := smax_pure f.v (by omega) (by omega)
    rw [← hbm] at sm
    by_cases hb0 : b = 0
    · have hq : (b == 0) = true := by rw [hb0]; rfl
      simp only [pkX, pkY, if_pos hb0]
      (refine pure_of_ev tt_ok Try.func21 rfl (by decide +kernel) (Nat.le_of_ble_eq_true rfl) ?_; simp only [Try.f21])
      repeat' first
        | refine ev_seq (fun K hK => ?_)
        | ((first | refine evrd (id := 7) hmix tt_ok false [([], false), ([], false), ([], false), ([], false), ([], false), ([], false), ([], false), ([], false), ([], false), ([], false), ([], false), ([], false), ([], false), ([], false), ([], false), ([], false), ([], false), ([], false), ([], false), ([], false), ([], false), ([], false), ([], false), ([], false), ([], false), ([], false), ([], false), ([], true), ([27], false), ([], false)] (by decide +kernel) ?_ | refine evr tt_ok false ?_ | refine ev_skip ?_ | refine ev_ret ?_ | refine ev_exit ?_ | refine evc (fun X Y hX hY => ?_)); simp only [go_sem, reduceAdd, reduceSub, reduceMul, reduceEqDiff, reduceLeDiff, Nat.reduceBEq, reduceLT, reduceIte, reduceCtorEq, Int.reduceToNat, hlen, p4, hz, hq, List.length_map]; try (first | (refine ⟨fun h => hX ?_, fun h => hY ?_⟩; clear hX hY) | (refine hX ?_; clear hX hY) | (refine hY ?_; clear hX hY)))
        | refine ev_block ?_
        | (apply hK; clear hK)
        | apply_assumption -exfalso -symm only [*]
        | (refine And.intro ?_ ?_; first | omega | assumption | (unfold maxLen; omega) | (simp only [decide_eq_true_eq, decide_eq_false_iff_not, Int.not_lt, Int.not_le] at h; omega))
        | ((first | apply callP | apply callPG | apply callP0); (case' hv => (simp only [go_sem, reduceAdd, reduceSub, reduceMul, reduceEqDiff, reduceLeDiff, Nat.reduceBEq, reduceLT, reduceIte, reduceCtorEq, Int.reduceToNat, hlen, p4, hz, hq, List.length_map]; try exact rfl)); (case' hp => (first | refine' sm | (refine' (fun hg => ?_); refine' sm))); (case' h => ((first | refine evOps_fin ?_ | refine And.intro ?_ (evD_fin ?_) | refine evD_fin ?_) <;> simp only [go_sem, reduceAdd, reduceSub, reduceMul, reduceEqDiff, reduceLeDiff, Nat.reduceBEq, reduceLT, reduceIte, reduceCtorEq, Int.reduceToNat, hlen, p4, hz, hq, List.length_map])))
        | (refine callX ?_; (first | refine evOps_fin ?_ | refine And.intro ?_ (evD_fin ?_) | refine evD_fin ?_) <;> simp only [go_sem, reduceAdd, reduceSub, reduceMul, reduceEqDiff, reduceLeDiff, Nat.reduceBEq, reduceLT, reduceIte, reduceCtorEq, Int.reduceToNat, hlen, p4, hz, hq, List.length_map])
      rw [hb0]
    · have hq : (b == 0) = false := by rw [beq_eq_false_iff_ne]; exact hb0
      rcases hp.at_ with ⟨e, _⟩ | ⟨e1, e2, e3, e4⟩
      · exact absurd e hb0
      have si := sindex_pure f.v b i (by omega) e2 e3 (fun j hj hh => by have := e4 j hj; omega)
      have hi0 : (0 : Int) ≤ (i : Int) := Int.natCast_nonneg i
      have hW1 : 0 < f.W := by
        rcases Nat.eq_zero_or_pos f.W with e | e
        · rw [e] at hn; omega
        · exact e
      have hwp : 0 < f.w := by omega
      have q1 : (i : Int).tmod f.w = ((i % f.W : Nat) : Int) := by rw [Int.tmod_eq_emod_of_nonneg hi0, ← eW, ← Int.natCast_emod]
      have q2 : (i : Int).tdiv f.w = ((i / f.W : Nat) : Int) := by rw [Int.tdiv_eq_ediv_of_nonneg hi0, ← eW, ← Int.natCast_ediv]
      have l1 := Nat.mod_lt i hW1
      have l2 := Nat.div_le_self i f.W
      obtain ⟨h1, h2, h3, h4, h5, h6, h7, h8, h9, h10, h11⟩ := h
      simp only [pkX, pkY, if_neg hb0]
      generalize i % f.W = xm at *
      generalize i / f.W = xd at *
      have w1 : IntKind.i64.wrap ((xd : Nat) : Int) = ((xd : Nat) : Int) := w64 (by omega) (by omega)
      have w2 : IntKind.i64.wrap (f.x + ((xm : Nat) : Int)) = f.x + ((xm : Nat) : Int) := w64 (by omega) (by omega)
      have w3 : IntKind.i64.wrap (f.y + ((xd : Nat) : Int)) = f.y + ((xd : Nat) : Int) := w64 (by omega) (by omega)
      (refine pure_of_ev tt_ok Try.func21 rfl (by decide +kernel) (Nat.le_of_ble_eq_true rfl) ?_; simp only [Try.f21])
      repeat' first
        | refine ev_seq (fun K hK => ?_)
        | ((first | refine evrd (id := 7) hmix tt_ok false [([], false), ([], false), ([], false), ([], false), ([], false), ([], false), ([], false), ([], false), ([], false), ([], false), ([], false), ([], false), ([], false), ([], false), ([], false), ([], false), ([], false), ([], false), ([], false), ([], false), ([], false), ([], false), ([], false), ([], false), ([], false), ([], false), ([], false), ([], true), ([27], false), ([], false)] (by decide +kernel) ?_ | refine evr tt_ok false ?_ | refine ev_skip ?_ | refine ev_ret ?_ | refine ev_exit ?_ | refine evc (fun X Y hX hY => ?_)); simp only [go_sem, reduceAdd, reduceSub, reduceMul, reduceEqDiff, reduceLeDiff, Nat.reduceBEq, reduceLT, reduceIte, reduceCtorEq, Int.reduceToNat, hlen, p4, p0, p1, p2, hz, hq, q1, q2, w1, w2, w3, List.length_map]; try (first | (refine ⟨fun h => hX ?_, fun h => hY ?_⟩; clear hX hY) | (refine hX ?_; clear hX hY) | (refine hY ?_; clear hX hY)))
        | refine ev_block ?_
        | (apply hK; clear hK)
        | apply_assumption -exfalso -symm only [*]
        | (refine And.intro ?_ ?_; first | omega | assumption | (unfold maxLen; omega) | (simp only [decide_eq_true_eq, decide_eq_false_iff_not, Int.not_lt, Int.not_le] at h; omega))
        | ((first | apply callP | apply callPG | apply callP0); (case' hv => (simp only [go_sem, reduceAdd, reduceSub, reduceMul, reduceEqDiff, reduceLeDiff, Nat.reduceBEq, reduceLT, reduceIte, reduceCtorEq, Int.reduceToNat, hlen, p4, p0, p1, p2, hz, hq, q1, q2, w1, w2, w3, List.length_map]; try exact rfl)); (case' hp => (first | refine' sm | (refine' (fun hg => ?_); refine' sm) | refine' si | (refine' (fun hg => ?_); refine' si))); (case' h => ((first | refine evOps_fin ?_ | refine And.intro ?_ (evD_fin ?_) | refine evD_fin ?_) <;> simp only [go_sem, reduceAdd, reduceSub, reduceMul, reduceEqDiff, reduceLeDiff, Nat.reduceBEq, reduceLT, reduceIte, reduceCtorEq, Int.reduceToNat, hlen, p4, p0, p1, p2, hz, hq, q1, q2, w1, w2, w3, List.length_map])))
        | (refine callX ?_; (first | refine evOps_fin ?_ | refine And.intro ?_ (evD_fin ?_) | refine evD_fin ?_) <;> simp only [go_sem, reduceAdd, reduceSub, reduceMul, reduceEqDiff, reduceLeDiff, Nat.reduceBEq, reduceLT, reduceIte, reduceCtorEq, Int.reduceToNat, hlen, p4, p0, p1, p2, hz, hq, q1, q2, w1, w2, w3, List.length_map])
theorem peak_nil : Pure Try.prog 21 [.nilp] (.tup [.agg [.int .i64 0, .int .i64 0], .int .u8 0]) := by
  (refine pure_of_ev tt_ok Try.func21 rfl (by decide +kernel) (Nat.le_of_ble_eq_true rfl) ?_; simp only [Try.f21])
  repeat' first
    | refine ev_seq (fun K hK => ?_)
    | ((first | refine evrd (id := 7) hmix tt_ok false [([], false), ([], false), ([], false), ([], false), ([], false), ([], false), ([], false), ([], false), ([], false), ([], false), ([], false), ([], false), ([], false), ([], false), ([], false), ([], false), ([], false), ([], false), ([], false), ([], false), ([], false), ([], false), ([], false), ([], false), ([], false), ([], false), ([], false), ([], true), ([27], false), ([], false)] (by decide +kernel) ?_ | refine evr tt_ok false ?_ | refine ev_skip ?_ | refine ev_ret ?_ | refine ev_exit ?_ | refine evc (fun X Y hX hY => ?_)); simp only [go_sem, reduceAdd, reduceSub, reduceMul, reduceEqDiff, reduceLeDiff, Nat.reduceBEq, reduceLT, reduceIte, reduceCtorEq, Int.reduceToNat]; try (first | (refine ⟨fun h => hX ?_, fun h => hY ?_⟩; clear hX hY) | (refine hX ?_; clear hX hY) | (refine hY ?_; clear hX hY)))
    | refine ev_block ?_
    | (apply hK; clear hK)
    | apply_assumption -exfalso -symm only [*]
    | (refine And.intro ?_ ?_; first | omega | assumption | (unfold maxLen; omega) | (simp only [decide_eq_true_eq, decide_eq_false_iff_not, Int.not_lt, Int.not_le] at h; omega))
/-! ### the reference -/
theorem rvalue_pure (f : Fld) (h : f.ok) (x y : Int) : Pure Try.prog 24 [.agg [.int .i64 f.x, .int .i64 f.y, .int .i64 f.w, .int .i64 f.h, .sl (f.v.map enB)], .agg [.int .i64 x, .int .i64 y]] (.int .u8 (atM f x y)) := by
  obtain ⟨h1, h2, h3, h4, h5, h6, h7, h8, h9, h10, h11⟩ := h
  have wx : IntKind.i64.wrap (f.x + f.w) = f.x + f.w := w64 (by omega) (by omega)
  have wy : IntKind.i64.wrap (f.y + f.h) = f.y + f.h := w64 (by omega) (by omega)
  by_cases hin : inF f x y
  · have h0 := hin
    unfold inF at h0
    obtain ⟨p1, p2, p3, p4⟩ := h0
    have n1 : ¬ x < f.x := by omega
    have n2 : ¬ f.x + f.w ≤ x := by omega
    have n3 : ¬ y < f.y := by omega
    have n4 : ¬ f.y + f.h ≤ y := by omega
    have e : atM f x y = f.v.getD ((y - f.y) * f.w + (x - f.x)).toNat 0 := by unfold atM; rw [if_pos hin]
    obtain ⟨q1, q2⟩ := mul_in (w := f.w) (h := f.h) p1 p2 p3 p4
    have q3 := (mul_ok (w := f.w) (h := f.h) h1 (by omega) h3 (by omega)).2.1
    have q4 := (mul_small (a := y - f.y) (b := f.w) (n := 64) (m := 64) (by omega) (by omega) h1 h2)
    have w1 : IntKind.i64.wrap (y - f.y) = y - f.y := w64 (by omega) (by omega)
    have w2 : IntKind.i64.wrap ((y - f.y) * f.w) = (y - f.y) * f.w := w64 (by omega) (by omega)
    have w3 : IntKind.i64.wrap ((y - f.y) * f.w + x) = (y - f.y) * f.w + x := w64 (by omega) (by omega)
    have w4 : IntKind.i64.wrap ((y - f.y) * f.w + x - f.x) = (y - f.y) * f.w + (x - f.x) := by rw [w64] <;> omega
    have q5 : (y - f.y) * f.w + (x - f.x) < (f.v.length : Int) := by omega
    rw [e]
    (refine pure_of_ev tt_ok Try.func24 rfl (by decide +kernel) (Nat.le_of_ble_eq_true rfl) ?_; simp only [Try.f24])
    repeat' first
      | refine ev_seq (fun K hK => ?_)
      | ((first | refine evr tt_ok false ?_ | refine ev_skip ?_ | refine ev_ret ?_ | refine ev_exit ?_ | refine evc (fun X Y hX hY => ?_)); simp only [go_sem, reduceAdd, reduceSub, reduceMul, reduceEqDiff, reduceLeDiff, Nat.reduceBEq, reduceLT, reduceIte, reduceCtorEq, Int.reduceToNat, wx, wy, n1, n2, n3, n4, w1, w2, w3, w4, q1, q5, List.length_map, byte_get]; try (first | (refine ⟨fun h => hX ?_, fun h => hY ?_⟩; clear hX hY) | (refine hX ?_; clear hX hY) | (refine hY ?_; clear hX hY)))
      | refine ev_block ?_
      | (apply hK; clear hK)
      | apply_assumption -exfalso -symm only [*]
      | (refine And.intro ?_ ?_; first | omega | assumption | (unfold maxLen; omega) | (simp only [decide_eq_true_eq, decide_eq_false_iff_not, Int.not_lt, Int.not_le] at h; omega))
  · have hc : (((decide (x < f.x) || decide (f.x + f.w ≤ x)) || decide (y < f.y)) || decide (f.y + f.h ≤ y)) = true := by
      simp only [Bool.or_eq_true, decide_eq_true_eq]
      unfold inF at hin
      omega
    rw [at_out hin]
    (refine pure_of_ev tt_ok Try.func24 rfl (by decide +kernel) (Nat.le_of_ble_eq_true rfl) ?_; simp only [Try.f24])
    repeat' first
      | refine ev_seq (fun K hK => ?_)
      | ((first | refine evr tt_ok false ?_ | refine ev_skip ?_ | refine ev_ret ?_ | refine ev_exit ?_ | refine evc (fun X Y hX hY => ?_)); simp only [go_sem, reduceAdd, reduceSub, reduceMul, reduceEqDiff, reduceLeDiff, Nat.reduceBEq, reduceLT, reduceIte, reduceCtorEq, Int.reduceToNat, wx, wy, hc]; try (first | (refine ⟨fun h => hX ?_, fun h => hY ?_⟩; clear hX hY) | (refine hX ?_; clear hX hY) | (refine hY ?_; clear hX hY)))
      | refine ev_block ?_
      | (apply hK; clear hK)
      | apply_assumption -exfalso -symm only [*]
      | (refine And.intro ?_ ?_; first | omega | assumption | (unfold maxLen; omega) | (simp only [decide_eq_true_eq, decide_eq_false_iff_not, Int.not_lt, Int.not_le] at h; omega))
theorem rabove_pure (f : Fld) (hl : f.v.length ≤ 16384) (v : Int) : Pure Try.prog 28 [.agg [.int .i64 f.x, .int .i64 f.y, .int .i64 f.w, .int .i64 f.h, .sl (f.v.map enB)], .int .u8 v] (.int .i64 ((cntN f.v v f.v.length : Nat) : Int)) := by
  obtain ⟨x, y, w, h, L⟩ := f
  simp only at hl ⊢
  (refine pure_of_ev tt_ok Try.func28 rfl (by decide +kernel) (Nat.le_of_ble_eq_true rfl) ?_; simp only [Try.f28])
  repeat' first
    | refine ev_seq (fun K hK => ?_)
    | ((first | refine evr tt_ok false ?_ | refine ev_skip ?_ | refine ev_ret ?_ | refine ev_exit ?_ | refine evc (fun X Y hX hY => ?_)); simp only [go_sem, reduceAdd, reduceSub, reduceMul, reduceEqDiff, reduceLeDiff, Nat.reduceBEq, reduceLT, reduceIte, reduceCtorEq, Int.reduceToNat, List.length_map]; try (first | (refine ⟨fun h => hX ?_, fun h => hY ?_⟩; clear hX hY) | (refine hX ?_; clear hX hY) | (refine hY ?_; clear hX hY)))
    | refine ev_block ?_
    | (apply hK; clear hK)
    | apply_assumption -exfalso -symm only [*]
    | (refine And.intro ?_ ?_; first | omega | assumption | (unfold maxLen; omega) | (simp only [decide_eq_true_eq, decide_eq_false_iff_not, Int.not_lt, Int.not_le] at h; omega))
  refine ev_loop (fun i : Nat => i ≤ L.length)
    (fun i => ⟨24, [(6, .int .i64 (i : Int)), (5, .int .i64 ((cntN L v i : Nat) : Int)), (2, .own 0 0 0 0), (1, .int .u8 v)], [.blk 24 0 5 [[.int .i64 x, .int .i64 y, .int .i64 w, .int .i64 h, .sl (L.map enB)]]]⟩)
    (fun i => L.length - i) 0 (Nat.zero_le _) ?_ ?_
  · simp only [go_sem, reduceAdd, reduceSub, reduceMul, reduceEqDiff, reduceLeDiff, Nat.reduceBEq, reduceLT, reduceIte, reduceCtorEq, Int.reduceToNat, fits, fitT, fitOs, fitO, V.under, unders, rowsUnder]
    repeat' first | rfl | apply And.intro
  · intro i hi
    have hb0 : 0 ≤ (i : Int) := by omega
    have hw1 : IntKind.i64.wrap ((i : Int) + 1) = ((i + 1 : Nat) : Int) := by rw [w64] <;> omega
    by_cases hlt : (i : Int) < L.length
    · have hc := cnt_le L v i
      have hw2 : IntKind.i64.wrap (((cntN L v i : Nat) : Int) + 1) = ((cntN L v i + 1 : Nat) : Int) := by rw [w64] <;> omega
      by_cases hv : v ≤ L.getD i 0
      · have hs : cntN L v (i + 1) = cntN L v i + 1 := by simp only [cntN, if_pos hv]
        repeat' first
          | refine ev_seq (fun K hK => ?_)
          | ((first | refine evr tt_ok false ?_ | refine ev_skip ?_ | refine ev_ret ?_ | refine ev_exit ?_ | refine evc (fun X Y hX hY => ?_)); simp only [go_sem, reduceAdd, reduceSub, reduceMul, reduceEqDiff, reduceLeDiff, Nat.reduceBEq, reduceLT, reduceIte, reduceCtorEq, Int.reduceToNat, hlt, hb0, hw1, hw2, hv, List.length_map, byte_get, Int.toNat_natCast]; try (first | (refine ⟨fun h => hX ?_, fun h => hY ?_⟩; clear hX hY) | (refine hX ?_; clear hX hY) | (refine hY ?_; clear hX hY)))
          | refine ev_block ?_
          | (apply hK; clear hK)
          | apply_assumption -exfalso -symm only [*]
          | (refine And.intro ?_ ?_; first | omega | assumption | (unfold maxLen; omega) | (simp only [decide_eq_true_eq, decide_eq_false_iff_not, Int.not_lt, Int.not_le] at h; omega))
        refine ⟨i + 1, by omega, ?_, by omega⟩
        rw [hs]
        repeat' first | rfl | apply And.intro
      · have hs : cntN L v (i + 1) = cntN L v i := by simp only [cntN, if_neg hv, Nat.add_zero]
        repeat' first
          | refine ev_seq (fun K hK => ?_)
          | ((first | refine evr tt_ok false ?_ | refine ev_skip ?_ | refine ev_ret ?_ | refine ev_exit ?_ | refine evc (fun X Y hX hY => ?_)); simp only [go_sem, reduceAdd, reduceSub, reduceMul, reduceEqDiff, reduceLeDiff, Nat.reduceBEq, reduceLT, reduceIte, reduceCtorEq, Int.reduceToNat, hlt, hb0, hw1, hw2, hv, List.length_map, byte_get, Int.toNat_natCast]; try (first | (refine ⟨fun h => hX ?_, fun h => hY ?_⟩; clear hX hY) | (refine hX ?_; clear hX hY) | (refine hY ?_; clear hX hY)))
          | refine ev_block ?_
          | (apply hK; clear hK)
          | apply_assumption -exfalso -symm only [*]
          | (refine And.intro ?_ ?_; first | omega | assumption | (unfold maxLen; omega) | (simp only [decide_eq_true_eq, decide_eq_false_iff_not, Int.not_lt, Int.not_le] at h; omega))
        refine ⟨i + 1, by omega, ?_, by omega⟩
        rw [hs]
        repeat' first | rfl | apply And.intro
    · obtain rfl : i = L.length := by omega
      repeat' first
        | refine ev_seq (fun K hK => ?_)
        | ((first | refine evr tt_ok false ?_ | refine ev_skip ?_ | refine ev_ret ?_ | refine ev_exit ?_ | refine evc (fun X Y hX hY => ?_)); simp only [go_sem, reduceAdd, reduceSub, reduceMul, reduceEqDiff, reduceLeDiff, Nat.reduceBEq, reduceLT, reduceIte, reduceCtorEq, Int.reduceToNat, hlt, List.length_map]; try (first | (refine ⟨fun h => hX ?_, fun h => hY ?_⟩; clear hX hY) | (refine hX ?_; clear hX hY) | (refine hY ?_; clear hX hY)))
        | refine ev_block ?_
        | (apply hK; clear hK)
        | apply_assumption -exfalso -symm only [*]
        | (refine And.intro ?_ ?_; first | omega | assumption | (unfold maxLen; omega) | (simp only [decide_eq_true_eq, decide_eq_false_iff_not, Int.not_lt, Int.not_le] at h; omega))
/-! ### Sum of the reference -/
theorem rowR_bound {f : Fld} (hb : bytesL f.v) (r : Rc) (j : Nat) {i : Nat} (hi : i ≤ 64) : 0 ≤ rowR f r j i ∧ rowR f r j i ≤ 16320 := by
  have := sumN_bound (g := fun i => if inR f r j i then cellV f j i else 0) (m := 255) (by omega) i fun k _ => by
    have := cell_byte hb j k
    show 0 ≤ (if inR f r j k then cellV f j k else 0) ∧ (if inR f r j k then cellV f j k else 0) ≤ 255
    split <;> omega
  unfold rowR
  omega
theorem sumR_bound {f : Fld} (hb : bytesL f.v) (r : Rc) {j w : Nat} (hj : j ≤ 64) (hw : w ≤ 64) : 0 ≤ sumN (fun j => rowR f r j w) j ∧ sumN (fun j => rowR f r j w) j ≤ 1044480 := by
  have := sumN_bound (g := fun j => rowR f r j w) (m := 16320) (by omega) j fun k _ => rowR_bound hb r k hw
  omega
theorem rsum_pure (f : Fld) (h : f.ok) (hb : bytesL f.v) (r : Rc) : Pure Try.prog 16 [.agg [.int .i64 f.x, .int .i64 f.y, .int .i64 f.w, .int .i64 f.h, .sl (f.v.map enB)], .agg [.int .i64 r.x0, .int .i64 r.y0, .int .i64 r.x1, .int .i64 r.y1]] (.int .i64 (sumM f r)) := by
  have sz : ∀ n : Int, Pure Try.prog 32 [.int .i64 n, .int .i64 32768] (.bool (!(farM n))) := fun n => by
    have := bsize_pure n 32768 (by omega)
    rw [show (decide (-32768 ≤ n) && decide (n ≤ 32768)) = !(farM n) by
      unfold farM
      rw [Bool.eq_iff_iff]
      simp only [Bool.and_eq_true, Bool.not_eq_true', Bool.or_eq_false_iff, decide_eq_true_eq, decide_eq_false_iff_not]
      omega] at this
    exact this
  by_cases he : r.empty
  · have hc : (((((decide (r.x1 < r.x0) || decide (r.y1 < r.y0)) || farM r.x0) || farM r.y0) || farM r.x1) || farM r.y1) = true := by
      unfold Rc.empty at he
      simp only [Bool.or_eq_true, decide_eq_true_eq] at he ⊢
      rcases he with h | h | ((h | h) | h) | h <;> simp [h]
    unfold sumM
    rw [if_pos he]
    (refine pure_of_ev tt_ok Try.func16 rfl (by decide +kernel) (Nat.le_of_ble_eq_true rfl) ?_; simp only [Try.f16])
    repeat' first
      | refine ev_seq (fun K hK => ?_)
      | ((first | refine evr tt_ok false ?_ | refine ev_skip ?_ | refine ev_ret ?_ | refine ev_exit ?_ | refine evc (fun X Y hX hY => ?_)); simp only [go_sem, reduceAdd, reduceSub, reduceMul, reduceEqDiff, reduceLeDiff, Nat.reduceBEq, reduceLT, reduceIte, reduceCtorEq, Int.reduceToNat, hc, Bool.not_not]; try (first | (refine ⟨fun h => hX ?_, fun h => hY ?_⟩; clear hX hY) | (refine hX ?_; clear hX hY) | (refine hY ?_; clear hX hY)))
      | refine ev_block ?_
      | (apply hK; clear hK)
      | apply_assumption -exfalso -symm only [*]
      | (refine And.intro ?_ ?_; first | omega | assumption | (unfold maxLen; omega) | (simp only [decide_eq_true_eq, decide_eq_false_iff_not, Int.not_lt, Int.not_le] at h; omega))
      | ((first | apply callP | apply callPG | apply callP0); (case' hv => (simp only [go_sem, reduceAdd, reduceSub, reduceMul, reduceEqDiff, reduceLeDiff, Nat.reduceBEq, reduceLT, reduceIte, reduceCtorEq, Int.reduceToNat, hc, Bool.not_not]; try exact rfl)); (case' hp => (first | refine' sz r.x0 | (refine' (fun hg => ?_); refine' sz r.x0) | refine' sz r.y0 | (refine' (fun hg => ?_); refine' sz r.y0) | refine' sz r.x1 | (refine' (fun hg => ?_); refine' sz r.x1) | refine' sz r.y1 | (refine' (fun hg => ?_); refine' sz r.y1))); (case' h => ((first | refine evOps_fin ?_ | refine And.intro ?_ (evD_fin ?_) | refine evD_fin ?_) <;> simp only [go_sem, reduceAdd, reduceSub, reduceMul, reduceEqDiff, reduceLeDiff, Nat.reduceBEq, reduceLT, reduceIte, reduceCtorEq, Int.reduceToNat, hc, Bool.not_not])))
      | (refine callX ?_; (first | refine evOps_fin ?_ | refine And.intro ?_ (evD_fin ?_) | refine evD_fin ?_) <;> simp only [go_sem, reduceAdd, reduceSub, reduceMul, reduceEqDiff, reduceLeDiff, Nat.reduceBEq, reduceLT, reduceIte, reduceCtorEq, Int.reduceToNat, hc, Bool.not_not])
  · have hc : (((((decide (r.x1 < r.x0) || decide (r.y1 < r.y0)) || farM r.x0) || farM r.y0) || farM r.x1) || farM r.y1) = false := by
      rw [Bool.eq_false_iff]
      intro hh
      apply he
      unfold Rc.empty
      simp only [Bool.or_eq_true, decide_eq_true_eq] at hh ⊢
      rcases hh with ((((h | h) | h) | h) | h) | h <;> simp [h]
    have hord : r.x0 ≤ r.x1 ∧ r.y0 ≤ r.y1 := by
      simp only [Bool.or_eq_false_iff, decide_eq_false_iff_not] at hc
      omega
    obtain ⟨eW, eH, hW, hH, hn⟩ := ok_W h
    have hres : sumM f r = sumR f r := by
      unfold sumM
      rw [if_neg he, sum_box f r (by omega) (by omega) hord.1 hord.2]
    rw [hres]
    have hf := h
    obtain ⟨h1, h2, h3, h4, h5, h6, h7, h8, h9, h10, h11⟩ := h
    (refine pure_of_ev tt_ok Try.func16 rfl (by decide +kernel) (Nat.le_of_ble_eq_true rfl) ?_; simp only [Try.f16])
    repeat' first
      | refine ev_seq (fun K hK => ?_)
      | ((first | refine evr tt_ok false ?_ | refine ev_skip ?_ | refine ev_ret ?_ | refine ev_exit ?_ | refine evc (fun X Y hX hY => ?_)); simp only [go_sem, reduceAdd, reduceSub, reduceMul, reduceEqDiff, reduceLeDiff, Nat.reduceBEq, reduceLT, reduceIte, reduceCtorEq, Int.reduceToNat, hc, Bool.not_not]; try (first | (refine ⟨fun h => hX ?_, fun h => hY ?_⟩; clear hX hY) | (refine hX ?_; clear hX hY) | (refine hY ?_; clear hX hY)))
      | refine ev_block ?_
      | (apply hK; clear hK)
      | apply_assumption -exfalso -symm only [*]
      | (refine And.intro ?_ ?_; first | omega | assumption | (unfold maxLen; omega) | (simp only [decide_eq_true_eq, decide_eq_false_iff_not, Int.not_lt, Int.not_le] at h; omega))
      | ((first | apply callP | apply callPG | apply callP0); (case' hv => (simp only [go_sem, reduceAdd, reduceSub, reduceMul, reduceEqDiff, reduceLeDiff, Nat.reduceBEq, reduceLT, reduceIte, reduceCtorEq, Int.reduceToNat, hc, Bool.not_not]; try exact rfl)); (case' hp => (first | refine' sz r.x0 | (refine' (fun hg => ?_); refine' sz r.x0) | refine' sz r.y0 | (refine' (fun hg => ?_); refine' sz r.y0) | refine' sz r.x1 | (refine' (fun hg => ?_); refine' sz r.x1) | refine' sz r.y1 | (refine' (fun hg => ?_); refine' sz r.y1))); (case' h => ((first | refine evOps_fin ?_ | refine And.intro ?_ (evD_fin ?_) | refine evD_fin ?_) <;> simp only [go_sem, reduceAdd, reduceSub, reduceMul, reduceEqDiff, reduceLeDiff, Nat.reduceBEq, reduceLT, reduceIte, reduceCtorEq, Int.reduceToNat, hc, Bool.not_not])))
      | (refine callX ?_; (first | refine evOps_fin ?_ | refine And.intro ?_ (evD_fin ?_) | refine evD_fin ?_) <;> simp only [go_sem, reduceAdd, reduceSub, reduceMul, reduceEqDiff, reduceLeDiff, Nat.reduceBEq, reduceLT, reduceIte, reduceCtorEq, Int.reduceToNat, hc, Bool.not_not])
    refine ev_loop (fun j : Nat => j ≤ f.H)
      (fun j => ⟨104, [(6, .int .i64 (j : Int)), (5, .int .i64 (sumN (fun j => rowR f r j f.W) j)), (3, .own 1 0 0 0), (2, .own 0 0 0 0)],
        [.blk 24 0 5 [[.int .i64 f.x, .int .i64 f.y, .int .i64 f.w, .int .i64 f.h, .sl (f.v.map enB)]], .blk 26 0 4 [[.int .i64 r.x0, .int .i64 r.y0, .int .i64 r.x1, .int .i64 r.y1]]]⟩)
      (fun j => f.H - j) 0 (Nat.zero_le _) ?_ ?_
    · simp only [go_sem, reduceAdd, reduceSub, reduceMul, reduceEqDiff, reduceLeDiff, Nat.reduceBEq, reduceLT, reduceIte, reduceCtorEq, Int.reduceToNat, fits, fitT, fitOs, fitO, V.under, unders, rowsUnder]
      repeat' first | rfl | apply And.intro
    · intro j hj
      have hj1 : IntKind.i64.wrap ((j : Int) + 1) = ((j + 1 : Nat) : Int) := by rw [w64] <;> omega
      by_cases hjl : (j : Int) < f.h
      · repeat' first
        | refine ev_seq (fun K hK => ?_)
        | ((first | refine evr tt_ok false ?_ | refine ev_skip ?_ | refine ev_ret ?_ | refine ev_exit ?_ | refine evc (fun X Y hX hY => ?_)); simp only [go_sem, reduceAdd, reduceSub, reduceMul, reduceEqDiff, reduceLeDiff, Nat.reduceBEq, reduceLT, reduceIte, reduceCtorEq, Int.reduceToNat, hjl]; try (first | (refine ⟨fun h => hX ?_, fun h => hY ?_⟩; clear hX hY) | (refine hX ?_; clear hX hY) | (refine hY ?_; clear hX hY)))
        | refine ev_block ?_
        | (apply hK; clear hK)
        | apply_assumption -exfalso -symm only [*]
        | (refine And.intro ?_ ?_; first | omega | assumption | (unfold maxLen; omega) | (simp only [decide_eq_true_eq, decide_eq_false_iff_not, Int.not_lt, Int.not_le] at h; omega))
        refine ev_loop (fun i : Nat => i ≤ f.W)
          (fun i => ⟨104, [(7, .int .i64 (i : Int)), (6, .int .i64 (j : Int)), (5, .int .i64 (sumN (fun j => rowR f r j f.W) j + rowR f r j i)), (3, .own 1 0 0 0), (2, .own 0 0 0 0)],
            [.blk 24 0 5 [[.int .i64 f.x, .int .i64 f.y, .int .i64 f.w, .int .i64 f.h, .sl (f.v.map enB)]], .blk 26 0 4 [[.int .i64 r.x0, .int .i64 r.y0, .int .i64 r.x1, .int .i64 r.y1]]]⟩)
          (fun i => f.W - i) 0 (Nat.zero_le _) ?_ ?_
        · simp only [go_sem, reduceAdd, reduceSub, reduceMul, reduceEqDiff, reduceLeDiff, Nat.reduceBEq, reduceLT, reduceIte, reduceCtorEq, Int.reduceToNat, fits, fitT, fitOs, fitO, V.under, unders, rowsUnder, rowR, sumN, Int.add_zero]
          repeat' first | rfl | apply And.intro
        · intro i hi
          have hi1 : IntKind.i64.wrap ((i : Int) + 1) = ((i + 1 : Nat) : Int) := by rw [w64] <;> omega
          by_cases hil : (i : Int) < f.w
          · have wx : IntKind.i64.wrap (f.x + (i : Int)) = f.x + (i : Int) := w64 (by omega) (by omega)
            have wy : IntKind.i64.wrap (f.y + (j : Int)) = f.y + (j : Int) := w64 (by omega) (by omega)
            have hsu : rowR f r j (i + 1) = rowR f r j i + if inR f r j i then cellV f j i else 0 := rfl
            by_cases hin : inR f r j i
            · have hcc : (((decide (r.x0 ≤ f.x + (i : Int)) && decide (f.x + (i : Int) ≤ r.x1)) && decide (r.y0 ≤ f.y + (j : Int))) && decide (f.y + (j : Int) ≤ r.y1)) = true := by
                unfold inR at hin
                simp only [Bool.and_eq_true, decide_eq_true_eq]
                omega
              have hx := lt_mul (w := f.W) (h := f.H) (r := j) (c := i) (by omega) (by omega)
              have hns : f.W * f.H ≤ 64 * 64 := Nat.mul_le_mul hW hH
              have w1 : IntKind.i64.wrap ((j : Int) * f.w) = ((j * f.W : Nat) : Int) := by
                rw [← eW, ← Int.natCast_mul]
                exact w64 (by omega) (by omega)
              have w2 : IntKind.i64.wrap (((j * f.W : Nat) : Int) + (i : Int)) = ((j * f.W + i : Nat) : Int) := by rw [w64] <;> omega
              have p0 : ∀ n : Nat, (0 : Int) ≤ (n : Int) := fun n => Int.natCast_nonneg n
              have pl : ((j * f.W + i : Nat) : Int) < (f.v.length : Int) := by omega
              have gv : f.v.getD (j * f.W + i) 0 = cellV f j i := rfl
              have bv := cell_byte hb j i
              have b1 := sumR_bound hb r (j := j) (w := f.W) (by omega) hW
              have b2 := rowR_bound hb r j (i := i) (by omega)
              have v0 : IntKind.i64.wrap (cellV f j i) = cellV f j i := w64 (by omega) (by omega)
              have v1 : IntKind.i64.wrap (sumN (fun j => rowR f r j f.W) j + rowR f r j i + cellV f j i) = sumN (fun j => rowR f r j f.W) j + rowR f r j (i + 1) := by
                rw [hsu, if_pos hin, w64] <;> omega
              repeat' first
                | refine ev_seq (fun K hK => ?_)
                | ((first | refine evr tt_ok false ?_ | refine ev_skip ?_ | refine ev_ret ?_ | refine ev_exit ?_ | refine evc (fun X Y hX hY => ?_)); simp only [go_sem, reduceAdd, reduceSub, reduceMul, reduceEqDiff, reduceLeDiff, Nat.reduceBEq, reduceLT, reduceIte, reduceCtorEq, Int.reduceToNat, hil, hcc, wx, wy, hi1, w1, w2, p0, pl, gv, v0, v1, List.length_map, byte_get, Int.toNat_natCast]; try (first | (refine ⟨fun h => hX ?_, fun h => hY ?_⟩; clear hX hY) | (refine hX ?_; clear hX hY) | (refine hY ?_; clear hX hY)))
                | refine ev_block ?_
                | (apply hK; clear hK)
                | apply_assumption -exfalso -symm only [*]
                | (refine And.intro ?_ ?_; first | omega | assumption | (unfold maxLen; omega) | (simp only [decide_eq_true_eq, decide_eq_false_iff_not, Int.not_lt, Int.not_le] at h; omega))
              refine ⟨i + 1, by omega, ?_, by omega⟩
              repeat' first | rfl | apply And.intro
            · have hcc : (((decide (r.x0 ≤ f.x + (i : Int)) && decide (f.x + (i : Int) ≤ r.x1)) && decide (r.y0 ≤ f.y + (j : Int))) && decide (f.y + (j : Int) ≤ r.y1)) = false := by
                unfold inR at hin
                rw [Bool.eq_false_iff]
                simp only [ne_eq, Bool.and_eq_true, decide_eq_true_eq]
                omega
              have hsu2 : rowR f r j (i + 1) = rowR f r j i := by rw [hsu, if_neg hin, Int.add_zero]
              repeat' first
                | refine ev_seq (fun K hK => ?_)
                | ((first | refine evr tt_ok false ?_ | refine ev_skip ?_ | refine ev_ret ?_ | refine ev_exit ?_ | refine evc (fun X Y hX hY => ?_)); simp only [go_sem, reduceAdd, reduceSub, reduceMul, reduceEqDiff, reduceLeDiff, Nat.reduceBEq, reduceLT, reduceIte, reduceCtorEq, Int.reduceToNat, hil, hcc, wx, wy, hi1]; try (first | (refine ⟨fun h => hX ?_, fun h => hY ?_⟩; clear hX hY) | (refine hX ?_; clear hX hY) | (refine hY ?_; clear hX hY)))
                | refine ev_block ?_
                | (apply hK; clear hK)
                | apply_assumption -exfalso -symm only [*]
                | (refine And.intro ?_ ?_; first | omega | assumption | (unfold maxLen; omega) | (simp only [decide_eq_true_eq, decide_eq_false_iff_not, Int.not_lt, Int.not_le] at h; omega))
              refine ⟨i + 1, by omega, ?_, by omega⟩
              rw [hsu2]
              repeat' first | rfl | apply And.intro
          · obtain rfl : i = f.W := by omega
            repeat' first
              | refine ev_seq (fun K hK => ?_)
              | ((first | refine evr tt_ok false ?_ | refine ev_skip ?_ | refine ev_ret ?_ | refine ev_exit ?_ | refine evc (fun X Y hX hY => ?_)); simp only [go_sem, reduceAdd, reduceSub, reduceMul, reduceEqDiff, reduceLeDiff, Nat.reduceBEq, reduceLT, reduceIte, reduceCtorEq, Int.reduceToNat, hil, hj1]; try (first | (refine ⟨fun h => hX ?_, fun h => hY ?_⟩; clear hX hY) | (refine hX ?_; clear hX hY) | (refine hY ?_; clear hX hY)))
              | refine ev_block ?_
              | (apply hK; clear hK)
              | apply_assumption -exfalso -symm only [*]
              | (refine And.intro ?_ ?_; first | omega | assumption | (unfold maxLen; omega) | (simp only [decide_eq_true_eq, decide_eq_false_iff_not, Int.not_lt, Int.not_le] at h; omega))
            refine ⟨j + 1, by omega, ?_, by omega⟩
            repeat' first | rfl | apply And.intro
      · obtain rfl : j = f.H := by omega
        repeat' first
          | refine ev_seq (fun K hK => ?_)
          | ((first | refine evr tt_ok false ?_ | refine ev_skip ?_ | refine ev_ret ?_ | refine ev_exit ?_ | refine evc (fun X Y hX hY => ?_)); simp only [go_sem, reduceAdd, reduceSub, reduceMul, reduceEqDiff, reduceLeDiff, Nat.reduceBEq, reduceLT, reduceIte, reduceCtorEq, Int.reduceToNat, hjl]; try (first | (refine ⟨fun h => hX ?_, fun h => hY ?_⟩; clear hX hY) | (refine hX ?_; clear hX hY) | (refine hY ?_; clear hX hY)))
          | refine ev_block ?_
          | (apply hK; clear hK)
          | apply_assumption -exfalso -symm only [*]
          | (refine And.intro ?_ ?_; first | omega | assumption | (unfold maxLen; omega) | (simp only [decide_eq_true_eq, decide_eq_false_iff_not, Int.not_lt, Int.not_le] at h; omega))
        rfl
end Go.Proofs.Ytbpchamlhblddaa
