import Derived.Test.YtbpchamlhblddaaPF
set_option linter.all false
namespace Go.Proofs.Ytbpchamlhblddaa
open Nat (reduceAdd reduceSub reduceMul reduceEqDiff reduceLeDiff reduceLT)
open Go Go.K
set_option maxRecDepth 20000
set_option maxHeartbeats 8000000
/-! ### Sum -/
theorem psum1_pure (n m : Int) : Pure Try.prog 34 [.int .i64 n, .int .i64 m] (.int .i64 (clipM n m)) := by
  (refine pure_of_ev tt_ok Try.func34 rfl (by decide +kernel) (Nat.le_of_ble_eq_true rfl) ?_; simp only [Try.f34])
  repeat' first
    | refine ev_seq (fun K hK => ?_)
    | ((first | refine evr tt_ok false ?_ | refine ev_skip ?_ | refine ev_ret ?_ | refine ev_exit ?_ | refine evc (fun X Y hX hY => ?_)); simp only [go_sem, reduceAdd, reduceSub, reduceMul, reduceEqDiff, reduceLeDiff, Nat.reduceBEq, reduceLT, reduceIte, reduceCtorEq, Int.reduceToNat]; try (first | (refine ⟨fun h => hX ?_, fun h => hY ?_⟩; clear hX hY) | (refine hX ?_; clear hX hY) | (refine hY ?_; clear hX hY)))
    | refine ev_block ?_
    | (apply hK; clear hK)
    | apply_assumption -exfalso -symm only [*]
    | (refine And.intro ?_ ?_; first | omega | assumption | (unfold maxLen; omega) | (simp only [decide_eq_true_eq, decide_eq_false_iff_not, Int.not_lt, Int.not_le] at h; omega))
  rfl
theorem ok_W {f : Fld} (h : f.ok) : ((f.W : Nat) : Int) = f.w ∧ ((f.H : Nat) : Int) = f.h ∧ f.W ≤ 64 ∧ f.H ≤ 64 ∧ f.v.length = f.W * f.H := by
  obtain ⟨h1, h2, h3, h4, h5, h6, _⟩ := h
  have e1 : ((f.W : Nat) : Int) = f.w := by unfold Fld.W; omega
  have e2 : ((f.H : Nat) : Int) = f.h := by unfold Fld.H; omega
  refine ⟨e1, e2, by omega, by omega, ?_⟩
  have : ((f.v.length : Nat) : Int) = ((f.W * f.H : Nat) : Int) := by rw [h6, Int.natCast_mul, e1, e2]
  omega
theorem psum2_pure (f : Fld) (h : f.ok) (x y : Int) (hx : 0 ≤ x ∧ x ≤ f.w) (hy : 0 ≤ y ∧ y ≤ f.h) : Pure Try.prog 35 [.int .i64 x, .int .i64 y, .pi [.pi (pyrV f) 0] 0, .pi [.int .i64 f.x, .int .i64 f.y, .int .i64 f.w, .int .i64 f.h, .sl (f.v.map enB)] 0] (.int .i64 (preI f y x)) := by
  have hlen := pyr_len f
  have p40 : List.take 1 (List.drop 40 (pyrV f)) = [.sl ((sumsL f (f.W * f.H)).map enJ)] := rfl
  obtain ⟨eW, eH, hW, hH, hn⟩ := ok_W h
  generalize pyrV f = C at *
  obtain ⟨xn, rfl⟩ := Int.eq_ofNat_of_zero_le hx.1
  obtain ⟨yn, rfl⟩ := Int.eq_ofNat_of_zero_le hy.1
  have hxn : xn ≤ f.W := by omega
  have hyn : yn ≤ f.H := by omega
  have hK := lt_mul (w := f.W + 1) (h := f.H + 1) (r := yn) (c := xn) (by omega) (by omega)
  have hNs : (f.W + 1) * (f.H + 1) ≤ 65 * 65 := Nat.mul_le_mul (by omega) (by omega)
  have g : (sumsL f (f.W * f.H)).getD (yn * (f.W + 1) + xn) 0 = preS f yn xn := by
    refine sumsL_at f _ hyn hxn ?_
    by_cases h1 : yn = 0
    · exact .inl h1
    · by_cases h2 : xn = 0
      · exact .inr (.inl h2)
      · refine .inr (.inr ?_)
        exact lt_mul (by omega) (by omega)
  have e : preI f (yn : Int) (xn : Int) = preS f yn xn := rfl
  have w1 : IntKind.i64.wrap (f.w + 1) = f.w + 1 := w64 (by omega) (by omega)
  have hp : yn * (f.W + 1) ≤ 64 * 65 := Nat.mul_le_mul (by omega) (by omega)
  have w2 : IntKind.i64.wrap ((yn : Int) * (f.w + 1)) = ((yn * (f.W + 1) : Nat) : Int) := by
    rw [← eW, show (yn : Int) * ((f.W : Int) + 1) = ((yn * (f.W + 1) : Nat) : Int) by rw [Int.natCast_mul, Int.natCast_add]; rfl]
    exact w64 (by omega) (by omega)
  have w3 : IntKind.i64.wrap (((yn * (f.W + 1) : Nat) : Int) + (xn : Int)) = ((yn * (f.W + 1) + xn : Nat) : Int) := by rw [w64] <;> omega
  have p0 : ∀ n : Nat, (0 : Int) ≤ (n : Int) := fun n => Int.natCast_nonneg n
  have hi : ((yn * (f.W + 1) + xn : Nat) : Int) < (((f.W + 1) * (f.H + 1) : Nat) : Int) := by omega
  rw [e]
  (refine pure_of_ev tt_ok Try.func35 rfl (by decide +kernel) (Nat.le_of_ble_eq_true rfl) ?_; simp only [Try.f35])
  repeat' first
    | refine ev_seq (fun K hK => ?_)
    | ((first | refine evrd (id := 1) hmix tt_ok false [([], false), ([], false), ([], false), ([], false), ([], false), ([], false), ([], false), ([], false), ([], false), ([], false), ([], false), ([], false), ([], false), ([], false)] (by decide +kernel) ?_ | refine evr tt_ok false ?_ | refine ev_skip ?_ | refine ev_ret ?_ | refine ev_exit ?_ | refine evc (fun X Y hX hY => ?_)); simp only [go_sem, reduceAdd, reduceSub, reduceMul, reduceEqDiff, reduceLeDiff, Nat.reduceBEq, reduceLT, reduceIte, reduceCtorEq, Int.reduceToNat, hlen, p40, w1, w2, w3, p0, hi, g, sumsL_len, List.length_map, num_get, Int.toNat_natCast]; try (first | (refine ⟨fun h => hX ?_, fun h => hY ?_⟩; clear hX hY) | (refine hX ?_; clear hX hY) | (refine hY ?_; clear hX hY)))
    | refine ev_block ?_
    | (apply hK; clear hK)
    | apply_assumption -exfalso -symm only [*]
    | (refine And.intro ?_ ?_; first | omega | assumption | (unfold maxLen; omega) | (simp only [decide_eq_true_eq, decide_eq_false_iff_not, Int.not_lt, Int.not_le] at h; omega))
theorem preI_bound {f : Fld} (h : f.ok) (hb : bytesL f.v) {x y : Int} (hx : 0 ≤ x ∧ x ≤ f.w) (hy : 0 ≤ y ∧ y ≤ f.h) : 0 ≤ preI f y x ∧ preI f y x ≤ 1044480 := by
  obtain ⟨h1, h2, h3, h4, _⟩ := h
  exact preS_bound hb (by omega) (by omega)
theorem clip_in {n m : Int} (h : 0 ≤ m) : 0 ≤ clipM n m ∧ clipM n m ≤ m := by unfold clipM; omega
theorem psum_pure (f : Fld) (h : f.ok) (hb : bytesL f.v) (r : Rc) : Pure Try.prog 15 [.pi (pyrV f) 0, .agg [.int .i64 r.x0, .int .i64 r.y0, .int .i64 r.x1, .int .i64 r.y1]] (.int .i64 (sumM f r)) := by
  have hlen := pyr_len f
  have f1 := far_pure r.x0
  have f2 := far_pure r.y0
  have f3 := far_pure r.x1
  have f4 := far_pure r.y1
  unfold sumM
  by_cases he : r.empty
  · have hc : (((((decide (r.x1 < r.x0) || decide (r.y1 < r.y0)) || farM r.x0) || farM r.y0) || farM r.x1) || farM r.y1) = true := by
      unfold Rc.empty at he
      simp only [Bool.or_eq_true, decide_eq_true_eq] at he ⊢
      rcases he with h | h | ((h | h) | h) | h <;> simp [h]
    rw [if_pos he]
    (refine pure_of_ev tt_ok Try.func15 rfl (by decide +kernel) (Nat.le_of_ble_eq_true rfl) ?_; simp only [Try.f15])
    repeat' first
      | refine ev_seq (fun K hK => ?_)
      | ((first | refine evrd (id := 5) hmix tt_ok false [([], false), ([], false), ([], false), ([], false), ([], false), ([], false), ([], false), ([], false), ([], true), ([8], false), ([8], false), ([8], false), ([8], false), ([8], false), ([8], false), ([8], false), ([8], false), ([8], false), ([], false), ([], false), ([], false)] (by decide +kernel) ?_ | refine evrd (id := 6) hmix tt_ok false [([], false), ([], false), ([], false), ([], false), ([], false), ([], false), ([], false), ([], false), ([], true), ([8], false), ([8], false), ([8], false), ([8], false), ([8], false), ([8], false), ([8], false), ([8], false), ([8], false), ([], false), ([], false), ([], false)] (by decide +kernel) ?_ | refine evr tt_ok false ?_ | refine ev_skip ?_ | refine ev_ret ?_ | refine ev_exit ?_ | refine evc (fun X Y hX hY => ?_)); simp only [go_sem, reduceAdd, reduceSub, reduceMul, reduceEqDiff, reduceLeDiff, Nat.reduceBEq, reduceLT, reduceIte, reduceCtorEq, Int.reduceToNat, hc]; try (first | (refine ⟨fun h => hX ?_, fun h => hY ?_⟩; clear hX hY) | (refine hX ?_; clear hX hY) | (refine hY ?_; clear hX hY)))
      | refine ev_block ?_
      | (apply hK; clear hK)
      | apply_assumption -exfalso -symm only [*]
      | (refine And.intro ?_ ?_; first | omega | assumption | (unfold maxLen; omega) | (simp only [decide_eq_true_eq, decide_eq_false_iff_not, Int.not_lt, Int.not_le] at h; omega))
      | ((first | apply callP | apply callPG | apply callP0); (case' hv => (simp only [go_sem, reduceAdd, reduceSub, reduceMul, reduceEqDiff, reduceLeDiff, Nat.reduceBEq, reduceLT, reduceIte, reduceCtorEq, Int.reduceToNat, hc]; try exact rfl)); (case' hp => (first | refine' f1 | (refine' (fun hg => ?_); refine' f1) | refine' f2 | (refine' (fun hg => ?_); refine' f2) | refine' f3 | (refine' (fun hg => ?_); refine' f3) | refine' f4 | (refine' (fun hg => ?_); refine' f4))); (case' h => ((first | refine evOps_fin ?_ | refine And.intro ?_ (evD_fin ?_) | refine evD_fin ?_) <;> simp only [go_sem, reduceAdd, reduceSub, reduceMul, reduceEqDiff, reduceLeDiff, Nat.reduceBEq, reduceLT, reduceIte, reduceCtorEq, Int.reduceToNat, hc])))
      | (refine callX ?_; (first | refine evOps_fin ?_ | refine And.intro ?_ (evD_fin ?_) | refine evD_fin ?_) <;> simp only [go_sem, reduceAdd, reduceSub, reduceMul, reduceEqDiff, reduceLeDiff, Nat.reduceBEq, reduceLT, reduceIte, reduceCtorEq, Int.reduceToNat, hc])
  · have hc : (((((decide (r.x1 < r.x0) || decide (r.y1 < r.y0)) || farM r.x0) || farM r.y0) || farM r.x1) || farM r.y1) = false := by
      rw [Bool.eq_false_iff]
      intro hh
      apply he
      unfold Rc.empty
      simp only [Bool.or_eq_true, decide_eq_true_eq] at hh ⊢
      rcases hh with ((((h | h) | h) | h) | h) | h <;> simp [h]
    have hr : -32768 ≤ r.x0 ∧ r.x0 ≤ 32768 ∧ -32768 ≤ r.y0 ∧ r.y0 ≤ 32768 ∧ -32768 ≤ r.x1 ∧ r.x1 ≤ 32768 ∧ -32768 ≤ r.y1 ∧ r.y1 ≤ 32768 := by
      simp only [farM, Bool.or_eq_false_iff, decide_eq_false_iff_not] at hc
      omega
    rw [if_neg he]
    have ho := h
    obtain ⟨h1, h2, h3, h4, h5, h6, h7, h8, h9, h10, h11⟩ := h
    have w1 : IntKind.i64.wrap (r.x0 - f.x) = r.x0 - f.x := w64 (by omega) (by omega)
    have w2 : IntKind.i64.wrap (r.x1 - f.x) = r.x1 - f.x := w64 (by omega) (by omega)
    have w3 : IntKind.i64.wrap (r.x1 - f.x + 1) = r.x1 - f.x + 1 := w64 (by omega) (by omega)
    have w4 : IntKind.i64.wrap (r.y0 - f.y) = r.y0 - f.y := w64 (by omega) (by omega)
    have w5 : IntKind.i64.wrap (r.y1 - f.y) = r.y1 - f.y := w64 (by omega) (by omega)
    have w6 : IntKind.i64.wrap (r.y1 - f.y + 1) = r.y1 - f.y + 1 := w64 (by omega) (by omega)
    have c1 := psum1_pure (r.x0 - f.x) f.w
    have c2 := psum1_pure (r.x1 - f.x + 1) f.w
    have c3 := psum1_pure (r.y0 - f.y) f.h
    have c4 := psum1_pure (r.y1 - f.y + 1) f.h
    have b1 := clip_in (n := r.x0 - f.x) h1
    have b2 := clip_in (n := r.x1 - f.x + 1) h1
    have b3 := clip_in (n := r.y0 - f.y) h3
    have b4 := clip_in (n := r.y1 - f.y + 1) h3
    generalize clipM (r.x0 - f.x) f.w = x0 at *
    generalize clipM (r.x1 - f.x + 1) f.w = x1 at *
    generalize clipM (r.y0 - f.y) f.h = y0 at *
    generalize clipM (r.y1 - f.y + 1) f.h = y1 at *
    have d1 := psum2_pure f ho x1 y1 b2 b4
    have d2 := psum2_pure f ho x0 y1 b1 b4
    have d3 := psum2_pure f ho x1 y0 b2 b3
    have d4 := psum2_pure f ho x0 y0 b1 b3
    have v1 := preI_bound ho hb b2 b4
    have v2 := preI_bound ho hb b1 b4
    have v3 := preI_bound ho hb b2 b3
    have v4 := preI_bound ho hb b1 b3
    unfold boxS
    generalize preI f y1 x1 = a at *
    generalize preI f y1 x0 = b at *
    generalize preI f y0 x1 = c at *
    generalize preI f y0 x0 = d at *
    have u1 : IntKind.i64.wrap (a - b) = a - b := w64 (by omega) (by omega)
    have u2 : IntKind.i64.wrap (a - b - c) = a - b - c := w64 (by omega) (by omega)
    have u3 : IntKind.i64.wrap (a - b - c + d) = a - b - c + d := w64 (by omega) (by omega)
    have p0 : List.take 5 (List.drop 0 (pyrV f)) = [.int .i64 f.x, .int .i64 f.y, .int .i64 f.w, .int .i64 f.h, .sl (f.v.map enB)] := rfl
    rw [List.drop_zero] at p0
    generalize pyrV f = C at *
    (refine pure_of_ev tt_ok Try.func15 rfl (by decide +kernel) (Nat.le_of_ble_eq_true rfl) ?_; simp only [Try.f15])
    repeat' first
      | refine ev_seq (fun K hK => ?_)
      | ((first | refine evrd (id := 5) hmix tt_ok false [([], false), ([], false), ([], false), ([], false), ([], false), ([], false), ([], false), ([], false), ([], true), ([8], false), ([8], false), ([8], false), ([8], false), ([8], false), ([8], false), ([8], false), ([8], false), ([8], false), ([], false), ([], false), ([], false)] (by decide +kernel) ?_ | refine evrd (id := 6) hmix tt_ok false [([], false), ([], false), ([], false), ([], false), ([], false), ([], false), ([], false), ([], false), ([], true), ([8], false), ([8], false), ([8], false), ([8], false), ([8], false), ([8], false), ([8], false), ([8], false), ([8], false), ([], false), ([], false), ([], false)] (by decide +kernel) ?_ | refine evr tt_ok false ?_ | refine ev_skip ?_ | refine ev_ret ?_ | refine ev_exit ?_ | refine evc (fun X Y hX hY => ?_)); simp only [go_sem, reduceAdd, reduceSub, reduceMul, reduceEqDiff, reduceLeDiff, Nat.reduceBEq, reduceLT, reduceIte, reduceCtorEq, Int.reduceToNat, List.size_toArray, eq_self, Op.operands, hc, hlen, p0, w1, w2, w3, w4, w5, w6, u1, u2, u3]; try (first | (refine ⟨fun h => hX ?_, fun h => hY ?_⟩; clear hX hY) | (refine hX ?_; clear hX hY) | (refine hY ?_; clear hX hY)))
      | refine ev_block ?_
      | (apply hK; clear hK)
      | apply_assumption -exfalso -symm only [*]
      | (refine And.intro ?_ ?_; first | omega | assumption | (unfold maxLen; omega) | (simp only [decide_eq_true_eq, decide_eq_false_iff_not, Int.not_lt, Int.not_le] at h; omega))
      | ((first | apply callP | apply callPG | apply callP0); (case' hv => (simp only [go_sem, reduceAdd, reduceSub, reduceMul, reduceEqDiff, reduceLeDiff, Nat.reduceBEq, reduceLT, reduceIte, reduceCtorEq, Int.reduceToNat, List.size_toArray, eq_self, Op.operands, hc, hlen, p0, w1, w2, w3, w4, w5, w6, u1, u2, u3]; try exact rfl)); (case' hp => (first | refine' f1 | (refine' (fun hg => ?_); refine' f1) | refine' f2 | (refine' (fun hg => ?_); refine' f2) | refine' f3 | (refine' (fun hg => ?_); refine' f3) | refine' f4 | (refine' (fun hg => ?_); refine' f4) | refine' c1 | (refine' (fun hg => ?_); refine' c1) | refine' c2 | (refine' (fun hg => ?_); refine' c2) | refine' c3 | (refine' (fun hg => ?_); refine' c3) | refine' c4 | (refine' (fun hg => ?_); refine' c4))); (case' h => ((first | refine evOps_fin ?_ | refine And.intro ?_ (evD_fin ?_) | refine evD_fin ?_) <;> simp only [go_sem, reduceAdd, reduceSub, reduceMul, reduceEqDiff, reduceLeDiff, Nat.reduceBEq, reduceLT, reduceIte, reduceCtorEq, Int.reduceToNat, List.size_toArray, eq_self, Op.operands, hc, hlen, p0, w1, w2, w3, w4, w5, w6, u1, u2, u3])))
      | ((first | apply callL | apply callLG | apply callL0); (case' hv => (simp only [go_sem, reduceAdd, reduceSub, reduceMul, reduceEqDiff, reduceLeDiff, Nat.reduceBEq, reduceLT, reduceIte, reduceCtorEq, Int.reduceToNat, List.size_toArray, eq_self, Op.operands, hc, hlen, p0, w1, w2, w3, w4, w5, w6, u1, u2, u3]; try exact rfl)); (case' hp => (first | refine' d1 | (refine' (fun hg => ?_); refine' d1) | refine' d2 | (refine' (fun hg => ?_); refine' d2) | refine' d3 | (refine' (fun hg => ?_); refine' d3) | refine' d4 | (refine' (fun hg => ?_); refine' d4))); (case' hf => exact rfl); (case' h => ((first | refine evOps_fin ?_ | refine And.intro ?_ (evD_fin ?_) | refine evD_fin ?_) <;> simp only [go_sem, reduceAdd, reduceSub, reduceMul, reduceEqDiff, reduceLeDiff, Nat.reduceBEq, reduceLT, reduceIte, reduceCtorEq, Int.reduceToNat, List.size_toArray, eq_self, Op.operands, hc, hlen, p0, w1, w2, w3, w4, w5, w6, u1, u2, u3])))
      | (refine callX ?_; (first | refine evOps_fin ?_ | refine And.intro ?_ (evD_fin ?_) | refine evD_fin ?_) <;> simp only [go_sem, reduceAdd, reduceSub, reduceMul, reduceEqDiff, reduceLeDiff, Nat.reduceBEq, reduceLT, reduceIte, reduceCtorEq, Int.reduceToNat, List.size_toArray, eq_self, Op.operands, hc, hlen, p0, w1, w2, w3, w4, w5, w6, u1, u2, u3])
theorem sum_nil (r : Rc) : Pure Try.prog 15 [.nilp, .agg [.int .i64 r.x0, .int .i64 r.y0, .int .i64 r.x1, .int .i64 r.y1]] (.int .i64 0) := by
  (refine pure_of_ev tt_ok Try.func15 rfl (by decide +kernel) (Nat.le_of_ble_eq_true rfl) ?_; simp only [Try.f15])
  repeat' first
    | refine ev_seq (fun K hK => ?_)
    | ((first | refine evrd (id := 5) hmix tt_ok false [([], false), ([], false), ([], false), ([], false), ([], false), ([], false), ([], false), ([], false), ([], true), ([8], false), ([8], false), ([8], false), ([8], false), ([8], false), ([8], false), ([8], false), ([8], false), ([8], false), ([], false), ([], false), ([], false)] (by decide +kernel) ?_ | refine evrd (id := 6) hmix tt_ok false [([], false), ([], false), ([], false), ([], false), ([], false), ([], false), ([], false), ([], false), ([], true), ([8], false), ([8], false), ([8], false), ([8], false), ([8], false), ([8], false), ([8], false), ([8], false), ([8], false), ([], false), ([], false), ([], false)] (by decide +kernel) ?_ | refine evr tt_ok false ?_ | refine ev_skip ?_ | refine ev_ret ?_ | refine ev_exit ?_ | refine evc (fun X Y hX hY => ?_)); simp only [go_sem, reduceAdd, reduceSub, reduceMul, reduceEqDiff, reduceLeDiff, Nat.reduceBEq, reduceLT, reduceIte, reduceCtorEq, Int.reduceToNat]; try (first | (refine ⟨fun h => hX ?_, fun h => hY ?_⟩; clear hX hY) | (refine hX ?_; clear hX hY) | (refine hY ?_; clear hX hY)))
    | refine ev_block ?_
    | (apply hK; clear hK)
    | apply_assumption -exfalso -symm only [*]
    | (refine And.intro ?_ ?_; first | omega | assumption | (unfold maxLen; omega) | (simp only [decide_eq_true_eq, decide_eq_false_iff_not, Int.not_lt, Int.not_le] at h; omega))
    | ((first | apply callP | apply callPG | apply callP0); (case' hv => (simp only [go_sem, reduceAdd, reduceSub, reduceMul, reduceEqDiff, reduceLeDiff, Nat.reduceBEq, reduceLT, reduceIte, reduceCtorEq, Int.reduceToNat]; try exact rfl)); (case' hp => (first | refine' far_pure _ | (refine' (fun hg => ?_); refine' far_pure _))); (case' h => ((first | refine evOps_fin ?_ | refine And.intro ?_ (evD_fin ?_) | refine evD_fin ?_) <;> simp only [go_sem, reduceAdd, reduceSub, reduceMul, reduceEqDiff, reduceLeDiff, Nat.reduceBEq, reduceLT, reduceIte, reduceCtorEq, Int.reduceToNat])))
    | (refine callX ?_; (first | refine evOps_fin ?_ | refine And.intro ?_ (evD_fin ?_) | refine evD_fin ?_) <;> simp only [go_sem, reduceAdd, reduceSub, reduceMul, reduceEqDiff, reduceLeDiff, Nat.reduceBEq, reduceLT, reduceIte, reduceCtorEq, Int.reduceToNat])
/-! ### Above -/
theorem above_pure (f : Fld) (hl : f.v.length ≤ 16384) (v : Int) : Pure Try.prog 26 [.pi (pyrV f) 0, .int .u8 v] (.int .i64 ((cntN f.v v f.v.length : Nat) : Int)) := by
  have hlen := pyr_len f
  have p4 : List.take 1 (List.drop 4 (pyrV f)) = [.sl (f.v.map enB)] := rfl
  generalize pyrV f = C at *
  generalize f.v = L at *
  (refine pure_of_ev tt_ok Try.func26 rfl (by decide +kernel) (Nat.le_of_ble_eq_true rfl) ?_; simp only [Try.f26])
  repeat' first
    | refine ev_seq (fun K hK => ?_)
    | ((first | refine evr tt_ok false ?_ | refine ev_skip ?_ | refine ev_ret ?_ | refine ev_exit ?_ | refine evc (fun X Y hX hY => ?_)); simp only [go_sem, reduceAdd, reduceSub, reduceMul, reduceEqDiff, reduceLeDiff, Nat.reduceBEq, reduceLT, reduceIte, reduceCtorEq, Int.reduceToNat, hlen, p4, List.length_map]; try (first | (refine ⟨fun h => hX ?_, fun h => hY ?_⟩; clear hX hY) | (refine hX ?_; clear hX hY) | (refine hY ?_; clear hX hY)))
    | refine ev_block ?_
    | (apply hK; clear hK)
    | apply_assumption -exfalso -symm only [*]
    | (refine And.intro ?_ ?_; first | omega | assumption | (unfold maxLen; omega) | (simp only [decide_eq_true_eq, decide_eq_false_iff_not, Int.not_lt, Int.not_le] at h; omega))
  refine ev_loop (fun i : Nat => i ≤ L.length)
    (fun i => ⟨27, [(16, .int .i64 (i : Int)), (15, .int .i64 ((L.length : Nat) : Int)), (14, .sl (L.map enB)), (5, .int .i64 ((cntN L v i : Nat) : Int)), (1, .int .u8 v)], []⟩)
    (fun i => L.length - i) 0 (Nat.zero_le _) ?_ ?_
  · simp only [go_sem, reduceAdd, reduceSub, reduceMul, reduceEqDiff, reduceLeDiff, Nat.reduceBEq, reduceLT, reduceIte, reduceCtorEq, Int.reduceToNat, fits, fitT, fitOs, fitO, V.under, unders, rowsUnder]
    repeat' first | rfl | apply And.intro
  · intro i hi
    have hb0 : 0 ≤ (i : Int) := by omega
    have hw1 : IntKind.i64.wrap ((i : Int) + 1) = ((i + 1 : Nat) : Int) := by rw [w64] <;> omega
    by_cases hlt : (i : Int) < L.length
    · have hc := cnt_le L v i
      have hw2 : IntKind.i64.wrap (((cntN L v i : Nat) : Int) + 1) = ((cntN L v i + 1 : Nat) : Int) := by rw [w64] <;> omega
      by_cases hv : v ≤ L.getD i 0
      · have hs : cntN L v (i + 1) = cntN L v i + 1 := by simp only [cntN, if_pos hv]
        repeat' first
          | refine ev_seq (fun K hK => ?_)
          | ((first | refine evr tt_ok false ?_ | refine ev_skip ?_ | refine ev_ret ?_ | refine ev_exit ?_ | refine evc (fun X Y hX hY => ?_)); simp only [go_sem, reduceAdd, reduceSub, reduceMul, reduceEqDiff, reduceLeDiff, Nat.reduceBEq, reduceLT, reduceIte, reduceCtorEq, Int.reduceToNat, hlt, hb0, hw1, hw2, hv, List.length_map, byte_get, Int.toNat_natCast]; try (first | (refine ⟨fun h => hX ?_, fun h => hY ?_⟩; clear hX hY) | (refine hX ?_; clear hX hY) | (refine hY ?_; clear hX hY)))
          | refine ev_block ?_
          | (apply hK; clear hK)
          | apply_assumption -exfalso -symm only [*]
          | (refine And.intro ?_ ?_; first | omega | assumption | (unfold maxLen; omega) | (simp only [decide_eq_true_eq, decide_eq_false_iff_not, Int.not_lt, Int.not_le] at h; omega))
        refine ⟨i + 1, by omega, ?_, by omega⟩
        rw [hs]
        repeat' first | rfl | apply And.intro
      · have hs : cntN L v (i + 1) = cntN L v i := by simp only [cntN, if_neg hv, Nat.add_zero]
        repeat' first
          | refine ev_seq (fun K hK => ?_)
          | ((first | refine evr tt_ok false ?_ | refine ev_skip ?_ | refine ev_ret ?_ | refine ev_exit ?_ | refine evc (fun X Y hX hY => ?_)); simp only [go_sem, reduceAdd, reduceSub, reduceMul, reduceEqDiff, reduceLeDiff, Nat.reduceBEq, reduceLT, reduceIte, reduceCtorEq, Int.reduceToNat, hlt, hb0, hw1, hw2, hv, List.length_map, byte_get, Int.toNat_natCast]; try (first | (refine ⟨fun h => hX ?_, fun h => hY ?_⟩; clear hX hY) | (refine hX ?_; clear hX hY) | (refine hY ?_; clear hX hY)))
          | refine ev_block ?_
          | (apply hK; clear hK)
          | apply_assumption -exfalso -symm only [*]
          | (refine And.intro ?_ ?_; first | omega | assumption | (unfold maxLen; omega) | (simp only [decide_eq_true_eq, decide_eq_false_iff_not, Int.not_lt, Int.not_le] at h; omega))
        refine ⟨i + 1, by omega, ?_, by omega⟩
        rw [hs]
        repeat' first | rfl | apply And.intro
    · obtain rfl : i = L.length := by omega
      repeat' first
        | refine ev_seq (fun K hK => ?_)
        | ((first | refine evr tt_ok false ?_ | refine ev_skip ?_ | refine ev_ret ?_ | refine ev_exit ?_ | refine evc (fun X Y hX hY => ?_)); simp only [go_sem, reduceAdd, reduceSub, reduceMul, reduceEqDiff, reduceLeDiff, Nat.reduceBEq, reduceLT, reduceIte, reduceCtorEq, Int.reduceToNat, hlt]; try (first | (refine ⟨fun h => hX ?_, fun h => hY ?_⟩; clear hX hY) | (refine hX ?_; clear hX hY) | (refine hY ?_; clear hX hY)))
        | refine ev_block ?_
        | (apply hK; clear hK)
        | apply_assumption -exfalso -symm only [*]
        | (refine And.intro ?_ ?_; first | omega | assumption | (unfold maxLen; omega) | (simp only [decide_eq_true_eq, decide_eq_false_iff_not, Int.not_lt, Int.not_le] at h; omega))
theorem above_nil (v : Int) : Pure Try.prog 26 [.nilp, .int .u8 v] (.int .i64 0) := by
  (refine pure_of_ev tt_ok Try.func26 rfl (by decide +kernel) (Nat.le_of_ble_eq_true rfl) ?_; simp only [Try.f26])
  repeat' first
    | refine ev_seq (fun K hK => ?_)
    | ((first | refine evr tt_ok false ?_ | refine ev_skip ?_ | refine ev_ret ?_ | refine ev_exit ?_ | refine evc (fun X Y hX hY => ?_)); simp only [go_sem, reduceAdd, reduceSub, reduceMul, reduceEqDiff, reduceLeDiff, Nat.reduceBEq, reduceLT, reduceIte, reduceCtorEq, Int.reduceToNat]; try (first | (refine ⟨fun h => hX ?_, fun h => hY ?_⟩; clear hX hY) | (refine hX ?_; clear hX hY) | (refine hY ?_; clear hX hY)))
    | refine ev_block ?_
    | (apply hK; clear hK)
    | apply_assumption -exfalso -symm only [*]
    | (refine And.intro ?_ ?_; first | omega | assumption | (unfold maxLen; omega) | (simp only [decide_eq_true_eq, decide_eq_false_iff_not, Int.not_lt, Int.not_le] at h; omega))
/-! ### Peak -/
def mxN (L : List Int) : Nat → Int
  | 0 => L.getD 0 0
  | n + 1 => max (mxN L n) (L.getD (n + 1) 0)
theorem mxN_spec (L : List Int) : ∀ n : Nat, (∀ j, j ≤ n → L.getD j 0 ≤ mxN L n) ∧ ∃ j, j ≤ n ∧ L.getD j 0 = mxN L n
  | 0 => ⟨fun j hj => by obtain rfl : j = 0 := by omega
                         exact Int.le_refl _, 0, Nat.le_refl _, rfl⟩
  | n + 1 => by
    obtain ⟨h1, j, h2, h3⟩ := mxN_spec L n
    refine ⟨fun k hk => ?_, ?_⟩
    · by_cases e : k = n + 1
      · subst e; simp only [mxN]; omega
      · have := h1 k (by omega); simp only [mxN]; omega
    · by_cases e : mxN L n ≤ L.getD (n + 1) 0
      · exact ⟨n + 1, Nat.le_refl _, by simp only [mxN]; omega⟩
      · exact ⟨j, by omega, by simp only [mxN]; omega⟩
theorem smax_pure (L : List Int) (h0 : 0 < L.length) (hl : L.length ≤ 16384) : Pure Try.prog 37 [.sl (L.map enB)] (.int .u8 (mxN L (L.length - 1))) := by
  have hn : ¬ ((L.length : Int) < 1) := by omega
  have hp : (0 : Int) < (L.length : Int) := by omega
  (refine pure_of_ev tt_ok Try.func37 rfl (by decide +kernel) (Nat.le_of_ble_eq_true rfl) ?_; simp only [Try.f37])
  repeat' first
    | refine ev_seq (fun K hK => ?_)
    | ((first | refine evr tt_ok false ?_ | refine ev_skip ?_ | refine ev_ret ?_ | refine ev_exit ?_ | refine evc (fun X Y hX hY => ?_)); simp only [go_sem, reduceAdd, reduceSub, reduceMul, reduceEqDiff, reduceLeDiff, Nat.reduceBEq, reduceLT, reduceIte, reduceCtorEq, Int.reduceToNat, hn, hp, List.length_map, byte_get, Int.toNat_zero]; try (first | (refine ⟨fun h => hX ?_, fun h => hY ?_⟩; clear hX hY) | (refine hX ?_; clear hX hY) | (refine hY ?_; clear hX hY)))
    | refine ev_block ?_
    | (apply hK; clear hK)
    | apply_assumption -exfalso -symm only [*]
    | (refine And.intro ?_ ?_; first | omega | assumption | (unfold maxLen; omega) | (simp only [decide_eq_true_eq, decide_eq_false_iff_not, Int.not_lt, Int.not_le] at h; omega))
  refine ev_loop (fun i : Nat => i < L.length)
    (fun i => ⟨25, [(4, .int .i64 ((i + 1 : Nat) : Int)), (3, .int .u8 (mxN L i)), (0, .sl (L.map enB))], []⟩)
    (fun i => L.length - i) 0 h0 ?_ ?_
  · simp only [go_sem, reduceAdd, reduceSub, reduceMul, reduceEqDiff, reduceLeDiff, Nat.reduceBEq, reduceLT, reduceIte, reduceCtorEq, Int.reduceToNat, fits, fitT, fitOs, fitO, V.under, unders, rowsUnder]
    repeat' first | rfl | apply And.intro
  · intro i hi
    have hb0 : 0 ≤ ((i + 1 : Nat) : Int) := by omega
    have hw1 : IntKind.i64.wrap (((i + 1 : Nat) : Int) + 1) = ((i + 1 + 1 : Nat) : Int) := by rw [w64] <;> omega
    by_cases hlt : ((i + 1 : Nat) : Int) < L.length
    · repeat' first
      | refine ev_seq (fun K hK => ?_)
      | ((first | refine evr tt_ok false ?_ | refine ev_skip ?_ | refine ev_ret ?_ | refine ev_exit ?_ | refine evc (fun X Y hX hY => ?_)); simp only [go_sem, reduceAdd, reduceSub, reduceMul, reduceEqDiff, reduceLeDiff, Nat.reduceBEq, reduceLT, reduceIte, reduceCtorEq, Int.reduceToNat, hlt, hb0, hw1, List.length_map, byte_get, Int.toNat_natCast]; try (first | (refine ⟨fun h => hX ?_, fun h => hY ?_⟩; clear hX hY) | (refine hX ?_; clear hX hY) | (refine hY ?_; clear hX hY)))
      | refine ev_block ?_
      | (apply hK; clear hK)
      | apply_assumption -exfalso -symm only [*]
      | (refine And.intro ?_ ?_; first | omega | assumption | (unfold maxLen; omega) | (simp only [decide_eq_true_eq, decide_eq_false_iff_not, Int.not_lt, Int.not_le] at h; omega))
      refine ⟨i + 1, by omega, ?_, by omega⟩
      repeat' first | rfl | apply And.intro
    · obtain e : L.length - 1 = i := by omega
      repeat' first
        | refine ev_seq (fun K hK => ?_)
        | ((first | refine evr tt_ok false ?_ | refine ev_skip ?_ | refine ev_ret ?_ | refine ev_exit ?_ | refine evc (fun X Y hX hY => ?_)); simp only [go_sem, reduceAdd, reduceSub, reduceMul, reduceEqDiff, reduceLeDiff, Nat.reduceBEq, reduceLT, reduceIte, reduceCtorEq, Int.reduceToNat, hlt, List.length_map, e]; try (first | (refine ⟨fun h => hX ?_, fun h => hY ?_⟩; clear hX hY) | (refine hX ?_; clear hX hY) | (refine hY ?_; clear hX hY)))
        | refine ev_block ?_
        | (apply hK; clear hK)
        | apply_assumption -exfalso -symm only [*]
        | (refine And.intro ?_ ?_; first | omega | assumption | (unfold maxLen; omega) | (simp only [decide_eq_true_eq, decide_eq_false_iff_not, Int.not_lt, Int.not_le] at h; omega))
theorem sindex_pure (L : List Int) (v : Int) (k : Nat) (hl : L.length ≤ 16384) (hk : k < L.length) (hv : L.getD k 0 = v) (hf : ∀ j, j < k → L.getD j 0 ≠ v) : Pure Try.prog 38 [.sl (L.map enB), .int .u8 v] (.int .i64 (k : Int)) := by
  (refine pure_of_ev tt_ok Try.func38 rfl (by decide +kernel) (Nat.le_of_ble_eq_true rfl) ?_; simp only [Try.f38])
  repeat' first
    | refine ev_seq (fun K hK => ?_)
    | ((first | refine evr tt_ok false ?_ | refine ev_skip ?_ | refine ev_ret ?_ | refine ev_exit ?_ | refine evc (fun X Y hX hY => ?_)); simp only [go_sem, reduceAdd, reduceSub, reduceMul, reduceEqDiff, reduceLeDiff, Nat.reduceBEq, reduceLT, reduceIte, reduceCtorEq, Int.reduceToNat, List.length_map]; try (first | (refine ⟨fun h => hX ?_, fun h => hY ?_⟩; clear hX hY) | (refine hX ?_; clear hX hY) | (refine hY ?_; clear hX hY)))
    | refine ev_block ?_
    | (apply hK; clear hK)
    | apply_assumption -exfalso -symm only [*]
    | (refine And.intro ?_ ?_; first | omega | assumption | (unfold maxLen; omega) | (simp only [decide_eq_true_eq, decide_eq_false_iff_not, Int.not_lt, Int.not_le] at h; omega))
  refine ev_loop (fun i : Nat => i ≤ k)
    (fun i => ⟨19, [(8, .int .i64 (i : Int)), (7, .int .i64 ((L.length : Nat) : Int)), (1, .int .u8 v), (0, .sl (L.map enB))], []⟩)
    (fun i => k - i) 0 (Nat.zero_le _) ?_ ?_
  · simp only [go_sem, reduceAdd, reduceSub, reduceMul, reduceEqDiff, reduceLeDiff, Nat.reduceBEq, reduceLT, reduceIte, reduceCtorEq, Int.reduceToNat, fits, fitT, fitOs, fitO, V.under, unders, rowsUnder]
    repeat' first | rfl | apply And.intro
  · intro i hi
    have hb0 : 0 ≤ (i : Int) := by omega
    have hw1 : IntKind.i64.wrap ((i : Int) + 1) = ((i + 1 : Nat) : Int) := by rw [w64] <;> omega
    have hlt : (i : Int) < L.length := by omega
    by_cases e : i = k
    · subst e
      have hq : (v == L.getD i 0) = true := by rw [hv]; simp
      repeat' first
        | refine ev_seq (fun K hK => ?_)
        | ((first | refine evr tt_ok false ?_ | refine ev_skip ?_ | refine ev_ret ?_ | refine ev_exit ?_ | refine evc (fun X Y hX hY => ?_)); simp only [go_sem, reduceAdd, reduceSub, reduceMul, reduceEqDiff, reduceLeDiff, Nat.reduceBEq, reduceLT, reduceIte, reduceCtorEq, Int.reduceToNat, hlt, hb0, hq, List.length_map, byte_get, Int.toNat_natCast]; try (first | (refine ⟨fun h => hX ?_, fun h => hY ?_⟩; clear hX hY) | (refine hX ?_; clear hX hY) | (refine hY ?_; clear hX hY)))
        | refine ev_block ?_
        | (apply hK; clear hK)
        | apply_assumption -exfalso -symm only [*]
        | (refine And.intro ?_ ?_; first | omega | assumption | (unfold maxLen; omega) | (simp only [decide_eq_true_eq, decide_eq_false_iff_not, Int.not_lt, Int.not_le] at h; omega))
    · have hq : (v == L.getD i 0) = false := by rw [beq_eq_false_iff_ne]; exact fun h => hf i (by omega) h.symm
      repeat' first
        | refine ev_seq (fun K hK => ?_)
        | ((first | refine evr tt_ok false ?_ | refine ev_skip ?_ | refine ev_ret ?_ | refine ev_exit ?_ | refine evc (fun X Y hX hY => ?_)); simp only [go_sem, reduceAdd, reduceSub, reduceMul, reduceEqDiff, reduceLeDiff, Nat.reduceBEq, reduceLT, reduceIte, reduceCtorEq, Int.reduceToNat, hlt, hb0, hw1, hq, List.length_map, byte_get, Int.toNat_natCast]; try (first | (refine ⟨fun h => hX ?_, fun h => hY ?_⟩; clear hX hY) | (refine hX ?_; clear hX hY) | (refine hY ?_; clear hX hY)))
        | refine ev_block ?_
        | (apply hK; clear hK)
        | apply_assumption -exfalso -symm only [*]
        | (refine And.intro ?_ ?_; first | omega | assumption | (unfold maxLen; omega) | (simp only [decide_eq_true_eq, decide_eq_false_iff_not, Int.not_lt, Int.not_le] at h; omega))
      refine ⟨i + 1, by omega, ?_, by omega⟩
      repeat' first | rfl | apply And.intro
end Go.Proofs.Ytbpchamlhblddaa
