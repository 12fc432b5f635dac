import Derived.Test.YtbibplkhhdomnaaGreatW19
set_option linter.all false
namespace Go.Proofs.YtbibplkhhdomnaaGreat
open Nat (reduceAdd reduceSub reduceMul reduceEqDiff reduceLeDiff reduceLT)
open Go Go.K
set_option maxRecDepth 20000
set_option maxHeartbeats 8000000
def zeroF : List V := [.int .i64 0, .int .i64 0, .int .i64 0, .int .i64 0, .emp]
def lvr (f : Fld) (l j : Nat) : List V := if j < l then encF (lev f j) else zeroF
def prow (f : Fld) (l : Nat) (s : V) : List V := encF f ++ (lvr f l 0 ++ (lvr f l 1 ++ (lvr f l 2 ++ (lvr f l 3 ++ (lvr f l 4 ++ (lvr f l 5 ++ (lvr f l 6 ++ [s])))))))
def lvf (f : Fld) (j : Nat) : Fld := if f.w = 0 then ⟨0, 0, 0, 0, []⟩ else lev f j
def pyrV (f : Fld) : List V := encF f ++ (encF (lvf f 0) ++ (encF (lvf f 1) ++ (encF (lvf f 2) ++ (encF (lvf f 3) ++ (encF (lvf f 4) ++ (encF (lvf f 5) ++ (encF (lvf f 6) ++ [.sl ((sumsL f (f.W * f.H)).map enJ)])))))))
theorem lev_raise (f : Fld) (hf : f.ok) (hb : bytesL f.v) (j : Nat) (hj : j ≤ 5) (k : Int) (hk : (2 : Int) ^ j = k) :
    Pure Tryz.prog 70 [.agg [.int .i64 (lev f j).x, .int .i64 (lev f j).y, .int .i64 (lev f j).w, .int .i64 (lev f j).h, .sl ((lev f j).v.map enB)], .int .i64 k]
      (.agg [.int .i64 (lev f (j + 1)).x, .int .i64 (lev f (j + 1)).y, .int .i64 (lev f (j + 1)).w, .int .i64 (lev f (j + 1)).h, .sl ((lev f (j + 1)).v.map enB)]) := by
  obtain ⟨h1, h2, h3, h4, _⟩ := id hf
  obtain ⟨d1, d2, _, _⟩ := lev_dims f j
  have hp : (2 : Int) ^ j ≤ 32 ∧ 0 < (2 : Int) ^ j := by
    have : j = 0 ∨ j = 1 ∨ j = 2 ∨ j = 3 ∨ j = 4 ∨ j = 5 := by omega
    rcases this with rfl | rfl | rfl | rfl | rfl | rfl <;> decide
  have := raise_pure (lev f j) (2 ^ j) (lev_fine hf hb (by omega)) (by omega) (by omega) (by omega)
  rw [← hk]
  exact this
theorem new_zero (f : Fld) (h : f.ok) (hw : f.w = 0) : Pure Tryz.prog 39 [.agg [.int .i64 f.x, .int .i64 f.y, .int .i64 f.w, .int .i64 f.h, .sl (f.v.map enB)]] (.tup [.pi (encF f ++ (zeroF ++ (zeroF ++ (zeroF ++ (zeroF ++ (zeroF ++ (zeroF ++ (zeroF ++ [.sl ([0].map enJ)])))))))) 0, .int .i64 0]) := by
  have v := vfield_pure f
  rw [decide_eq_true h] at v
  obtain ⟨h1, h2, h3, h4, h5, h6, h7, h8, h9, h10, h11⟩ := h
  have hh := h5.1 hw
  have hv : f.v = [] := by
    rw [hw, hh] at h6
    exact List.eq_nil_of_length_eq_zero (by simpa using h6)
  obtain ⟨hx, hy⟩ := h11 hw
  obtain ⟨x, y, w, h, l⟩ := f
  simp only at hw hh hv hx hy
  subst hw hh hv hx hy
  have c := clone_pure [] (by decide)
  have w1 : IntKind.i64.wrap 1 = 1 := by decide
  have h0 : (0 : Int) ≤ 1 := by decide
  have hm : (1 : Int) ≤ ((maxLen : Nat) : Int) := by decide
  simp only [encF, zeroF, List.map_nil] at *
  (refine pure_of_ev tt_ok Tryz.func39 rfl (by decide +kernel) (Nat.le_of_ble_eq_true rfl) ?_; simp only [Tryz.f39])
  repeat' first
    | refine ev_seq (fun K hK => ?_)
    | ((first | refine evrd (id := 4) hmix tt_ok false [([], true), ([], false), ([], false), ([], false), ([], false), ([], false), ([], false), ([], false), ([0], false), ([], false), ([], false), ([], false)] (by decide +kernel) ?_ | refine evrd (id := 7) hmix tt_ok false [([], false), ([], false), ([], false), ([], false), ([], false), ([], false)] (by decide +kernel) ?_ | refine evrd (id := 11) hmix tt_ok false [([], true), ([], true), ([], false), ([], false), ([], false), ([], false), ([], false), ([], false), ([], false), ([], false), ([], false), ([], false), ([0, 1], true), ([12], false), ([12], false), ([], false), ([], false)] (by decide +kernel) ?_ | refine evrd (id := 16) hmix tt_ok false [([], false), ([], false), ([], false), ([], false), ([], false), ([], false), ([], false), ([], false), ([], false), ([], false), ([], false), ([], false), ([], false), ([], false)] (by decide +kernel) ?_ | refine evrd (id := 17) hmix tt_ok false [([], false), ([], false), ([], false), ([], false), ([], false), ([], false), ([], false), ([], false), ([], false), ([], false), ([], false), ([], false), ([], false), ([], false), ([], false), ([], false), ([], false), ([], false), ([], false), ([], false), ([], false), ([], false), ([], false), ([], false), ([], false), ([], false), ([], false), ([], false), ([], false), ([], false), ([], false), ([], false), ([], false), ([], false), ([], false), ([], false), ([], false), ([], false), ([], false)] (by decide +kernel) ?_ | refine evr tt_ok false ?_ | refine ev_skip ?_ | refine ev_ret ?_ | refine ev_exit ?_ | refine evc (fun X Y hX hY => ?_)); simp only [go_sem, reduceAdd, reduceSub, reduceMul, reduceEqDiff, reduceLeDiff, Nat.reduceBEq, reduceLT, reduceIte, reduceCtorEq, Int.reduceToNat, w1, h0, hm, Int.reduceToNat, Int.reduceMul, Int.reduceAdd]; try (first | (refine ⟨fun h => hX ?_, fun h => hY ?_⟩; clear hX hY) | (refine hX ?_; clear hX hY) | (refine hY ?_; clear hX hY)))
    | refine ev_block ?_
    | (apply hK; clear hK)
    | apply_assumption -exfalso -symm only [*]
    | (refine And.intro ?_ ?_; first | omega | assumption | (unfold maxLen; omega) | (simp only [decide_eq_true_eq, decide_eq_false_iff_not, Int.not_lt, Int.not_le] at h; omega))
    | ((first | apply callP | apply callPG | apply callP0); (case' hv => (simp only [go_sem, reduceAdd, reduceSub, reduceMul, reduceEqDiff, reduceLeDiff, Nat.reduceBEq, reduceLT, reduceIte, reduceCtorEq, Int.reduceToNat, w1, h0, hm, Int.reduceToNat, Int.reduceMul, Int.reduceAdd]; try exact rfl)); (case' hp => (first | refine' v | (refine' (fun hg => ?_); refine' v) | refine' c | (refine' (fun hg => ?_); refine' c))); (case' h => ((first | refine evOps_fin ?_ | refine And.intro ?_ (evD_fin ?_) | refine evD_fin ?_) <;> simp only [go_sem, reduceAdd, reduceSub, reduceMul, reduceEqDiff, reduceLeDiff, Nat.reduceBEq, reduceLT, reduceIte, reduceCtorEq, Int.reduceToNat, w1, h0, hm, Int.reduceToNat, Int.reduceMul, Int.reduceAdd])))
    | (refine callX ?_; (first | refine evOps_fin ?_ | refine And.intro ?_ (evD_fin ?_) | refine evD_fin ?_) <;> simp only [go_sem, reduceAdd, reduceSub, reduceMul, reduceEqDiff, reduceLeDiff, Nat.reduceBEq, reduceLT, reduceIte, reduceCtorEq, Int.reduceToNat, w1, h0, hm, Int.reduceToNat, Int.reduceMul, Int.reduceAdd])
  all_goals rfl
theorem new_some (f : Fld) (h : f.ok) (hb : bytesL f.v) (hw : f.w ≠ 0) : Pure Tryz.prog 39 [.agg [.int .i64 f.x, .int .i64 f.y, .int .i64 f.w, .int .i64 f.h, .sl (f.v.map enB)]] (.tup [.pi (prow f 7 (.sl ((sumsL f (f.W * f.H)).map enJ))) 0, .int .i64 0]) := by
  have v := vfield_pure f
  rw [decide_eq_true h] at v
  obtain ⟨h1, h2, h3, h4, h5, h6, h7, h8, h9, h10, h11⟩ := id h
  have hhp : 0 < f.h := by omega
  have hWc : ((f.W : Nat) : Int) = f.w := by unfold Fld.W; omega
  have hHc : ((f.H : Nat) : Int) = f.h := by unfold Fld.H; omega
  have hn : f.v.length = f.W * f.H := by
    have : ((f.v.length : Nat) : Int) = ((f.W * f.H : Nat) : Int) := by rw [h6, Int.natCast_mul, hWc, hHc]
    omega
  have hW1 : 1 ≤ f.W := by omega
  have hW2 : f.W ≤ 64 := by omega
  have hH2 : f.H ≤ 64 := by omega
  have hNs : (f.W + 1) * (f.H + 1) ≤ 65 * 65 := Nat.mul_le_mul (by omega) (by omega)
  have hns : f.W * f.H ≤ 64 * 64 := Nat.mul_le_mul hW2 hH2
  have c := clone_pure f.v (by omega)
  have w1 : IntKind.i64.wrap (f.w + 1) = f.w + 1 := w64 (by omega) (by omega)
  have w2 : IntKind.i64.wrap (f.h + 1) = f.h + 1 := w64 (by omega) (by omega)
  have w3 : IntKind.i64.wrap ((f.w + 1) * (f.h + 1)) = (((f.W + 1) * (f.H + 1) : Nat) : Int) := by
    rw [Int.natCast_mul, Int.natCast_add, Int.natCast_add, hWc, hHc]
    have := mul_small (a := f.w + 1) (b := f.h + 1) (n := 65) (m := 65) (by omega) (by omega) (by omega) (by omega)
    exact w64 (by omega) (by omega)
  have hz : (f.w == 0) = false := by rw [beq_eq_false_iff_ne]; exact hw
  have hz0 := sumsL_zero f
  have hN : (sumsL f 0).length = (f.W + 1) * (f.H + 1) := sumsL_len f 0
  obtain ⟨N, hNe⟩ : ∃ N, (f.W + 1) * (f.H + 1) = N := ⟨_, rfl⟩
  rw [hNe] at w3 hz0 hNs
  have h8 : 8 * N ≤ 281474976710656 := by omega
  have h0 : (0 : Int) ≤ (N : Int) := by omega
  have hm2 : (N : Int) ≤ ((maxLen : Nat) : Int) := by unfold maxLen; omega
  (refine pure_of_ev tt_ok Tryz.func39 rfl (by decide +kernel) (Nat.le_of_ble_eq_true rfl) ?_; simp only [Tryz.f39])
  repeat' first
    | refine ev_seq (fun K hK => ?_)
    | ((first | refine evrd (id := 4) hmix tt_ok false [([], true), ([], false), ([], false), ([], false), ([], false), ([], false), ([], false), ([], false), ([0], false), ([], false), ([], false), ([], false)] (by decide +kernel) ?_ | refine evrd (id := 7) hmix tt_ok false [([], false), ([], false), ([], false), ([], false), ([], false), ([], false)] (by decide +kernel) ?_ | refine evrd (id := 11) hmix tt_ok false [([], true), ([], true), ([], false), ([], false), ([], false), ([], false), ([], false), ([], false), ([], false), ([], false), ([], false), ([], false), ([0, 1], true), ([12], false), ([12], false), ([], false), ([], false)] (by decide +kernel) ?_ | refine evrd (id := 16) hmix tt_ok false [([], false), ([], false), ([], false), ([], false), ([], false), ([], false), ([], false), ([], false), ([], false), ([], false), ([], false), ([], false), ([], false), ([], false)] (by decide +kernel) ?_ | refine evrd (id := 17) hmix tt_ok false [([], false), ([], false), ([], false), ([], false), ([], false), ([], false), ([], false), ([], false), ([], false), ([], false), ([], false), ([], false), ([], false), ([], false), ([], false), ([], false), ([], false), ([], false), ([], false), ([], false), ([], false), ([], false), ([], false), ([], false), ([], false), ([], false), ([], false), ([], false), ([], false), ([], false), ([], false), ([], false), ([], false), ([], false), ([], false), ([], false), ([], false), ([], false), ([], false)] (by decide +kernel) ?_ | refine evr tt_ok false ?_ | refine ev_skip ?_ | refine ev_ret ?_ | refine ev_exit ?_ | refine evc (fun X Y hX hY => ?_)); simp only [go_sem, reduceAdd, reduceSub, reduceMul, reduceEqDiff, reduceLeDiff, Nat.reduceBEq, reduceLT, reduceIte, reduceCtorEq, Int.reduceToNat, w1, w2, w3, hz, h8, h0, hm2, Int.toNat_natCast, rep_enJ, ← hz0]; try (first | (refine ⟨fun h => hX ?_, fun h => hY ?_⟩; clear hX hY) | (refine hX ?_; clear hX hY) | (refine hY ?_; clear hX hY)))
    | refine ev_block ?_
    | (apply hK; clear hK)
    | apply_assumption -exfalso -symm only [*]
    | (refine And.intro ?_ ?_; first | omega | assumption | (unfold maxLen; omega) | (simp only [decide_eq_true_eq, decide_eq_false_iff_not, Int.not_lt, Int.not_le] at h; omega))
    | ((first | apply callP | apply callPG | apply callP0); (case' hv => (simp only [go_sem, reduceAdd, reduceSub, reduceMul, reduceEqDiff, reduceLeDiff, Nat.reduceBEq, reduceLT, reduceIte, reduceCtorEq, Int.reduceToNat, w1, w2, w3, hz, h8, h0, hm2, Int.toNat_natCast, rep_enJ, ← hz0]; try exact rfl)); (case' hp => (first | refine' v | (refine' (fun hg => ?_); refine' v) | refine' c | (refine' (fun hg => ?_); refine' c))); (case' h => ((first | refine evOps_fin ?_ | refine And.intro ?_ (evD_fin ?_) | refine evD_fin ?_) <;> simp only [go_sem, reduceAdd, reduceSub, reduceMul, reduceEqDiff, reduceLeDiff, Nat.reduceBEq, reduceLT, reduceIte, reduceCtorEq, Int.reduceToNat, w1, w2, w3, hz, h8, h0, hm2, Int.toNat_natCast, rep_enJ, ← hz0])))
    | (refine callX ?_; (first | refine evOps_fin ?_ | refine And.intro ?_ (evD_fin ?_) | refine evD_fin ?_) <;> simp only [go_sem, reduceAdd, reduceSub, reduceMul, reduceEqDiff, reduceLeDiff, Nat.reduceBEq, reduceLT, reduceIte, reduceCtorEq, Int.reduceToNat, w1, w2, w3, hz, h8, h0, hm2, Int.toNat_natCast, rep_enJ, ← hz0])
  refine ev_loop (fun l : Nat => 1 ≤ l ∧ l ≤ 7)
    (fun l => ⟨121, [(5, .int .i64 (l : Int)), (4, .own 2 0 0 0), (1, .own 0 0 0 0)],
      [.blk 35 0 5 [[.int .i64 f.x, .int .i64 f.y, .int .i64 f.w, .int .i64 f.h, .sl (f.v.map enB)]], .blk 3 0 1 ((sumsL f 0).map enJ), .blk 139 0 41 [prow f l (.rs 1 0 0 N)]]⟩)
    (fun l => 7 - l) 1 ⟨Nat.le_refl _, by omega⟩ ?_ ?_
  · simp only [go_sem, reduceAdd, reduceSub, reduceMul, reduceEqDiff, reduceLeDiff, Nat.reduceBEq, reduceLT, reduceIte, reduceCtorEq, Int.reduceToNat, fits, fitT, fitOs, fitO, V.under, unders, rowsUnder, prow, lvr, encF, zeroF]
    repeat' first | rfl | exact rowsUnder_lit _ (lit_enJ _) | (simp only [V.under, unders, rowsUnder, Nat.reduceLT]; done) | apply And.intro
  · rintro l ⟨hl1, hl2⟩
    have hcase : l = 1 ∨ l = 2 ∨ l = 3 ∨ l = 4 ∨ l = 5 ∨ l = 6 ∨ l = 7 := by omega
    have hbits : ((IntKind.i64.bits : Nat) : Int) = 64 := rfl
    have wr : ∀ n : Int, 0 ≤ n → n ≤ 64 → IntKind.i64.wrap n = n := fun n a b => w64 (by omega) (by omega)
    have k1 := wr 1 (by decide) (by decide)
    have k0 := wr 0 (by decide) (by decide)
    have k2 := wr 2 (by decide) (by decide)
    have k3 := wr 3 (by decide) (by decide)
    have k4 := wr 4 (by decide) (by decide)
    have k5 := wr 5 (by decide) (by decide)
    have k6 := wr 6 (by decide) (by decide)
    have k7 := wr 7 (by decide) (by decide)
    have k8 := wr 8 (by decide) (by decide)
    have k16 := wr 16 (by decide) (by decide)
    have k32 := wr 32 (by decide) (by decide)
    rcases hcase with rfl | rfl | rfl | rfl | rfl | rfl | rfl
    · have r := lev_raise f h hb 0 (by omega) 1 (by decide)
      have hc : ((1 : Nat) : Int) = 1 := rfl
      repeat' first
        | refine ev_seq (fun K hK => ?_)
        | ((first | refine evrd (id := 4) hmix tt_ok false [([], true), ([], false), ([], false), ([], false), ([], false), ([], false), ([], false), ([], false), ([0], false), ([], false), ([], false), ([], false)] (by decide +kernel) ?_ | refine evrd (id := 7) hmix tt_ok false [([], false), ([], false), ([], false), ([], false), ([], false), ([], false)] (by decide +kernel) ?_ | refine evrd (id := 11) hmix tt_ok false [([], true), ([], true), ([], false), ([], false), ([], false), ([], false), ([], false), ([], false), ([], false), ([], false), ([], false), ([], false), ([0, 1], true), ([12], false), ([12], false), ([], false), ([], false)] (by decide +kernel) ?_ | refine evrd (id := 16) hmix tt_ok false [([], false), ([], false), ([], false), ([], false), ([], false), ([], false), ([], false), ([], false), ([], false), ([], false), ([], false), ([], false), ([], false), ([], false)] (by decide +kernel) ?_ | refine evrd (id := 17) hmix tt_ok false [([], false), ([], false), ([], false), ([], false), ([], false), ([], false), ([], false), ([], false), ([], false), ([], false), ([], false), ([], false), ([], false), ([], false), ([], false), ([], false), ([], false), ([], false), ([], false), ([], false), ([], false), ([], false), ([], false), ([], false), ([], false), ([], false), ([], false), ([], false), ([], false), ([], false), ([], false), ([], false), ([], false), ([], false), ([], false), ([], false), ([], false), ([], false), ([], false)] (by decide +kernel) ?_ | refine evr tt_ok false ?_ | refine ev_skip ?_ | refine ev_ret ?_ | refine ev_exit ?_ | refine evc (fun X Y hX hY => ?_)); simp only [go_sem, reduceAdd, reduceSub, reduceMul, reduceEqDiff, reduceLeDiff, Nat.reduceBEq, reduceLT, reduceIte, reduceCtorEq, Int.reduceToNat, prow, lvr, encF, zeroF, hc, hbits, k0, k1, k2, k3, k4, k5, k6, k7, k8, k16, k32, Int.reduceSub, Int.reduceAdd, Int.reduceMul, Int.reducePow, Int.reduceToNat, Int.reduceLE, Int.reduceLT]; try (first | (refine ⟨fun h => hX ?_, fun h => hY ?_⟩; clear hX hY) | (refine hX ?_; clear hX hY) | (refine hY ?_; clear hX hY)))
        | refine ev_block ?_
        | (apply hK; clear hK)
        | apply_assumption -exfalso -symm only [*]
        | (refine And.intro ?_ ?_; first | omega | assumption | (unfold maxLen; omega) | (simp only [decide_eq_true_eq, decide_eq_false_iff_not, Int.not_lt, Int.not_le] at h; omega))
        | ((first | apply callP | apply callPG | apply callP0); (case' hv => (simp only [go_sem, reduceAdd, reduceSub, reduceMul, reduceEqDiff, reduceLeDiff, Nat.reduceBEq, reduceLT, reduceIte, reduceCtorEq, Int.reduceToNat, prow, lvr, encF, zeroF, hc, hbits, k0, k1, k2, k3, k4, k5, k6, k7, k8, k16, k32, Int.reduceSub, Int.reduceAdd, Int.reduceMul, Int.reducePow, Int.reduceToNat, Int.reduceLE, Int.reduceLT]; try exact rfl)); (case' hp => (first | refine' r | (refine' (fun hg => ?_); refine' r))); (case' h => ((first | refine evOps_fin ?_ | refine And.intro ?_ (evD_fin ?_) | refine evD_fin ?_) <;> simp only [go_sem, reduceAdd, reduceSub, reduceMul, reduceEqDiff, reduceLeDiff, Nat.reduceBEq, reduceLT, reduceIte, reduceCtorEq, Int.reduceToNat, prow, lvr, encF, zeroF, hc, hbits, k0, k1, k2, k3, k4, k5, k6, k7, k8, k16, k32, Int.reduceSub, Int.reduceAdd, Int.reduceMul, Int.reducePow, Int.reduceToNat, Int.reduceLE, Int.reduceLT])))
        | (refine callX ?_; (first | refine evOps_fin ?_ | refine And.intro ?_ (evD_fin ?_) | refine evD_fin ?_) <;> simp only [go_sem, reduceAdd, reduceSub, reduceMul, reduceEqDiff, reduceLeDiff, Nat.reduceBEq, reduceLT, reduceIte, reduceCtorEq, Int.reduceToNat, prow, lvr, encF, zeroF, hc, hbits, k0, k1, k2, k3, k4, k5, k6, k7, k8, k16, k32, Int.reduceSub, Int.reduceAdd, Int.reduceMul, Int.reducePow, Int.reduceToNat, Int.reduceLE, Int.reduceLT])
      refine ⟨2, by omega, ?_, by omega⟩
      repeat' first | rfl | exact rowsUnder_lit _ (lit_enJ _) | (simp only [V.under, unders, rowsUnder, Nat.reduceLT]; done) | apply And.intro
    · have r := lev_raise f h hb 1 (by omega) 2 (by decide)
      have hc : ((2 : Nat) : Int) = 2 := rfl
      repeat' first
        | refine ev_seq (fun K hK => ?_)
        | ((first | refine evrd (id := 4) hmix tt_ok false [([], true), ([], false), ([], false), ([], false), ([], false), ([], false), ([], false), ([], false), ([0], false), ([], false), ([], false), ([], false)] (by decide +kernel) ?_ | refine evrd (id := 7) hmix tt_ok false [([], false), ([], false), ([], false), ([], false), ([], false), ([], false)] (by decide +kernel) ?_ | refine evrd (id := 11) hmix tt_ok false [([], true), ([], true), ([], false), ([], false), ([], false), ([], false), ([], false), ([], false), ([], false), ([], false), ([], false), ([], false), ([0, 1], true), ([12], false), ([12], false), ([], false), ([], false)] (by decide +kernel) ?_ | refine evrd (id := 16) hmix tt_ok false [([], false), ([], false), ([], false), ([], false), ([], false), ([], false), ([], false), ([], false), ([], false), ([], false), ([], false), ([], false), ([], false), ([], false)] (by decide +kernel) ?_ | refine evrd (id := 17) hmix tt_ok false [([], false), ([], false), ([], false), ([], false), ([], false), ([], false), ([], false), ([], false), ([], false), ([], false), ([], false), ([], false), ([], false), ([], false), ([], false), ([], false), ([], false), ([], false), ([], false), ([], false), ([], false), ([], false), ([], false), ([], false), ([], false), ([], false), ([], false), ([], false), ([], false), ([], false), ([], false), ([], false), ([], false), ([], false), ([], false), ([], false), ([], false), ([], false), ([], false)] (by decide +kernel) ?_ | refine evr tt_ok false ?_ | refine ev_skip ?_ | refine ev_ret ?_ | refine ev_exit ?_ | refine evc (fun X Y hX hY => ?_)); simp only [go_sem, reduceAdd, reduceSub, reduceMul, reduceEqDiff, reduceLeDiff, Nat.reduceBEq, reduceLT, reduceIte, reduceCtorEq, Int.reduceToNat, prow, lvr, encF, zeroF, hc, hbits, k0, k1, k2, k3, k4, k5, k6, k7, k8, k16, k32, Int.reduceSub, Int.reduceAdd, Int.reduceMul, Int.reducePow, Int.reduceToNat, Int.reduceLE, Int.reduceLT]; try (first | (refine ⟨fun h => hX ?_, fun h => hY ?_⟩; clear hX hY) | (refine hX ?_; clear hX hY) | (refine hY ?_; clear hX hY)))
        | refine ev_block ?_
        | (apply hK; clear hK)
        | apply_assumption -exfalso -symm only [*]
        | (refine And.intro ?_ ?_; first | omega | assumption | (unfold maxLen; omega) | (simp only [decide_eq_true_eq, decide_eq_false_iff_not, Int.not_lt, Int.not_le] at h; omega))
        | ((first | apply callP | apply callPG | apply callP0); (case' hv => (simp only [go_sem, reduceAdd, reduceSub, reduceMul, reduceEqDiff, reduceLeDiff, Nat.reduceBEq, reduceLT, reduceIte, reduceCtorEq, Int.reduceToNat, prow, lvr, encF, zeroF, hc, hbits, k0, k1, k2, k3, k4, k5, k6, k7, k8, k16, k32, Int.reduceSub, Int.reduceAdd, Int.reduceMul, Int.reducePow, Int.reduceToNat, Int.reduceLE, Int.reduceLT]; try exact rfl)); (case' hp => (first | refine' r | (refine' (fun hg => ?_); refine' r))); (case' h => ((first | refine evOps_fin ?_ | refine And.intro ?_ (evD_fin ?_) | refine evD_fin ?_) <;> simp only [go_sem, reduceAdd, reduceSub, reduceMul, reduceEqDiff, reduceLeDiff, Nat.reduceBEq, reduceLT, reduceIte, reduceCtorEq, Int.reduceToNat, prow, lvr, encF, zeroF, hc, hbits, k0, k1, k2, k3, k4, k5, k6, k7, k8, k16, k32, Int.reduceSub, Int.reduceAdd, Int.reduceMul, Int.reducePow, Int.reduceToNat, Int.reduceLE, Int.reduceLT])))
        | (refine callX ?_; (first | refine evOps_fin ?_ | refine And.intro ?_ (evD_fin ?_) | refine evD_fin ?_) <;> simp only [go_sem, reduceAdd, reduceSub, reduceMul, reduceEqDiff, reduceLeDiff, Nat.reduceBEq, reduceLT, reduceIte, reduceCtorEq, Int.reduceToNat, prow, lvr, encF, zeroF, hc, hbits, k0, k1, k2, k3, k4, k5, k6, k7, k8, k16, k32, Int.reduceSub, Int.reduceAdd, Int.reduceMul, Int.reducePow, Int.reduceToNat, Int.reduceLE, Int.reduceLT])
      refine ⟨3, by omega, ?_, by omega⟩
      repeat' first | rfl | exact rowsUnder_lit _ (lit_enJ _) | (simp only [V.under, unders, rowsUnder, Nat.reduceLT]; done) | apply And.intro
    · have r := lev_raise f h hb 2 (by omega) 4 (by decide)
      have hc : ((3 : Nat) : Int) = 3 := rfl
      repeat' first
        | refine ev_seq (fun K hK => ?_)
        | ((first | refine evrd (id := 4) hmix tt_ok false [([], true), ([], false), ([], false), ([], false), ([], false), ([], false), ([], false), ([], false), ([0], false), ([], false), ([], false), ([], false)] (by decide +kernel) ?_ | refine evrd (id := 7) hmix tt_ok false [([], false), ([], false), ([], false), ([], false), ([], false), ([], false)] (by decide +kernel) ?_ | refine evrd (id := 11) hmix tt_ok false [([], true), ([], true), ([], false), ([], false), ([], false), ([], false), ([], false), ([], false), ([], false), ([], false), ([], false), ([], false), ([0, 1], true), ([12], false), ([12], false), ([], false), ([], false)] (by decide +kernel) ?_ | refine evrd (id := 16) hmix tt_ok false [([], false), ([], false), ([], false), ([], false), ([], false), ([], false), ([], false), ([], false), ([], false), ([], false), ([], false), ([], false), ([], false), ([], false)] (by decide +kernel) ?_ | refine evrd (id := 17) hmix tt_ok false [([], false), ([], false), ([], false), ([], false), ([], false), ([], false), ([], false), ([], false), ([], false), ([], false), ([], false), ([], false), ([], false), ([], false), ([], false), ([], false), ([], false), ([], false), ([], false), ([], false), ([], false), ([], false), ([], false), ([], false), ([], false), ([], false), ([], false), ([], false), ([], false), ([], false), ([], false), ([], false), ([], false), ([], false), ([], false), ([], false), ([], false), ([], false), ([], false)] (by decide +kernel) ?_ | refine evr tt_ok false ?_ | refine ev_skip ?_ | refine ev_ret ?_ | refine ev_exit ?_ | refine evc (fun X Y hX hY => ?_)); simp only [go_sem, reduceAdd, reduceSub, reduceMul, reduceEqDiff, reduceLeDiff, Nat.reduceBEq, reduceLT, reduceIte, reduceCtorEq, Int.reduceToNat, prow, lvr, encF, zeroF, hc, hbits, k0, k1, k2, k3, k4, k5, k6, k7, k8, k16, k32, Int.reduceSub, Int.reduceAdd, Int.reduceMul, Int.reducePow, Int.reduceToNat, Int.reduceLE, Int.reduceLT]; try (first | (refine ⟨fun h => hX ?_, fun h => hY ?_⟩; clear hX hY) | (refine hX ?_; clear hX hY) | (refine hY ?_; clear hX hY)))
        | refine ev_block ?_
        | (apply hK; clear hK)
        | apply_assumption -exfalso -symm only [*]
        | (refine And.intro ?_ ?_; first | omega | assumption | (unfold maxLen; omega) | (simp only [decide_eq_true_eq, decide_eq_false_iff_not, Int.not_lt, Int.not_le] at h; omega))
        | ((first | apply callP | apply callPG | apply callP0); (case' hv => (simp only [go_sem, reduceAdd, reduceSub, reduceMul, reduceEqDiff, reduceLeDiff, Nat.reduceBEq, reduceLT, reduceIte, reduceCtorEq, Int.reduceToNat, prow, lvr, encF, zeroF, hc, hbits, k0, k1, k2, k3, k4, k5, k6, k7, k8, k16, k32, Int.reduceSub, Int.reduceAdd, Int.reduceMul, Int.reducePow, Int.reduceToNat, Int.reduceLE, Int.reduceLT]; try exact rfl)); (case' hp => (first | refine' r | (refine' (fun hg => ?_); refine' r))); (case' h => ((first | refine evOps_fin ?_ | refine And.intro ?_ (evD_fin ?_) | refine evD_fin ?_) <;> simp only [go_sem, reduceAdd, reduceSub, reduceMul, reduceEqDiff, reduceLeDiff, Nat.reduceBEq, reduceLT, reduceIte, reduceCtorEq, Int.reduceToNat, prow, lvr, encF, zeroF, hc, hbits, k0, k1, k2, k3, k4, k5, k6, k7, k8, k16, k32, Int.reduceSub, Int.reduceAdd, Int.reduceMul, Int.reducePow, Int.reduceToNat, Int.reduceLE, Int.reduceLT])))
        | (refine callX ?_; (first | refine evOps_fin ?_ | refine And.intro ?_ (evD_fin ?_) | refine evD_fin ?_) <;> simp only [go_sem, reduceAdd, reduceSub, reduceMul, reduceEqDiff, reduceLeDiff, Nat.reduceBEq, reduceLT, reduceIte, reduceCtorEq, Int.reduceToNat, prow, lvr, encF, zeroF, hc, hbits, k0, k1, k2, k3, k4, k5, k6, k7, k8, k16, k32, Int.reduceSub, Int.reduceAdd, Int.reduceMul, Int.reducePow, Int.reduceToNat, Int.reduceLE, Int.reduceLT])
      refine ⟨4, by omega, ?_, by omega⟩
      repeat' first | rfl | exact rowsUnder_lit _ (lit_enJ _) | (simp only [V.under, unders, rowsUnder, Nat.reduceLT]; done) | apply And.intro
    · have r := lev_raise f h hb 3 (by omega) 8 (by decide)
      have hc : ((4 : Nat) : Int) = 4 := rfl
      repeat' first
        | refine ev_seq (fun K hK => ?_)
        | ((first | refine evrd (id := 4) hmix tt_ok false [([], true), ([], false), ([], false), ([], false), ([], false), ([], false), ([], false), ([], false), ([0], false), ([], false), ([], false), ([], false)] (by decide +kernel) ?_ | refine evrd (id := 7) hmix tt_ok false [([], false), ([], false), ([], false), ([], false), ([], false), ([], false)] (by decide +kernel) ?_ | refine evrd (id := 11) hmix tt_ok false [([], true), ([], true), ([], false), ([], false), ([], false), ([], false), ([], false), ([], false), ([], false), ([], false), ([], false), ([], false), ([0, 1], true), ([12], false), ([12], false), ([], false), ([], false)] (by decide +kernel) ?_ | refine evrd (id := 16) hmix tt_ok false [([], false), ([], false), ([], false), ([], false), ([], false), ([], false), ([], false), ([], false), ([], false), ([], false), ([], false), ([], false), ([], false), ([], false)] (by decide +kernel) ?_ | refine evrd (id := 17) hmix tt_ok false [([], false), ([], false), ([], false), ([], false), ([], false), ([], false), ([], false), ([], false), ([], false), ([], false), ([], false), ([], false), ([], false), ([], false), ([], false), ([], false), ([], false), ([], false), ([], false), ([], false), ([], false), ([], false), ([], false), ([], false), ([], false), ([], false), ([], false), ([], false), ([], false), ([], false), ([], false), ([], false), ([], false), ([], false), ([], false), ([], false), ([], false), ([], false), ([], false)] (by decide +kernel) ?_ | refine evr tt_ok false ?_ | refine ev_skip ?_ | refine ev_ret ?_ | refine ev_exit ?_ | refine evc (fun X Y hX hY => ?_)); simp only [go_sem, reduceAdd, reduceSub, reduceMul, reduceEqDiff, reduceLeDiff, Nat.reduceBEq, reduceLT, reduceIte, reduceCtorEq, Int.reduceToNat, prow, lvr, encF, zeroF, hc, hbits, k0, k1, k2, k3, k4, k5, k6, k7, k8, k16, k32, Int.reduceSub, Int.reduceAdd, Int.reduceMul, Int.reducePow, Int.reduceToNat, Int.reduceLE, Int.reduceLT]; try (first | (refine ⟨fun h => hX ?_, fun h => hY ?_⟩; clear hX hY) | (refine hX ?_; clear hX hY) | (refine hY ?_; clear hX hY)))
        | refine ev_block ?_
        | (apply hK; clear hK)
        | apply_assumption -exfalso -symm only [*]
        | (refine And.intro ?_ ?_; first | omega | assumption | (unfold maxLen; omega) | (simp only [decide_eq_true_eq, decide_eq_false_iff_not, Int.not_lt, Int.not_le] at h; omega))
        | ((first | apply callP | apply callPG | apply callP0); (case' hv => (simp only [go_sem, reduceAdd, reduceSub, reduceMul, reduceEqDiff, reduceLeDiff, Nat.reduceBEq, reduceLT, reduceIte, reduceCtorEq, Int.reduceToNat, prow, lvr, encF, zeroF, hc, hbits, k0, k1, k2, k3, k4, k5, k6, k7, k8, k16, k32, Int.reduceSub, Int.reduceAdd, Int.reduceMul, Int.reducePow, Int.reduceToNat, Int.reduceLE, Int.reduceLT]; try exact rfl)); (case' hp => (first | refine' r | (refine' (fun hg => ?_); refine' r))); (case' h => ((first | refine evOps_fin ?_ | refine And.intro ?_ (evD_fin ?_) | refine evD_fin ?_) <;> simp only [go_sem, reduceAdd, reduceSub, reduceMul, reduceEqDiff, reduceLeDiff, Nat.reduceBEq, reduceLT, reduceIte, reduceCtorEq, Int.reduceToNat, prow, lvr, encF, zeroF, hc, hbits, k0, k1, k2, k3, k4, k5, k6, k7, k8, k16, k32, Int.reduceSub, Int.reduceAdd, Int.reduceMul, Int.reducePow, Int.reduceToNat, Int.reduceLE, Int.reduceLT])))
        | (refine callX ?_; (first | refine evOps_fin ?_ | refine And.intro ?_ (evD_fin ?_) | refine evD_fin ?_) <;> simp only [go_sem, reduceAdd, reduceSub, reduceMul, reduceEqDiff, reduceLeDiff, Nat.reduceBEq, reduceLT, reduceIte, reduceCtorEq, Int.reduceToNat, prow, lvr, encF, zeroF, hc, hbits, k0, k1, k2, k3, k4, k5, k6, k7, k8, k16, k32, Int.reduceSub, Int.reduceAdd, Int.reduceMul, Int.reducePow, Int.reduceToNat, Int.reduceLE, Int.reduceLT])
      refine ⟨5, by omega, ?_, by omega⟩
      repeat' first | rfl | exact rowsUnder_lit _ (lit_enJ _) | (simp only [V.under, unders, rowsUnder, Nat.reduceLT]; done) | apply And.intro
    · have r := lev_raise f h hb 4 (by omega) 16 (by decide)
      have hc : ((5 : Nat) : Int) = 5 := rfl
      repeat' first
        | refine ev_seq (fun K hK => ?_)
        | ((first | refine evrd (id := 4) hmix tt_ok false [([], true), ([], false), ([], false), ([], false), ([], false), ([], false), ([], false), ([], false), ([0], false), ([], false), ([], false), ([], false)] (by decide +kernel) ?_ | refine evrd (id := 7) hmix tt_ok false [([], false), ([], false), ([], false), ([], false), ([], false), ([], false)] (by decide +kernel) ?_ | refine evrd (id := 11) hmix tt_ok false [([], true), ([], true), ([], false), ([], false), ([], false), ([], false), ([], false), ([], false), ([], false), ([], false), ([], false), ([], false), ([0, 1], true), ([12], false), ([12], false), ([], false), ([], false)] (by decide +kernel) ?_ | refine evrd (id := 16) hmix tt_ok false [([], false), ([], false), ([], false), ([], false), ([], false), ([], false), ([], false), ([], false), ([], false), ([], false), ([], false), ([], false), ([], false), ([], false)] (by decide +kernel) ?_ | refine evrd (id := 17) hmix tt_ok false [([], false), ([], false), ([], false), ([], false), ([], false), ([], false), ([], false), ([], false), ([], false), ([], false), ([], false), ([], false), ([], false), ([], false), ([], false), ([], false), ([], false), ([], false), ([], false), ([], false), ([], false), ([], false), ([], false), ([], false), ([], false), ([], false), ([], false), ([], false), ([], false), ([], false), ([], false), ([], false), ([], false), ([], false), ([], false), ([], false), ([], false), ([], false), ([], false)] (by decide +kernel) ?_ | refine evr tt_ok false ?_ | refine ev_skip ?_ | refine ev_ret ?_ | refine ev_exit ?_ | refine evc (fun X Y hX hY => ?_)); simp only [go_sem, reduceAdd, reduceSub, reduceMul, reduceEqDiff, reduceLeDiff, Nat.reduceBEq, reduceLT, reduceIte, reduceCtorEq, Int.reduceToNat, prow, lvr, encF, zeroF, hc, hbits, k0, k1, k2, k3, k4, k5, k6, k7, k8, k16, k32, Int.reduceSub, Int.reduceAdd, Int.reduceMul, Int.reducePow, Int.reduceToNat, Int.reduceLE, Int.reduceLT]; try (first | (refine ⟨fun h => hX ?_, fun h => hY ?_⟩; clear hX hY) | (refine hX ?_; clear hX hY) | (refine hY ?_; clear hX hY)))
        | refine ev_block ?_
        | (apply hK; clear hK)
        | apply_assumption -exfalso -symm only [*]
        | (refine And.intro ?_ ?_; first | omega | assumption | (unfold maxLen; omega) | (simp only [decide_eq_true_eq, decide_eq_false_iff_not, Int.not_lt, Int.not_le] at h; omega))
        | ((first | apply callP | apply callPG | apply callP0); (case' hv => (simp only [go_sem, reduceAdd, reduceSub, reduceMul, reduceEqDiff, reduceLeDiff, Nat.reduceBEq, reduceLT, reduceIte, reduceCtorEq, Int.reduceToNat, prow, lvr, encF, zeroF, hc, hbits, k0, k1, k2, k3, k4, k5, k6, k7, k8, k16, k32, Int.reduceSub, Int.reduceAdd, Int.reduceMul, Int.reducePow, Int.reduceToNat, Int.reduceLE, Int.reduceLT]; try exact rfl)); (case' hp => (first | refine' r | (refine' (fun hg => ?_); refine' r))); (case' h => ((first | refine evOps_fin ?_ | refine And.intro ?_ (evD_fin ?_) | refine evD_fin ?_) <;> simp only [go_sem, reduceAdd, reduceSub, reduceMul, reduceEqDiff, reduceLeDiff, Nat.reduceBEq, reduceLT, reduceIte, reduceCtorEq, Int.reduceToNat, prow, lvr, encF, zeroF, hc, hbits, k0, k1, k2, k3, k4, k5, k6, k7, k8, k16, k32, Int.reduceSub, Int.reduceAdd, Int.reduceMul, Int.reducePow, Int.reduceToNat, Int.reduceLE, Int.reduceLT])))
        | (refine callX ?_; (first | refine evOps_fin ?_ | refine And.intro ?_ (evD_fin ?_) | refine evD_fin ?_) <;> simp only [go_sem, reduceAdd, reduceSub, reduceMul, reduceEqDiff, reduceLeDiff, Nat.reduceBEq, reduceLT, reduceIte, reduceCtorEq, Int.reduceToNat, prow, lvr, encF, zeroF, hc, hbits, k0, k1, k2, k3, k4, k5, k6, k7, k8, k16, k32, Int.reduceSub, Int.reduceAdd, Int.reduceMul, Int.reducePow, Int.reduceToNat, Int.reduceLE, Int.reduceLT])
      refine ⟨6, by omega, ?_, by omega⟩
      repeat' first | rfl | exact rowsUnder_lit _ (lit_enJ _) | (simp only [V.under, unders, rowsUnder, Nat.reduceLT]; done) | apply And.intro
    · have r := lev_raise f h hb 5 (by omega) 32 (by decide)
      have hc : ((6 : Nat) : Int) = 6 := rfl
      repeat' first
        | refine ev_seq (fun K hK => ?_)
        | ((first | refine evrd (id := 4) hmix tt_ok false [([], true), ([], false), ([], false), ([], false), ([], false), ([], false), ([], false), ([], false), ([0], false), ([], false), ([], false), ([], false)] (by decide +kernel) ?_ | refine evrd (id := 7) hmix tt_ok false [([], false), ([], false), ([], false), ([], false), ([], false), ([], false)] (by decide +kernel) ?_ | refine evrd (id := 11) hmix tt_ok false [([], true), ([], true), ([], false), ([], false), ([], false), ([], false), ([], false), ([], false), ([], false), ([], false), ([], false), ([], false), ([0, 1], true), ([12], false), ([12], false), ([], false), ([], false)] (by decide +kernel) ?_ | refine evrd (id := 16) hmix tt_ok false [([], false), ([], false), ([], false), ([], false), ([], false), ([], false), ([], false), ([], false), ([], false), ([], false), ([], false), ([], false), ([], false), ([], false)] (by decide +kernel) ?_ | refine evrd (id := 17) hmix tt_ok false [([], false), ([], false), ([], false), ([], false), ([], false), ([], false), ([], false), ([], false), ([], false), ([], false), ([], false), ([], false), ([], false), ([], false), ([], false), ([], false), ([], false), ([], false), ([], false), ([], false), ([], false), ([], false), ([], false), ([], false), ([], false), ([], false), ([], false), ([], false), ([], false), ([], false), ([], false), ([], false), ([], false), ([], false), ([], false), ([], false), ([], false), ([], false), ([], false)] (by decide +kernel) ?_ | refine evr tt_ok false ?_ | refine ev_skip ?_ | refine ev_ret ?_ | refine ev_exit ?_ | refine evc (fun X Y hX hY => ?_)); simp only [go_sem, reduceAdd, reduceSub, reduceMul, reduceEqDiff, reduceLeDiff, Nat.reduceBEq, reduceLT, reduceIte, reduceCtorEq, Int.reduceToNat, prow, lvr, encF, zeroF, hc, hbits, k0, k1, k2, k3, k4, k5, k6, k7, k8, k16, k32, Int.reduceSub, Int.reduceAdd, Int.reduceMul, Int.reducePow, Int.reduceToNat, Int.reduceLE, Int.reduceLT]; try (first | (refine ⟨fun h => hX ?_, fun h => hY ?_⟩; clear hX hY) | (refine hX ?_; clear hX hY) | (refine hY ?_; clear hX hY)))
        | refine ev_block ?_
        | (apply hK; clear hK)
        | apply_assumption -exfalso -symm only [*]
        | (refine And.intro ?_ ?_; first | omega | assumption | (unfold maxLen; omega) | (simp only [decide_eq_true_eq, decide_eq_false_iff_not, Int.not_lt, Int.not_le] at h; omega))
        | ((first | apply callP | apply callPG | apply callP0); (case' hv => (simp only [go_sem, reduceAdd, reduceSub, reduceMul, reduceEqDiff, reduceLeDiff, Nat.reduceBEq, reduceLT, reduceIte, reduceCtorEq, Int.reduceToNat, prow, lvr, encF, zeroF, hc, hbits, k0, k1, k2, k3, k4, k5, k6, k7, k8, k16, k32, Int.reduceSub, Int.reduceAdd, Int.reduceMul, Int.reducePow, Int.reduceToNat, Int.reduceLE, Int.reduceLT]; try exact rfl)); (case' hp => (first | refine' r | (refine' (fun hg => ?_); refine' r))); (case' h => ((first | refine evOps_fin ?_ | refine And.intro ?_ (evD_fin ?_) | refine evD_fin ?_) <;> simp only [go_sem, reduceAdd, reduceSub, reduceMul, reduceEqDiff, reduceLeDiff, Nat.reduceBEq, reduceLT, reduceIte, reduceCtorEq, Int.reduceToNat, prow, lvr, encF, zeroF, hc, hbits, k0, k1, k2, k3, k4, k5, k6, k7, k8, k16, k32, Int.reduceSub, Int.reduceAdd, Int.reduceMul, Int.reducePow, Int.reduceToNat, Int.reduceLE, Int.reduceLT])))
        | (refine callX ?_; (first | refine evOps_fin ?_ | refine And.intro ?_ (evD_fin ?_) | refine evD_fin ?_) <;> simp only [go_sem, reduceAdd, reduceSub, reduceMul, reduceEqDiff, reduceLeDiff, Nat.reduceBEq, reduceLT, reduceIte, reduceCtorEq, Int.reduceToNat, prow, lvr, encF, zeroF, hc, hbits, k0, k1, k2, k3, k4, k5, k6, k7, k8, k16, k32, Int.reduceSub, Int.reduceAdd, Int.reduceMul, Int.reducePow, Int.reduceToNat, Int.reduceLE, Int.reduceLT])
      refine ⟨7, by omega, ?_, by omega⟩
      repeat' first | rfl | exact rowsUnder_lit _ (lit_enJ _) | (simp only [V.under, unders, rowsUnder, Nat.reduceLT]; done) | apply And.intro
    · have hc : ((7 : Nat) : Int) = 7 := rfl
      repeat' first
        | refine ev_seq (fun K hK => ?_)
        | ((first | refine evrd (id := 4) hmix tt_ok false [([], true), ([], false), ([], false), ([], false), ([], false), ([], false), ([], false), ([], false), ([0], false), ([], false), ([], false), ([], false)] (by decide +kernel) ?_ | refine evrd (id := 7) hmix tt_ok false [([], false), ([], false), ([], false), ([], false), ([], false), ([], false)] (by decide +kernel) ?_ | refine evrd (id := 11) hmix tt_ok false [([], true), ([], true), ([], false), ([], false), ([], false), ([], false), ([], false), ([], false), ([], false), ([], false), ([], false), ([], false), ([0, 1], true), ([12], false), ([12], false), ([], false), ([], false)] (by decide +kernel) ?_ | refine evrd (id := 16) hmix tt_ok false [([], false), ([], false), ([], false), ([], false), ([], false), ([], false), ([], false), ([], false), ([], false), ([], false), ([], false), ([], false), ([], false), ([], false)] (by decide +kernel) ?_ | refine evrd (id := 17) hmix tt_ok false [([], false), ([], false), ([], false), ([], false), ([], false), ([], false), ([], false), ([], false), ([], false), ([], false), ([], false), ([], false), ([], false), ([], false), ([], false), ([], false), ([], false), ([], false), ([], false), ([], false), ([], false), ([], false), ([], false), ([], false), ([], false), ([], false), ([], false), ([], false), ([], false), ([], false), ([], false), ([], false), ([], false), ([], false), ([], false), ([], false), ([], false), ([], false), ([], false)] (by decide +kernel) ?_ | refine evr tt_ok false ?_ | refine ev_skip ?_ | refine ev_ret ?_ | refine ev_exit ?_ | refine evc (fun X Y hX hY => ?_)); simp only [go_sem, reduceAdd, reduceSub, reduceMul, reduceEqDiff, reduceLeDiff, Nat.reduceBEq, reduceLT, reduceIte, reduceCtorEq, Int.reduceToNat, hc, w1, Int.reduceLE, List.length_map]; try (first | (refine ⟨fun h => hX ?_, fun h => hY ?_⟩; clear hX hY) | (refine hX ?_; clear hX hY) | (refine hY ?_; clear hX hY)))
        | refine ev_block ?_
        | (apply hK; clear hK)
        | apply_assumption -exfalso -symm only [*]
        | (refine And.intro ?_ ?_; first | omega | assumption | (unfold maxLen; omega) | (simp only [decide_eq_true_eq, decide_eq_false_iff_not, Int.not_lt, Int.not_le] at h; omega))
      refine ev_loop (fun i : Nat => i ≤ f.W * f.H)
        (fun i => ⟨121, [(63, .int .i64 (i : Int)), (62, .int .i64 ((f.v.length : Nat) : Int)), (61, .sl (f.v.map enB)), (6, .int .i64 (f.w + 1)), (4, .own 2 0 0 0), (1, .own 0 0 0 0)],
          [.blk 35 0 5 [[.int .i64 f.x, .int .i64 f.y, .int .i64 f.w, .int .i64 f.h, .sl (f.v.map enB)]], .blk 3 0 1 ((sumsL f i).map enJ), .blk 139 0 41 [prow f 7 (.rs 1 0 0 N)]]⟩)
        (fun i => f.W * f.H - i) 0 (Nat.zero_le _) ?_ ?_
      · simp only [go_sem, reduceAdd, reduceSub, reduceMul, reduceEqDiff, reduceLeDiff, Nat.reduceBEq, reduceLT, reduceIte, reduceCtorEq, Int.reduceToNat, fits, fitT, fitOs, fitO, V.under, unders, rowsUnder, prow, lvr, encF, zeroF]
        repeat' first | rfl | exact rowsUnder_lit _ (lit_enJ _) | (simp only [V.under, unders, rowsUnder, Nat.reduceLT]; done) | apply And.intro
      · intro i hi
        have hb0 : 0 ≤ (i : Int) := by omega
        have hw1 : IntKind.i64.wrap ((i : Int) + 1) = ((i + 1 : Nat) : Int) := by rw [w64] <;> omega
        by_cases hlt : (i : Int) < (f.v.length : Int)
        · have hlt2 : i < f.W * f.H := by omega
          obtain ⟨r, c, hc, hrc, hr⟩ : ∃ r c : Nat, c < f.W ∧ i = r * f.W + c ∧ r < f.H := by
            refine ⟨i / f.W, i % f.W, Nat.mod_lt _ (by omega), (Nat.div_add_mod' i f.W).symm, ?_⟩
            rw [Nat.div_lt_iff_lt_mul (by omega), Nat.mul_comm]; exact hlt2
          obtain ⟨d1, d2⟩ := dm (w := f.W) (r := r) (c := c) hc
          rw [← hrc] at d1 d2
          have q0 : (i : Int).tdiv f.w = (r : Int) := by
            rw [Int.tdiv_eq_ediv_of_nonneg hb0, ← hWc, ← Int.natCast_ediv, d1]
          have q0' : (i : Int).tmod f.w = (c : Int) := by
            rw [Int.tmod_eq_emod_of_nonneg hb0, ← hWc, ← Int.natCast_emod, d2]
          have q1 : IntKind.i64.wrap (r : Int) = (r : Int) := w64 (by omega) (by omega)
          have q2 : IntKind.i64.wrap ((r : Int) + 1) = (r : Int) + 1 := w64 (by omega) (by omega)
          have hK := lt_mul (w := f.W + 1) (h := f.H + 1) (r := r + 1) (c := c + 1) (by omega) (by omega)
          have hK0 := lt_mul (w := f.W + 1) (h := f.H + 1) (r := r) (c := c) (by omega) (by omega)
          have hK1 := lt_mul (w := f.W + 1) (h := f.H + 1) (r := r + 1) (c := c) (by omega) (by omega)
          have hK2 := lt_mul (w := f.W + 1) (h := f.H + 1) (r := r) (c := c + 1) (by omega) (by omega)
          have hsm : (r + 1) * (f.W + 1) = r * (f.W + 1) + (f.W + 1) := Nat.succ_mul ..
          have q3 : IntKind.i64.wrap (((r : Int) + 1) * (f.w + 1)) = (((r + 1) * (f.W + 1) : Nat) : Int) := by
            rw [← hWc, show ((r : Int) + 1) * ((f.W : Int) + 1) = (((r + 1) * (f.W + 1) : Nat) : Int) by rw [Int.natCast_mul, Int.natCast_add, Int.natCast_add]; rfl]
            exact w64 (by omega) (by omega)
          have q4 : IntKind.i64.wrap ((((r + 1) * (f.W + 1) : Nat) : Int) + (c : Int)) = (((r + 1) * (f.W + 1) + c : Nat) : Int) := by rw [w64] <;> omega
          have q5 : IntKind.i64.wrap ((((r + 1) * (f.W + 1) + c : Nat) : Int) + 1) = (((r + 1) * (f.W + 1) + (c + 1) : Nat) : Int) := by rw [w64] <;> omega
          have q6 : IntKind.i64.wrap ((((r + 1) * (f.W + 1) + (c + 1) : Nat) : Int) - 1) = (((r + 1) * (f.W + 1) + c : Nat) : Int) := by rw [w64] <;> omega
          have q7 : IntKind.i64.wrap ((((r + 1) * (f.W + 1) + (c + 1) : Nat) : Int) - (f.w + 1)) = ((r * (f.W + 1) + (c + 1) : Nat) : Int) := by rw [w64] <;> omega
          have q8 : IntKind.i64.wrap (((r * (f.W + 1) + (c + 1) : Nat) : Int) - 1) = ((r * (f.W + 1) + c : Nat) : Int) := by rw [w64] <;> omega
          have g1 := sumsL_at f i (r := r + 1) (c := c) (by omega) (by omega) (by by_cases hc0 : c = 0; exact .inr (.inl hc0); exact .inr (.inr (by simp only [Nat.add_sub_cancel]; omega)))
          have g2 := sumsL_at f i (r := r) (c := c + 1) (by omega) (by omega) (by
            by_cases hr0 : r = 0
            · exact .inl hr0
            · refine .inr (.inr ?_)
              have : (r - 1) * f.W + f.W = r * f.W := by rw [← Nat.succ_mul]; congr 1; omega
              simp only [Nat.add_sub_cancel]; omega)
          have g3 := sumsL_at f i (r := r) (c := c) (by omega) (by omega) (by
            by_cases hr0 : r = 0
            · exact .inl hr0
            · by_cases hc0 : c = 0
              · exact .inr (.inl hc0)
              · refine .inr (.inr ?_)
                have : (r - 1) * f.W + f.W = r * f.W := by rw [← Nat.succ_mul]; congr 1; omega
                omega)
          have gv : f.v.getD i 0 = cellV f r c := by unfold cellV; rw [hrc]
          have bv := cell_byte hb r c
          have b1 := preS_bound hb (r := r + 1) (c := c) (by omega) (by omega)
          have b2 := preS_bound hb (r := r) (c := c + 1) (by omega) (by omega)
          have b3 := preS_bound hb (r := r) (c := c) (by omega) (by omega)
          have v0 : IntKind.i64.wrap (cellV f r c) = cellV f r c := w64 (by omega) (by omega)
          have v1 : IntKind.i64.wrap (cellV f r c + preS f (r + 1) c) = cellV f r c + preS f (r + 1) c := w64 (by omega) (by omega)
          have v2 : IntKind.i64.wrap (cellV f r c + preS f (r + 1) c + preS f r (c + 1)) = cellV f r c + preS f (r + 1) c + preS f r (c + 1) := w64 (by omega) (by omega)
          have v3 : IntKind.i64.wrap (cellV f r c + preS f (r + 1) c + preS f r (c + 1) - preS f r c) = preS f (r + 1) (c + 1) := by rw [preS_step, w64] <;> omega
          have hset : ((sumsL f i).map enJ).set ((r + 1) * (f.W + 1) + (c + 1)) [.int .i64 (preS f (r + 1) (c + 1))] = (sumsL f (i + 1)).map enJ := by
            rw [hrc, ← sumsL_succ f hr hc, List.map_set]; rfl
          have l1 : (r + 1) * (f.W + 1) + (c + 1) < N := by omega
          have l2 : (r + 1) * (f.W + 1) + c < N := by omega
          have l3 : r * (f.W + 1) + (c + 1) < N := by omega
          have l4 : r * (f.W + 1) + c < N := by omega
          have i1 : ((((r + 1) * (f.W + 1) + (c + 1) : Nat)) : Int) < (N : Int) := by omega
          have i2 : ((((r + 1) * (f.W + 1) + c : Nat)) : Int) < (N : Int) := by omega
          have i3 : (((r * (f.W + 1) + (c + 1) : Nat)) : Int) < (N : Int) := by omega
          have i4 : (((r * (f.W + 1) + c : Nat)) : Int) < (N : Int) := by omega
          have p0 : ∀ n : Nat, (0 : Int) ≤ (n : Int) := fun n => Int.natCast_nonneg n
          have hlen : (sumsL f i).length = N := by rw [sumsL_len, hNe]
          repeat' first
            | refine ev_seq (fun K hK => ?_)
            | ((first | refine evrd (id := 4) hmix tt_ok false [([], true), ([], false), ([], false), ([], false), ([], false), ([], false), ([], false), ([], false), ([0], false), ([], false), ([], false), ([], false)] (by decide +kernel) ?_ | refine evrd (id := 7) hmix tt_ok false [([], false), ([], false), ([], false), ([], false), ([], false), ([], false)] (by decide +kernel) ?_ | refine evrd (id := 11) hmix tt_ok false [([], true), ([], true), ([], false), ([], false), ([], false), ([], false), ([], false), ([], false), ([], false), ([], false), ([], false), ([], false), ([0, 1], true), ([12], false), ([12], false), ([], false), ([], false)] (by decide +kernel) ?_ | refine evrd (id := 16) hmix tt_ok false [([], false), ([], false), ([], false), ([], false), ([], false), ([], false), ([], false), ([], false), ([], false), ([], false), ([], false), ([], false), ([], false), ([], false)] (by decide +kernel) ?_ | refine evrd (id := 17) hmix tt_ok false [([], false), ([], false), ([], false), ([], false), ([], false), ([], false), ([], false), ([], false), ([], false), ([], false), ([], false), ([], false), ([], false), ([], false), ([], false), ([], false), ([], false), ([], false), ([], false), ([], false), ([], false), ([], false), ([], false), ([], false), ([], false), ([], false), ([], false), ([], false), ([], false), ([], false), ([], false), ([], false), ([], false), ([], false), ([], false), ([], false), ([], false), ([], false), ([], false)] (by decide +kernel) ?_ | refine evr tt_ok false ?_ | refine ev_skip ?_ | refine ev_ret ?_ | refine ev_exit ?_ | refine evc (fun X Y hX hY => ?_)); simp only [go_sem, reduceAdd, reduceSub, reduceMul, reduceEqDiff, reduceLeDiff, Nat.reduceBEq, reduceLT, reduceIte, reduceCtorEq, Int.reduceToNat, prow, lvr, encF, zeroF, hlt, hb0, hw1, q0, q0', q1, q2, q3, q4, q5, q6, q7, q8, g1, g2, g3, gv, v0, v1, v2, v3, hset, l1, l2, l3, l4, i1, i2, i3, i4, p0, hlen, Int.toNat_natCast, Nat.sub_zero, Nat.zero_add, List.length_map, byte_get, num_get, Nat.le_refl]; try (first | (refine ⟨fun h => hX ?_, fun h => hY ?_⟩; clear hX hY) | (refine hX ?_; clear hX hY) | (refine hY ?_; clear hX hY)))
            | refine ev_block ?_
            | (apply hK; clear hK)
            | apply_assumption -exfalso -symm only [*]
            | (refine And.intro ?_ ?_; first | omega | assumption | (unfold maxLen; omega) | (simp only [decide_eq_true_eq, decide_eq_false_iff_not, Int.not_lt, Int.not_le] at h; omega))
          refine ⟨i + 1, by omega, ?_, by omega⟩
          repeat' first | rfl | exact rowsUnder_lit _ (lit_enJ _) | (simp only [V.under, unders, rowsUnder, Nat.reduceLT]; done) | apply And.intro
        · obtain rfl : i = f.W * f.H := by omega
          have hlen : (sumsL f (f.W * f.H)).length = N := by rw [sumsL_len, hNe]
          have htk : List.take N ((sumsL f (f.W * f.H)).map enJ) = (sumsL f (f.W * f.H)).map enJ := List.take_of_length_le (by rw [List.length_map, hlen]; exact Nat.le_refl _)
          repeat' first
            | refine ev_seq (fun K hK => ?_)
            | ((first | refine evrd (id := 4) hmix tt_ok false [([], true), ([], false), ([], false), ([], false), ([], false), ([], false), ([], false), ([], false), ([0], false), ([], false), ([], false), ([], false)] (by decide +kernel) ?_ | refine evrd (id := 7) hmix tt_ok false [([], false), ([], false), ([], false), ([], false), ([], false), ([], false)] (by decide +kernel) ?_ | refine evrd (id := 11) hmix tt_ok false [([], true), ([], true), ([], false), ([], false), ([], false), ([], false), ([], false), ([], false), ([], false), ([], false), ([], false), ([], false), ([0, 1], true), ([12], false), ([12], false), ([], false), ([], false)] (by decide +kernel) ?_ | refine evrd (id := 16) hmix tt_ok false [([], false), ([], false), ([], false), ([], false), ([], false), ([], false), ([], false), ([], false), ([], false), ([], false), ([], false), ([], false), ([], false), ([], false)] (by decide +kernel) ?_ | refine evrd (id := 17) hmix tt_ok false [([], false), ([], false), ([], false), ([], false), ([], false), ([], false), ([], false), ([], false), ([], false), ([], false), ([], false), ([], false), ([], false), ([], false), ([], false), ([], false), ([], false), ([], false), ([], false), ([], false), ([], false), ([], false), ([], false), ([], false), ([], false), ([], false), ([], false), ([], false), ([], false), ([], false), ([], false), ([], false), ([], false), ([], false), ([], false), ([], false), ([], false), ([], false), ([], false)] (by decide +kernel) ?_ | refine evr tt_ok false ?_ | refine ev_skip ?_ | refine ev_ret ?_ | refine ev_exit ?_ | refine evc (fun X Y hX hY => ?_)); simp only [go_sem, reduceAdd, reduceSub, reduceMul, reduceEqDiff, reduceLeDiff, Nat.reduceBEq, reduceLT, reduceIte, reduceCtorEq, Int.reduceToNat, prow, lvr, encF, zeroF, hlt, hlen, List.length_map, vrows_lit _ (lit_enJ (sumsL f (f.W * f.H))), Nat.le_refl, Nat.sub_zero, htk]; try (first | (refine ⟨fun h => hX ?_, fun h => hY ?_⟩; clear hX hY) | (refine hX ?_; clear hX hY) | (refine hY ?_; clear hX hY)))
            | refine ev_block ?_
            | (apply hK; clear hK)
            | apply_assumption -exfalso -symm only [*]
            | (refine And.intro ?_ ?_; first | omega | assumption | (unfold maxLen; omega) | (simp only [decide_eq_true_eq, decide_eq_false_iff_not, Int.not_lt, Int.not_le] at h; omega))
          all_goals rfl
end Go.Proofs.YtbibplkhhdomnaaGreat
