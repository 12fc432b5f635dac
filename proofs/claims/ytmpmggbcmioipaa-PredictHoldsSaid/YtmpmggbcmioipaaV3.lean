import Derived.Test.YtmpmggbcmioipaaV2
import Derived.Test.YtmpmggbcmioipaaM1
set_option linter.all false
namespace Go.Proofs.Ytmpmggbcmioipaa
open Nat (reduceAdd reduceSub reduceMul reduceEqDiff reduceLeDiff reduceLT)
open Go Go.K
set_option maxRecDepth 20000
set_option maxHeartbeats 4000000
theorem sgn3_cases (a b : Int) : sgn3 a b = -1 ∨ sgn3 a b = 0 ∨ sgn3 a b = 1 := by
  unfold sgn3; by_cases h : a < b
  · simp [h]
  · by_cases h2 : b < a <;> simp [h, h2]
theorem sgn3_ne {a b : Int} (h : a ≠ b) : sgn3 a b ≠ 0 := by
  unfold sgn3; by_cases h1 : a < b
  · simp [h1]
  · have h2 : b < a := by omega
    simp [h1, h2]
def cmpR (a b : Vec) : Int := if a.ok ∧ b.ok then cmpM a b else 0
theorem lower_half {v : Vec} (h : v.ok) : (decide (v.y < 0) || (v.y == 0 && decide (v.x < 0))) = (half v == 1) := by
  have hz := not_zero h
  rw [Bool.eq_iff_iff]
  simp only [Bool.or_eq_true, Bool.and_eq_true, decide_eq_true_eq, beq_iff_eq]
  unfold half
  split <;> omega
theorem half_01 (v : Vec) : half v = 0 ∨ half v = 1 := by unfold half; split <;> simp
def deltaM (a b : Int) : Int := if 128 ≤ (b - a) % 256 then (b - a) % 256 - 256 else (b - a) % 256
theorem quart_ok {k : Int} (h : 0 ≤ k ∧ k < 64) : (Vec.mk (4096 - k * k) (128 * k) (4096 + k * k)).ok := by
  have h1 : 0 ≤ k * k := Int.mul_nonneg h.1 h.1
  have h2 : k * k ≤ 63 * 63 := Int.mul_le_mul (by omega) (by omega) h.1 (by omega)
  have h3 : (4096 - k * k) * (4096 - k * k) + (128 * k) * (128 * k) = (4096 + k * k) * (4096 + k * k) := by grind
  have b2 := circle_le (x := 128 * k) (y := 4096 - k * k) (d := 4096 + k * k) (by omega) (by rw [Int.add_comm]; exact h3)
  refine ⟨?_, ?_, ?_, ?_, ?_, ?_, h3⟩ <;> simp only <;> omega
theorem rot_ok {v : Vec} (h : v.ok) : (rotV v).ok := by
  obtain ⟨h1, h2, h3, h4, h5, h6, h7⟩ := h
  refine ⟨h1, h2, ?_, ?_, h3, h4, ?_⟩ <;> simp only [rotV] <;> first | omega | grind
theorem rotN_ok {v : Vec} (h : v.ok) : ∀ n, (rotN n v).ok
  | 0 => h
  | n + 1 => rot_ok (rotN_ok h n)
theorem dir_pure (h : Int) : Pure Try.prog 100 [.int .i64 h] (.agg (encVec (dirM h))) := by
  obtain ⟨k, hk⟩ : ∃ k : Int, k = h % 256 % 64 := ⟨_, rfl⟩
  obtain ⟨r, hr⟩ : ∃ r : Nat, (r : Int) = h % 256 / 64 := ⟨(h % 256 / 64).toNat, by omega⟩
  have hk2 : 0 ≤ k ∧ k < 64 := by omega
  have h1 : 0 ≤ k * k := Int.mul_nonneg hk2.1 hk2.1
  have h2 : k * k ≤ 63 * 63 := Int.mul_le_mul (by omega) (by omega) hk2.1 (by omega)
  have t1 : (h % 256).tmod 64 = k := by rw [Int.tmod_eq_emod_of_nonneg (by omega)]; exact hk.symm
  have t2 : IntKind.i64.wrap ((h % 256).tdiv 64) = r := by rw [Int.tdiv_eq_ediv_of_nonneg (by omega), ← hr, w64 (by omega) (by omega)]
  have w1 : IntKind.i64.wrap (k * k) = k * k := w64 (by omega) (by omega)
  have w2 : IntKind.i64.wrap (4096 - k * k) = 4096 - k * k := w64 (by omega) (by omega)
  have w3 : IntKind.i64.wrap (128 * k) = 128 * k := w64 (by omega) (by omega)
  have w4 : IntKind.i64.wrap (4096 + k * k) = 4096 + k * k := w64 (by omega) (by omega)
  have hl := lowest_pure (4096 - k * k) (128 * k) (4096 + k * k) (by omega) (by omega) (by omega)
  have hd : dirM h = rotN r (quart k) := by unfold dirM; rw [← hk, ← hr, Int.toNat_natCast]
  have hq : low (4096 - k * k) (128 * k) (4096 + k * k) = quart k := rfl
  have ok := low_ok (quart_ok hk2)
  rw [hq] at hl
  have ok : (quart k).ok := ok
  rw [hd]
  (refine pure_of_ev tt_ok Try.func100 rfl (by decide +kernel) (Nat.le_of_ble_eq_true rfl) ?_; simp only [Try.f100])
  repeat' first
    | refine ev_seq (fun K hK => ?_)
    | ((first | refine evr tt_ok false ?_ | refine ev_skip ?_ | refine ev_ret ?_ | refine ev_exit ?_ | refine evc (fun X Y hX hY => ?_)); simp only [go_sem, reduceAdd, reduceSub, reduceMul, reduceEqDiff, reduceLeDiff, Nat.reduceBEq, reduceLT, reduceIte, reduceCtorEq, Int.reduceToNat, t1, t2, w1, w2, w3, w4, encVec]; try (first | (refine ⟨fun h => hX ?_, fun h => hY ?_⟩; clear hX hY) | (refine hX ?_; clear hX hY) | (refine hY ?_; clear hX hY)))
    | refine ev_block ?_
    | (apply hK; clear hK)
    | apply_assumption -exfalso -symm only [*]
    | (refine And.intro ?_ ?_; first | omega | assumption | (unfold maxLen; omega) | (simp only [decide_eq_true_eq, decide_eq_false_iff_not, Int.not_lt, Int.not_le] at h; omega))
    | ((first | apply callP | apply callPG | apply callP0); (case' hv => (simp only [go_sem, reduceAdd, reduceSub, reduceMul, reduceEqDiff, reduceLeDiff, Nat.reduceBEq, reduceLT, reduceIte, reduceCtorEq, Int.reduceToNat, t1, t2, w1, w2, w3, w4, encVec]; try exact rfl)); (case' hp => (first | refine' mark_pure _ | (refine' (fun hg => ?_); refine' mark_pure _) | refine' hl | (refine' (fun hg => ?_); refine' hl))); (case' h => ((first | refine evOps_fin ?_ | refine And.intro ?_ (evD_fin ?_) | refine evD_fin ?_) <;> simp only [go_sem, reduceAdd, reduceSub, reduceMul, reduceEqDiff, reduceLeDiff, Nat.reduceBEq, reduceLT, reduceIte, reduceCtorEq, Int.reduceToNat, t1, t2, w1, w2, w3, w4, encVec])))
    | (refine callX ?_; (first | refine evOps_fin ?_ | refine And.intro ?_ (evD_fin ?_) | refine evD_fin ?_) <;> simp only [go_sem, reduceAdd, reduceSub, reduceMul, reduceEqDiff, reduceLeDiff, Nat.reduceBEq, reduceLT, reduceIte, reduceCtorEq, Int.reduceToNat, t1, t2, w1, w2, w3, w4, encVec])
  refine ev_loop (fun i : Nat => i ≤ r)
    (fun i => ⟨33, [(22, .int .i64 i), (21, .int .i64 r), (4, .own 1 0 0 0), (2, .own 0 0 0 0)], [.blk 104 0 3 [[.int .i64 0, .int .i64 0, .int .i64 0]], .blk 104 0 3 [[.int .i64 (rotN i (quart k)).x, .int .i64 (rotN i (quart k)).y, .int .i64 (rotN i (quart k)).d]]]⟩)
    (fun i => r - i) 0 (Nat.zero_le _) ?_ ?_
  · simp only [go_sem, reduceAdd, reduceSub, reduceMul, reduceEqDiff, reduceLeDiff, Nat.reduceBEq, reduceLT, reduceIte, reduceCtorEq, Int.reduceToNat, fits, fitT, fitOs, fitO, V.under, unders, rowsUnder]
    repeat' first | rfl | apply And.intro
  · intro i hi
    have hw : IntKind.i64.wrap ((i : Int) + 1) = ((i + 1 : Nat) : Int) := by rw [w64] <;> omega
    have oki := rotN_ok ok i
    have hn : IntKind.i64.wrap (0 - (rotN i (quart k)).y) = - (rotN i (quart k)).y := by
      obtain ⟨h1, h2, h3, h4, h5, h6, h7⟩ := oki
      rw [w64] <;> omega
    by_cases hlt : (i : Int) < r
    · repeat' first
      | refine ev_seq (fun K hK => ?_)
      | ((first | refine evr tt_ok false ?_ | refine ev_skip ?_ | refine ev_ret ?_ | refine ev_exit ?_ | refine evc (fun X Y hX hY => ?_)); simp only [go_sem, reduceAdd, reduceSub, reduceMul, reduceEqDiff, reduceLeDiff, Nat.reduceBEq, reduceLT, reduceIte, reduceCtorEq, Int.reduceToNat, hw, hn, hlt]; try (first | (refine ⟨fun h => hX ?_, fun h => hY ?_⟩; clear hX hY) | (refine hX ?_; clear hX hY) | (refine hY ?_; clear hX hY)))
      | refine ev_block ?_
      | (apply hK; clear hK)
      | apply_assumption -exfalso -symm only [*]
      | (refine And.intro ?_ ?_; first | omega | assumption | (unfold maxLen; omega) | (simp only [decide_eq_true_eq, decide_eq_false_iff_not, Int.not_lt, Int.not_le] at h; omega))
      refine ⟨i + 1, by omega, ?_, by omega⟩
      repeat' first | rfl | apply And.intro
    · obtain rfl : i = r := by omega
      repeat' first
        | refine ev_seq (fun K hK => ?_)
        | ((first | refine evr tt_ok false ?_ | refine ev_skip ?_ | refine ev_ret ?_ | refine ev_exit ?_ | refine evc (fun X Y hX hY => ?_)); simp only [go_sem, reduceAdd, reduceSub, reduceMul, reduceEqDiff, reduceLeDiff, Nat.reduceBEq, reduceLT, reduceIte, reduceCtorEq, Int.reduceToNat, hlt]; try (first | (refine ⟨fun h => hX ?_, fun h => hY ?_⟩; clear hX hY) | (refine hX ?_; clear hX hY) | (refine hY ?_; clear hX hY)))
        | refine ev_block ?_
        | (apply hK; clear hK)
        | apply_assumption -exfalso -symm only [*]
        | (refine And.intro ?_ ?_; first | omega | assumption | (unfold maxLen; omega) | (simp only [decide_eq_true_eq, decide_eq_false_iff_not, Int.not_lt, Int.not_le] at h; omega))
      rfl
theorem rdir_pure (h : Int) : Pure Try.prog 75 [.int .i64 h] (.agg (encVec (dirM h))) := by
  obtain ⟨k, hk⟩ : ∃ k : Int, k = h % 256 % 64 := ⟨_, rfl⟩
  obtain ⟨r, hr⟩ : ∃ r : Nat, (r : Int) = h % 256 / 64 := ⟨(h % 256 / 64).toNat, by omega⟩
  have hk2 : 0 ≤ k ∧ k < 64 := by omega
  have h1 : 0 ≤ k * k := Int.mul_nonneg hk2.1 hk2.1
  have h2 : k * k ≤ 63 * 63 := Int.mul_le_mul (by omega) (by omega) hk2.1 (by omega)
  have t1 : (h % 256).tmod 64 = k := by rw [Int.tmod_eq_emod_of_nonneg (by omega)]; exact hk.symm
  have t2 : IntKind.i64.wrap ((h % 256).tdiv 64) = r := by rw [Int.tdiv_eq_ediv_of_nonneg (by omega), ← hr, w64 (by omega) (by omega)]
  have w1 : IntKind.i64.wrap (k * k) = k * k := w64 (by omega) (by omega)
  have w2 : IntKind.i64.wrap (4096 - k * k) = 4096 - k * k := w64 (by omega) (by omega)
  have w3 : IntKind.i64.wrap (128 * k) = 128 * k := w64 (by omega) (by omega)
  have w4 : IntKind.i64.wrap (4096 + k * k) = 4096 + k * k := w64 (by omega) (by omega)
  have hl := rlowest_pure (4096 - k * k) (128 * k) (4096 + k * k) (by omega) (by omega) (by omega)
  have hd : dirM h = rotN r (quart k) := by unfold dirM; rw [← hk, ← hr, Int.toNat_natCast]
  have hq : low (4096 - k * k) (128 * k) (4096 + k * k) = quart k := rfl
  have ok := low_ok (quart_ok hk2)
  rw [hq] at hl
  have ok : (quart k).ok := ok
  rw [hd]
  (refine pure_of_ev tt_ok Try.func75 rfl (by decide +kernel) (Nat.le_of_ble_eq_true rfl) ?_; simp only [Try.f75])
  repeat' first
    | refine ev_seq (fun K hK => ?_)
    | ((first | refine evr tt_ok false ?_ | refine ev_skip ?_ | refine ev_ret ?_ | refine ev_exit ?_ | refine evc (fun X Y hX hY => ?_)); simp only [go_sem, reduceAdd, reduceSub, reduceMul, reduceEqDiff, reduceLeDiff, Nat.reduceBEq, reduceLT, reduceIte, reduceCtorEq, Int.reduceToNat, t1, t2, w1, w2, w3, w4, encVec]; try (first | (refine ⟨fun h => hX ?_, fun h => hY ?_⟩; clear hX hY) | (refine hX ?_; clear hX hY) | (refine hY ?_; clear hX hY)))
    | refine ev_block ?_
    | (apply hK; clear hK)
    | apply_assumption -exfalso -symm only [*]
    | (refine And.intro ?_ ?_; first | omega | assumption | (unfold maxLen; omega) | (simp only [decide_eq_true_eq, decide_eq_false_iff_not, Int.not_lt, Int.not_le] at h; omega))
    | ((first | apply callP | apply callPG | apply callP0); (case' hv => (simp only [go_sem, reduceAdd, reduceSub, reduceMul, reduceEqDiff, reduceLeDiff, Nat.reduceBEq, reduceLT, reduceIte, reduceCtorEq, Int.reduceToNat, t1, t2, w1, w2, w3, w4, encVec]; try exact rfl)); (case' hp => (first | ((first | refine' mod_pure _ _ ?_ ?_ | (refine' (fun hg => ?_); refine' mod_pure _ _ ?_ ?_)); all_goals first | (fail_if_success refine prop_id ?_; skip) | omega | assumption | (simp only [go_sem, reduceAdd, reduceSub, reduceMul, reduceEqDiff, reduceLeDiff, Nat.reduceBEq, reduceLT, reduceIte, reduceCtorEq, Int.reduceToNat, t1, t2, w1, w2, w3, w4, encVec]; first | done | exact rfl | omega) | (refine' Eq.trans ?_ ?_; (focus (simp only [go_sem, reduceAdd, reduceSub, reduceMul, reduceEqDiff, reduceLeDiff, Nat.reduceBEq, reduceLT, reduceIte, reduceCtorEq, Int.reduceToNat, t1, t2, w1, w2, w3, w4, encVec]; exact rfl)); exact rfl)) | refine' hl | (refine' (fun hg => ?_); refine' hl))); (case' h => ((first | refine evOps_fin ?_ | refine And.intro ?_ (evD_fin ?_) | refine evD_fin ?_) <;> simp only [go_sem, reduceAdd, reduceSub, reduceMul, reduceEqDiff, reduceLeDiff, Nat.reduceBEq, reduceLT, reduceIte, reduceCtorEq, Int.reduceToNat, t1, t2, w1, w2, w3, w4, encVec])))
    | (refine callX ?_; (first | refine evOps_fin ?_ | refine And.intro ?_ (evD_fin ?_) | refine evD_fin ?_) <;> simp only [go_sem, reduceAdd, reduceSub, reduceMul, reduceEqDiff, reduceLeDiff, Nat.reduceBEq, reduceLT, reduceIte, reduceCtorEq, Int.reduceToNat, t1, t2, w1, w2, w3, w4, encVec])
  refine ev_loop (fun i : Nat => i ≤ r)
    (fun i => ⟨36, [(5, .int .i64 i), (0, .int .i64 (h % 256)), (4, .own 1 0 0 0), (2, .own 0 0 0 0)], [.blk 104 0 3 [[.int .i64 0, .int .i64 0, .int .i64 0]], .blk 104 0 3 [[.int .i64 (rotN i (quart k)).x, .int .i64 (rotN i (quart k)).y, .int .i64 (rotN i (quart k)).d]]]⟩)
    (fun i => r - i) 0 (Nat.zero_le _) ?_ ?_
  · simp only [go_sem, reduceAdd, reduceSub, reduceMul, reduceEqDiff, reduceLeDiff, Nat.reduceBEq, reduceLT, reduceIte, reduceCtorEq, Int.reduceToNat, fits, fitT, fitOs, fitO, V.under, unders, rowsUnder]
    repeat' first | rfl | apply And.intro
  · intro i hi
    have hw : IntKind.i64.wrap ((i : Int) + 1) = ((i + 1 : Nat) : Int) := by rw [w64] <;> omega
    have oki := rotN_ok ok i
    have hn : IntKind.i64.wrap (0 - (rotN i (quart k)).y) = - (rotN i (quart k)).y := by
      obtain ⟨h1, h2, h3, h4, h5, h6, h7⟩ := oki
      rw [w64] <;> omega
    by_cases hlt : (i : Int) < r
    · repeat' first
      | refine ev_seq (fun K hK => ?_)
      | ((first | refine evr tt_ok false ?_ | refine ev_skip ?_ | refine ev_ret ?_ | refine ev_exit ?_ | refine evc (fun X Y hX hY => ?_)); simp only [go_sem, reduceAdd, reduceSub, reduceMul, reduceEqDiff, reduceLeDiff, Nat.reduceBEq, reduceLT, reduceIte, reduceCtorEq, Int.reduceToNat, hw, hn, hlt, t2]; try (first | (refine ⟨fun h => hX ?_, fun h => hY ?_⟩; clear hX hY) | (refine hX ?_; clear hX hY) | (refine hY ?_; clear hX hY)))
      | refine ev_block ?_
      | (apply hK; clear hK)
      | apply_assumption -exfalso -symm only [*]
      | (refine And.intro ?_ ?_; first | omega | assumption | (unfold maxLen; omega) | (simp only [decide_eq_true_eq, decide_eq_false_iff_not, Int.not_lt, Int.not_le] at h; omega))
      refine ⟨i + 1, by omega, ?_, by omega⟩
      repeat' first | rfl | apply And.intro
    · obtain rfl : i = r := by omega
      repeat' first
        | refine ev_seq (fun K hK => ?_)
        | ((first | refine evr tt_ok false ?_ | refine ev_skip ?_ | refine ev_ret ?_ | refine ev_exit ?_ | refine evc (fun X Y hX hY => ?_)); simp only [go_sem, reduceAdd, reduceSub, reduceMul, reduceEqDiff, reduceLeDiff, Nat.reduceBEq, reduceLT, reduceIte, reduceCtorEq, Int.reduceToNat, hlt, t2]; try (first | (refine ⟨fun h => hX ?_, fun h => hY ?_⟩; clear hX hY) | (refine hX ?_; clear hX hY) | (refine hY ?_; clear hX hY)))
        | refine ev_block ?_
        | (apply hK; clear hK)
        | apply_assumption -exfalso -symm only [*]
        | (refine And.intro ?_ ?_; first | omega | assumption | (unfold maxLen; omega) | (simp only [decide_eq_true_eq, decide_eq_false_iff_not, Int.not_lt, Int.not_le] at h; omega))
      rfl
def beamM (h m : Int) : Vec := lowV (mulV (dirM h) (dirM m))
theorem turn_dirs (h m : Int) : turnM (dirM h) (dirM m) = ⟨beamM h m, 0⟩ := by
  unfold turnM
  rw [if_pos ⟨dir_ok h, dir_ok m⟩, if_neg]; rfl
  have d1 := dir_d h
  have d2 := dir_d m
  have p1 := (dir_ok h).1
  have p2 := (dir_ok m).1
  have hp : (mulV (dirM h) (dirM m)).d ≤ 8065 * 8065 := Int.mul_le_mul d1 d2 (by omega) (by omega)
  have hl := (low_le (x := (mulV (dirM h) (dirM m)).x) (y := (mulV (dirM h) (dirM m)).y) (d := (mulV (dirM h) (dirM m)).d) (Int.mul_pos (by omega) (by omega))).2
  have e : (lowV (mulV (dirM h) (dirM m))).d ≤ (mulV (dirM h) (dirM m)).d := hl
  omega
end Go.Proofs.Ytmpmggbcmioipaa
