import Derived.Test.YtbibplkhhdomnaaGreatW16
set_option linter.all false
namespace Go.Proofs.YtbibplkhhdomnaaGreat
open Nat (reduceAdd reduceSub reduceMul reduceEqDiff reduceLeDiff reduceLT)
open Go Go.K
set_option maxRecDepth 20000
set_option maxHeartbeats 4000000
theorem clone_pure (L : List Int) (hl : L.length ≤ 16384) : Pure Tryz.prog 69 [.sl (L.map enB)] (.sl (L.map enB)) := by
  have hq : L.length ≤ maxLen := by unfold maxLen; omega
  have hq2 : L.length ≤ 140737488355328 := by omega
  (refine pure_of_ev tt_ok Tryz.func69 rfl (by decide +kernel) (Nat.le_of_ble_eq_true rfl) ?_; simp only [Tryz.f69])
  refine ev_seq (fun K hK => ?_)
  refine evr tt_ok false ?_
  simp only [go_sem, reduceAdd, reduceSub, reduceMul, reduceEqDiff, reduceLeDiff, Nat.reduceBEq, reduceLT, reduceIte, reduceCtorEq, Int.reduceToNat]
  apply hK; clear hK
  refine ev_seq (fun K hK => ?_)
  refine ev_seq (fun K2 hK2 => ?_)
  refine ev_region2 tt_ok false ?_
  simp only [go_sem, reduceAdd, reduceSub, reduceMul, reduceEqDiff, reduceLeDiff, Nat.reduceBEq, reduceLT, reduceIte, reduceCtorEq, Int.reduceToNat]
  refine ev2_step ?_
  simp only [go_sem, reduceAdd, reduceSub, reduceMul, reduceEqDiff, reduceLeDiff, Nat.reduceBEq, reduceLT, reduceIte, reduceCtorEq, Int.reduceToNat]
  refine ev2_spec rfl (by simp only [go_sem, reduceAdd, reduceSub, reduceMul, reduceEqDiff, reduceLeDiff, Nat.reduceBEq, reduceLT, reduceIte, reduceCtorEq, Int.reduceToNat]) (Spec.nilcmp (rows := L.map enB) rfl rfl) ?_
  rintro x ⟨b, rfl, hb⟩
  refine ev2_nil ?_
  apply hK2; clear hK2
  cases b with
  | true =>
    have hL : L = [] := by
      by_cases h : L = []
      · exact h
      · have := hb (by simpa using h); cases this
    subst hL
    repeat' first
      | refine ev_seq (fun K hK => ?_)
      | ((first | refine evr tt_ok false ?_ | refine ev_skip ?_ | refine ev_exit ?_ | refine evc (fun X Y hX hY => ?_)); simp only [go_sem, reduceAdd, reduceSub, reduceMul, reduceEqDiff, reduceLeDiff, Nat.reduceBEq, reduceLT, reduceIte, reduceCtorEq, Int.reduceToNat]; try (first | (refine ⟨fun h => hX ?_, fun h => hY ?_⟩; clear hX hY) | (refine hX ?_; clear hX hY) | (refine hY ?_; clear hX hY)))
      | refine ev_block ?_
      | (apply hK; clear hK)
      | apply_assumption -exfalso -symm only [*]
      | (refine And.intro ?_ ?_; first | omega | assumption | (unfold maxLen; omega) | (simp only [decide_eq_true_eq, decide_eq_false_iff_not, Int.not_lt, Int.not_le] at h; omega))
    refine ev_emp 2 rfl (ev_ret ?_)
    simp only [go_sem, reduceAdd, reduceSub, reduceMul, reduceEqDiff, reduceLeDiff, Nat.reduceBEq, reduceLT, reduceIte, reduceCtorEq, Int.reduceToNat]
  | false =>
    have htk : List.take L.length (L.map enB) = L.map enB := List.take_of_length_le (by simp)
    repeat' first
      | refine ev_seq (fun K hK => ?_)
      | ((first | refine evr tt_ok false ?_ | refine ev_skip ?_ | refine ev_ret ?_ | refine ev_exit ?_ | refine evc (fun X Y hX hY => ?_)); simp only [go_sem, reduceAdd, reduceSub, reduceMul, reduceEqDiff, reduceLeDiff, Nat.reduceBEq, reduceLT, reduceIte, reduceCtorEq, Int.reduceToNat, hq, hq2, Nat.mul_one, Nat.zero_add, Nat.sub_zero, List.length_map, byte_get, vrows_lit _ (lit_enB L), Nat.le_refl, htk]; try (first | (refine ⟨fun h => hX ?_, fun h => hY ?_⟩; clear hX hY) | (refine hX ?_; clear hX hY) | (refine hY ?_; clear hX hY)))
      | refine ev_block ?_
      | (apply hK; clear hK)
      | apply_assumption -exfalso -symm only [*]
      | (refine And.intro ?_ ?_; first | omega | assumption | (unfold maxLen; omega) | (simp only [decide_eq_true_eq, decide_eq_false_iff_not, Int.not_lt, Int.not_le] at h; omega))
theorem raise_pure (f : Fld) (k : Int) (hf : f.fine) (hk : 0 < k ∧ k ≤ 64) (hw : f.w + k ≤ 128) (hh : f.h + k ≤ 128) :
    Pure Tryz.prog 70 [.agg [.int .i64 f.x, .int .i64 f.y, .int .i64 f.w, .int .i64 f.h, .sl (f.v.map enB)], .int .i64 k]
      (.agg [.int .i64 (raiseM f k).x, .int .i64 (raiseM f k).y, .int .i64 (raiseM f k).w, .int .i64 (raiseM f k).h, .sl ((raiseM f k).v.map enB)]) := by
  obtain ⟨f1, f2, f3, f4, f5, f6, f7, f8, f9, f10⟩ := id hf
  obtain ⟨m1, m2, m3⟩ := mul_ok (w := f.w + k) (h := f.h + k) (by omega) (by omega) (by omega) (by omega)
  have wx : IntKind.i64.wrap (f.x - k) = f.x - k := w64 (by omega) (by omega)
  have wy : IntKind.i64.wrap (f.y - k) = f.y - k := w64 (by omega) (by omega)
  have ww : IntKind.i64.wrap (f.w + k) = f.w + k := w64 (by omega) (by omega)
  have wh : IntKind.i64.wrap (f.h + k) = f.h + k := w64 (by omega) (by omega)
  obtain ⟨n, hn⟩ : ∃ n : Nat, (f.w + k) * (f.h + k) = n := ⟨((f.w + k) * (f.h + k)).toNat, by omega⟩
  have hres : raiseM f k = ⟨f.x - k, f.y - k, f.w + k, f.h + k, raiseL f k n⟩ := by unfold raiseM; rw [hn]; rfl
  rw [hres]
  rw [hn] at m1 m2 m3
  have hmul : IntKind.i64.wrap ((f.w + k) * (f.h + k)) = (n : Int) := by rw [hn, m3]
  have h8 : n ≤ 281474976710656 := by omega
  have hm2 : (n : Int) ≤ ((maxLen : Nat) : Int) := by unfold maxLen; omega
  obtain ⟨g, hg⟩ : ∃ g : Nat → Int, ∀ i : Nat, m4 f k (f.x - k + i % (f.w + k)) (f.y - k + i / (f.w + k)) = g i := ⟨_, fun _ => rfl⟩
  have hL : raiseL f k n = prt g n n := by rw [prt_all]; unfold raiseL; exact List.map_congr_left fun i _ => hg i
  simp only []
  rw [hL]
  (refine pure_of_ev tt_ok Tryz.func70 rfl (by decide +kernel) (Nat.le_of_ble_eq_true rfl) ?_; simp only [Tryz.f70])
  repeat' first
    | refine ev_seq (fun K hK => ?_)
    | ((first | refine evrd (id := 6) hmix tt_ok false [([], false), ([], false), ([], false), ([], false), ([], false), ([], false), ([], false), ([], false), ([], false), ([], false), ([], false), ([], false), ([], false), ([], false), ([], false), ([], false)] (by decide +kernel) ?_ | refine evrd (id := 7) hmix tt_ok false [([], true), ([], true), ([], true), ([], false), ([], false), ([], false), ([0, 1, 2], true), ([6], false), ([6], false), ([6], false), ([6], false), ([6], false), ([0, 1, 2], true), ([6, 12], false), ([6, 12], false), ([6, 12], false), ([6, 12], false), ([6, 12], false), ([0, 1, 2], true), ([6, 12, 18], false), ([6, 12, 18], false), ([6, 12, 18], false), ([6, 12, 18], false), ([6, 12, 18], false), ([6, 12, 18], false), ([6, 12, 18], false), ([0, 1, 2], false), ([], false), ([], false), ([], false)] (by decide +kernel) ?_ | refine evr tt_ok false ?_ | refine ev_skip ?_ | refine ev_ret ?_ | refine ev_exit ?_ | refine evc (fun X Y hX hY => ?_)); simp only [go_sem, reduceAdd, reduceSub, reduceMul, reduceEqDiff, reduceLeDiff, Nat.reduceBEq, reduceLT, reduceIte, reduceCtorEq, Int.reduceToNat, wx, wy, ww, wh, hmul, Int.toNat_natCast, Nat.one_mul, h8, m1, hm2, rep_enB, ← prt_zero g, prt_len, List.length_replicate]; try (first | (refine ⟨fun h => hX ?_, fun h => hY ?_⟩; clear hX hY) | (refine hX ?_; clear hX hY) | (refine hY ?_; clear hX hY)))
    | refine ev_block ?_
    | (apply hK; clear hK)
    | apply_assumption -exfalso -symm only [*]
    | (refine And.intro ?_ ?_; first | omega | assumption | (unfold maxLen; omega) | (simp only [decide_eq_true_eq, decide_eq_false_iff_not, Int.not_lt, Int.not_le] at h; omega))
  refine ev_loop (fun i : Nat => i ≤ n)
    (fun i => ⟨84, [(36, .int .i64 i), (35, .int .i64 n), (5, .own 2 0 0 0), (4, .own 1 0 0 0), (2, .own 0 0 0 0), (1, .int .i64 k)],
      [.blk 35 0 5 [[.int .i64 f.x, .int .i64 f.y, .int .i64 f.w, .int .i64 f.h, .sl (f.v.map enB)]], .blk 35 0 5 [[.int .i64 0, .int .i64 0, .int .i64 0, .int .i64 0, .emp]],
       .blk 35 0 5 [[.int .i64 (f.x - k), .int .i64 (f.y - k), .int .i64 (f.w + k), .int .i64 (f.h + k), .rs 3 0 0 n]], .blk 5 0 1 ((prt g i n).map enB)]⟩)
    (fun i => n - i) 0 (Nat.zero_le _) ?_ ?_
  · simp only [go_sem, reduceAdd, reduceSub, reduceMul, reduceEqDiff, reduceLeDiff, Nat.reduceBEq, reduceLT, reduceIte, reduceCtorEq, Int.reduceToNat, fits, fitT, fitOs, fitO, V.under, unders, rowsUnder]
    repeat' first | rfl | exact rowsUnder_lit _ (lit_enB _) | apply And.intro
  · intro i hi
    have hb0 : 0 ≤ (i : Int) := by omega
    have hw1 : IntKind.i64.wrap ((i : Int) + 1) = ((i + 1 : Nat) : Int) := by rw [w64] <;> omega
    by_cases hlt : (i : Int) < n
    · have hlt2 : i < n := by omega
      have hW : 0 < f.w + k := by omega
      have hmod : (i : Int).tmod (f.w + k) = (i : Int) % (f.w + k) := Int.tmod_eq_emod_of_nonneg hb0
      have hdiv : (i : Int).tdiv (f.w + k) = (i : Int) / (f.w + k) := Int.tdiv_eq_ediv_of_nonneg hb0
      have r1 := Int.emod_nonneg (i : Int) (show f.w + k ≠ 0 by omega)
      have r2 := Int.emod_lt_of_pos (i : Int) hW
      have r3 : 0 ≤ (i : Int) / (f.w + k) := Int.ediv_nonneg hb0 (by omega)
      have r4 : (i : Int) / (f.w + k) ≤ i := Int.ediv_le_self _ hb0
      have wd : IntKind.i64.wrap ((i : Int) / (f.w + k)) = (i : Int) / (f.w + k) := w64 (by omega) (by omega)
      obtain ⟨px, hpx⟩ : ∃ px, f.x - k + (i : Int) % (f.w + k) = px := ⟨_, rfl⟩
      obtain ⟨py, hpy⟩ : ∃ py, f.y - k + (i : Int) / (f.w + k) = py := ⟨_, rfl⟩
      have hgi := hg i
      have bx : -1000000 ≤ f.x - k + (i : Int) % (f.w + k) ∧ f.x - k + (i : Int) % (f.w + k) ≤ 1000000 := by omega
      have by' : -1000000 ≤ f.y - k + (i : Int) / (f.w + k) ∧ f.y - k + (i : Int) / (f.w + k) ≤ 1000000 := by omega
      rw [hpx] at bx hgi
      rw [hpy] at by' hgi
      have w1 : IntKind.i64.wrap px = px := w64 (by omega) (by omega)
      have w2 : IntKind.i64.wrap py = py := w64 (by omega) (by omega)
      have w3 : IntKind.i64.wrap (px + k) = px + k := w64 (by omega) (by omega)
      have w4 : IntKind.i64.wrap (py + k) = py + k := w64 (by omega) (by omega)
      have a1 := at_pure f hf px py (by omega) (by omega)
      have a2 := at_pure f hf (px + k) py (by omega) (by omega)
      have a3 := at_pure f hf px (py + k) (by omega) (by omega)
      have a4 := at_pure f hf (px + k) (py + k) (by omega) (by omega)
      have hm4 : max (max (max (atM f px py) (atM f (px + k) py)) (atM f px (py + k))) (atM f (px + k) (py + k)) = g i := hgi
      have hset : ((prt g i n).map enB).set i [.int .u8 (g i)] = (prt g (i + 1) n).map enB := by rw [← prt_set g hlt2, List.map_set]; rfl
      repeat' first
        | refine ev_seq (fun K hK => ?_)
        | ((first | refine evrd (id := 6) hmix tt_ok false [([], false), ([], false), ([], false), ([], false), ([], false), ([], false), ([], false), ([], false), ([], false), ([], false), ([], false), ([], false), ([], false), ([], false), ([], false), ([], false)] (by decide +kernel) ?_ | refine evrd (id := 7) hmix tt_ok false [([], true), ([], true), ([], true), ([], false), ([], false), ([], false), ([0, 1, 2], true), ([6], false), ([6], false), ([6], false), ([6], false), ([6], false), ([0, 1, 2], true), ([6, 12], false), ([6, 12], false), ([6, 12], false), ([6, 12], false), ([6, 12], false), ([0, 1, 2], true), ([6, 12, 18], false), ([6, 12, 18], false), ([6, 12, 18], false), ([6, 12, 18], false), ([6, 12, 18], false), ([6, 12, 18], false), ([6, 12, 18], false), ([0, 1, 2], false), ([], false), ([], false), ([], false)] (by decide +kernel) ?_ | refine evr tt_ok false ?_ | refine ev_skip ?_ | refine ev_ret ?_ | refine ev_exit ?_ | refine evc (fun X Y hX hY => ?_)); simp only [go_sem, reduceAdd, reduceSub, reduceMul, reduceEqDiff, reduceLeDiff, Nat.reduceBEq, reduceLT, reduceIte, reduceCtorEq, Int.reduceToNat, hb0, hlt, hlt2, hw1, hmod, hdiv, wd, w1, w2, hpx, hpy, w3, w4, hm4, hset, Int.toNat_natCast, Nat.sub_zero, Nat.zero_add, List.length_map, prt_len, byte_get, Nat.le_refl]; try (first | (refine ⟨fun h => hX ?_, fun h => hY ?_⟩; clear hX hY) | (refine hX ?_; clear hX hY) | (refine hY ?_; clear hX hY)))
        | refine ev_block ?_
        | (apply hK; clear hK)
        | apply_assumption -exfalso -symm only [*]
        | (refine And.intro ?_ ?_; first | omega | assumption | (unfold maxLen; omega) | (simp only [decide_eq_true_eq, decide_eq_false_iff_not, Int.not_lt, Int.not_le] at h; omega))
        | ((first | apply callP | apply callPG | apply callP0); (case' hv => (simp only [go_sem, reduceAdd, reduceSub, reduceMul, reduceEqDiff, reduceLeDiff, Nat.reduceBEq, reduceLT, reduceIte, reduceCtorEq, Int.reduceToNat, hb0, hlt, hlt2, hw1, hmod, hdiv, wd, w1, w2, hpx, hpy, w3, w4, hm4, hset, Int.toNat_natCast, Nat.sub_zero, Nat.zero_add, List.length_map, prt_len, byte_get, Nat.le_refl]; try exact rfl)); (case' hp => (first | refine' a1 | (refine' (fun hg => ?_); refine' a1) | refine' a2 | (refine' (fun hg => ?_); refine' a2) | refine' a3 | (refine' (fun hg => ?_); refine' a3) | refine' a4 | (refine' (fun hg => ?_); refine' a4))); (case' h => ((first | refine evOps_fin ?_ | refine And.intro ?_ (evD_fin ?_) | refine evD_fin ?_) <;> simp only [go_sem, reduceAdd, reduceSub, reduceMul, reduceEqDiff, reduceLeDiff, Nat.reduceBEq, reduceLT, reduceIte, reduceCtorEq, Int.reduceToNat, hb0, hlt, hlt2, hw1, hmod, hdiv, wd, w1, w2, hpx, hpy, w3, w4, hm4, hset, Int.toNat_natCast, Nat.sub_zero, Nat.zero_add, List.length_map, prt_len, byte_get, Nat.le_refl])))
        | (refine callX ?_; (first | refine evOps_fin ?_ | refine And.intro ?_ (evD_fin ?_) | refine evD_fin ?_) <;> simp only [go_sem, reduceAdd, reduceSub, reduceMul, reduceEqDiff, reduceLeDiff, Nat.reduceBEq, reduceLT, reduceIte, reduceCtorEq, Int.reduceToNat, hb0, hlt, hlt2, hw1, hmod, hdiv, wd, w1, w2, hpx, hpy, w3, w4, hm4, hset, Int.toNat_natCast, Nat.sub_zero, Nat.zero_add, List.length_map, prt_len, byte_get, Nat.le_refl])
      refine ⟨i + 1, by omega, ?_, by omega⟩
      repeat' first | rfl | exact rowsUnder_lit _ (lit_enB _) | apply And.intro
    · obtain rfl : i = n := by omega
      have htk : List.take i ((prt g i i).map enB) = (prt g i i).map enB := List.take_of_length_le (by simp [prt_len])
      repeat' first
        | refine ev_seq (fun K hK => ?_)
        | ((first | refine evrd (id := 6) hmix tt_ok false [([], false), ([], false), ([], false), ([], false), ([], false), ([], false), ([], false), ([], false), ([], false), ([], false), ([], false), ([], false), ([], false), ([], false), ([], false), ([], false)] (by decide +kernel) ?_ | refine evrd (id := 7) hmix tt_ok false [([], true), ([], true), ([], true), ([], false), ([], false), ([], false), ([0, 1, 2], true), ([6], false), ([6], false), ([6], false), ([6], false), ([6], false), ([0, 1, 2], true), ([6, 12], false), ([6, 12], false), ([6, 12], false), ([6, 12], false), ([6, 12], false), ([0, 1, 2], true), ([6, 12, 18], false), ([6, 12, 18], false), ([6, 12, 18], false), ([6, 12, 18], false), ([6, 12, 18], false), ([6, 12, 18], false), ([6, 12, 18], false), ([0, 1, 2], false), ([], false), ([], false), ([], false)] (by decide +kernel) ?_ | refine evr tt_ok false ?_ | refine ev_skip ?_ | refine ev_ret ?_ | refine ev_exit ?_ | refine evc (fun X Y hX hY => ?_)); simp only [go_sem, reduceAdd, reduceSub, reduceMul, reduceEqDiff, reduceLeDiff, Nat.reduceBEq, reduceLT, reduceIte, reduceCtorEq, Int.reduceToNat, hlt, prt_len, List.length_map, vrows_lit _ (lit_enB (prt g i i)), Nat.le_refl, htk]; try (first | (refine ⟨fun h => hX ?_, fun h => hY ?_⟩; clear hX hY) | (refine hX ?_; clear hX hY) | (refine hY ?_; clear hX hY)))
        | refine ev_block ?_
        | (apply hK; clear hK)
        | apply_assumption -exfalso -symm only [*]
        | (refine And.intro ?_ ?_; first | omega | assumption | (unfold maxLen; omega) | (simp only [decide_eq_true_eq, decide_eq_false_iff_not, Int.not_lt, Int.not_le] at h; omega))
end Go.Proofs.YtbibplkhhdomnaaGreat
