import Derived.Test.YtokhaefcnbiadaaML
set_option linter.all false
namespace Go.Proofs.Ytokhaefcnbiadaa
open Nat (reduceAdd reduceSub reduceMul reduceEqDiff reduceLeDiff reduceLT)
open Go Go.K
set_option maxRecDepth 20000
set_option maxHeartbeats 8000000
theorem part_pure (p : Prob) (h : p.ok) (bl : List Blc) (hl : (bl.length : Int) < 4611686018427387904) (hv : ∀ i, i < bl.length → blkOk p (bl.getD i Blc.z)) : Pure Try.prog 61 [.agg (encP p), .sl (bl.map enBl)] (.bool (partM p bl)) := by
  obtain ⟨hs, hk, hn, r0, r1, k1, k2⟩ := winOk h
  obtain ⟨s1, s2⟩ := side_in (r := p.re) ⟨r0, r1⟩
  obtain ⟨w1, w2⟩ := win_in (c := p.ct) (r := p.re) ⟨by omega, by omega⟩ ⟨r0, r1⟩
  have hNi : p.ct * (2 * p.re + 1) * (2 * p.re + 1) = ((p.N : Nat) : Int) := by
    unfold Prob.N
    rw [Int.natCast_mul, Int.natCast_mul, hs, hk, Int.mul_comm (2 * p.re + 1) ((2 * p.re + 1) * p.ct), Int.mul_comm (2 * p.re + 1) p.ct]
  replace w2 := w2.trans hNi
  have hla := fun b hb => last_pure p b h hb
  have hpw := fun b hb r c => @parW p b h hb r c
  have hbw := fun b hb => @blkW p b h hb
  have hsub := @vis_sub p bl
  have hmem := visAll_lt h hv
  have hz0 := seen_zero p.N
  have hnx := @vis_next p bl
  have hsc := vis_succ p bl
  have hfin : partM p bl = decide ((vis p bl bl.length 0).Nodup ∧ (vis p bl bl.length 0).length = p.N) := by rw [vis_end]; rfl
  have hbad : ∀ i t, i < bl.length → t ≤ htM p (bl.getD i Blc.z) * wdM p (bl.getD i Blc.z) → ¬ (vis p bl i t).Nodup → partM p bl = false := fun i t h1 h2 h3 => by
    unfold partM
    rw [decide_eq_false_iff_not]
    exact fun h => h3 (List.Nodup.sublist (hsub h1 h2) h.1)
  have hv0 := vis_zero p bl
  generalize hP : partM p bl = res at *
  generalize hnn : p.N = n at *
  have m0 : (0 : Int) ≤ (n : Int) := by omega
  have m1 : (n : Int) ≤ ((maxLen : Nat) : Int) := by unfold maxLen; omega
  have m2 : 1 * n ≤ 281474976710656 := by omega
  have m3 : n ≤ 281474976710656 := by omega
  simp only [encP, enBl] at hla ⊢
  (refine pure_of_ev tt_ok Try.func61 rfl (by decide +kernel) (Nat.le_of_ble_eq_true rfl) ?_; simp only [Try.f61])
  repeat' first
    | refine ev_seq (fun K hK => ?_)
    | ((first | refine evrd (id := 2) hmix tt_ok false [([], false), ([], false), ([], false), ([], false), ([], false), ([], false), ([], false), ([], true), ([7], false), ([7], false), ([7], false), ([7], false), ([7], false), ([7], false), ([7], false), ([], false), ([], false)] (by decide +kernel) ?_ | refine evr tt_ok false ?_ | refine ev_skip ?_ | refine ev_ret ?_ | refine ev_exit ?_ | refine evc (fun X Y hX hY => ?_)); simp only [go_sem, reduceAdd, reduceSub, reduceMul, reduceEqDiff, reduceLeDiff, Nat.reduceBEq, reduceLT, reduceIte, reduceCtorEq, Int.reduceToNat, s1, s2, w1, w2, m0, m1, m2, m3, hz0, List.length_map, Int.toNat_natCast, Nat.one_mul]; try (first | (refine ⟨fun h => hX ?_, fun h => hY ?_⟩; clear hX hY) | (refine hX ?_; clear hX hY) | (refine hY ?_; clear hX hY)))
    | refine ev_block ?_
    | (apply hK; clear hK)
    | apply_assumption -exfalso -symm only [*]
    | (refine And.intro ?_ ?_; first | omega | assumption | (unfold maxLen; omega) | (simp only [decide_eq_true_eq, decide_eq_false_iff_not, Int.not_lt, Int.not_le] at h; omega))
  refine ev_loop (fun i : Nat => i ≤ bl.length ∧ (vis p bl i 0).Nodup ∧ (vis p bl i 0).length ≤ n)
    (fun i => ⟨88, [(36, .int .i64 (i : Int)), (35, .int .i64 (bl.length : Int)), (34, .sl (bl.map enBl)), (7, .int .i64 ((n : Int) - ((vis p bl i 0).length : Int))), (6, .rs 1 0 0 n), (5, .int .i64 (2 * p.re + 1)), (2, .own 0 0 0 0)],
      [.blk 31 0 11 [[.int .i64 p.f.x, .int .i64 p.f.y, .int .i64 p.f.w, .int .i64 p.f.h, .sl (p.f.v.map enB), .sl (p.s.map enBm), .int .i64 p.cx, .int .i64 p.cy, .int .i64 p.fr, .int .i64 p.ct, .int .i64 p.re]], .blk 4 0 1 (seenR n (vis p bl i 0))]⟩)
    (fun i => bl.length - i) 0 ⟨Nat.zero_le _, by rw [hv0]; exact List.nodup_nil, by rw [hv0]; exact Nat.zero_le _⟩ ?_ ?_
  · rw [hv0]
    have e0 : (n : Int) - ((([] : List Nat).length : Nat) : Int) = (n : Int) := by simp
    rw [e0]
    simp only [go_sem, reduceAdd, reduceSub, reduceMul, reduceEqDiff, reduceLeDiff, Nat.reduceBEq, reduceLT, reduceIte, reduceCtorEq, Int.reduceToNat, fits, fitT, fitOs, fitO, V.under, unders, rowsUnder]
    repeat' first | rfl | exact rowsUnder_lit _ (lit_seen _ _) | (simp only [V.under, unders, rowsUnder, Nat.reduceLT]; done) | apply And.intro
  · rintro i ⟨hi, hnd, hle⟩
    have hb0 : 0 ≤ (i : Int) := by omega
    have hw : IntKind.i64.wrap ((i : Int) + 1) = ((i + 1 : Nat) : Int) := by rw [w64] <;> omega
    by_cases hlt : (i : Int) < bl.length
    · have hil : i < bl.length := by omega
      have hg := blc_get bl i
      have hbk := hv i hil
      have la := hla _ hbk
      have pw := hpw _ hbk
      have hbd := hbad i
      have hsub2 := fun t ht => hsub (i := i) (t := t) hil ht
      have hn2 := hnx hil
      have hsc2 := hsc i
      obtain ⟨bk, bkk, by', bx, wd, ht, wd1, ht1, wS, hS⟩ := hbw _ hbk
      generalize bl.getD i Blc.z = b at *
      have hb4 := hbk.1
      obtain ⟨c1, c2, c3, c4, c5, c6⟩ := hb4
      simp only at c1 c2 c3 c4 c5 c6
      repeat' first
        | refine ev_seq (fun K hK => ?_)
        | ((first | refine evrd (id := 2) hmix tt_ok false [([], false), ([], false), ([], false), ([], false), ([], false), ([], false), ([], false), ([], true), ([7], false), ([7], false), ([7], false), ([7], false), ([7], false), ([7], false), ([7], false), ([], false), ([], false)] (by decide +kernel) ?_ | refine evr tt_ok false ?_ | refine ev_skip ?_ | refine ev_ret ?_ | refine ev_exit ?_ | refine evc (fun X Y hX hY => ?_)); simp only [go_sem, reduceAdd, reduceSub, reduceMul, reduceEqDiff, reduceLeDiff, Nat.reduceBEq, reduceLT, reduceIte, reduceCtorEq, Int.reduceToNat, hlt, hb0, hg, Int.toNat_natCast, List.length_map]; try (first | (refine ⟨fun h => hX ?_, fun h => hY ?_⟩; clear hX hY) | (refine hX ?_; clear hX hY) | (refine hY ?_; clear hX hY)))
        | refine ev_block ?_
        | (apply hK; clear hK)
        | apply_assumption -exfalso -symm only [*]
        | (refine And.intro ?_ ?_; first | omega | assumption | (unfold maxLen; omega) | (simp only [decide_eq_true_eq, decide_eq_false_iff_not, Int.not_lt, Int.not_le] at h; omega))
        | ((first | apply callP | apply callPG | apply callP0); (case' hv => (simp only [go_sem, reduceAdd, reduceSub, reduceMul, reduceEqDiff, reduceLeDiff, Nat.reduceBEq, reduceLT, reduceIte, reduceCtorEq, Int.reduceToNat, hlt, hb0, hg, Int.toNat_natCast, List.length_map]; try exact rfl)); (case' hp => (first | refine' la | (refine' (fun hg => ?_); refine' la))); (case' h => ((first | refine evOps_fin ?_ | refine And.intro ?_ (evD_fin ?_) | refine evD_fin ?_) <;> simp only [go_sem, reduceAdd, reduceSub, reduceMul, reduceEqDiff, reduceLeDiff, Nat.reduceBEq, reduceLT, reduceIte, reduceCtorEq, Int.reduceToNat, hlt, hb0, hg, Int.toNat_natCast, List.length_map])))
        | (refine callX ?_; (first | refine evOps_fin ?_ | refine And.intro ?_ (evD_fin ?_) | refine evD_fin ?_) <;> simp only [go_sem, reduceAdd, reduceSub, reduceMul, reduceEqDiff, reduceLeDiff, Nat.reduceBEq, reduceLT, reduceIte, reduceCtorEq, Int.reduceToNat, hlt, hb0, hg, Int.toNat_natCast, List.length_map])
      refine ev_loop (fun r : Nat => r ≤ htM p b ∧ (vis p bl i (r * wdM p b)).Nodup ∧ (vis p bl i (r * wdM p b)).length ≤ n)
        (fun r => ⟨88, [(12, .int .i64 (b.y + (r : Int))), (11, .int .i64 (lastY p b)), (10, .int .i64 (lastX p b)), (9, .own 2 0 0 0), (36, .int .i64 (i : Int)), (35, .int .i64 (bl.length : Int)), (34, .sl (bl.map enBl)), (7, .int .i64 ((n : Int) - ((vis p bl i (r * wdM p b)).length : Int))), (6, .rs 1 0 0 n), (5, .int .i64 (2 * p.re + 1)), (2, .own 0 0 0 0)],
          [.blk 31 0 11 [[.int .i64 p.f.x, .int .i64 p.f.y, .int .i64 p.f.w, .int .i64 p.f.h, .sl (p.f.v.map enB), .sl (p.s.map enBm), .int .i64 p.cx, .int .i64 p.cy, .int .i64 p.fr, .int .i64 p.ct, .int .i64 p.re]], .blk 4 0 1 (seenR n (vis p bl i (r * wdM p b))), .blk 56 0 4 [[.int .i64 b.k, .int .i64 b.y, .int .i64 b.x, .int .i64 b.l]]]⟩)
        (fun r => htM p b - r) 0 ⟨Nat.zero_le _, by rw [Nat.zero_mul]; exact hnd, by rw [Nat.zero_mul]; exact hle⟩ ?_ ?_
      · rw [Nat.zero_mul, show b.y + ((0 : Nat) : Int) = b.y from Int.add_zero _]
        simp only [go_sem, reduceAdd, reduceSub, reduceMul, reduceEqDiff, reduceLeDiff, Nat.reduceBEq, reduceLT, reduceIte, reduceCtorEq, Int.reduceToNat, fits, fitT, fitOs, fitO, V.under, unders, rowsUnder]
        repeat' first | rfl | exact rowsUnder_lit _ (lit_seen _ _) | (simp only [V.under, unders, rowsUnder, Nat.reduceLT]; done) | apply And.intro
      · rintro r ⟨hr, hnd1, hle1⟩
        have hr1 : IntKind.i64.wrap (b.y + (r : Int) + 1) = b.y + ((r + 1 : Nat) : Int) := by rw [w64] <;> omega
        by_cases hrl : b.y + (r : Int) ≤ lastY p b
        · have hrh : r < htM p b := by omega
          repeat' first
            | refine ev_seq (fun K hK => ?_)
            | ((first | refine evrd (id := 2) hmix tt_ok false [([], false), ([], false), ([], false), ([], false), ([], false), ([], false), ([], false), ([], true), ([7], false), ([7], false), ([7], false), ([7], false), ([7], false), ([7], false), ([7], false), ([], false), ([], false)] (by decide +kernel) ?_ | refine evr tt_ok false ?_ | refine ev_skip ?_ | refine ev_ret ?_ | refine ev_exit ?_ | refine evc (fun X Y hX hY => ?_)); simp only [go_sem, reduceAdd, reduceSub, reduceMul, reduceEqDiff, reduceLeDiff, Nat.reduceBEq, reduceLT, reduceIte, reduceCtorEq, Int.reduceToNat, hrl]; try (first | (refine ⟨fun h => hX ?_, fun h => hY ?_⟩; clear hX hY) | (refine hX ?_; clear hX hY) | (refine hY ?_; clear hX hY)))
            | refine ev_block ?_
            | (apply hK; clear hK)
            | apply_assumption -exfalso -symm only [*]
            | (refine And.intro ?_ ?_; first | omega | assumption | (unfold maxLen; omega) | (simp only [decide_eq_true_eq, decide_eq_false_iff_not, Int.not_lt, Int.not_le] at h; omega))
          refine ev_loop (fun c : Nat => c ≤ wdM p b ∧ (vis p bl i (r * wdM p b + c)).Nodup ∧ (vis p bl i (r * wdM p b + c)).length ≤ n)
            (fun c => ⟨88, [(13, .int .i64 (b.x + (c : Int))), (12, .int .i64 (b.y + (r : Int))), (11, .int .i64 (lastY p b)), (10, .int .i64 (lastX p b)), (9, .own 2 0 0 0), (36, .int .i64 (i : Int)), (35, .int .i64 (bl.length : Int)), (34, .sl (bl.map enBl)), (7, .int .i64 ((n : Int) - ((vis p bl i (r * wdM p b + c)).length : Int))), (6, .rs 1 0 0 n), (5, .int .i64 (2 * p.re + 1)), (2, .own 0 0 0 0)],
              [.blk 31 0 11 [[.int .i64 p.f.x, .int .i64 p.f.y, .int .i64 p.f.w, .int .i64 p.f.h, .sl (p.f.v.map enB), .sl (p.s.map enBm), .int .i64 p.cx, .int .i64 p.cy, .int .i64 p.fr, .int .i64 p.ct, .int .i64 p.re]], .blk 4 0 1 (seenR n (vis p bl i (r * wdM p b + c))), .blk 56 0 4 [[.int .i64 b.k, .int .i64 b.y, .int .i64 b.x, .int .i64 b.l]]]⟩)
            (fun c => wdM p b - c) 0 ⟨Nat.zero_le _, hnd1, hle1⟩ ?_ ?_
          · rw [Nat.add_zero, show b.x + ((0 : Nat) : Int) = b.x from Int.add_zero _]
            simp only [go_sem, reduceAdd, reduceSub, reduceMul, reduceEqDiff, reduceLeDiff, Nat.reduceBEq, reduceLT, reduceIte, reduceCtorEq, Int.reduceToNat, fits, fitT, fitOs, fitO, V.under, unders, rowsUnder]
            repeat' first | rfl | exact rowsUnder_lit _ (lit_seen _ _) | (simp only [V.under, unders, rowsUnder, Nat.reduceLT]; done) | apply And.intro
          · rintro c ⟨hc, hnd2, hle2⟩
            have hc1 : IntKind.i64.wrap (b.x + (c : Int) + 1) = b.x + ((c + 1 : Nat) : Int) := by rw [w64] <;> omega
            by_cases hcl : b.x + (c : Int) ≤ lastX p b
            · obtain ⟨a1, a2, a3, a4, a5, a6, a7⟩ := pw r c hrh (show c < wdM p b by omega)
              rw [hnn] at a7
              have hv2 := hsc2 (r * wdM p b + c)
              have htb : r * wdM p b + c + 1 ≤ htM p b * wdM p b := by
                have := lt_mul (w := wdM p b) (h := htM p b) (r := r) (c := c) hrh (by omega)
                rw [Nat.mul_comm (htM p b)]; omega
              have hbb := hbd (r * wdM p b + c + 1) hil htb
              have hcn : r * wdM p b + (c + 1) = r * wdM p b + c + 1 := rfl
              rw [hv2] at hbb
              rw [← hcn] at hv2
              generalize cellAt p b (r * wdM p b + c) = e at *
              generalize vis p bl i (r * wdM p b + c) = L at *
              have sg := seen_get n L a7
              have ss := seen_set n L a7
              have sl := seen_len n L
              have e0 : (0 : Int) ≤ (e : Int) := by omega
              have e1 : (e : Int) < (n : Int) := by omega
              by_cases hm : e ∈ L
              · rw [decide_eq_true hm] at sg
                have hR := hbb (not_snoc hm)
                rw [hR]
                repeat' first
                  | refine ev_seq (fun K hK => ?_)
                  | ((first | refine evrd (id := 2) hmix tt_ok false [([], false), ([], false), ([], false), ([], false), ([], false), ([], false), ([], false), ([], true), ([7], false), ([7], false), ([7], false), ([7], false), ([7], false), ([7], false), ([7], false), ([], false), ([], false)] (by decide +kernel) ?_ | refine evr tt_ok false ?_ | refine ev_skip ?_ | refine ev_ret ?_ | refine ev_exit ?_ | refine evc (fun X Y hX hY => ?_)); simp only [go_sem, reduceAdd, reduceSub, reduceMul, reduceEqDiff, reduceLeDiff, Nat.reduceBEq, reduceLT, reduceIte, reduceCtorEq, Int.reduceToNat, hcl, a1, a2, a3, a4, a5, a6, a7, e0, e1, sg, sl, Int.toNat_natCast, Nat.zero_add, Nat.sub_zero, Nat.le_refl]; try (first | (refine ⟨fun h => hX ?_, fun h => hY ?_⟩; clear hX hY) | (refine hX ?_; clear hX hY) | (refine hY ?_; clear hX hY)))
                  | refine ev_block ?_
                  | (apply hK; clear hK)
                  | apply_assumption -exfalso -symm only [*]
                  | (refine And.intro ?_ ?_; first | omega | assumption | (unfold maxLen; omega) | (simp only [decide_eq_true_eq, decide_eq_false_iff_not, Int.not_lt, Int.not_le] at h; omega))
              · rw [decide_eq_false hm] at sg
                have hnd3 := nodup_snoc hnd2 hm
                have hle3 : (L ++ [e]).length ≤ n := nodup_le n _ hnd3 (fun x hx => hmem x ((hsub2 (r * wdM p b + c + 1) htb).subset (by rw [← hcn, hv2]; exact hx)))
                have hlL : (L ++ [e]).length = L.length + 1 := by simp
                have wl : IntKind.i64.wrap ((n : Int) - (L.length : Int) - 1) = (n : Int) - (((L ++ [e]).length : Nat) : Int) := by
                  rw [w64] <;> omega
                repeat' first
                  | refine ev_seq (fun K hK => ?_)
                  | ((first | refine evrd (id := 2) hmix tt_ok false [([], false), ([], false), ([], false), ([], false), ([], false), ([], false), ([], false), ([], true), ([7], false), ([7], false), ([7], false), ([7], false), ([7], false), ([7], false), ([7], false), ([], false), ([], false)] (by decide +kernel) ?_ | refine evr tt_ok false ?_ | refine ev_skip ?_ | refine ev_ret ?_ | refine ev_exit ?_ | refine evc (fun X Y hX hY => ?_)); simp only [go_sem, reduceAdd, reduceSub, reduceMul, reduceEqDiff, reduceLeDiff, Nat.reduceBEq, reduceLT, reduceIte, reduceCtorEq, Int.reduceToNat, hcl, hc1, a1, a2, a3, a4, a5, a6, a7, e0, e1, sg, ss, sl, wl, Int.toNat_natCast, Nat.zero_add, Nat.sub_zero, Nat.le_refl]; try (first | (refine ⟨fun h => hX ?_, fun h => hY ?_⟩; clear hX hY) | (refine hX ?_; clear hX hY) | (refine hY ?_; clear hX hY)))
                  | refine ev_block ?_
                  | (apply hK; clear hK)
                  | apply_assumption -exfalso -symm only [*]
                  | (refine And.intro ?_ ?_; first | omega | assumption | (unfold maxLen; omega) | (simp only [decide_eq_true_eq, decide_eq_false_iff_not, Int.not_lt, Int.not_le] at h; omega))
                refine ⟨c + 1, ⟨by omega, by rw [hv2]; exact hnd3, by rw [hv2]; exact hle3⟩, ?_, by omega⟩
                rw [hv2]
                repeat' first | rfl | (rw [hlL]; done) | exact rowsUnder_lit _ (lit_seen _ _) | (simp only [V.under, unders, rowsUnder, Nat.reduceLT]; done) | apply And.intro
            · have hce : c = wdM p b := by omega
              have he : r * wdM p b + c = (r + 1) * wdM p b := by rw [hce, Nat.succ_mul]
              rw [he] at hnd2 hle2 ⊢
              repeat' first
                | refine ev_seq (fun K hK => ?_)
                | ((first | refine evrd (id := 2) hmix tt_ok false [([], false), ([], false), ([], false), ([], false), ([], false), ([], false), ([], false), ([], true), ([7], false), ([7], false), ([7], false), ([7], false), ([7], false), ([7], false), ([7], false), ([], false), ([], false)] (by decide +kernel) ?_ | refine evr tt_ok false ?_ | refine ev_skip ?_ | refine ev_ret ?_ | refine ev_exit ?_ | refine evc (fun X Y hX hY => ?_)); simp only [go_sem, reduceAdd, reduceSub, reduceMul, reduceEqDiff, reduceLeDiff, Nat.reduceBEq, reduceLT, reduceIte, reduceCtorEq, Int.reduceToNat, hcl, hr1]; try (first | (refine ⟨fun h => hX ?_, fun h => hY ?_⟩; clear hX hY) | (refine hX ?_; clear hX hY) | (refine hY ?_; clear hX hY)))
                | refine ev_block ?_
                | (apply hK; clear hK)
                | apply_assumption -exfalso -symm only [*]
                | (refine And.intro ?_ ?_; first | omega | assumption | (unfold maxLen; omega) | (simp only [decide_eq_true_eq, decide_eq_false_iff_not, Int.not_lt, Int.not_le] at h; omega))
              refine ⟨r + 1, ⟨by omega, hnd2, hle2⟩, ?_, by omega⟩
              repeat' first | rfl | exact rowsUnder_lit _ (lit_seen _ _) | (simp only [V.under, unders, rowsUnder, Nat.reduceLT]; done) | apply And.intro
        · have hre : r = htM p b := by omega
          rw [hre, hn2] at hnd1 hle1 ⊢
          rw [hre] at hrl
          repeat' first
            | refine ev_seq (fun K hK => ?_)
            | ((first | refine evrd (id := 2) hmix tt_ok false [([], false), ([], false), ([], false), ([], false), ([], false), ([], false), ([], false), ([], true), ([7], false), ([7], false), ([7], false), ([7], false), ([7], false), ([7], false), ([7], false), ([], false), ([], false)] (by decide +kernel) ?_ | refine evr tt_ok false ?_ | refine ev_skip ?_ | refine ev_ret ?_ | refine ev_exit ?_ | refine evc (fun X Y hX hY => ?_)); simp only [go_sem, reduceAdd, reduceSub, reduceMul, reduceEqDiff, reduceLeDiff, Nat.reduceBEq, reduceLT, reduceIte, reduceCtorEq, Int.reduceToNat, hrl, hw]; try (first | (refine ⟨fun h => hX ?_, fun h => hY ?_⟩; clear hX hY) | (refine hX ?_; clear hX hY) | (refine hY ?_; clear hX hY)))
            | refine ev_block ?_
            | (apply hK; clear hK)
            | apply_assumption -exfalso -symm only [*]
            | (refine And.intro ?_ ?_; first | omega | assumption | (unfold maxLen; omega) | (simp only [decide_eq_true_eq, decide_eq_false_iff_not, Int.not_lt, Int.not_le] at h; omega))
          refine ⟨i + 1, ⟨by omega, hnd1, hle1⟩, ?_, by omega⟩
          repeat' first | rfl | exact rowsUnder_lit _ (lit_seen _ _) | (simp only [V.under, unders, rowsUnder, Nat.reduceLT]; done) | apply And.intro
    · obtain rfl : i = bl.length := by omega
      have hd : decide ((vis p bl bl.length 0).Nodup ∧ (vis p bl bl.length 0).length = n) = ((n : Int) - ((vis p bl bl.length 0).length : Int) == 0) := by
        rw [Bool.eq_iff_iff, decide_eq_true_eq, beq_iff_eq]
        exact ⟨fun h => by have := h.2; omega, fun h => ⟨hnd, by omega⟩⟩
      repeat' first
        | refine ev_seq (fun K hK => ?_)
        | ((first | refine evrd (id := 2) hmix tt_ok false [([], false), ([], false), ([], false), ([], false), ([], false), ([], false), ([], false), ([], true), ([7], false), ([7], false), ([7], false), ([7], false), ([7], false), ([7], false), ([7], false), ([], false), ([], false)] (by decide +kernel) ?_ | refine evr tt_ok false ?_ | refine ev_skip ?_ | refine ev_ret ?_ | refine ev_exit ?_ | refine evc (fun X Y hX hY => ?_)); simp only [go_sem, reduceAdd, reduceSub, reduceMul, reduceEqDiff, reduceLeDiff, Nat.reduceBEq, reduceLT, reduceIte, reduceCtorEq, Int.reduceToNat, hlt]; try (first | (refine ⟨fun h => hX ?_, fun h => hY ?_⟩; clear hX hY) | (refine hX ?_; clear hX hY) | (refine hY ?_; clear hX hY)))
        | refine ev_block ?_
        | (apply hK; clear hK)
        | apply_assumption -exfalso -symm only [*]
        | (refine And.intro ?_ ?_; first | omega | assumption | (unfold maxLen; omega) | (simp only [decide_eq_true_eq, decide_eq_false_iff_not, Int.not_lt, Int.not_le] at h; omega))
      rw [hfin, hd]
end Go.Proofs.Ytokhaefcnbiadaa
