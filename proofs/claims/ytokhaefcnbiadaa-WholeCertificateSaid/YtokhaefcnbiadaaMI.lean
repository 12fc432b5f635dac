import Derived.Test.YtokhaefcnbiadaaMH
set_option linter.all false
namespace Go.Proofs.Ytokhaefcnbiadaa
open Nat (reduceAdd reduceSub reduceMul reduceEqDiff reduceLeDiff reduceLT)
open Go Go.K
set_option maxRecDepth 20000
set_option maxHeartbeats 8000000
/-! ### all candidates, in order -/
def ix (S k r c : Nat) : Nat := (k * S + r) * S + c
theorem ix_c (S k r : Nat) : ix S k r S = ix S k (r + 1) 0 := by unfold ix; rw [Nat.add_zero, ← Nat.succ_mul]; rfl
theorem ix_r (S k : Nat) : ix S k S 0 = ix S (k + 1) 0 0 := by
  show (k * S + S) * S = ((k + 1) * S) * S
  rw [Nat.succ_mul]
theorem ix_all (S K : Nat) : ix S K 0 0 = S * (S * K) := by unfold ix; rw [Nat.add_zero, Nat.add_zero, Nat.mul_comm, Nat.mul_comm K S]
theorem ix_lt {S K k r c : Nat} (hk : k < K) (hr : r < S) (hc : c < S) : ix S k r c < S * (S * K) := lt_mul (lt_mul hk hr) hc
def Prob.S (p : Prob) : Nat := p.side.toNat
def Prob.K (p : Prob) : Nat := p.ct.toNat
def Prob.N (p : Prob) : Nat := p.S * (p.S * p.K)
structure WinOk (p : Prob) : Prop where
  s : ((p.S : Nat) : Int) = 2 * p.re + 1
  k : ((p.K : Nat) : Int) = p.ct
  n : p.N ≤ 16384
  r0 : 0 ≤ p.re
  r1 : p.re ≤ 31
  k1 : 1 ≤ p.K
  k2 : p.K ≤ 256
theorem winOk {p : Prob} (h : p.ok) : WinOk p := by
  obtain ⟨h1, h2, h3, h4, h5, h6, h7⟩ := h
  obtain ⟨a1, a2, a3, a4, a5⟩ := h3
  simp only at a1 a2 a3 a4
  have s : ((p.S : Nat) : Int) = 2 * p.re + 1 := by unfold Prob.S Prob.side; omega
  have k : ((p.K : Nat) : Int) = p.ct := by unfold Prob.K; omega
  refine ⟨s, k, ?_, h6.1, h6.2, by omega, by omega⟩
  unfold Prob.side at h7
  have : ((p.N : Nat) : Int) ≤ 16384 := by
    unfold Prob.N
    rw [Int.natCast_mul, Int.natCast_mul, s, k, Int.mul_comm, Int.mul_comm (2 * p.re + 1) p.ct]
    exact h7
  omega
def cndAt (p : Prob) (j : Nat) : Cnd := ⟨((j / p.S / p.S : Nat) : Int), ((j / p.S % p.S : Nat) : Int) - p.re, ((j % p.S : Nat) : Int) - p.re⟩
def allN (p : Prob) (n : Nat) : List Cnd := (List.range n).map (cndAt p)
def allL (p : Prob) : List Cnd := allN p p.N
theorem allN_len (p : Prob) (n : Nat) : (allN p n).length = n := by simp [allN]
theorem allN_succ (p : Prob) (n : Nat) : allN p (n + 1) = allN p n ++ [cndAt p n] := by unfold allN; rw [List.range_succ, List.map_append]; rfl
theorem cnd_at (p : Prob) {k r c : Nat} (hr : r < p.S) (hc : c < p.S) : cndAt p (ix p.S k r c) = ⟨(k : Int), (r : Int) - p.re, (c : Int) - p.re⟩ := by
  unfold cndAt ix
  rw [(dm hc).1, (dm hc).2, (dm hr).1, (dm hr).2]
theorem allN_step (p : Prob) {k r c : Nat} (hr : r < p.S) (hc : c < p.S) : (allN p (ix p.S k r c + 1)).map enC = (allN p (ix p.S k r c)).map enC ++ [[.int .i64 (k : Int), .int .i64 ((r : Int) - p.re), .int .i64 ((c : Int) - p.re)]] := by
  rw [allN_succ, cnd_at p hr hc, List.map_append]; rfl
theorem all2_pure (p : Prob) (h : p.ok) : Pure Try.prog 70 [.agg (encP p)] (.sl ((allL p).map enC)) := by
  obtain ⟨hs, hk, hn, r0, r1, k1, k2⟩ := winOk h
  have w2 : IntKind.i64.wrap (0 - p.re) = ((0 : Nat) : Int) - p.re := w64 (by omega) (by omega)
  have i0 : (0 : Nat) = ix p.S 0 0 0 := by simp [ix]
  have hstep := @allN_step p
  have hlen := allN_len p
  have hlt' := @ix_lt p.S p.K
  have hc' := ix_c p.S
  have hr' := ix_r p.S
  have ha' := ix_all p.S p.K
  unfold allL
  have hN : p.N = p.S * (p.S * p.K) := rfl
  rw [hN] at hn ⊢
  generalize p.S = Sd at *
  generalize p.K = Kc at *
  simp only [encP]
  (refine pure_of_ev tt_ok Try.func70 rfl (by decide +kernel) (Nat.le_of_ble_eq_true rfl) ?_; simp only [Try.f70])
  repeat' first
    | refine ev_seq (fun K hK => ?_)
    | ((first | refine evr tt_ok false ?_ | refine ev_skip ?_ | refine ev_ret ?_ | refine ev_exit ?_ | refine evc (fun X Y hX hY => ?_)); simp only [go_sem, reduceAdd, reduceSub, reduceMul, reduceEqDiff, reduceLeDiff, Nat.reduceBEq, reduceLT, reduceIte, reduceCtorEq, Int.reduceToNat]; try (first | (refine ⟨fun h => hX ?_, fun h => hY ?_⟩; clear hX hY) | (refine hX ?_; clear hX hY) | (refine hY ?_; clear hX hY)))
    | refine ev_block ?_
    | (apply hK; clear hK)
    | apply_assumption -exfalso -symm only [*]
    | (refine And.intro ?_ ?_; first | omega | assumption | (unfold maxLen; omega) | (simp only [decide_eq_true_eq, decide_eq_false_iff_not, Int.not_lt, Int.not_le] at h; omega))
  refine ev_adopt 3 33 3 (by decide) rfl ?_
  refine ev_loop (fun k : Nat => k ≤ Kc)
    (fun k => ⟨40, [(4, .int .i64 (k : Int)), (3, .rs 1 (ix Sd k 0 0) 0 (ix Sd k 0 0)), (1, .own 0 0 0 0)],
      [.blk 31 0 11 [[.int .i64 p.f.x, .int .i64 p.f.y, .int .i64 p.f.w, .int .i64 p.f.h, .sl (p.f.v.map enB), .sl (p.s.map enBm), .int .i64 p.cx, .int .i64 p.cy, .int .i64 p.fr, .int .i64 p.ct, .int .i64 p.re]], .blk 33 (ix Sd k 0 0) 3 ((allN p (ix Sd k 0 0)).map enC)]⟩)
    (fun k => Kc - k) 0 (Nat.zero_le _) ?_ ?_
  · rw [← i0]
    simp only [go_sem, reduceAdd, reduceSub, reduceMul, reduceEqDiff, reduceLeDiff, Nat.reduceBEq, reduceLT, reduceIte, reduceCtorEq, Int.reduceToNat, fits, fitT, fitOs, fitO, V.under, unders, rowsUnder]
    repeat' first | rfl | exact rowsUnder_lit _ (lit_enC _) | (simp only [V.under, unders, rowsUnder, Nat.reduceLT]; done) | apply And.intro
  · intro k hkk
    have hk1 : IntKind.i64.wrap ((k : Int) + 1) = ((k + 1 : Nat) : Int) := by rw [w64] <;> omega
    by_cases hkl : (k : Int) < p.ct
    · repeat' first
      | refine ev_seq (fun K hK => ?_)
      | ((first | refine evr tt_ok false ?_ | refine ev_skip ?_ | refine ev_ret ?_ | refine ev_exit ?_ | refine evc (fun X Y hX hY => ?_)); simp only [go_sem, reduceAdd, reduceSub, reduceMul, reduceEqDiff, reduceLeDiff, Nat.reduceBEq, reduceLT, reduceIte, reduceCtorEq, Int.reduceToNat, hkl, w2]; try (first | (refine ⟨fun h => hX ?_, fun h => hY ?_⟩; clear hX hY) | (refine hX ?_; clear hX hY) | (refine hY ?_; clear hX hY)))
      | refine ev_block ?_
      | (apply hK; clear hK)
      | apply_assumption -exfalso -symm only [*]
      | (refine And.intro ?_ ?_; first | omega | assumption | (unfold maxLen; omega) | (simp only [decide_eq_true_eq, decide_eq_false_iff_not, Int.not_lt, Int.not_le] at h; omega))
      refine ev_loop (fun r : Nat => r ≤ Sd)
        (fun r => ⟨40, [(5, .int .i64 ((r : Int) - p.re)), (4, .int .i64 (k : Int)), (3, .rs 1 (ix Sd k r 0) 0 (ix Sd k r 0)), (1, .own 0 0 0 0)],
          [.blk 31 0 11 [[.int .i64 p.f.x, .int .i64 p.f.y, .int .i64 p.f.w, .int .i64 p.f.h, .sl (p.f.v.map enB), .sl (p.s.map enBm), .int .i64 p.cx, .int .i64 p.cy, .int .i64 p.fr, .int .i64 p.ct, .int .i64 p.re]], .blk 33 (ix Sd k r 0) 3 ((allN p (ix Sd k r 0)).map enC)]⟩)
        (fun r => Sd - r) 0 (Nat.zero_le _) ?_ ?_
      · simp only [go_sem, reduceAdd, reduceSub, reduceMul, reduceEqDiff, reduceLeDiff, Nat.reduceBEq, reduceLT, reduceIte, reduceCtorEq, Int.reduceToNat, fits, fitT, fitOs, fitO, V.under, unders, rowsUnder]
        repeat' first | rfl | exact rowsUnder_lit _ (lit_enC _) | (simp only [V.under, unders, rowsUnder, Nat.reduceLT]; done) | apply And.intro
      · intro r hrr
        have hr1 : IntKind.i64.wrap ((r : Int) - p.re + 1) = ((r + 1 : Nat) : Int) - p.re := by rw [w64] <;> omega
        by_cases hrl : (r : Int) - p.re ≤ p.re
        · repeat' first
          | refine ev_seq (fun K hK => ?_)
          | ((first | refine evr tt_ok false ?_ | refine ev_skip ?_ | refine ev_ret ?_ | refine ev_exit ?_ | refine evc (fun X Y hX hY => ?_)); simp only [go_sem, reduceAdd, reduceSub, reduceMul, reduceEqDiff, reduceLeDiff, Nat.reduceBEq, reduceLT, reduceIte, reduceCtorEq, Int.reduceToNat, hrl, w2]; try (first | (refine ⟨fun h => hX ?_, fun h => hY ?_⟩; clear hX hY) | (refine hX ?_; clear hX hY) | (refine hY ?_; clear hX hY)))
          | refine ev_block ?_
          | (apply hK; clear hK)
          | apply_assumption -exfalso -symm only [*]
          | (refine And.intro ?_ ?_; first | omega | assumption | (unfold maxLen; omega) | (simp only [decide_eq_true_eq, decide_eq_false_iff_not, Int.not_lt, Int.not_le] at h; omega))
          refine ev_loop (fun c : Nat => c ≤ Sd)
            (fun c => ⟨40, [(6, .int .i64 ((c : Int) - p.re)), (5, .int .i64 ((r : Int) - p.re)), (4, .int .i64 (k : Int)), (3, .rs 1 (ix Sd k r c) 0 (ix Sd k r c)), (1, .own 0 0 0 0)],
              [.blk 31 0 11 [[.int .i64 p.f.x, .int .i64 p.f.y, .int .i64 p.f.w, .int .i64 p.f.h, .sl (p.f.v.map enB), .sl (p.s.map enBm), .int .i64 p.cx, .int .i64 p.cy, .int .i64 p.fr, .int .i64 p.ct, .int .i64 p.re]], .blk 33 (ix Sd k r c) 3 ((allN p (ix Sd k r c)).map enC)]⟩)
            (fun c => Sd - c) 0 (Nat.zero_le _) ?_ ?_
          · simp only [go_sem, reduceAdd, reduceSub, reduceMul, reduceEqDiff, reduceLeDiff, Nat.reduceBEq, reduceLT, reduceIte, reduceCtorEq, Int.reduceToNat, fits, fitT, fitOs, fitO, V.under, unders, rowsUnder]
            repeat' first | rfl | exact rowsUnder_lit _ (lit_enC _) | (simp only [V.under, unders, rowsUnder, Nat.reduceLT]; done) | apply And.intro
          · intro c hcc
            have hc1 : IntKind.i64.wrap ((c : Int) - p.re + 1) = ((c + 1 : Nat) : Int) - p.re := by rw [w64] <;> omega
            by_cases hcl : (c : Int) - p.re ≤ p.re
            · have hst := hstep (k := k) (r := r) (c := c) (by omega) (by omega)
              have hll := hlen (ix Sd k r c)
              have hb := hlt' (k := k) (r := r) (c := c) (by omega) (by omega) (by omega)
              have hix : ix Sd k r (c + 1) = ix Sd k r c + 1 := rfl
              generalize ix Sd k r c = n at *
              have hq : 1 ≤ maxLen ∧ n + 1 ≤ maxLen ∧ (n + 1) * 24 ≤ 140737488355328 := by
                have : maxLen = 9223372036854775807 := rfl
                omega
              repeat' first
                | refine ev_seq (fun K hK => ?_)
                | ((first | refine evr tt_ok false ?_ | refine ev_skip ?_ | refine ev_ret ?_ | refine ev_exit ?_ | refine evc (fun X Y hX hY => ?_)); simp only [go_sem, reduceAdd, reduceSub, reduceMul, reduceEqDiff, reduceLeDiff, Nat.reduceBEq, reduceLT, reduceIte, reduceCtorEq, Int.reduceToNat, hcl, hc1, hll, List.length_map, Int.toNat_natCast, Nat.zero_add, Nat.le_refl]; try (first | (refine ⟨fun h => hX ?_, fun h => hY ?_⟩; clear hX hY) | (refine hX ?_; clear hX hY) | (refine hY ?_; clear hX hY)))
                | refine ev_block ?_
                | (apply hK; clear hK)
                | apply_assumption -exfalso -symm only [*]
                | (refine And.intro ?_ ?_; first | omega | assumption | (unfold maxLen; omega) | (simp only [decide_eq_true_eq, decide_eq_false_iff_not, Int.not_lt, Int.not_le] at h; omega))
              refine ⟨c + 1, by omega, ?_, by omega⟩
              rw [hix]
              repeat' first | rfl | exact rowsUnder_lit _ (lit_enC _) | exact hst | (rw [hst]; rfl) | (simp only [V.under, unders, rowsUnder, Nat.reduceLT]; done) | apply And.intro
            · obtain rfl : c = Sd := by omega
              have he := hc' k r
              rw [he]
              repeat' first
                | refine ev_seq (fun K hK => ?_)
                | ((first | refine evr tt_ok false ?_ | refine ev_skip ?_ | refine ev_ret ?_ | refine ev_exit ?_ | refine evc (fun X Y hX hY => ?_)); simp only [go_sem, reduceAdd, reduceSub, reduceMul, reduceEqDiff, reduceLeDiff, Nat.reduceBEq, reduceLT, reduceIte, reduceCtorEq, Int.reduceToNat, hcl, hr1]; try (first | (refine ⟨fun h => hX ?_, fun h => hY ?_⟩; clear hX hY) | (refine hX ?_; clear hX hY) | (refine hY ?_; clear hX hY)))
                | refine ev_block ?_
                | (apply hK; clear hK)
                | apply_assumption -exfalso -symm only [*]
                | (refine And.intro ?_ ?_; first | omega | assumption | (unfold maxLen; omega) | (simp only [decide_eq_true_eq, decide_eq_false_iff_not, Int.not_lt, Int.not_le] at h; omega))
              refine ⟨r + 1, by omega, ?_, by omega⟩
              repeat' first | rfl | exact rowsUnder_lit _ (lit_enC _) | (simp only [V.under, unders, rowsUnder, Nat.reduceLT]; done) | apply And.intro
        · obtain rfl : r = Sd := by omega
          have he := hr' k
          rw [he]
          repeat' first
            | refine ev_seq (fun K hK => ?_)
            | ((first | refine evr tt_ok false ?_ | refine ev_skip ?_ | refine ev_ret ?_ | refine ev_exit ?_ | refine evc (fun X Y hX hY => ?_)); simp only [go_sem, reduceAdd, reduceSub, reduceMul, reduceEqDiff, reduceLeDiff, Nat.reduceBEq, reduceLT, reduceIte, reduceCtorEq, Int.reduceToNat, hrl, hk1]; try (first | (refine ⟨fun h => hX ?_, fun h => hY ?_⟩; clear hX hY) | (refine hX ?_; clear hX hY) | (refine hY ?_; clear hX hY)))
            | refine ev_block ?_
            | (apply hK; clear hK)
            | apply_assumption -exfalso -symm only [*]
            | (refine And.intro ?_ ?_; first | omega | assumption | (unfold maxLen; omega) | (simp only [decide_eq_true_eq, decide_eq_false_iff_not, Int.not_lt, Int.not_le] at h; omega))
          refine ⟨k + 1, by omega, ?_, by omega⟩
          repeat' first | rfl | exact rowsUnder_lit _ (lit_enC _) | (simp only [V.under, unders, rowsUnder, Nat.reduceLT]; done) | apply And.intro
    · obtain rfl : k = Kc := by omega
      rw [ha']
      have hll := hlen (Sd * (Sd * k))
      have htk : List.take (Sd * (Sd * k)) ((allN p (Sd * (Sd * k))).map enC) = (allN p (Sd * (Sd * k))).map enC := List.take_of_length_le (by simp [hll])
      repeat' first
        | refine ev_seq (fun K hK => ?_)
        | ((first | refine evr tt_ok false ?_ | refine ev_skip ?_ | refine ev_ret ?_ | refine ev_exit ?_ | refine evc (fun X Y hX hY => ?_)); simp only [go_sem, reduceAdd, reduceSub, reduceMul, reduceEqDiff, reduceLeDiff, Nat.reduceBEq, reduceLT, reduceIte, reduceCtorEq, Int.reduceToNat, hkl, hll, List.length_map, vrows_lit _ (lit_enC (allN p (Sd * (Sd * k)))), Nat.le_refl, Nat.sub_zero, htk]; try (first | (refine ⟨fun h => hX ?_, fun h => hY ?_⟩; clear hX hY) | (refine hX ?_; clear hX hY) | (refine hY ?_; clear hX hY)))
        | refine ev_block ?_
        | (apply hK; clear hK)
        | apply_assumption -exfalso -symm only [*]
        | (refine And.intro ?_ ?_; first | omega | assumption | (unfold maxLen; omega) | (simp only [decide_eq_true_eq, decide_eq_false_iff_not, Int.not_lt, Int.not_le] at h; omega))
      all_goals rfl
end Go.Proofs.Ytokhaefcnbiadaa
