import Derived.Test.YtokhaefcnbiadaaK17
import Derived.Test.YtokhaefcnbiadaaME
set_option linter.all false
namespace Go.Proofs.Ytokhaefcnbiadaa
open Nat (reduceAdd reduceSub reduceMul reduceEqDiff reduceLeDiff reduceLT)
open Go Go.K
set_option maxRecDepth 20000
set_option maxHeartbeats 8000000
/-! ### PoseOf -/
structure PoR where
  (x y h e : Int)
def encPo (r : PoR) : V := .tup [.agg [.int .i64 r.x, .int .i64 r.y, .int .i64 r.h], .int .i64 r.e]
def poseM (p : Prob) (c : Cnd) : PoR := if p.ok then (if inW p c then ⟨p.cx + 64 * c.x, p.cy + 64 * c.y, (p.fr + c.k) % 256, 0⟩ else ⟨0, 0, 0, 2⟩) else ⟨0, 0, 0, 1⟩
structure PosW (p : Prob) (c : Cnd) : Prop where
  w1 : IntKind.i64.wrap (64 * c.x) = 64 * c.x
  w2 : IntKind.i64.wrap (64 * c.y) = 64 * c.y
  w3 : IntKind.i64.wrap (p.cx + 64 * c.x) = p.cx + 64 * c.x
  w4 : IntKind.i64.wrap (p.cy + 64 * c.y) = p.cy + 64 * c.y
  w5 : IntKind.i64.wrap (p.fr + c.k) = p.fr + c.k
  w6 : (p.fr + c.k).tmod 256 = (p.fr + c.k) % 256
  w7 : 0 ≤ p.fr + c.k ∧ p.fr + c.k ≤ 1000
theorem posW {p : Prob} {c : Cnd} (h : p.ok) (hc : inW p c) : PosW p c := by
  obtain ⟨h1, h2, h3, h4, h5, h6, h7⟩ := id h
  obtain ⟨a1, a2, a3, a4, a5⟩ := h3
  simp only at a1 a2 a3 a4
  unfold inW at hc
  exact ⟨w64 (by omega) (by omega), w64 (by omega) (by omega), w64 (by omega) (by omega), w64 (by omega) (by omega), w64 (by omega) (by omega), Int.tmod_eq_emod_of_nonneg (by omega), by omega⟩
theorem mpose_pure (p : Prob) (hl : (p.s.length : Int) < 4611686018427387904) (c : Cnd) : Pure Try.prog 20 [.agg (encP p), .agg (enC c)] (encPo (poseM p c)) := by
  have v := mvalid_pure p hl
  unfold poseM
  by_cases h : p.ok
  · rw [decide_eq_true h] at v
    rw [if_pos h]
    have vi := min_pure p c h
    by_cases hc : inW p c
    · rw [decide_eq_true hc] at vi
      rw [if_pos hc]
      obtain ⟨w1, w2, w3, w4, w5, w6, w7⟩ := posW h hc
      have vm := mmark_pure p c.k w7
      simp only [encP, enC, encPo] at *
      (refine pure_of_ev tt_ok Try.func20 rfl (by decide +kernel) (Nat.le_of_ble_eq_true rfl) ?_; simp only [Try.f20])
      repeat' first
        | refine ev_seq (fun K hK => ?_)
        | ((first | refine evrd (id := 5) hmix tt_ok false [([], true), ([], true), ([], true), ([], true), ([], true), ([], true), ([], true), ([], true), ([], true), ([], true), ([], true), ([], true), ([], true), ([], true), ([], false), ([], false), ([], false), ([0, 1, 2, 3, 4, 5, 6, 7, 8, 9, 10, 11, 12, 13], false), ([], false), ([], false), ([], false)] (by decide +kernel) ?_ | refine evr tt_ok false ?_ | refine ev_skip ?_ | refine ev_ret ?_ | refine ev_exit ?_ | refine evc (fun X Y hX hY => ?_)); simp only [go_sem, reduceAdd, reduceSub, reduceMul, reduceEqDiff, reduceLeDiff, Nat.reduceBEq, reduceLT, reduceIte, reduceCtorEq, Int.reduceToNat, w1, w2, w3, w4, w5, w6]; try (first | (refine ⟨fun h => hX ?_, fun h => hY ?_⟩; clear hX hY) | (refine hX ?_; clear hX hY) | (refine hY ?_; clear hX hY)))
        | refine ev_block ?_
        | (apply hK; clear hK)
        | apply_assumption -exfalso -symm only [*]
        | (refine And.intro ?_ ?_; first | omega | assumption | (unfold maxLen; omega) | (simp only [decide_eq_true_eq, decide_eq_false_iff_not, Int.not_lt, Int.not_le] at h; omega))
        | ((first | apply callP | apply callPG | apply callP0); (case' hv => (simp only [go_sem, reduceAdd, reduceSub, reduceMul, reduceEqDiff, reduceLeDiff, Nat.reduceBEq, reduceLT, reduceIte, reduceCtorEq, Int.reduceToNat, w1, w2, w3, w4, w5, w6]; try exact rfl)); (case' hp => (first | refine' v | (refine' (fun hg => ?_); refine' v) | refine' vi | (refine' (fun hg => ?_); refine' vi) | refine' vm | (refine' (fun hg => ?_); refine' vm))); (case' h => ((first | refine evOps_fin ?_ | refine And.intro ?_ (evD_fin ?_) | refine evD_fin ?_) <;> simp only [go_sem, reduceAdd, reduceSub, reduceMul, reduceEqDiff, reduceLeDiff, Nat.reduceBEq, reduceLT, reduceIte, reduceCtorEq, Int.reduceToNat, w1, w2, w3, w4, w5, w6])))
        | (refine callX ?_; (first | refine evOps_fin ?_ | refine And.intro ?_ (evD_fin ?_) | refine evD_fin ?_) <;> simp only [go_sem, reduceAdd, reduceSub, reduceMul, reduceEqDiff, reduceLeDiff, Nat.reduceBEq, reduceLT, reduceIte, reduceCtorEq, Int.reduceToNat, w1, w2, w3, w4, w5, w6])
    · rw [decide_eq_false hc] at vi
      rw [if_neg hc]
      simp only [encP, enC, encPo] at *
      (refine pure_of_ev tt_ok Try.func20 rfl (by decide +kernel) (Nat.le_of_ble_eq_true rfl) ?_; simp only [Try.f20])
      repeat' first
        | refine ev_seq (fun K hK => ?_)
        | ((first | refine evrd (id := 5) hmix tt_ok false [([], true), ([], true), ([], true), ([], true), ([], true), ([], true), ([], true), ([], true), ([], true), ([], true), ([], true), ([], true), ([], true), ([], true), ([], false), ([], false), ([], false), ([0, 1, 2, 3, 4, 5, 6, 7, 8, 9, 10, 11, 12, 13], false), ([], false), ([], false), ([], false)] (by decide +kernel) ?_ | refine evr tt_ok false ?_ | refine ev_skip ?_ | refine ev_ret ?_ | refine ev_exit ?_ | refine evc (fun X Y hX hY => ?_)); simp only [go_sem, reduceAdd, reduceSub, reduceMul, reduceEqDiff, reduceLeDiff, Nat.reduceBEq, reduceLT, reduceIte, reduceCtorEq, Int.reduceToNat]; try (first | (refine ⟨fun h => hX ?_, fun h => hY ?_⟩; clear hX hY) | (refine hX ?_; clear hX hY) | (refine hY ?_; clear hX hY)))
        | refine ev_block ?_
        | (apply hK; clear hK)
        | apply_assumption -exfalso -symm only [*]
        | (refine And.intro ?_ ?_; first | omega | assumption | (unfold maxLen; omega) | (simp only [decide_eq_true_eq, decide_eq_false_iff_not, Int.not_lt, Int.not_le] at h; omega))
        | ((first | apply callP | apply callPG | apply callP0); (case' hv => (simp only [go_sem, reduceAdd, reduceSub, reduceMul, reduceEqDiff, reduceLeDiff, Nat.reduceBEq, reduceLT, reduceIte, reduceCtorEq, Int.reduceToNat]; try exact rfl)); (case' hp => (first | refine' v | (refine' (fun hg => ?_); refine' v) | refine' vi | (refine' (fun hg => ?_); refine' vi))); (case' h => ((first | refine evOps_fin ?_ | refine And.intro ?_ (evD_fin ?_) | refine evD_fin ?_) <;> simp only [go_sem, reduceAdd, reduceSub, reduceMul, reduceEqDiff, reduceLeDiff, Nat.reduceBEq, reduceLT, reduceIte, reduceCtorEq, Int.reduceToNat])))
        | (refine callX ?_; (first | refine evOps_fin ?_ | refine And.intro ?_ (evD_fin ?_) | refine evD_fin ?_) <;> simp only [go_sem, reduceAdd, reduceSub, reduceMul, reduceEqDiff, reduceLeDiff, Nat.reduceBEq, reduceLT, reduceIte, reduceCtorEq, Int.reduceToNat])
  · rw [decide_eq_false h] at v
    rw [if_neg h]
    simp only [encP, enC, encPo] at *
    (refine pure_of_ev tt_ok Try.func20 rfl (by decide +kernel) (Nat.le_of_ble_eq_true rfl) ?_; simp only [Try.f20])
    repeat' first
      | refine ev_seq (fun K hK => ?_)
      | ((first | refine evrd (id := 5) hmix tt_ok false [([], true), ([], true), ([], true), ([], true), ([], true), ([], true), ([], true), ([], true), ([], true), ([], true), ([], true), ([], true), ([], true), ([], true), ([], false), ([], false), ([], false), ([0, 1, 2, 3, 4, 5, 6, 7, 8, 9, 10, 11, 12, 13], false), ([], false), ([], false), ([], false)] (by decide +kernel) ?_ | refine evr tt_ok false ?_ | refine ev_skip ?_ | refine ev_ret ?_ | refine ev_exit ?_ | refine evc (fun X Y hX hY => ?_)); simp only [go_sem, reduceAdd, reduceSub, reduceMul, reduceEqDiff, reduceLeDiff, Nat.reduceBEq, reduceLT, reduceIte, reduceCtorEq, Int.reduceToNat]; try (first | (refine ⟨fun h => hX ?_, fun h => hY ?_⟩; clear hX hY) | (refine hX ?_; clear hX hY) | (refine hY ?_; clear hX hY)))
      | refine ev_block ?_
      | (apply hK; clear hK)
      | apply_assumption -exfalso -symm only [*]
      | (refine And.intro ?_ ?_; first | omega | assumption | (unfold maxLen; omega) | (simp only [decide_eq_true_eq, decide_eq_false_iff_not, Int.not_lt, Int.not_le] at h; omega))
      | ((first | apply callP | apply callPG | apply callP0); (case' hv => (simp only [go_sem, reduceAdd, reduceSub, reduceMul, reduceEqDiff, reduceLeDiff, Nat.reduceBEq, reduceLT, reduceIte, reduceCtorEq, Int.reduceToNat]; try exact rfl)); (case' hp => (first | refine' v | (refine' (fun hg => ?_); refine' v))); (case' h => ((first | refine evOps_fin ?_ | refine And.intro ?_ (evD_fin ?_) | refine evD_fin ?_) <;> simp only [go_sem, reduceAdd, reduceSub, reduceMul, reduceEqDiff, reduceLeDiff, Nat.reduceBEq, reduceLT, reduceIte, reduceCtorEq, Int.reduceToNat])))
      | (refine callX ?_; (first | refine evOps_fin ?_ | refine And.intro ?_ (evD_fin ?_) | refine evD_fin ?_) <;> simp only [go_sem, reduceAdd, reduceSub, reduceMul, reduceEqDiff, reduceLeDiff, Nat.reduceBEq, reduceLT, reduceIte, reduceCtorEq, Int.reduceToNat])
/-! ### Ends -/
structure EnR where
  l : List Cel
  e : Int
def encEn (r : EnR) : V := .tup [.sl (r.l.map enCl), .int .i64 r.e]
def endsR (p : Prob) (k : Int) : EnR := if p.ok then (if 0 ≤ k ∧ k < p.ct then ⟨endsM p k, 0⟩ else ⟨[], 2⟩) else ⟨[], 1⟩
theorem Ends_pure (p : Prob) (hl : (p.s.length : Int) < 4611686018427387904) (k : Int) : Pure Try.prog 38 [.agg (encP p), .int .i64 k] (encEn (endsR p k)) := by
  have v := mvalid_pure p hl
  unfold endsR
  by_cases h : p.ok
  · rw [decide_eq_true h] at v
    rw [if_pos h]
    obtain ⟨a1, a2, a3, a4, a5⟩ := h.2.2.1
    simp only at a1 a2 a3 a4
    have w1 : IntKind.i64.wrap (p.ct - 1) = p.ct - 1 := w64 (by omega) (by omega)
    have vi := mwithin_pure k 0 (p.ct - 1)
    by_cases hk : 0 ≤ k ∧ k < p.ct
    · have e : (decide (0 ≤ k) && decide (k ≤ p.ct - 1)) = true := by simp only [Bool.and_eq_true, decide_eq_true_eq]; omega
      rw [e] at vi
      rw [if_pos hk]
      have me := mends_pure p h k hk
      simp only [encP, encEn] at *
      (refine pure_of_ev tt_ok Try.func38 rfl (by decide +kernel) (Nat.le_of_ble_eq_true rfl) ?_; simp only [Try.f38])
      repeat' first
        | refine ev_seq (fun K hK => ?_)
        | ((first | refine evr tt_ok false ?_ | refine ev_skip ?_ | refine ev_ret ?_ | refine ev_exit ?_ | refine evc (fun X Y hX hY => ?_)); simp only [go_sem, reduceAdd, reduceSub, reduceMul, reduceEqDiff, reduceLeDiff, Nat.reduceBEq, reduceLT, reduceIte, reduceCtorEq, Int.reduceToNat, w1]; try (first | (refine ⟨fun h => hX ?_, fun h => hY ?_⟩; clear hX hY) | (refine hX ?_; clear hX hY) | (refine hY ?_; clear hX hY)))
        | refine ev_block ?_
        | (apply hK; clear hK)
        | apply_assumption -exfalso -symm only [*]
        | (refine And.intro ?_ ?_; first | omega | assumption | (unfold maxLen; omega) | (simp only [decide_eq_true_eq, decide_eq_false_iff_not, Int.not_lt, Int.not_le] at h; omega))
        | ((first | apply callP | apply callPG | apply callP0); (case' hv => (simp only [go_sem, reduceAdd, reduceSub, reduceMul, reduceEqDiff, reduceLeDiff, Nat.reduceBEq, reduceLT, reduceIte, reduceCtorEq, Int.reduceToNat, w1]; try exact rfl)); (case' hp => (first | refine' v | (refine' (fun hg => ?_); refine' v) | refine' vi | (refine' (fun hg => ?_); refine' vi) | refine' me | (refine' (fun hg => ?_); refine' me))); (case' h => ((first | refine evOps_fin ?_ | refine And.intro ?_ (evD_fin ?_) | refine evD_fin ?_) <;> simp only [go_sem, reduceAdd, reduceSub, reduceMul, reduceEqDiff, reduceLeDiff, Nat.reduceBEq, reduceLT, reduceIte, reduceCtorEq, Int.reduceToNat, w1])))
        | (refine callX ?_; (first | refine evOps_fin ?_ | refine And.intro ?_ (evD_fin ?_) | refine evD_fin ?_) <;> simp only [go_sem, reduceAdd, reduceSub, reduceMul, reduceEqDiff, reduceLeDiff, Nat.reduceBEq, reduceLT, reduceIte, reduceCtorEq, Int.reduceToNat, w1])
    · have e : (decide (0 ≤ k) && decide (k ≤ p.ct - 1)) = false := by rw [Bool.eq_false_iff]; simp only [ne_eq, Bool.and_eq_true, decide_eq_true_eq]; omega
      rw [e] at vi
      rw [if_neg hk]
      simp only [encP, encEn, List.map_nil] at *
      refine Pure.weak (r := .tup [.emp, .int .i64 2]) ?_ (fun E v hv => tup_fst hv fun u hu => emp_sl hu)
      (refine pure_of_ev tt_ok Try.func38 rfl (by decide +kernel) (Nat.le_of_ble_eq_true rfl) ?_; simp only [Try.f38])
      repeat' first
        | refine ev_seq (fun K hK => ?_)
        | ((first | refine evr tt_ok false ?_ | refine ev_skip ?_ | refine ev_ret ?_ | refine ev_exit ?_ | refine evc (fun X Y hX hY => ?_)); simp only [go_sem, reduceAdd, reduceSub, reduceMul, reduceEqDiff, reduceLeDiff, Nat.reduceBEq, reduceLT, reduceIte, reduceCtorEq, Int.reduceToNat, w1]; try (first | (refine ⟨fun h => hX ?_, fun h => hY ?_⟩; clear hX hY) | (refine hX ?_; clear hX hY) | (refine hY ?_; clear hX hY)))
        | refine ev_block ?_
        | (apply hK; clear hK)
        | apply_assumption -exfalso -symm only [*]
        | (refine And.intro ?_ ?_; first | omega | assumption | (unfold maxLen; omega) | (simp only [decide_eq_true_eq, decide_eq_false_iff_not, Int.not_lt, Int.not_le] at h; omega))
        | ((first | apply callP | apply callPG | apply callP0); (case' hv => (simp only [go_sem, reduceAdd, reduceSub, reduceMul, reduceEqDiff, reduceLeDiff, Nat.reduceBEq, reduceLT, reduceIte, reduceCtorEq, Int.reduceToNat, w1]; try exact rfl)); (case' hp => (first | refine' v | (refine' (fun hg => ?_); refine' v) | refine' vi | (refine' (fun hg => ?_); refine' vi))); (case' h => ((first | refine evOps_fin ?_ | refine And.intro ?_ (evD_fin ?_) | refine evD_fin ?_) <;> simp only [go_sem, reduceAdd, reduceSub, reduceMul, reduceEqDiff, reduceLeDiff, Nat.reduceBEq, reduceLT, reduceIte, reduceCtorEq, Int.reduceToNat, w1])))
        | (refine callX ?_; (first | refine evOps_fin ?_ | refine And.intro ?_ (evD_fin ?_) | refine evD_fin ?_) <;> simp only [go_sem, reduceAdd, reduceSub, reduceMul, reduceEqDiff, reduceLeDiff, Nat.reduceBEq, reduceLT, reduceIte, reduceCtorEq, Int.reduceToNat, w1])
      all_goals rfl
  · rw [decide_eq_false h] at v
    rw [if_neg h]
    simp only [encP, encEn, List.map_nil] at *
    refine Pure.weak (r := .tup [.emp, .int .i64 1]) ?_ (fun E v hv => tup_fst hv fun u hu => emp_sl hu)
    (refine pure_of_ev tt_ok Try.func38 rfl (by decide +kernel) (Nat.le_of_ble_eq_true rfl) ?_; simp only [Try.f38])
    repeat' first
      | refine ev_seq (fun K hK => ?_)
      | ((first | refine evr tt_ok false ?_ | refine ev_skip ?_ | refine ev_ret ?_ | refine ev_exit ?_ | refine evc (fun X Y hX hY => ?_)); simp only [go_sem, reduceAdd, reduceSub, reduceMul, reduceEqDiff, reduceLeDiff, Nat.reduceBEq, reduceLT, reduceIte, reduceCtorEq, Int.reduceToNat]; try (first | (refine ⟨fun h => hX ?_, fun h => hY ?_⟩; clear hX hY) | (refine hX ?_; clear hX hY) | (refine hY ?_; clear hX hY)))
      | refine ev_block ?_
      | (apply hK; clear hK)
      | apply_assumption -exfalso -symm only [*]
      | (refine And.intro ?_ ?_; first | omega | assumption | (unfold maxLen; omega) | (simp only [decide_eq_true_eq, decide_eq_false_iff_not, Int.not_lt, Int.not_le] at h; omega))
      | ((first | apply callP | apply callPG | apply callP0); (case' hv => (simp only [go_sem, reduceAdd, reduceSub, reduceMul, reduceEqDiff, reduceLeDiff, Nat.reduceBEq, reduceLT, reduceIte, reduceCtorEq, Int.reduceToNat]; try exact rfl)); (case' hp => (first | refine' v | (refine' (fun hg => ?_); refine' v))); (case' h => ((first | refine evOps_fin ?_ | refine And.intro ?_ (evD_fin ?_) | refine evD_fin ?_) <;> simp only [go_sem, reduceAdd, reduceSub, reduceMul, reduceEqDiff, reduceLeDiff, Nat.reduceBEq, reduceLT, reduceIte, reduceCtorEq, Int.reduceToNat])))
      | (refine callX ?_; (first | refine evOps_fin ?_ | refine And.intro ?_ (evD_fin ?_) | refine evD_fin ?_) <;> simp only [go_sem, reduceAdd, reduceSub, reduceMul, reduceEqDiff, reduceLeDiff, Nat.reduceBEq, reduceLT, reduceIte, reduceCtorEq, Int.reduceToNat])
    all_goals rfl
/-! ### Bound -/
structure NuR where
  (n e : Int)
def encNu (r : NuR) : V := .tup [.int .i64 r.n, .int .i64 r.e]
def blkOk (p : Prob) (b : Blc) : Prop := inW p ⟨b.k, b.y, b.x⟩ ∧ 0 ≤ b.l ∧ b.l ≤ 6
instance (p : Prob) (b : Blc) : Decidable (blkOk p b) := by unfold blkOk; infer_instance
def boundR (p : Prob) (b : Blc) : NuR := if p.ok then (if blkOk p b then ⟨boundM p b, 0⟩ else ⟨0, 2⟩) else ⟨0, 1⟩
theorem Bound_pure (p : Prob) (hb : bytesL p.f.v) (hl : (p.s.length : Int) < 4611686018427387904) (b : Blc) : Pure Try.prog 43 [.agg (encP p), .agg (enBl b)] (encNu (boundR p b)) := by
  have v := mvalid_pure p hl
  unfold boundR
  by_cases h : p.ok
  · rw [decide_eq_true h] at v
    rw [if_pos h]
    have vc := corner_pure b
    have vi := min_pure p ⟨b.k, b.y, b.x⟩ h
    have vl := mwithin_pure b.l 0 6
    obtain ⟨h1, h2, h3, h4, h5, h6, h7⟩ := id h
    obtain ⟨a1, a2, a3, a4, a5⟩ := h3
    simp only at a1 a2 a3 a4
    by_cases hc : inW p ⟨b.k, b.y, b.x⟩
    · rw [decide_eq_true hc] at vi
      by_cases hlv : 0 ≤ b.l ∧ b.l ≤ 6
      · have e : (decide (0 ≤ b.l) && decide (b.l ≤ 6)) = true := by simp only [Bool.and_eq_true, decide_eq_true_eq]; exact hlv
        rw [e] at vl
        rw [if_pos ⟨hc, hlv⟩]
        obtain ⟨c1, c2, c3, c4, c5, c6⟩ := hc
        simp only at c1 c2 c3 c4 c5 c6
        have nb := begin_pure p h hb [b.k.toNat] (fun j hj => by
          have : j = 0 := by simp at hj; omega
          subst this
          show ((b.k.toNat : Nat) : Int) < p.ct
          omega) (by simp)
        have hd : hasK [b.k.toNat] 1 b.k.toNat = true := by simp [hasK]
        have sb := sbound_pure p h hb (hasK [b.k.toNat] 1) b ⟨c1, c2⟩ hd (by omega) (by omega)
        have ek : ((b.k.toNat : Nat) : Int) = b.k := by omega
        simp only [List.map_cons, List.map_nil, enK, ek, List.length_cons, List.length_nil, Nat.zero_add] at nb
        generalize seaV p (hasK [b.k.toNat] 1) = C at *
        simp only [encP, enBl, enC, encNu] at *
        have nr : ∀ ow : List Own, ow[2]? = some (.blk 3 0 1 [[.int .i64 b.k]]) → Run Try.prog 64 [.agg [.int .i64 p.f.x, .int .i64 p.f.y, .int .i64 p.f.w, .int .i64 p.f.h, .sl (p.f.v.map enB), .sl (p.s.map enBm), .int .i64 p.cx, .int .i64 p.cy, .int .i64 p.fr, .int .i64 p.ct, .int .i64 p.re], .rs 2 0 0 1] [2, 2] ow (.pi C 0) [(2, .froz 3 0 1 [[.int .i64 b.k]])] := fun ow ho => by
          refine run_fz ho rfl ?_ nb
          simp only [go_sem, reduceAdd, reduceSub, reduceMul, reduceEqDiff, reduceLeDiff, Nat.reduceBEq, reduceLT, reduceIte, reduceCtorEq, Int.reduceToNat, List.getElem?_set_self (get_lt ho), Nat.sub_zero, Nat.le_refl]
        (refine pure_of_ev tt_ok Try.func43 rfl (by decide +kernel) (Nat.le_of_ble_eq_true rfl) ?_; simp only [Try.f43])
        repeat' first
          | refine ev_seq (fun K hK => ?_)
          | ((first | refine evrd (id := 3) hmix tt_ok false [([], true), ([], false), ([0], false), ([], false), ([], false), ([], false), ([], false), ([], false), ([], false), ([], false), ([], false), ([], false)] (by decide +kernel) ?_ | refine evrd (id := 5) hmix tt_ok false [([], true), ([], false), ([], false), ([0], true), ([], true), ([3, 4], false), ([], false), ([], false), ([], false)] (by decide +kernel) ?_ | refine evr tt_ok false ?_ | refine ev_skip ?_ | refine ev_ret ?_ | refine ev_exit ?_ | refine evc (fun X Y hX hY => ?_)); simp only [go_sem, reduceAdd, reduceSub, reduceMul, reduceEqDiff, reduceLeDiff, Nat.reduceBEq, reduceLT, reduceIte, reduceCtorEq, Int.reduceToNat]; try (first | (refine ⟨fun h => hX ?_, fun h => hY ?_⟩; clear hX hY) | (refine hX ?_; clear hX hY) | (refine hY ?_; clear hX hY)))
          | refine ev_block ?_
          | (apply hK; clear hK)
          | apply_assumption -exfalso -symm only [*]
          | (refine And.intro ?_ ?_; first | omega | assumption | (unfold maxLen; omega) | (simp only [decide_eq_true_eq, decide_eq_false_iff_not, Int.not_lt, Int.not_le] at h; omega))
          | ((first | apply callP | apply callPG | apply callP0); (case' hv => (simp only [go_sem, reduceAdd, reduceSub, reduceMul, reduceEqDiff, reduceLeDiff, Nat.reduceBEq, reduceLT, reduceIte, reduceCtorEq, Int.reduceToNat]; try exact rfl)); (case' hp => (first | refine' v | (refine' (fun hg => ?_); refine' v) | refine' vc | (refine' (fun hg => ?_); refine' vc) | refine' vi | (refine' (fun hg => ?_); refine' vi) | refine' vl | (refine' (fun hg => ?_); refine' vl) | refine' sb | (refine' (fun hg => ?_); refine' sb))); (case' h => ((first | refine evOps_fin ?_ | refine And.intro ?_ (evD_fin ?_) | refine evD_fin ?_) <;> simp only [go_sem, reduceAdd, reduceSub, reduceMul, reduceEqDiff, reduceLeDiff, Nat.reduceBEq, reduceLT, reduceIte, reduceCtorEq, Int.reduceToNat])))
          | ((first | apply callE | apply callEG | apply callE0); (case' hp => (first | refine' nr _ rfl | (refine' (fun hg => ?_); refine' nr _ rfl))); (case' h => ((first | refine evOps_fin ?_ | refine And.intro ?_ (evD_fin ?_) | refine evD_fin ?_) <;> simp only [go_sem, reduceAdd, reduceSub, reduceMul, reduceEqDiff, reduceLeDiff, Nat.reduceBEq, reduceLT, reduceIte, reduceCtorEq, Int.reduceToNat])))
          | (refine callX ?_; (first | refine evOps_fin ?_ | refine And.intro ?_ (evD_fin ?_) | refine evD_fin ?_) <;> simp only [go_sem, reduceAdd, reduceSub, reduceMul, reduceEqDiff, reduceLeDiff, Nat.reduceBEq, reduceLT, reduceIte, reduceCtorEq, Int.reduceToNat])
      · have e : (decide (0 ≤ b.l) && decide (b.l ≤ 6)) = false := by rw [Bool.eq_false_iff]; simp only [ne_eq, Bool.and_eq_true, decide_eq_true_eq]; exact hlv
        rw [e] at vl
        rw [if_neg (fun h => hlv h.2)]
        simp only [encP, enBl, enC, encNu] at *
        (refine pure_of_ev tt_ok Try.func43 rfl (by decide +kernel) (Nat.le_of_ble_eq_true rfl) ?_; simp only [Try.f43])
        repeat' first
          | refine ev_seq (fun K hK => ?_)
          | ((first | refine evrd (id := 3) hmix tt_ok false [([], true), ([], false), ([0], false), ([], false), ([], false), ([], false), ([], false), ([], false), ([], false), ([], false), ([], false), ([], false)] (by decide +kernel) ?_ | refine evrd (id := 5) hmix tt_ok false [([], true), ([], false), ([], false), ([0], true), ([], true), ([3, 4], false), ([], false), ([], false), ([], false)] (by decide +kernel) ?_ | refine evr tt_ok false ?_ | refine ev_skip ?_ | refine ev_ret ?_ | refine ev_exit ?_ | refine evc (fun X Y hX hY => ?_)); simp only [go_sem, reduceAdd, reduceSub, reduceMul, reduceEqDiff, reduceLeDiff, Nat.reduceBEq, reduceLT, reduceIte, reduceCtorEq, Int.reduceToNat]; try (first | (refine ⟨fun h => hX ?_, fun h => hY ?_⟩; clear hX hY) | (refine hX ?_; clear hX hY) | (refine hY ?_; clear hX hY)))
          | refine ev_block ?_
          | (apply hK; clear hK)
          | apply_assumption -exfalso -symm only [*]
          | (refine And.intro ?_ ?_; first | omega | assumption | (unfold maxLen; omega) | (simp only [decide_eq_true_eq, decide_eq_false_iff_not, Int.not_lt, Int.not_le] at h; omega))
          | ((first | apply callP | apply callPG | apply callP0); (case' hv => (simp only [go_sem, reduceAdd, reduceSub, reduceMul, reduceEqDiff, reduceLeDiff, Nat.reduceBEq, reduceLT, reduceIte, reduceCtorEq, Int.reduceToNat]; try exact rfl)); (case' hp => (first | refine' v | (refine' (fun hg => ?_); refine' v) | refine' vc | (refine' (fun hg => ?_); refine' vc) | refine' vi | (refine' (fun hg => ?_); refine' vi) | refine' vl | (refine' (fun hg => ?_); refine' vl))); (case' h => ((first | refine evOps_fin ?_ | refine And.intro ?_ (evD_fin ?_) | refine evD_fin ?_) <;> simp only [go_sem, reduceAdd, reduceSub, reduceMul, reduceEqDiff, reduceLeDiff, Nat.reduceBEq, reduceLT, reduceIte, reduceCtorEq, Int.reduceToNat])))
          | (refine callX ?_; (first | refine evOps_fin ?_ | refine And.intro ?_ (evD_fin ?_) | refine evD_fin ?_) <;> simp only [go_sem, reduceAdd, reduceSub, reduceMul, reduceEqDiff, reduceLeDiff, Nat.reduceBEq, reduceLT, reduceIte, reduceCtorEq, Int.reduceToNat])
    · rw [decide_eq_false hc] at vi
      rw [if_neg (fun h => hc h.1)]
      simp only [encP, enBl, enC, encNu] at *
      (refine pure_of_ev tt_ok Try.func43 rfl (by decide +kernel) (Nat.le_of_ble_eq_true rfl) ?_; simp only [Try.f43])
      repeat' first
        | refine ev_seq (fun K hK => ?_)
        | ((first | refine evrd (id := 3) hmix tt_ok false [([], true), ([], false), ([0], false), ([], false), ([], false), ([], false), ([], false), ([], false), ([], false), ([], false), ([], false), ([], false)] (by decide +kernel) ?_ | refine evrd (id := 5) hmix tt_ok false [([], true), ([], false), ([], false), ([0], true), ([], true), ([3, 4], false), ([], false), ([], false), ([], false)] (by decide +kernel) ?_ | refine evr tt_ok false ?_ | refine ev_skip ?_ | refine ev_ret ?_ | refine ev_exit ?_ | refine evc (fun X Y hX hY => ?_)); simp only [go_sem, reduceAdd, reduceSub, reduceMul, reduceEqDiff, reduceLeDiff, Nat.reduceBEq, reduceLT, reduceIte, reduceCtorEq, Int.reduceToNat]; try (first | (refine ⟨fun h => hX ?_, fun h => hY ?_⟩; clear hX hY) | (refine hX ?_; clear hX hY) | (refine hY ?_; clear hX hY)))
        | refine ev_block ?_
        | (apply hK; clear hK)
        | apply_assumption -exfalso -symm only [*]
        | (refine And.intro ?_ ?_; first | omega | assumption | (unfold maxLen; omega) | (simp only [decide_eq_true_eq, decide_eq_false_iff_not, Int.not_lt, Int.not_le] at h; omega))
        | ((first | apply callP | apply callPG | apply callP0); (case' hv => (simp only [go_sem, reduceAdd, reduceSub, reduceMul, reduceEqDiff, reduceLeDiff, Nat.reduceBEq, reduceLT, reduceIte, reduceCtorEq, Int.reduceToNat]; try exact rfl)); (case' hp => (first | refine' v | (refine' (fun hg => ?_); refine' v) | refine' vc | (refine' (fun hg => ?_); refine' vc) | refine' vi | (refine' (fun hg => ?_); refine' vi) | refine' vl | (refine' (fun hg => ?_); refine' vl))); (case' h => ((first | refine evOps_fin ?_ | refine And.intro ?_ (evD_fin ?_) | refine evD_fin ?_) <;> simp only [go_sem, reduceAdd, reduceSub, reduceMul, reduceEqDiff, reduceLeDiff, Nat.reduceBEq, reduceLT, reduceIte, reduceCtorEq, Int.reduceToNat])))
        | (refine callX ?_; (first | refine evOps_fin ?_ | refine And.intro ?_ (evD_fin ?_) | refine evD_fin ?_) <;> simp only [go_sem, reduceAdd, reduceSub, reduceMul, reduceEqDiff, reduceLeDiff, Nat.reduceBEq, reduceLT, reduceIte, reduceCtorEq, Int.reduceToNat])
  · rw [decide_eq_false h] at v
    rw [if_neg h]
    simp only [encP, enBl, encNu] at *
    (refine pure_of_ev tt_ok Try.func43 rfl (by decide +kernel) (Nat.le_of_ble_eq_true rfl) ?_; simp only [Try.f43])
    repeat' first
      | refine ev_seq (fun K hK => ?_)
      | ((first | refine evrd (id := 3) hmix tt_ok false [([], true), ([], false), ([0], false), ([], false), ([], false), ([], false), ([], false), ([], false), ([], false), ([], false), ([], false), ([], false)] (by decide +kernel) ?_ | refine evrd (id := 5) hmix tt_ok false [([], true), ([], false), ([], false), ([0], true), ([], true), ([3, 4], false), ([], false), ([], false), ([], false)] (by decide +kernel) ?_ | refine evr tt_ok false ?_ | refine ev_skip ?_ | refine ev_ret ?_ | refine ev_exit ?_ | refine evc (fun X Y hX hY => ?_)); simp only [go_sem, reduceAdd, reduceSub, reduceMul, reduceEqDiff, reduceLeDiff, Nat.reduceBEq, reduceLT, reduceIte, reduceCtorEq, Int.reduceToNat]; try (first | (refine ⟨fun h => hX ?_, fun h => hY ?_⟩; clear hX hY) | (refine hX ?_; clear hX hY) | (refine hY ?_; clear hX hY)))
      | refine ev_block ?_
      | (apply hK; clear hK)
      | apply_assumption -exfalso -symm only [*]
      | (refine And.intro ?_ ?_; first | omega | assumption | (unfold maxLen; omega) | (simp only [decide_eq_true_eq, decide_eq_false_iff_not, Int.not_lt, Int.not_le] at h; omega))
      | ((first | apply callP | apply callPG | apply callP0); (case' hv => (simp only [go_sem, reduceAdd, reduceSub, reduceMul, reduceEqDiff, reduceLeDiff, Nat.reduceBEq, reduceLT, reduceIte, reduceCtorEq, Int.reduceToNat]; try exact rfl)); (case' hp => (first | refine' v | (refine' (fun hg => ?_); refine' v))); (case' h => ((first | refine evOps_fin ?_ | refine And.intro ?_ (evD_fin ?_) | refine evD_fin ?_) <;> simp only [go_sem, reduceAdd, reduceSub, reduceMul, reduceEqDiff, reduceLeDiff, Nat.reduceBEq, reduceLT, reduceIte, reduceCtorEq, Int.reduceToNat])))
      | (refine callX ?_; (first | refine evOps_fin ?_ | refine And.intro ?_ (evD_fin ?_) | refine evD_fin ?_) <;> simp only [go_sem, reduceAdd, reduceSub, reduceMul, reduceEqDiff, reduceLeDiff, Nat.reduceBEq, reduceLT, reduceIte, reduceCtorEq, Int.reduceToNat])
theorem Score_pure (p : Prob) (hb : bytesL p.f.v) (hl : (p.s.length : Int) < 4611686018427387904) (c : Cnd) : Pure Try.prog 21 [.agg (encP p), .agg (enC c)] (encNu (boundR p ⟨c.k, c.y, c.x, 0⟩)) := by
  have v := Bound_pure p hb hl ⟨c.k, c.y, c.x, 0⟩
  generalize boundR p ⟨c.k, c.y, c.x, 0⟩ = r at *
  simp only [encP, enBl, enC, encNu] at *
  (refine pure_of_ev tt_ok Try.func21 rfl (by decide +kernel) (Nat.le_of_ble_eq_true rfl) ?_; simp only [Try.f21])
  repeat' first
    | refine ev_seq (fun K hK => ?_)
    | ((first | refine evr tt_ok false ?_ | refine ev_skip ?_ | refine ev_ret ?_ | refine ev_exit ?_ | refine evc (fun X Y hX hY => ?_)); simp only [go_sem, reduceAdd, reduceSub, reduceMul, reduceEqDiff, reduceLeDiff, Nat.reduceBEq, reduceLT, reduceIte, reduceCtorEq, Int.reduceToNat]; try (first | (refine ⟨fun h => hX ?_, fun h => hY ?_⟩; clear hX hY) | (refine hX ?_; clear hX hY) | (refine hY ?_; clear hX hY)))
    | refine ev_block ?_
    | (apply hK; clear hK)
    | apply_assumption -exfalso -symm only [*]
    | (refine And.intro ?_ ?_; first | omega | assumption | (unfold maxLen; omega) | (simp only [decide_eq_true_eq, decide_eq_false_iff_not, Int.not_lt, Int.not_le] at h; omega))
    | ((first | apply callP | apply callPG | apply callP0); (case' hv => (simp only [go_sem, reduceAdd, reduceSub, reduceMul, reduceEqDiff, reduceLeDiff, Nat.reduceBEq, reduceLT, reduceIte, reduceCtorEq, Int.reduceToNat]; try exact rfl)); (case' hp => (first | refine' v | (refine' (fun hg => ?_); refine' v))); (case' h => ((first | refine evOps_fin ?_ | refine And.intro ?_ (evD_fin ?_) | refine evD_fin ?_) <;> simp only [go_sem, reduceAdd, reduceSub, reduceMul, reduceEqDiff, reduceLeDiff, Nat.reduceBEq, reduceLT, reduceIte, reduceCtorEq, Int.reduceToNat])))
    | (refine callX ?_; (first | refine evOps_fin ?_ | refine And.intro ?_ (evD_fin ?_) | refine evD_fin ?_) <;> simp only [go_sem, reduceAdd, reduceSub, reduceMul, reduceEqDiff, reduceLeDiff, Nat.reduceBEq, reduceLT, reduceIte, reduceCtorEq, Int.reduceToNat])
end Go.Proofs.Ytokhaefcnbiadaa
