import Derived.Test.YtbibplkhhdomnaaGreatW12
import Derived.Test.YtbibplkhhdomnaaGreatW22
import Derived.Test.YtbibplkhhdomnaaGreatW13
set_option linter.all false
namespace Go.Proofs.YtbibplkhhdomnaaGreat
open Nat (reduceAdd reduceSub reduceMul reduceEqDiff reduceLeDiff reduceLT)
open Go Go.K
set_option maxRecDepth 20000
set_option maxHeartbeats 8000000
structure PoR where
  (x y h e : Int)
def encPo (r : PoR) : V := .tup [.agg [.int .i64 r.x, .int .i64 r.y, .int .i64 r.h], .int .i64 r.e]
def poseM (p : Prob) (c : Cnd) : PoR := if p.ok then (if inW p c then ⟨p.cx + 64 * c.x, p.cy + 64 * c.y, (p.fr + c.k) % 256, 0⟩ else ⟨0, 0, 0, 2⟩) else ⟨0, 0, 0, 1⟩
structure PosW (p : Prob) (c : Cnd) : Prop where
  w1 : IntKind.i64.wrap (64 * c.x) = 64 * c.x
  w2 : IntKind.i64.wrap (64 * c.y) = 64 * c.y
  w3 : IntKind.i64.wrap (p.cx + 64 * c.x) = p.cx + 64 * c.x
  w4 : IntKind.i64.wrap (p.cy + 64 * c.y) = p.cy + 64 * c.y
  w5 : IntKind.i64.wrap (p.fr + c.k) = p.fr + c.k
  w6 : (p.fr + c.k).tmod 256 = (p.fr + c.k) % 256
  w7 : 0 ≤ p.fr + c.k ∧ p.fr + c.k ≤ 1000
theorem posW {p : Prob} {c : Cnd} (h : p.ok) (hc : inW p c) : PosW p c := by
  obtain ⟨h1, h2, h3, h4, h5, h6, h7⟩ := id h
  obtain ⟨a1, a2, a3, a4, a5⟩ := h3
  simp only at a1 a2 a3 a4
  unfold inW at hc
  exact ⟨w64 (by omega) (by omega), w64 (by omega) (by omega), w64 (by omega) (by omega), w64 (by omega) (by omega), w64 (by omega) (by omega), Int.tmod_eq_emod_of_nonneg (by omega), by omega⟩
theorem mpose_pure (p : Prob) (hl : (p.s.length : Int) < 4611686018427387904) (c : Cnd) : Pure Tryz.prog 18 [.agg (encP p), .agg (enC c)] (encPo (poseM p c)) := by
  have v := mvalid_pure p hl
  unfold poseM
  by_cases h : p.ok
  · rw [decide_eq_true h] at v
    rw [if_pos h]
    have vi := min_pure p c h
    by_cases hc : inW p c
    · rw [decide_eq_true hc] at vi
      rw [if_pos hc]
      obtain ⟨w1, w2, w3, w4, w5, w6, w7⟩ := posW h hc
      have vm := mmark_pure p c.k w7
      simp only [encP, enC, encPo] at *
      (refine pure_of_ev tt_ok Tryz.func18 rfl (by decide +kernel) (Nat.le_of_ble_eq_true rfl) ?_; simp only [Tryz.f18])
      repeat' first
        | refine ev_seq (fun K hK => ?_)
        | ((first | refine evrd (id := 5) hmix tt_ok false [([], true), ([], true), ([], true), ([], true), ([], true), ([], true), ([], true), ([], true), ([], true), ([], true), ([], true), ([], true), ([], true), ([], true), ([], false), ([], false), ([], false), ([0, 1, 2, 3, 4, 5, 6, 7, 8, 9, 10, 11, 12, 13], false), ([], false), ([], false), ([], false)] (by decide +kernel) ?_ | refine evr tt_ok false ?_ | refine ev_skip ?_ | refine ev_ret ?_ | refine ev_exit ?_ | refine evc (fun X Y hX hY => ?_)); simp only [go_sem, reduceAdd, reduceSub, reduceMul, reduceEqDiff, reduceLeDiff, Nat.reduceBEq, reduceLT, reduceIte, reduceCtorEq, Int.reduceToNat, w1, w2, w3, w4, w5, w6]; try (first | (refine ⟨fun h => hX ?_, fun h => hY ?_⟩; clear hX hY) | (refine hX ?_; clear hX hY) | (refine hY ?_; clear hX hY)))
        | refine ev_block ?_
        | (apply hK; clear hK)
        | apply_assumption -exfalso -symm only [*]
        | (refine And.intro ?_ ?_; first | omega | assumption | (unfold maxLen; omega) | (simp only [decide_eq_true_eq, decide_eq_false_iff_not, Int.not_lt, Int.not_le] at h; omega))
        | ((first | apply callP | apply callPG | apply callP0); (case' hv => (simp only [go_sem, reduceAdd, reduceSub, reduceMul, reduceEqDiff, reduceLeDiff, Nat.reduceBEq, reduceLT, reduceIte, reduceCtorEq, Int.reduceToNat, w1, w2, w3, w4, w5, w6]; try exact rfl)); (case' hp => (first | refine' v | (refine' (fun hg => ?_); refine' v) | refine' vi | (refine' (fun hg => ?_); refine' vi) | refine' vm | (refine' (fun hg => ?_); refine' vm))); (case' h => ((first | refine evOps_fin ?_ | refine And.intro ?_ (evD_fin ?_) | refine evD_fin ?_) <;> simp only [go_sem, reduceAdd, reduceSub, reduceMul, reduceEqDiff, reduceLeDiff, Nat.reduceBEq, reduceLT, reduceIte, reduceCtorEq, Int.reduceToNat, w1, w2, w3, w4, w5, w6])))
        | (refine callX ?_; (first | refine evOps_fin ?_ | refine And.intro ?_ (evD_fin ?_) | refine evD_fin ?_) <;> simp only [go_sem, reduceAdd, reduceSub, reduceMul, reduceEqDiff, reduceLeDiff, Nat.reduceBEq, reduceLT, reduceIte, reduceCtorEq, Int.reduceToNat, w1, w2, w3, w4, w5, w6])
    · rw [decide_eq_false hc] at vi
      rw [if_neg hc]
      simp only [encP, enC, encPo] at *
      (refine pure_of_ev tt_ok Tryz.func18 rfl (by decide +kernel) (Nat.le_of_ble_eq_true rfl) ?_; simp only [Tryz.f18])
      repeat' first
        | refine ev_seq (fun K hK => ?_)
        | ((first | refine evrd (id := 5) hmix tt_ok false [([], true), ([], true), ([], true), ([], true), ([], true), ([], true), ([], true), ([], true), ([], true), ([], true), ([], true), ([], true), ([], true), ([], true), ([], false), ([], false), ([], false), ([0, 1, 2, 3, 4, 5, 6, 7, 8, 9, 10, 11, 12, 13], false), ([], false), ([], false), ([], false)] (by decide +kernel) ?_ | refine evr tt_ok false ?_ | refine ev_skip ?_ | refine ev_ret ?_ | refine ev_exit ?_ | refine evc (fun X Y hX hY => ?_)); simp only [go_sem, reduceAdd, reduceSub, reduceMul, reduceEqDiff, reduceLeDiff, Nat.reduceBEq, reduceLT, reduceIte, reduceCtorEq, Int.reduceToNat]; try (first | (refine ⟨fun h => hX ?_, fun h => hY ?_⟩; clear hX hY) | (refine hX ?_; clear hX hY) | (refine hY ?_; clear hX hY)))
        | refine ev_block ?_
        | (apply hK; clear hK)
        | apply_assumption -exfalso -symm only [*]
        | (refine And.intro ?_ ?_; first | omega | assumption | (unfold maxLen; omega) | (simp only [decide_eq_true_eq, decide_eq_false_iff_not, Int.not_lt, Int.not_le] at h; omega))
        | ((first | apply callP | apply callPG | apply callP0); (case' hv => (simp only [go_sem, reduceAdd, reduceSub, reduceMul, reduceEqDiff, reduceLeDiff, Nat.reduceBEq, reduceLT, reduceIte, reduceCtorEq, Int.reduceToNat]; try exact rfl)); (case' hp => (first | refine' v | (refine' (fun hg => ?_); refine' v) | refine' vi | (refine' (fun hg => ?_); refine' vi))); (case' h => ((first | refine evOps_fin ?_ | refine And.intro ?_ (evD_fin ?_) | refine evD_fin ?_) <;> simp only [go_sem, reduceAdd, reduceSub, reduceMul, reduceEqDiff, reduceLeDiff, Nat.reduceBEq, reduceLT, reduceIte, reduceCtorEq, Int.reduceToNat])))
        | (refine callX ?_; (first | refine evOps_fin ?_ | refine And.intro ?_ (evD_fin ?_) | refine evD_fin ?_) <;> simp only [go_sem, reduceAdd, reduceSub, reduceMul, reduceEqDiff, reduceLeDiff, Nat.reduceBEq, reduceLT, reduceIte, reduceCtorEq, Int.reduceToNat])
  · rw [decide_eq_false h] at v
    rw [if_neg h]
    simp only [encP, enC, encPo] at *
    (refine pure_of_ev tt_ok Tryz.func18 rfl (by decide +kernel) (Nat.le_of_ble_eq_true rfl) ?_; simp only [Tryz.f18])
    repeat' first
      | refine ev_seq (fun K hK => ?_)
      | ((first | refine evrd (id := 5) hmix tt_ok false [([], true), ([], true), ([], true), ([], true), ([], true), ([], true), ([], true), ([], true), ([], true), ([], true), ([], true), ([], true), ([], true), ([], true), ([], false), ([], false), ([], false), ([0, 1, 2, 3, 4, 5, 6, 7, 8, 9, 10, 11, 12, 13], false), ([], false), ([], false), ([], false)] (by decide +kernel) ?_ | refine evr tt_ok false ?_ | refine ev_skip ?_ | refine ev_ret ?_ | refine ev_exit ?_ | refine evc (fun X Y hX hY => ?_)); simp only [go_sem, reduceAdd, reduceSub, reduceMul, reduceEqDiff, reduceLeDiff, Nat.reduceBEq, reduceLT, reduceIte, reduceCtorEq, Int.reduceToNat]; try (first | (refine ⟨fun h => hX ?_, fun h => hY ?_⟩; clear hX hY) | (refine hX ?_; clear hX hY) | (refine hY ?_; clear hX hY)))
      | refine ev_block ?_
      | (apply hK; clear hK)
      | apply_assumption -exfalso -symm only [*]
      | (refine And.intro ?_ ?_; first | omega | assumption | (unfold maxLen; omega) | (simp only [decide_eq_true_eq, decide_eq_false_iff_not, Int.not_lt, Int.not_le] at h; omega))
      | ((first | apply callP | apply callPG | apply callP0); (case' hv => (simp only [go_sem, reduceAdd, reduceSub, reduceMul, reduceEqDiff, reduceLeDiff, Nat.reduceBEq, reduceLT, reduceIte, reduceCtorEq, Int.reduceToNat]; try exact rfl)); (case' hp => (first | refine' v | (refine' (fun hg => ?_); refine' v))); (case' h => ((first | refine evOps_fin ?_ | refine And.intro ?_ (evD_fin ?_) | refine evD_fin ?_) <;> simp only [go_sem, reduceAdd, reduceSub, reduceMul, reduceEqDiff, reduceLeDiff, Nat.reduceBEq, reduceLT, reduceIte, reduceCtorEq, Int.reduceToNat])))
      | (refine callX ?_; (first | refine evOps_fin ?_ | refine And.intro ?_ (evD_fin ?_) | refine evD_fin ?_) <;> simp only [go_sem, reduceAdd, reduceSub, reduceMul, reduceEqDiff, reduceLeDiff, Nat.reduceBEq, reduceLT, reduceIte, reduceCtorEq, Int.reduceToNat])
structure EnR where
  l : List Cel
  e : Int
def encEn (r : EnR) : V := .tup [.sl (r.l.map enCl), .int .i64 r.e]
def endsR (p : Prob) (k : Int) : EnR := if p.ok then (if 0 ≤ k ∧ k < p.ct then ⟨endsM p k, 0⟩ else ⟨[], 2⟩) else ⟨[], 1⟩
structure NuR where
  (n e : Int)
def encNu (r : NuR) : V := .tup [.int .i64 r.n, .int .i64 r.e]
def blkOk (p : Prob) (b : Blc) : Prop := inW p ⟨b.k, b.y, b.x⟩ ∧ 0 ≤ b.l ∧ b.l ≤ 6
instance (p : Prob) (b : Blc) : Decidable (blkOk p b) := by unfold blkOk; infer_instance
def boundR (p : Prob) (b : Blc) : NuR := if p.ok then (if blkOk p b then ⟨boundM p b, 0⟩ else ⟨0, 2⟩) else ⟨0, 1⟩
theorem Bound_pure (p : Prob) (hb : bytesL p.f.v) (hl : (p.s.length : Int) < 4611686018427387904) (b : Blc) : Pure Tryz.prog 22 [.agg (encP p), .agg (enBl b)] (encNu (boundR p b)) := by
  have v := mvalid_pure p hl
  unfold boundR
  by_cases h : p.ok
  · rw [decide_eq_true h] at v
    rw [if_pos h]
    have vc := corner_pure b
    have vi := min_pure p ⟨b.k, b.y, b.x⟩ h
    have vl := mwithin_pure b.l 0 6
    obtain ⟨h1, h2, h3, h4, h5, h6, h7⟩ := id h
    obtain ⟨a1, a2, a3, a4, a5⟩ := h3
    simp only at a1 a2 a3 a4
    by_cases hc : inW p ⟨b.k, b.y, b.x⟩
    · rw [decide_eq_true hc] at vi
      by_cases hlv : 0 ≤ b.l ∧ b.l ≤ 6
      · have e : (decide (0 ≤ b.l) && decide (b.l ≤ 6)) = true := by simp only [Bool.and_eq_true, decide_eq_true_eq]; exact hlv
        rw [e] at vl
        rw [if_pos ⟨hc, hlv⟩]
        obtain ⟨c1, c2, c3, c4, c5, c6⟩ := hc
        simp only at c1 c2 c3 c4 c5 c6
        have nb := begin_pure p h hb [b.k.toNat] (fun j hj => by
          have : j = 0 := by simp at hj; omega
          subst this
          show ((b.k.toNat : Nat) : Int) < p.ct
          omega) (by simp)
        have hd : hasK [b.k.toNat] 1 b.k.toNat = true := by simp [hasK]
        have sb := sbound_pure p h hb (hasK [b.k.toNat] 1) b ⟨c1, c2⟩ hd (by omega) (by omega)
        have ek : ((b.k.toNat : Nat) : Int) = b.k := by omega
        simp only [List.map_cons, List.map_nil, enK, ek, List.length_cons, List.length_nil, Nat.zero_add] at nb
        generalize seaV p (hasK [b.k.toNat] 1) = C at *
        simp only [encP, enBl, enC, encNu] at *
        have nr : ∀ ow : List Own, ow[2]? = some (.blk 3 0 1 [[.int .i64 b.k]]) → Run Tryz.prog 15 [.agg [.int .i64 p.f.x, .int .i64 p.f.y, .int .i64 p.f.w, .int .i64 p.f.h, .sl (p.f.v.map enB), .sl (p.s.map enBm), .int .i64 p.cx, .int .i64 p.cy, .int .i64 p.fr, .int .i64 p.ct, .int .i64 p.re], .rs 2 0 0 1] [2, 2] ow (.pi C 0) [(2, .froz 3 0 1 [[.int .i64 b.k]])] := fun ow ho => by
          refine run_fz ho rfl ?_ nb
          simp only [go_sem, reduceAdd, reduceSub, reduceMul, reduceEqDiff, reduceLeDiff, Nat.reduceBEq, reduceLT, reduceIte, reduceCtorEq, Int.reduceToNat, List.getElem?_set_self (get_lt ho), Nat.sub_zero, Nat.le_refl]
        (refine pure_of_ev tt_ok Tryz.func22 rfl (by decide +kernel) (Nat.le_of_ble_eq_true rfl) ?_; simp only [Tryz.f22])
        repeat' first
          | refine ev_seq (fun K hK => ?_)
          | ((first | refine evrd (id := 3) hmix tt_ok false [([], true), ([], false), ([0], false), ([], false), ([], false), ([], false), ([], false), ([], false), ([], false), ([], false), ([], false), ([], false)] (by decide +kernel) ?_ | refine evrd (id := 5) hmix tt_ok false [([], true), ([], false), ([], false), ([0], true), ([], true), ([3, 4], false), ([], false), ([], false), ([], false)] (by decide +kernel) ?_ | refine evr tt_ok false ?_ | refine ev_skip ?_ | refine ev_ret ?_ | refine ev_exit ?_ | refine evc (fun X Y hX hY => ?_)); simp only [go_sem, reduceAdd, reduceSub, reduceMul, reduceEqDiff, reduceLeDiff, Nat.reduceBEq, reduceLT, reduceIte, reduceCtorEq, Int.reduceToNat]; try (first | (refine ⟨fun h => hX ?_, fun h => hY ?_⟩; clear hX hY) | (refine hX ?_; clear hX hY) | (refine hY ?_; clear hX hY)))
          | refine ev_block ?_
          | (apply hK; clear hK)
          | apply_assumption -exfalso -symm only [*]
          | (refine And.intro ?_ ?_; first | omega | assumption | (unfold maxLen; omega) | (simp only [decide_eq_true_eq, decide_eq_false_iff_not, Int.not_lt, Int.not_le] at h; omega))
          | ((first | apply callP | apply callPG | apply callP0); (case' hv => (simp only [go_sem, reduceAdd, reduceSub, reduceMul, reduceEqDiff, reduceLeDiff, Nat.reduceBEq, reduceLT, reduceIte, reduceCtorEq, Int.reduceToNat]; try exact rfl)); (case' hp => (first | refine' v | (refine' (fun hg => ?_); refine' v) | refine' vc | (refine' (fun hg => ?_); refine' vc) | refine' vi | (refine' (fun hg => ?_); refine' vi) | refine' vl | (refine' (fun hg => ?_); refine' vl) | refine' sb | (refine' (fun hg => ?_); refine' sb))); (case' h => ((first | refine evOps_fin ?_ | refine And.intro ?_ (evD_fin ?_) | refine evD_fin ?_) <;> simp only [go_sem, reduceAdd, reduceSub, reduceMul, reduceEqDiff, reduceLeDiff, Nat.reduceBEq, reduceLT, reduceIte, reduceCtorEq, Int.reduceToNat])))
          | ((first | apply callE | apply callEG | apply callE0); (case' hp => (first | refine' nr _ rfl | (refine' (fun hg => ?_); refine' nr _ rfl))); (case' h => ((first | refine evOps_fin ?_ | refine And.intro ?_ (evD_fin ?_) | refine evD_fin ?_) <;> simp only [go_sem, reduceAdd, reduceSub, reduceMul, reduceEqDiff, reduceLeDiff, Nat.reduceBEq, reduceLT, reduceIte, reduceCtorEq, Int.reduceToNat])))
          | (refine callX ?_; (first | refine evOps_fin ?_ | refine And.intro ?_ (evD_fin ?_) | refine evD_fin ?_) <;> simp only [go_sem, reduceAdd, reduceSub, reduceMul, reduceEqDiff, reduceLeDiff, Nat.reduceBEq, reduceLT, reduceIte, reduceCtorEq, Int.reduceToNat])
      · have e : (decide (0 ≤ b.l) && decide (b.l ≤ 6)) = false := by rw [Bool.eq_false_iff]; simp only [ne_eq, Bool.and_eq_true, decide_eq_true_eq]; exact hlv
        rw [e] at vl
        rw [if_neg (fun h => hlv h.2)]
        simp only [encP, enBl, enC, encNu] at *
        (refine pure_of_ev tt_ok Tryz.func22 rfl (by decide +kernel) (Nat.le_of_ble_eq_true rfl) ?_; simp only [Tryz.f22])
        repeat' first
          | refine ev_seq (fun K hK => ?_)
          | ((first | refine evrd (id := 3) hmix tt_ok false [([], true), ([], false), ([0], false), ([], false), ([], false), ([], false), ([], false), ([], false), ([], false), ([], false), ([], false), ([], false)] (by decide +kernel) ?_ | refine evrd (id := 5) hmix tt_ok false [([], true), ([], false), ([], false), ([0], true), ([], true), ([3, 4], false), ([], false), ([], false), ([], false)] (by decide +kernel) ?_ | refine evr tt_ok false ?_ | refine ev_skip ?_ | refine ev_ret ?_ | refine ev_exit ?_ | refine evc (fun X Y hX hY => ?_)); simp only [go_sem, reduceAdd, reduceSub, reduceMul, reduceEqDiff, reduceLeDiff, Nat.reduceBEq, reduceLT, reduceIte, reduceCtorEq, Int.reduceToNat]; try (first | (refine ⟨fun h => hX ?_, fun h => hY ?_⟩; clear hX hY) | (refine hX ?_; clear hX hY) | (refine hY ?_; clear hX hY)))
          | refine ev_block ?_
          | (apply hK; clear hK)
          | apply_assumption -exfalso -symm only [*]
          | (refine And.intro ?_ ?_; first | omega | assumption | (unfold maxLen; omega) | (simp only [decide_eq_true_eq, decide_eq_false_iff_not, Int.not_lt, Int.not_le] at h; omega))
          | ((first | apply callP | apply callPG | apply callP0); (case' hv => (simp only [go_sem, reduceAdd, reduceSub, reduceMul, reduceEqDiff, reduceLeDiff, Nat.reduceBEq, reduceLT, reduceIte, reduceCtorEq, Int.reduceToNat]; try exact rfl)); (case' hp => (first | refine' v | (refine' (fun hg => ?_); refine' v) | refine' vc | (refine' (fun hg => ?_); refine' vc) | refine' vi | (refine' (fun hg => ?_); refine' vi) | refine' vl | (refine' (fun hg => ?_); refine' vl))); (case' h => ((first | refine evOps_fin ?_ | refine And.intro ?_ (evD_fin ?_) | refine evD_fin ?_) <;> simp only [go_sem, reduceAdd, reduceSub, reduceMul, reduceEqDiff, reduceLeDiff, Nat.reduceBEq, reduceLT, reduceIte, reduceCtorEq, Int.reduceToNat])))
          | (refine callX ?_; (first | refine evOps_fin ?_ | refine And.intro ?_ (evD_fin ?_) | refine evD_fin ?_) <;> simp only [go_sem, reduceAdd, reduceSub, reduceMul, reduceEqDiff, reduceLeDiff, Nat.reduceBEq, reduceLT, reduceIte, reduceCtorEq, Int.reduceToNat])
    · rw [decide_eq_false hc] at vi
      rw [if_neg (fun h => hc h.1)]
      simp only [encP, enBl, enC, encNu] at *
      (refine pure_of_ev tt_ok Tryz.func22 rfl (by decide +kernel) (Nat.le_of_ble_eq_true rfl) ?_; simp only [Tryz.f22])
      repeat' first
        | refine ev_seq (fun K hK => ?_)
        | ((first | refine evrd (id := 3) hmix tt_ok false [([], true), ([], false), ([0], false), ([], false), ([], false), ([], false), ([], false), ([], false), ([], false), ([], false), ([], false), ([], false)] (by decide +kernel) ?_ | refine evrd (id := 5) hmix tt_ok false [([], true), ([], false), ([], false), ([0], true), ([], true), ([3, 4], false), ([], false), ([], false), ([], false)] (by decide +kernel) ?_ | refine evr tt_ok false ?_ | refine ev_skip ?_ | refine ev_ret ?_ | refine ev_exit ?_ | refine evc (fun X Y hX hY => ?_)); simp only [go_sem, reduceAdd, reduceSub, reduceMul, reduceEqDiff, reduceLeDiff, Nat.reduceBEq, reduceLT, reduceIte, reduceCtorEq, Int.reduceToNat]; try (first | (refine ⟨fun h => hX ?_, fun h => hY ?_⟩; clear hX hY) | (refine hX ?_; clear hX hY) | (refine hY ?_; clear hX hY)))
        | refine ev_block ?_
        | (apply hK; clear hK)
        | apply_assumption -exfalso -symm only [*]
        | (refine And.intro ?_ ?_; first | omega | assumption | (unfold maxLen; omega) | (simp only [decide_eq_true_eq, decide_eq_false_iff_not, Int.not_lt, Int.not_le] at h; omega))
        | ((first | apply callP | apply callPG | apply callP0); (case' hv => (simp only [go_sem, reduceAdd, reduceSub, reduceMul, reduceEqDiff, reduceLeDiff, Nat.reduceBEq, reduceLT, reduceIte, reduceCtorEq, Int.reduceToNat]; try exact rfl)); (case' hp => (first | refine' v | (refine' (fun hg => ?_); refine' v) | refine' vc | (refine' (fun hg => ?_); refine' vc) | refine' vi | (refine' (fun hg => ?_); refine' vi) | refine' vl | (refine' (fun hg => ?_); refine' vl))); (case' h => ((first | refine evOps_fin ?_ | refine And.intro ?_ (evD_fin ?_) | refine evD_fin ?_) <;> simp only [go_sem, reduceAdd, reduceSub, reduceMul, reduceEqDiff, reduceLeDiff, Nat.reduceBEq, reduceLT, reduceIte, reduceCtorEq, Int.reduceToNat])))
        | (refine callX ?_; (first | refine evOps_fin ?_ | refine And.intro ?_ (evD_fin ?_) | refine evD_fin ?_) <;> simp only [go_sem, reduceAdd, reduceSub, reduceMul, reduceEqDiff, reduceLeDiff, Nat.reduceBEq, reduceLT, reduceIte, reduceCtorEq, Int.reduceToNat])
  · rw [decide_eq_false h] at v
    rw [if_neg h]
    simp only [encP, enBl, encNu] at *
    (refine pure_of_ev tt_ok Tryz.func22 rfl (by decide +kernel) (Nat.le_of_ble_eq_true rfl) ?_; simp only [Tryz.f22])
    repeat' first
      | refine ev_seq (fun K hK => ?_)
      | ((first | refine evrd (id := 3) hmix tt_ok false [([], true), ([], false), ([0], false), ([], false), ([], false), ([], false), ([], false), ([], false), ([], false), ([], false), ([], false), ([], false)] (by decide +kernel) ?_ | refine evrd (id := 5) hmix tt_ok false [([], true), ([], false), ([], false), ([0], true), ([], true), ([3, 4], false), ([], false), ([], false), ([], false)] (by decide +kernel) ?_ | refine evr tt_ok false ?_ | refine ev_skip ?_ | refine ev_ret ?_ | refine ev_exit ?_ | refine evc (fun X Y hX hY => ?_)); simp only [go_sem, reduceAdd, reduceSub, reduceMul, reduceEqDiff, reduceLeDiff, Nat.reduceBEq, reduceLT, reduceIte, reduceCtorEq, Int.reduceToNat]; try (first | (refine ⟨fun h => hX ?_, fun h => hY ?_⟩; clear hX hY) | (refine hX ?_; clear hX hY) | (refine hY ?_; clear hX hY)))
      | refine ev_block ?_
      | (apply hK; clear hK)
      | apply_assumption -exfalso -symm only [*]
      | (refine And.intro ?_ ?_; first | omega | assumption | (unfold maxLen; omega) | (simp only [decide_eq_true_eq, decide_eq_false_iff_not, Int.not_lt, Int.not_le] at h; omega))
      | ((first | apply callP | apply callPG | apply callP0); (case' hv => (simp only [go_sem, reduceAdd, reduceSub, reduceMul, reduceEqDiff, reduceLeDiff, Nat.reduceBEq, reduceLT, reduceIte, reduceCtorEq, Int.reduceToNat]; try exact rfl)); (case' hp => (first | refine' v | (refine' (fun hg => ?_); refine' v))); (case' h => ((first | refine evOps_fin ?_ | refine And.intro ?_ (evD_fin ?_) | refine evD_fin ?_) <;> simp only [go_sem, reduceAdd, reduceSub, reduceMul, reduceEqDiff, reduceLeDiff, Nat.reduceBEq, reduceLT, reduceIte, reduceCtorEq, Int.reduceToNat])))
      | (refine callX ?_; (first | refine evOps_fin ?_ | refine And.intro ?_ (evD_fin ?_) | refine evD_fin ?_) <;> simp only [go_sem, reduceAdd, reduceSub, reduceMul, reduceEqDiff, reduceLeDiff, Nat.reduceBEq, reduceLT, reduceIte, reduceCtorEq, Int.reduceToNat])
theorem Score_pure (p : Prob) (hb : bytesL p.f.v) (hl : (p.s.length : Int) < 4611686018427387904) (c : Cnd) : Pure Tryz.prog 9 [.agg (encP p), .agg (enC c)] (encNu (boundR p ⟨c.k, c.y, c.x, 0⟩)) := by
  have v := Bound_pure p hb hl ⟨c.k, c.y, c.x, 0⟩
  generalize boundR p ⟨c.k, c.y, c.x, 0⟩ = r at *
  simp only [encP, enBl, enC, encNu] at *
  (refine pure_of_ev tt_ok Tryz.func9 rfl (by decide +kernel) (Nat.le_of_ble_eq_true rfl) ?_; simp only [Tryz.f9])
  repeat' first
    | refine ev_seq (fun K hK => ?_)
    | ((first | refine evr tt_ok false ?_ | refine ev_skip ?_ | refine ev_ret ?_ | refine ev_exit ?_ | refine evc (fun X Y hX hY => ?_)); simp only [go_sem, reduceAdd, reduceSub, reduceMul, reduceEqDiff, reduceLeDiff, Nat.reduceBEq, reduceLT, reduceIte, reduceCtorEq, Int.reduceToNat]; try (first | (refine ⟨fun h => hX ?_, fun h => hY ?_⟩; clear hX hY) | (refine hX ?_; clear hX hY) | (refine hY ?_; clear hX hY)))
    | refine ev_block ?_
    | (apply hK; clear hK)
    | apply_assumption -exfalso -symm only [*]
    | (refine And.intro ?_ ?_; first | omega | assumption | (unfold maxLen; omega) | (simp only [decide_eq_true_eq, decide_eq_false_iff_not, Int.not_lt, Int.not_le] at h; omega))
    | ((first | apply callP | apply callPG | apply callP0); (case' hv => (simp only [go_sem, reduceAdd, reduceSub, reduceMul, reduceEqDiff, reduceLeDiff, Nat.reduceBEq, reduceLT, reduceIte, reduceCtorEq, Int.reduceToNat]; try exact rfl)); (case' hp => (first | refine' v | (refine' (fun hg => ?_); refine' v))); (case' h => ((first | refine evOps_fin ?_ | refine And.intro ?_ (evD_fin ?_) | refine evD_fin ?_) <;> simp only [go_sem, reduceAdd, reduceSub, reduceMul, reduceEqDiff, reduceLeDiff, Nat.reduceBEq, reduceLT, reduceIte, reduceCtorEq, Int.reduceToNat])))
    | (refine callX ?_; (first | refine evOps_fin ?_ | refine And.intro ?_ (evD_fin ?_) | refine evD_fin ?_) <;> simp only [go_sem, reduceAdd, reduceSub, reduceMul, reduceEqDiff, reduceLeDiff, Nat.reduceBEq, reduceLT, reduceIte, reduceCtorEq, Int.reduceToNat])
end Go.Proofs.YtbibplkhhdomnaaGreat
namespace Go.Proofs.YtbibplkhhdomnaaGreat
open Nat (reduceAdd reduceSub reduceMul reduceEqDiff reduceLeDiff reduceLT)
open Go Go.K
set_option maxRecDepth 20000
set_option maxHeartbeats 8000000
theorem negre {r : Int} (h : 0 ≤ r ∧ r ≤ 31) : IntKind.i64.wrap (0 - r) = -r := by rw [w64 (by omega) (by omega)]; omega
theorem cin_pure (p : Prob) (c : Cnd) (h : p.ok) : Pure Tryz.prog 19 [.agg (encP p), .agg (enC c)] (.bool (decide (inW p c))) := by
  have w2 := negre h.2.2.2.2.2.1
  simp only [encP, enC]
  (refine pure_of_ev tt_ok Tryz.func19 rfl (by decide +kernel) (Nat.le_of_ble_eq_true rfl) ?_; simp only [Tryz.f19])
  repeat' first
    | refine ev_seq (fun K hK => ?_)
    | ((first | refine evr tt_ok false ?_ | refine ev_skip ?_ | refine ev_ret ?_ | refine ev_exit ?_ | refine evc (fun X Y hX hY => ?_)); simp only [go_sem, reduceAdd, reduceSub, reduceMul, reduceEqDiff, reduceLeDiff, Nat.reduceBEq, reduceLT, reduceIte, reduceCtorEq, Int.reduceToNat, w2]; try (first | (refine ⟨fun h => hX ?_, fun h => hY ?_⟩; clear hX hY) | (refine hX ?_; clear hX hY) | (refine hY ?_; clear hX hY)))
    | refine ev_block ?_
    | (apply hK; clear hK)
    | apply_assumption -exfalso -symm only [*]
    | (refine And.intro ?_ ?_; first | omega | assumption | (unfold maxLen; omega) | (simp only [decide_eq_true_eq, decide_eq_false_iff_not, Int.not_lt, Int.not_le] at h; omega))
  refine bool_dec ?_
  simp only [Bool.and_eq_true, decide_eq_true_eq, inW]; omega
theorem first_pure (b : Blc) : Pure Tryz.prog 24 [.agg (enBl b)] (.agg [.int .i64 b.k, .int .i64 b.y, .int .i64 b.x]) := by
  simp only [enBl]
  (refine pure_of_ev tt_ok Tryz.func24 rfl (by decide +kernel) (Nat.le_of_ble_eq_true rfl) ?_; simp only [Tryz.f24])
  repeat' first
    | refine ev_seq (fun K hK => ?_)
    | ((first | refine evr tt_ok false ?_ | refine ev_skip ?_ | refine ev_ret ?_ | refine ev_exit ?_ | refine evc (fun X Y hX hY => ?_)); simp only [go_sem, reduceAdd, reduceSub, reduceMul, reduceEqDiff, reduceLeDiff, Nat.reduceBEq, reduceLT, reduceIte, reduceCtorEq, Int.reduceToNat]; try (first | (refine ⟨fun h => hX ?_, fun h => hY ?_⟩; clear hX hY) | (refine hX ?_; clear hX hY) | (refine hY ?_; clear hX hY)))
    | refine ev_block ?_
    | (apply hK; clear hK)
    | apply_assumption -exfalso -symm only [*]
    | (refine And.intro ?_ ?_; first | omega | assumption | (unfold maxLen; omega) | (simp only [decide_eq_true_eq, decide_eq_false_iff_not, Int.not_lt, Int.not_le] at h; omega))
theorem blk_dec (p : Prob) (b : Blc) : (decide (inW p ⟨b.k, b.y, b.x⟩) && decide (0 ≤ b.l) && decide (b.l ≤ 6)) = decide (blkOk p b) := by
  rw [Bool.eq_iff_iff, decide_eq_true_eq (p := blkOk p b)]; simp only [Bool.and_eq_true, decide_eq_true_eq]; exact and_assoc
theorem cvalid_pure (p : Prob) (b : Blc) (h : p.ok) : Pure Tryz.prog 20 [.agg (encP p), .agg (enBl b)] (.bool (decide (blkOk p b))) := by
  have v1 := first_pure b
  have v2 := cin_pure p ⟨b.k, b.y, b.x⟩ h
  rw [← blk_dec]
  simp only [encP, enBl, enC] at *
  by_cases hc : inW p ⟨b.k, b.y, b.x⟩
  · rw [decide_eq_true hc] at v2 ⊢
    (refine pure_of_ev tt_ok Tryz.func20 rfl (by decide +kernel) (Nat.le_of_ble_eq_true rfl) ?_; simp only [Tryz.f20])
    repeat' first
      | refine ev_seq (fun K hK => ?_)
      | ((first | refine evrd (id := 1) hmix tt_ok false [([], true), ([], false), ([0], false), ([], false), ([], false), ([], false), ([], false), ([], false), ([], false), ([], false), ([], false), ([], false), ([], false), ([], false), ([], false)] (by decide +kernel) ?_ | refine evr tt_ok false ?_ | refine ev_skip ?_ | refine ev_ret ?_ | refine ev_exit ?_ | refine evc (fun X Y hX hY => ?_)); simp only [go_sem, reduceAdd, reduceSub, reduceMul, reduceEqDiff, reduceLeDiff, Nat.reduceBEq, reduceLT, reduceIte, reduceCtorEq, Int.reduceToNat]; try (first | (refine ⟨fun h => hX ?_, fun h => hY ?_⟩; clear hX hY) | (refine hX ?_; clear hX hY) | (refine hY ?_; clear hX hY)))
      | refine ev_block ?_
      | (apply hK; clear hK)
      | apply_assumption -exfalso -symm only [*]
      | (refine And.intro ?_ ?_; first | omega | assumption | (unfold maxLen; omega) | (simp only [decide_eq_true_eq, decide_eq_false_iff_not, Int.not_lt, Int.not_le] at h; omega))
      | ((first | apply callP | apply callPG | apply callP0); (case' hv => (simp only [go_sem, reduceAdd, reduceSub, reduceMul, reduceEqDiff, reduceLeDiff, Nat.reduceBEq, reduceLT, reduceIte, reduceCtorEq, Int.reduceToNat]; try exact rfl)); (case' hp => (first | refine' v1 | (refine' (fun hg => ?_); refine' v1) | refine' v2 | (refine' (fun hg => ?_); refine' v2))); (case' h => ((first | refine evOps_fin ?_ | refine And.intro ?_ (evD_fin ?_) | refine evD_fin ?_) <;> simp only [go_sem, reduceAdd, reduceSub, reduceMul, reduceEqDiff, reduceLeDiff, Nat.reduceBEq, reduceLT, reduceIte, reduceCtorEq, Int.reduceToNat])))
      | (refine callX ?_; (first | refine evOps_fin ?_ | refine And.intro ?_ (evD_fin ?_) | refine evD_fin ?_) <;> simp only [go_sem, reduceAdd, reduceSub, reduceMul, reduceEqDiff, reduceLeDiff, Nat.reduceBEq, reduceLT, reduceIte, reduceCtorEq, Int.reduceToNat])
  · rw [decide_eq_false hc] at v2 ⊢
    (refine pure_of_ev tt_ok Tryz.func20 rfl (by decide +kernel) (Nat.le_of_ble_eq_true rfl) ?_; simp only [Tryz.f20])
    repeat' first
      | refine ev_seq (fun K hK => ?_)
      | ((first | refine evrd (id := 1) hmix tt_ok false [([], true), ([], false), ([0], false), ([], false), ([], false), ([], false), ([], false), ([], false), ([], false), ([], false), ([], false), ([], false), ([], false), ([], false), ([], false)] (by decide +kernel) ?_ | refine evr tt_ok false ?_ | refine ev_skip ?_ | refine ev_ret ?_ | refine ev_exit ?_ | refine evc (fun X Y hX hY => ?_)); simp only [go_sem, reduceAdd, reduceSub, reduceMul, reduceEqDiff, reduceLeDiff, Nat.reduceBEq, reduceLT, reduceIte, reduceCtorEq, Int.reduceToNat]; try (first | (refine ⟨fun h => hX ?_, fun h => hY ?_⟩; clear hX hY) | (refine hX ?_; clear hX hY) | (refine hY ?_; clear hX hY)))
      | refine ev_block ?_
      | (apply hK; clear hK)
      | apply_assumption -exfalso -symm only [*]
      | (refine And.intro ?_ ?_; first | omega | assumption | (unfold maxLen; omega) | (simp only [decide_eq_true_eq, decide_eq_false_iff_not, Int.not_lt, Int.not_le] at h; omega))
      | ((first | apply callP | apply callPG | apply callP0); (case' hv => (simp only [go_sem, reduceAdd, reduceSub, reduceMul, reduceEqDiff, reduceLeDiff, Nat.reduceBEq, reduceLT, reduceIte, reduceCtorEq, Int.reduceToNat]; try exact rfl)); (case' hp => (first | refine' v1 | (refine' (fun hg => ?_); refine' v1) | refine' v2 | (refine' (fun hg => ?_); refine' v2))); (case' h => ((first | refine evOps_fin ?_ | refine And.intro ?_ (evD_fin ?_) | refine evD_fin ?_) <;> simp only [go_sem, reduceAdd, reduceSub, reduceMul, reduceEqDiff, reduceLeDiff, Nat.reduceBEq, reduceLT, reduceIte, reduceCtorEq, Int.reduceToNat])))
      | (refine callX ?_; (first | refine evOps_fin ?_ | refine And.intro ?_ (evD_fin ?_) | refine evD_fin ?_) <;> simp only [go_sem, reduceAdd, reduceSub, reduceMul, reduceEqDiff, reduceLeDiff, Nat.reduceBEq, reduceLT, reduceIte, reduceCtorEq, Int.reduceToNat])
def befM (a b : Cnd) : Prop := a.k < b.k ∨ a.k = b.k ∧ (a.y < b.y ∨ a.y = b.y ∧ a.x < b.x)
instance (a b : Cnd) : Decidable (befM a b) := by unfold befM; infer_instance
theorem before_pure (a b : Cnd) : Pure Tryz.prog 23 [.agg (enC a), .agg (enC b)] (.bool (decide (befM a b))) := by
  simp only [enC]
  by_cases e : a.k = b.k
  · have e1 : (a.k == b.k) = true := by rw [e]; exact beq_self_eq_true _
    (refine pure_of_ev tt_ok Tryz.func23 rfl (by decide +kernel) (Nat.le_of_ble_eq_true rfl) ?_; simp only [Tryz.f23])
    repeat' first
      | refine ev_seq (fun K hK => ?_)
      | ((first | refine evr tt_ok false ?_ | refine ev_skip ?_ | refine ev_ret ?_ | refine ev_exit ?_ | refine evc (fun X Y hX hY => ?_)); simp only [go_sem, reduceAdd, reduceSub, reduceMul, reduceEqDiff, reduceLeDiff, Nat.reduceBEq, reduceLT, reduceIte, reduceCtorEq, Int.reduceToNat, bne, e1]; try (first | (refine ⟨fun h => hX ?_, fun h => hY ?_⟩; clear hX hY) | (refine hX ?_; clear hX hY) | (refine hY ?_; clear hX hY)))
      | refine ev_block ?_
      | (apply hK; clear hK)
      | apply_assumption -exfalso -symm only [*]
      | (refine And.intro ?_ ?_; first | omega | assumption | (unfold maxLen; omega) | (simp only [decide_eq_true_eq, decide_eq_false_iff_not, Int.not_lt, Int.not_le] at h; omega))
    refine bool_dec ?_
    simp only [Bool.and_eq_true, Bool.or_eq_true, decide_eq_true_eq, beq_iff_eq, befM]; omega
  · have e1 : (a.k == b.k) = false := by rw [beq_eq_false_iff_ne]; exact e
    (refine pure_of_ev tt_ok Tryz.func23 rfl (by decide +kernel) (Nat.le_of_ble_eq_true rfl) ?_; simp only [Tryz.f23])
    repeat' first
      | refine ev_seq (fun K hK => ?_)
      | ((first | refine evr tt_ok false ?_ | refine ev_skip ?_ | refine ev_ret ?_ | refine ev_exit ?_ | refine evc (fun X Y hX hY => ?_)); simp only [go_sem, reduceAdd, reduceSub, reduceMul, reduceEqDiff, reduceLeDiff, Nat.reduceBEq, reduceLT, reduceIte, reduceCtorEq, Int.reduceToNat, bne, e1]; try (first | (refine ⟨fun h => hX ?_, fun h => hY ?_⟩; clear hX hY) | (refine hX ?_; clear hX hY) | (refine hY ?_; clear hX hY)))
      | refine ev_block ?_
      | (apply hK; clear hK)
      | apply_assumption -exfalso -symm only [*]
      | (refine And.intro ?_ ?_; first | omega | assumption | (unfold maxLen; omega) | (simp only [decide_eq_true_eq, decide_eq_false_iff_not, Int.not_lt, Int.not_le] at h; omega))
    refine bool_dec ?_
    simp only [decide_eq_true_eq, befM]; omega
def szM (l : Int) : Int := 2 ^ l.toNat
theorem sz_cases {l : Int} (h0 : 0 ≤ l) (h6 : l ≤ 6) : l = 0 ∨ l = 1 ∨ l = 2 ∨ l = 3 ∨ l = 4 ∨ l = 5 ∨ l = 6 := by omega
theorem sz_in {l : Int} (h0 : 0 ≤ l) (h6 : l ≤ 6) : 1 ≤ szM l ∧ szM l ≤ 64 := by
  rcases sz_cases h0 h6 with rfl | rfl | rfl | rfl | rfl | rfl | rfl <;> decide
def lastX (p : Prob) (b : Blc) : Int := min (b.x + (szM b.l - 1)) p.re
def lastY (p : Prob) (b : Blc) : Int := min (b.y + (szM b.l - 1)) p.re
theorem last_pure (p : Prob) (b : Blc) (h : p.ok) (hb : blkOk p b) : Pure Tryz.prog 49 [.agg (encP p), .agg (enBl b)] (.tup [.int .i64 (lastX p b), .int .i64 (lastY p b)]) := by
  obtain ⟨⟨c1, c2, c3, c4, c5, c6⟩, l0, l6⟩ := hb
  simp only at c1 c2 c3 c4 c5 c6
  have hr := h.2.2.2.2.2.1
  unfold lastX lastY
  have hs := sz_in l0 l6
  have w1 : IntKind.i64.wrap (szM b.l - 1) = szM b.l - 1 := w64 (by omega) (by omega)
  have w2 : IntKind.i64.wrap (b.x + (szM b.l - 1)) = b.x + (szM b.l - 1) := w64 (by omega) (by omega)
  have w3 : IntKind.i64.wrap (b.y + (szM b.l - 1)) = b.y + (szM b.l - 1) := w64 (by omega) (by omega)
  have hl : b.l < 64 := by omega
  have hsh : IntKind.i64.wrap (1 * 2 ^ b.l.toNat) = szM b.l := by rw [Int.one_mul]; exact w64 (by unfold szM at hs; omega) (by unfold szM at hs; omega)
  have hsh2 : IntKind.i64.wrap (2 ^ b.l.toNat) = szM b.l := by rw [Int.one_mul] at hsh; exact hsh
  have hbits : ((IntKind.i64.bits : Nat) : Int) = 64 := rfl
  simp only [encP, enBl]
  (refine pure_of_ev tt_ok Tryz.func49 rfl (by decide +kernel) (Nat.le_of_ble_eq_true rfl) ?_; simp only [Tryz.f49])
  repeat' first
    | refine ev_seq (fun K hK => ?_)
    | ((first | refine evrd (id := 2) hmix tt_ok false [([], false), ([], false), ([], false), ([], false), ([], false), ([], false), ([], false), ([], false), ([], false), ([], false), ([], false), ([], false), ([], false), ([], false), ([], false), ([], false)] (by decide +kernel) ?_ | refine evr tt_ok false ?_ | refine ev_skip ?_ | refine ev_ret ?_ | refine ev_exit ?_ | refine evc (fun X Y hX hY => ?_)); simp only [go_sem, reduceAdd, reduceSub, reduceMul, reduceEqDiff, reduceLeDiff, Nat.reduceBEq, reduceLT, reduceIte, reduceCtorEq, Int.reduceToNat, l0, hl, hbits, hsh, hsh2, w1, w2, w3, Int.one_mul]; try (first | (refine ⟨fun h => hX ?_, fun h => hY ?_⟩; clear hX hY) | (refine hX ?_; clear hX hY) | (refine hY ?_; clear hX hY)))
    | refine ev_block ?_
    | (apply hK; clear hK)
    | apply_assumption -exfalso -symm only [*]
    | (refine And.intro ?_ ?_; first | omega | assumption | (unfold maxLen; omega) | (simp only [decide_eq_true_eq, decide_eq_false_iff_not, Int.not_lt, Int.not_le] at h; omega))
def belM (b : Blc) (c : Cnd) : Prop := c.k = b.k ∧ b.x ≤ c.x ∧ c.x < b.x + szM b.l ∧ b.y ≤ c.y ∧ c.y < b.y + szM b.l
instance (b : Blc) (c : Cnd) : Decidable (belM b c) := by unfold belM; infer_instance
end Go.Proofs.YtbibplkhhdomnaaGreat
namespace Go.Proofs.YtbibplkhhdomnaaGreat
open Go Go.K
set_option maxRecDepth 20000
set_option maxHeartbeats 8000000
def ix (S k r c : Nat) : Nat := (k * S + r) * S + c
theorem ix_lt {S K k r c : Nat} (hk : k < K) (hr : r < S) (hc : c < S) : ix S k r c < S * (S * K) := lt_mul (lt_mul hk hr) hc
def Prob.S (p : Prob) : Nat := p.side.toNat
def Prob.K (p : Prob) : Nat := p.ct.toNat
def Prob.N (p : Prob) : Nat := p.S * (p.S * p.K)
structure WinOk (p : Prob) : Prop where
  s : ((p.S : Nat) : Int) = 2 * p.re + 1
  k : ((p.K : Nat) : Int) = p.ct
  n : p.N ≤ 16384
  r0 : 0 ≤ p.re
  r1 : p.re ≤ 31
  k1 : 1 ≤ p.K
  k2 : p.K ≤ 256
theorem winOk {p : Prob} (h : p.ok) : WinOk p := by
  obtain ⟨h1, h2, h3, h4, h5, h6, h7⟩ := h
  obtain ⟨a1, a2, a3, a4, a5⟩ := h3
  simp only at a1 a2 a3 a4
  have s : ((p.S : Nat) : Int) = 2 * p.re + 1 := by unfold Prob.S Prob.side; omega
  have k : ((p.K : Nat) : Int) = p.ct := by unfold Prob.K; omega
  refine ⟨s, k, ?_, h6.1, h6.2, by omega, by omega⟩
  unfold Prob.side at h7
  have : ((p.N : Nat) : Int) ≤ 16384 := by
    unfold Prob.N
    rw [Int.natCast_mul, Int.natCast_mul, s, k, Int.mul_comm, Int.mul_comm (2 * p.re + 1) p.ct]
    exact h7
  omega
def cndAt (p : Prob) (j : Nat) : Cnd := ⟨((j / p.S / p.S : Nat) : Int), ((j / p.S % p.S : Nat) : Int) - p.re, ((j % p.S : Nat) : Int) - p.re⟩
def allN (p : Prob) (n : Nat) : List Cnd := (List.range n).map (cndAt p)
def allL (p : Prob) : List Cnd := allN p p.N
theorem cnd_at (p : Prob) {k r c : Nat} (hr : r < p.S) (hc : c < p.S) : cndAt p (ix p.S k r c) = ⟨(k : Int), (r : Int) - p.re, (c : Int) - p.re⟩ := by
  unfold cndAt ix
  rw [(dm hc).1, (dm hc).2, (dm hr).1, (dm hr).2]
end Go.Proofs.YtbibplkhhdomnaaGreat
namespace Go.Proofs.YtbibplkhhdomnaaGreat
open Go Go.K
set_option maxRecDepth 20000
set_option maxHeartbeats 8000000
structure Mat where
  b : Cnd
  (px py ph sc : Int)
  l : List Blc
def encM (m : Mat) : List V := [.int .i64 m.b.k, .int .i64 m.b.y, .int .i64 m.b.x, .int .i64 m.px, .int .i64 m.py, .int .i64 m.ph, .int .i64 m.sc, .sl (m.l.map enBl)]
structure MaR where
  m : Mat
  e : Int
def encMa (r : MaR) : V := .tup [.agg (encM r.m), .int .i64 r.e]
def Mat.zero : Mat := ⟨⟨0, 0, 0⟩, 0, 0, 0, 0, []⟩
def toB (c : Cnd) : Blc := ⟨c.k, c.y, c.x, 0⟩
def enCB (c : Cnd) : List V := [.int .i64 c.k, .int .i64 c.y, .int .i64 c.x, .int .i64 0]
def trivM (p : Prob) (c : Cnd) : MaR := if p.ok then (if inW p c then ⟨⟨c, p.cx + 64 * c.x, p.cy + 64 * c.y, (p.fr + c.k) % 256, boundM p ⟨c.k, c.y, c.x, 0⟩, (allL p).map toB⟩, 0⟩ else ⟨Mat.zero, 2⟩) else ⟨Mat.zero, 1⟩
end Go.Proofs.YtbibplkhhdomnaaGreat
namespace Go.Proofs.YtbibplkhhdomnaaGreat
open Go Go.K
set_option maxRecDepth 20000
set_option maxHeartbeats 8000000
end Go.Proofs.YtbibplkhhdomnaaGreat
