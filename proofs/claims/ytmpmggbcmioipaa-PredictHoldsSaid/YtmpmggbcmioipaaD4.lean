import Derived.Test.YtmpmggbcmioipaaD3
import Derived.Test.YtmpmggbcmioipaaA4
import Derived.Test.YtmpmggbcmioipaaM3
import Derived.Test.YtmpmggbcmioipaaH9
set_option linter.all false
namespace Go.Proofs.Ytmpmggbcmioipaa
open Nat (reduceAdd reduceSub reduceMul reduceEqDiff reduceLeDiff reduceLT)
open Go Go.K
set_option maxRecDepth 20000
set_option maxHeartbeats 4000000
theorem arcM_ok' {f c : Int} (h : 1 ≤ c) : (arcM f c).ok := by
  unfold arcM; split
  · decide
  · unfold Arc.ok; simp only; omega
def turnedM (a : Arc) (t n : Int) : Arc := arcM ((arcM (a.f + t % 256) a.c).f - n) ((arcM (a.f + t % 256) a.c).c + 2 * n)
theorem turned_ok {a : Arc} (h : a.ok) {t n : Int} (hn : 0 ≤ n) : (turnedM a t n).ok := by
  have h1 : (arcM (a.f + t % 256) a.c).ok := arcM_ok' h.2.2.1
  have h2 := h1.2.2.1
  exact arcM_ok' (by omega)
theorem parc_pure (b : Box) : Pure Try.prog 47 [.agg [.int .i64 b.x0, .int .i64 b.y0, .int .i64 b.x1, .int .i64 b.y1, .int .i64 b.f, .int .i64 b.c]] (.agg [.int .i64 b.f, .int .i64 b.c]) := by
  (refine pure_of_ev tt_ok Try.func47 rfl (by decide +kernel) (Nat.le_of_ble_eq_true rfl) ?_; simp only [Try.f47])
  repeat' first
    | refine ev_seq (fun K hK => ?_)
    | ((first | refine evr tt_ok false ?_ | refine ev_skip ?_ | refine ev_ret ?_ | refine ev_exit ?_ | refine evc (fun X Y hX hY => ?_)); simp only [go_sem, reduceAdd, reduceSub, reduceMul, reduceEqDiff, reduceLeDiff, Nat.reduceBEq, reduceLT, reduceIte, reduceCtorEq, Int.reduceToNat]; try (first | (refine ⟨fun h => hX ?_, fun h => hY ?_⟩; clear hX hY) | (refine hX ?_; clear hX hY) | (refine hY ?_; clear hX hY)))
    | refine ev_block ?_
    | (apply hK; clear hK)
    | apply_assumption -exfalso -symm only [*]
    | (refine And.intro ?_ ?_; first | omega | assumption | (unfold maxLen; omega) | (simp only [decide_eq_true_eq, decide_eq_false_iff_not, Int.not_lt, Int.not_le] at h; omega))
theorem rparc_pure (b : Box) : Pure Try.prog 81 [.agg [.int .i64 b.x0, .int .i64 b.y0, .int .i64 b.x1, .int .i64 b.y1, .int .i64 b.f, .int .i64 b.c]] (.agg [.int .i64 b.f, .int .i64 b.c]) := by
  (refine pure_of_ev tt_ok Try.func81 rfl (by decide +kernel) (Nat.le_of_ble_eq_true rfl) ?_; simp only [Try.f81])
  repeat' first
    | refine ev_seq (fun K hK => ?_)
    | ((first | refine evr tt_ok false ?_ | refine ev_skip ?_ | refine ev_ret ?_ | refine ev_exit ?_ | refine evc (fun X Y hX hY => ?_)); simp only [go_sem, reduceAdd, reduceSub, reduceMul, reduceEqDiff, reduceLeDiff, Nat.reduceBEq, reduceLT, reduceIte, reduceCtorEq, Int.reduceToNat]; try (first | (refine ⟨fun h => hX ?_, fun h => hY ?_⟩; clear hX hY) | (refine hX ?_; clear hX hY) | (refine hY ?_; clear hX hY)))
    | refine ev_block ?_
    | (apply hK; clear hK)
    | apply_assumption -exfalso -symm only [*]
    | (refine And.intro ?_ ?_; first | omega | assumption | (unfold maxLen; omega) | (simp only [decide_eq_true_eq, decide_eq_false_iff_not, Int.not_lt, Int.not_le] at h; omega))
theorem pturned_pure (b : Box) (t n : Int) (hb : b.ok) (hn : 0 ≤ n ∧ n ≤ 256) : Pure Try.prog 49 [.agg [.int .i64 b.x0, .int .i64 b.y0, .int .i64 b.x1, .int .i64 b.y1, .int .i64 b.f, .int .i64 b.c], .int .i64 t, .int .i64 n] (.agg [.int .i64 (turnedM ⟨b.f, b.c⟩ t n).f, .int .i64 (turnedM ⟨b.f, b.c⟩ t n).c]) := by
  have ha : (Arc.mk b.f b.c).ok := hb.2.2.2.2.2.2
  have s1 := shift_pure ⟨b.f, b.c⟩ t
  unfold shiftM at s1
  rw [if_pos ha] at s1
  have h1 : (arcM (b.f + t % 256) b.c).ok := arcM_ok' ha.2.2.1
  have g1 := grow_pure (arcM (b.f + t % 256) b.c) n
  unfold growM at g1
  rw [if_pos h1, if_neg (by omega)] at g1
  simp only [encAR, encArc] at s1 g1
  (refine pure_of_ev tt_ok Try.func49 rfl (by decide +kernel) (Nat.le_of_ble_eq_true rfl) ?_; simp only [Try.f49])
  repeat' first
    | refine ev_seq (fun K hK => ?_)
    | ((first | refine evr tt_ok false ?_ | refine ev_skip ?_ | refine ev_ret ?_ | refine ev_exit ?_ | refine evc (fun X Y hX hY => ?_)); simp only [go_sem, reduceAdd, reduceSub, reduceMul, reduceEqDiff, reduceLeDiff, Nat.reduceBEq, reduceLT, reduceIte, reduceCtorEq, Int.reduceToNat]; try (first | (refine ⟨fun h => hX ?_, fun h => hY ?_⟩; clear hX hY) | (refine hX ?_; clear hX hY) | (refine hY ?_; clear hX hY)))
    | refine ev_block ?_
    | (apply hK; clear hK)
    | apply_assumption -exfalso -symm only [*]
    | (refine And.intro ?_ ?_; first | omega | assumption | (unfold maxLen; omega) | (simp only [decide_eq_true_eq, decide_eq_false_iff_not, Int.not_lt, Int.not_le] at h; omega))
    | ((first | apply callP | apply callPG | apply callP0); (case' hv => (simp only [go_sem, reduceAdd, reduceSub, reduceMul, reduceEqDiff, reduceLeDiff, Nat.reduceBEq, reduceLT, reduceIte, reduceCtorEq, Int.reduceToNat]; try exact rfl)); (case' hp => (first | refine' parc_pure b | (refine' (fun hg => ?_); refine' parc_pure b) | refine' s1 | (refine' (fun hg => ?_); refine' s1) | refine' g1 | (refine' (fun hg => ?_); refine' g1))); (case' h => ((first | refine evOps_fin ?_ | refine And.intro ?_ (evD_fin ?_) | refine evD_fin ?_) <;> simp only [go_sem, reduceAdd, reduceSub, reduceMul, reduceEqDiff, reduceLeDiff, Nat.reduceBEq, reduceLT, reduceIte, reduceCtorEq, Int.reduceToNat])))
    | (refine callX ?_; (first | refine evOps_fin ?_ | refine And.intro ?_ (evD_fin ?_) | refine evD_fin ?_) <;> simp only [go_sem, reduceAdd, reduceSub, reduceMul, reduceEqDiff, reduceLeDiff, Nat.reduceBEq, reduceLT, reduceIte, reduceCtorEq, Int.reduceToNat])
  all_goals rfl
theorem rturned_pure (a : Arc) (t n : Int) (ha : a.ok) (hn : 0 ≤ n ∧ n ≤ 256) : Pure Try.prog 80 [.agg [.int .i64 a.f, .int .i64 a.c], .int .i64 t, .int .i64 n] (.agg [.int .i64 (turnedM a t n).f, .int .i64 (turnedM a t n).c]) := by
  have s1 := rshift_pure a t
  unfold shiftM at s1
  rw [if_pos ha] at s1
  have h1 : (arcM (a.f + t % 256) a.c).ok := arcM_ok' ha.2.2.1
  have g1 := rgrow_pure (arcM (a.f + t % 256) a.c) n
  unfold growM at g1
  rw [if_pos h1, if_neg (by omega)] at g1
  simp only [encAR, encArc] at s1 g1
  (refine pure_of_ev tt_ok Try.func80 rfl (by decide +kernel) (Nat.le_of_ble_eq_true rfl) ?_; simp only [Try.f80])
  repeat' first
    | refine ev_seq (fun K hK => ?_)
    | ((first | refine evr tt_ok false ?_ | refine ev_skip ?_ | refine ev_ret ?_ | refine ev_exit ?_ | refine evc (fun X Y hX hY => ?_)); simp only [go_sem, reduceAdd, reduceSub, reduceMul, reduceEqDiff, reduceLeDiff, Nat.reduceBEq, reduceLT, reduceIte, reduceCtorEq, Int.reduceToNat]; try (first | (refine ⟨fun h => hX ?_, fun h => hY ?_⟩; clear hX hY) | (refine hX ?_; clear hX hY) | (refine hY ?_; clear hX hY)))
    | refine ev_block ?_
    | (apply hK; clear hK)
    | apply_assumption -exfalso -symm only [*]
    | (refine And.intro ?_ ?_; first | omega | assumption | (unfold maxLen; omega) | (simp only [decide_eq_true_eq, decide_eq_false_iff_not, Int.not_lt, Int.not_le] at h; omega))
    | ((first | apply callP | apply callPG | apply callP0); (case' hv => (simp only [go_sem, reduceAdd, reduceSub, reduceMul, reduceEqDiff, reduceLeDiff, Nat.reduceBEq, reduceLT, reduceIte, reduceCtorEq, Int.reduceToNat]; try exact rfl)); (case' hp => (first | refine' s1 | (refine' (fun hg => ?_); refine' s1) | refine' g1 | (refine' (fun hg => ?_); refine' g1))); (case' h => ((first | refine evOps_fin ?_ | refine And.intro ?_ (evD_fin ?_) | refine evD_fin ?_) <;> simp only [go_sem, reduceAdd, reduceSub, reduceMul, reduceEqDiff, reduceLeDiff, Nat.reduceBEq, reduceLT, reduceIte, reduceCtorEq, Int.reduceToNat])))
    | (refine callX ?_; (first | refine evOps_fin ?_ | refine And.intro ?_ (evD_fin ?_) | refine evD_fin ?_) <;> simp only [go_sem, reduceAdd, reduceSub, reduceMul, reduceEqDiff, reduceLeDiff, Nat.reduceBEq, reduceLT, reduceIte, reduceCtorEq, Int.reduceToNat])
  all_goals rfl
theorem pvalid_pure (b : Box) (c : Cmd) (d : Bounds) : Pure Try.prog 45 [.agg [.int .i64 b.x0, .int .i64 b.y0, .int .i64 b.x1, .int .i64 b.y1, .int .i64 b.f, .int .i64 b.c], .agg [.int .i64 c.t, .int .i64 c.f], .agg [.int .i64 d.t, .int .i64 d.l, .int .i64 d.s, .int .i64 d.r]] (.bool (decide b.ok && decide c.ok && decide d.ok)) := by
  (refine pure_of_ev tt_ok Try.func45 rfl (by decide +kernel) (Nat.le_of_ble_eq_true rfl) ?_; simp only [Try.f45])
  repeat' first
    | refine ev_seq (fun K hK => ?_)
    | ((first | refine evr tt_ok false ?_ | refine ev_skip ?_ | refine ev_ret ?_ | refine ev_exit ?_ | refine evc (fun X Y hX hY => ?_)); simp only [go_sem, reduceAdd, reduceSub, reduceMul, reduceEqDiff, reduceLeDiff, Nat.reduceBEq, reduceLT, reduceIte, reduceCtorEq, Int.reduceToNat]; try (first | (refine ⟨fun h => hX ?_, fun h => hY ?_⟩; clear hX hY) | (refine hX ?_; clear hX hY) | (refine hY ?_; clear hX hY)))
    | refine ev_block ?_
    | (apply hK; clear hK)
    | apply_assumption -exfalso -symm only [*]
    | (refine And.intro ?_ ?_; first | omega | assumption | (unfold maxLen; omega) | (simp only [decide_eq_true_eq, decide_eq_false_iff_not, Int.not_lt, Int.not_le] at h; omega))
    | ((first | apply callP | apply callPG | apply callP0); (case' hv => (simp only [go_sem, reduceAdd, reduceSub, reduceMul, reduceEqDiff, reduceLeDiff, Nat.reduceBEq, reduceLT, reduceIte, reduceCtorEq, Int.reduceToNat]; try exact rfl)); (case' hp => (first | refine' vbox_pure b | (refine' (fun hg => ?_); refine' vbox_pure b) | refine' vcmd_pure c | (refine' (fun hg => ?_); refine' vcmd_pure c) | refine' vbounds_pure d | (refine' (fun hg => ?_); refine' vbounds_pure d))); (case' h => ((first | refine evOps_fin ?_ | refine And.intro ?_ (evD_fin ?_) | refine evD_fin ?_) <;> simp only [go_sem, reduceAdd, reduceSub, reduceMul, reduceEqDiff, reduceLeDiff, Nat.reduceBEq, reduceLT, reduceIte, reduceCtorEq, Int.reduceToNat])))
    | (refine callX ?_; (first | refine evOps_fin ?_ | refine And.intro ?_ (evD_fin ?_) | refine evD_fin ?_) <;> simp only [go_sem, reduceAdd, reduceSub, reduceMul, reduceEqDiff, reduceLeDiff, Nat.reduceBEq, reduceLT, reduceIte, reduceCtorEq, Int.reduceToNat])
theorem rright_pure (b : Box) (c : Cmd) (d : Bounds) : Pure Try.prog 79 [.agg [.int .i64 b.x0, .int .i64 b.y0, .int .i64 b.x1, .int .i64 b.y1, .int .i64 b.f, .int .i64 b.c], .agg [.int .i64 c.t, .int .i64 c.f], .agg [.int .i64 d.t, .int .i64 d.l, .int .i64 d.s, .int .i64 d.r]] (.bool (decide b.ok && decide c.ok && decide d.ok)) := by
  (refine pure_of_ev tt_ok Try.func79 rfl (by decide +kernel) (Nat.le_of_ble_eq_true rfl) ?_; simp only [Try.f79])
  repeat' first
    | refine ev_seq (fun K hK => ?_)
    | ((first | refine evr tt_ok false ?_ | refine ev_skip ?_ | refine ev_ret ?_ | refine ev_exit ?_ | refine evc (fun X Y hX hY => ?_)); simp only [go_sem, reduceAdd, reduceSub, reduceMul, reduceEqDiff, reduceLeDiff, Nat.reduceBEq, reduceLT, reduceIte, reduceCtorEq, Int.reduceToNat]; try (first | (refine ⟨fun h => hX ?_, fun h => hY ?_⟩; clear hX hY) | (refine hX ?_; clear hX hY) | (refine hY ?_; clear hX hY)))
    | refine ev_block ?_
    | (apply hK; clear hK)
    | apply_assumption -exfalso -symm only [*]
    | (refine And.intro ?_ ?_; first | omega | assumption | (unfold maxLen; omega) | (simp only [decide_eq_true_eq, decide_eq_false_iff_not, Int.not_lt, Int.not_le] at h; omega))
    | ((first | apply callP | apply callPG | apply callP0); (case' hv => (simp only [go_sem, reduceAdd, reduceSub, reduceMul, reduceEqDiff, reduceLeDiff, Nat.reduceBEq, reduceLT, reduceIte, reduceCtorEq, Int.reduceToNat]; try exact rfl)); (case' hp => (first | refine' boxB_pure b | (refine' (fun hg => ?_); refine' boxB_pure b) | refine' bcmd_pure c | (refine' (fun hg => ?_); refine' bcmd_pure c) | refine' bbounds_pure d | (refine' (fun hg => ?_); refine' bbounds_pure d))); (case' h => ((first | refine evOps_fin ?_ | refine And.intro ?_ (evD_fin ?_) | refine evD_fin ?_) <;> simp only [go_sem, reduceAdd, reduceSub, reduceMul, reduceEqDiff, reduceLeDiff, Nat.reduceBEq, reduceLT, reduceIte, reduceCtorEq, Int.reduceToNat])))
    | (refine callX ?_; (first | refine evOps_fin ?_ | refine And.intro ?_ (evD_fin ?_) | refine evD_fin ?_) <;> simp only [go_sem, reduceAdd, reduceSub, reduceMul, reduceEqDiff, reduceLeDiff, Nat.reduceBEq, reduceLT, reduceIte, reduceCtorEq, Int.reduceToNat])
def outR (f l s : Int) (a : Arc) : Nat → Rect
  | 0 => Rect.zero
  | i + 1 => reachU f l s a i
theorem preach_pure (c : Cmd) (b : Bounds) (a : Arc) (hc : c.ok) (hb : b.ok) (ha : a.ok) : Pure Try.prog 46 [.agg [.int .i64 c.t, .int .i64 c.f], .agg [.int .i64 b.t, .int .i64 b.l, .int .i64 b.s, .int .i64 b.r], .agg [.int .i64 a.f, .int .i64 a.c]] (.agg [.int .i64 (reachA c.f b.l b.s a).x0, .int .i64 (reachA c.f b.l b.s a).y0, .int .i64 (reachA c.f b.l b.s a).x1, .int .i64 (reachA c.f b.l b.s a).y1]) := by
  have l1 := list_pure a ha
  obtain ⟨a1, a2, a3, a4, a5⟩ := id ha
  obtain ⟨n, hn⟩ : ∃ n, a.c.toNat = n + 1 := ⟨a.c.toNat - 1, by omega⟩
  have hlen : (listM a).length = n + 1 := by rw [listM_len, hn]
  have hA : reachA c.f b.l b.s a = reachU c.f b.l b.s a n := by unfold reachA; rw [show (a.c - 1).toNat = n by omega]
  have ms : ∀ x : Int, min x x = x := fun x => by omega
  have Ms : ∀ x : Int, max x x = x := fun x => by omega
  have get : ∀ i : Nat, i ≤ n → ((listM a).map enI).getD i [.int .i64 0] = [.int .i64 ((a.f + i) % 256)] := by
    intro i hi
    rw [int_get2, listM_get a (by omega)]
  rw [hA]
  (refine pure_of_ev tt_ok Try.func46 rfl (by decide +kernel) (Nat.le_of_ble_eq_true rfl) ?_; simp only [Try.f46])
  repeat' first
    | refine ev_seq (fun K hK => ?_)
    | ((first | refine evr tt_ok false ?_ | refine ev_skip ?_ | refine ev_ret ?_ | refine ev_exit ?_ | refine evc (fun X Y hX hY => ?_)); simp only [go_sem, reduceAdd, reduceSub, reduceMul, reduceEqDiff, reduceLeDiff, Nat.reduceBEq, reduceLT, reduceIte, reduceCtorEq, Int.reduceToNat, List.length_map, hlen]; try (first | (refine ⟨fun h => hX ?_, fun h => hY ?_⟩; clear hX hY) | (refine hX ?_; clear hX hY) | (refine hY ?_; clear hX hY)))
    | refine ev_block ?_
    | (apply hK; clear hK)
    | apply_assumption -exfalso -symm only [*]
    | (refine And.intro ?_ ?_; first | omega | assumption | (unfold maxLen; omega) | (simp only [decide_eq_true_eq, decide_eq_false_iff_not, Int.not_lt, Int.not_le] at h; omega))
    | ((first | apply callP | apply callPG | apply callP0); (case' hv => (simp only [go_sem, reduceAdd, reduceSub, reduceMul, reduceEqDiff, reduceLeDiff, Nat.reduceBEq, reduceLT, reduceIte, reduceCtorEq, Int.reduceToNat, List.length_map, hlen]; try exact rfl)); (case' hp => (first | refine' l1 | (refine' (fun hg => ?_); refine' l1))); (case' h => ((first | refine evOps_fin ?_ | refine And.intro ?_ (evD_fin ?_) | refine evD_fin ?_) <;> simp only [go_sem, reduceAdd, reduceSub, reduceMul, reduceEqDiff, reduceLeDiff, Nat.reduceBEq, reduceLT, reduceIte, reduceCtorEq, Int.reduceToNat, List.length_map, hlen])))
    | (refine callX ?_; (first | refine evOps_fin ?_ | refine And.intro ?_ (evD_fin ?_) | refine evD_fin ?_) <;> simp only [go_sem, reduceAdd, reduceSub, reduceMul, reduceEqDiff, reduceLeDiff, Nat.reduceBEq, reduceLT, reduceIte, reduceCtorEq, Int.reduceToNat, List.length_map, hlen])
  refine ev_loop (fun i : Nat => i ≤ n + 1)
    (fun i => ⟨53, [(15, .int .i64 i), (14, .int .i64 ((n + 1 : Nat) : Int)), (13, .sl (List.map enI (listM a))), (7, .own 4 0 0 0), (6, .own 3 0 0 0), (4, .own 1 0 0 0), (3, .own 0 0 0 0)],
      [.blk 35 0 2 [[.int .i64 c.t, .int .i64 c.f]], .blk 37 0 4 [[.int .i64 b.t, .int .i64 b.l, .int .i64 b.s, .int .i64 b.r]], .blk 74 0 2 [[.int .i64 a.f, .int .i64 a.c]], .blk 78 0 4 [[.int .i64 0, .int .i64 0, .int .i64 0, .int .i64 0]], .blk 78 0 4 [[.int .i64 (outR c.f b.l b.s a i).x0, .int .i64 (outR c.f b.l b.s a i).y0, .int .i64 (outR c.f b.l b.s a i).x1, .int .i64 (outR c.f b.l b.s a i).y1]]]⟩)
    (fun i => n + 1 - i) 0 (Nat.zero_le _) ?_ ?_
  · simp only [go_sem, reduceAdd, reduceSub, reduceMul, reduceEqDiff, reduceLeDiff, Nat.reduceBEq, reduceLT, reduceIte, reduceCtorEq, Int.reduceToNat, fits, fitT, fitOs, fitO, V.under, unders, rowsUnder]
    repeat' first | rfl | apply And.intro
  · intro i hi
    have hb0 : 0 ≤ (i : Int) := by omega
    have hw : IntKind.i64.wrap ((i : Int) + 1) = ((i + 1 : Nat) : Int) := by rw [w64] <;> omega
    by_cases hlt : (i : Int) < ((n + 1 : Nat) : Int)
    · have hg := get i (by omega)
      have r1 := reach_pure c b ((a.f + i) % 256) hc hb (by omega)
      rcases i with _ | j
      · have e0 : (a.f + ((0 : Nat) : Int)) % 256 = a.f % 256 := by simp
        rw [e0] at hg r1
        have hz : (((0 : Nat) : Int) == 0) = true := rfl
        repeat' first
          | refine ev_seq (fun K hK => ?_)
          | ((first | refine evr tt_ok false ?_ | refine ev_skip ?_ | refine ev_ret ?_ | refine ev_exit ?_ | refine evc (fun X Y hX hY => ?_)); simp only [go_sem, reduceAdd, reduceSub, reduceMul, reduceEqDiff, reduceLeDiff, Nat.reduceBEq, reduceLT, reduceIte, reduceCtorEq, Int.reduceToNat, List.length_map, hlen, hb0, hlt, hw, hg, Int.toNat_natCast, hz, ms, Ms]; try (first | (refine ⟨fun h => hX ?_, fun h => hY ?_⟩; clear hX hY) | (refine hX ?_; clear hX hY) | (refine hY ?_; clear hX hY)))
          | refine ev_block ?_
          | (apply hK; clear hK)
          | apply_assumption -exfalso -symm only [*]
          | (refine And.intro ?_ ?_; first | omega | assumption | (unfold maxLen; omega) | (simp only [decide_eq_true_eq, decide_eq_false_iff_not, Int.not_lt, Int.not_le] at h; omega))
          | ((first | apply callP | apply callPG | apply callP0); (case' hv => (simp only [go_sem, reduceAdd, reduceSub, reduceMul, reduceEqDiff, reduceLeDiff, Nat.reduceBEq, reduceLT, reduceIte, reduceCtorEq, Int.reduceToNat, List.length_map, hlen, hb0, hlt, hw, hg, Int.toNat_natCast, hz, ms, Ms]; try exact rfl)); (case' hp => (first | refine' r1 | (refine' (fun hg => ?_); refine' r1))); (case' h => ((first | refine evOps_fin ?_ | refine And.intro ?_ (evD_fin ?_) | refine evD_fin ?_) <;> simp only [go_sem, reduceAdd, reduceSub, reduceMul, reduceEqDiff, reduceLeDiff, Nat.reduceBEq, reduceLT, reduceIte, reduceCtorEq, Int.reduceToNat, List.length_map, hlen, hb0, hlt, hw, hg, Int.toNat_natCast, hz, ms, Ms])))
          | (refine callX ?_; (first | refine evOps_fin ?_ | refine And.intro ?_ (evD_fin ?_) | refine evD_fin ?_) <;> simp only [go_sem, reduceAdd, reduceSub, reduceMul, reduceEqDiff, reduceLeDiff, Nat.reduceBEq, reduceLT, reduceIte, reduceCtorEq, Int.reduceToNat, List.length_map, hlen, hb0, hlt, hw, hg, Int.toNat_natCast, hz, ms, Ms])
        refine ⟨0 + 1, by omega, ?_, by omega⟩
        repeat' first | rfl | apply And.intro
      · have hz : (((j + 1 : Nat) : Int) == 0) = false := by rw [beq_eq_false_iff_ne]; omega
        repeat' first
          | refine ev_seq (fun K hK => ?_)
          | ((first | refine evr tt_ok false ?_ | refine ev_skip ?_ | refine ev_ret ?_ | refine ev_exit ?_ | refine evc (fun X Y hX hY => ?_)); simp only [go_sem, reduceAdd, reduceSub, reduceMul, reduceEqDiff, reduceLeDiff, Nat.reduceBEq, reduceLT, reduceIte, reduceCtorEq, Int.reduceToNat, List.length_map, hlen, hb0, hlt, hw, hg, Int.toNat_natCast, hz]; try (first | (refine ⟨fun h => hX ?_, fun h => hY ?_⟩; clear hX hY) | (refine hX ?_; clear hX hY) | (refine hY ?_; clear hX hY)))
          | refine ev_block ?_
          | (apply hK; clear hK)
          | apply_assumption -exfalso -symm only [*]
          | (refine And.intro ?_ ?_; first | omega | assumption | (unfold maxLen; omega) | (simp only [decide_eq_true_eq, decide_eq_false_iff_not, Int.not_lt, Int.not_le] at h; omega))
          | ((first | apply callP | apply callPG | apply callP0); (case' hv => (simp only [go_sem, reduceAdd, reduceSub, reduceMul, reduceEqDiff, reduceLeDiff, Nat.reduceBEq, reduceLT, reduceIte, reduceCtorEq, Int.reduceToNat, List.length_map, hlen, hb0, hlt, hw, hg, Int.toNat_natCast, hz]; try exact rfl)); (case' hp => (first | refine' r1 | (refine' (fun hg => ?_); refine' r1))); (case' h => ((first | refine evOps_fin ?_ | refine And.intro ?_ (evD_fin ?_) | refine evD_fin ?_) <;> simp only [go_sem, reduceAdd, reduceSub, reduceMul, reduceEqDiff, reduceLeDiff, Nat.reduceBEq, reduceLT, reduceIte, reduceCtorEq, Int.reduceToNat, List.length_map, hlen, hb0, hlt, hw, hg, Int.toNat_natCast, hz])))
          | (refine callX ?_; (first | refine evOps_fin ?_ | refine And.intro ?_ (evD_fin ?_) | refine evD_fin ?_) <;> simp only [go_sem, reduceAdd, reduceSub, reduceMul, reduceEqDiff, reduceLeDiff, Nat.reduceBEq, reduceLT, reduceIte, reduceCtorEq, Int.reduceToNat, List.length_map, hlen, hb0, hlt, hw, hg, Int.toNat_natCast, hz])
        refine ⟨j + 1 + 1, by omega, ?_, by omega⟩
        repeat' first | rfl | apply And.intro
    · obtain rfl : i = n + 1 := by omega
      repeat' first
        | refine ev_seq (fun K hK => ?_)
        | ((first | refine evr tt_ok false ?_ | refine ev_skip ?_ | refine ev_ret ?_ | refine ev_exit ?_ | refine evc (fun X Y hX hY => ?_)); simp only [go_sem, reduceAdd, reduceSub, reduceMul, reduceEqDiff, reduceLeDiff, Nat.reduceBEq, reduceLT, reduceIte, reduceCtorEq, Int.reduceToNat, hlt]; try (first | (refine ⟨fun h => hX ?_, fun h => hY ?_⟩; clear hX hY) | (refine hX ?_; clear hX hY) | (refine hY ?_; clear hX hY)))
        | refine ev_block ?_
        | (apply hK; clear hK)
        | apply_assumption -exfalso -symm only [*]
        | (refine And.intro ?_ ?_; first | omega | assumption | (unfold maxLen; omega) | (simp only [decide_eq_true_eq, decide_eq_false_iff_not, Int.not_lt, Int.not_le] at h; omega))
      all_goals rfl
theorem rrreach_pure (c : Cmd) (b : Bounds) (a : Arc) (hc : c.ok) (hb : b.ok) (ha : a.ok) : Pure Try.prog 83 [.agg [.int .i64 c.t, .int .i64 c.f], .agg [.int .i64 b.t, .int .i64 b.l, .int .i64 b.s, .int .i64 b.r], .agg [.int .i64 a.f, .int .i64 a.c]] (.agg [.int .i64 (reachA c.f b.l b.s a).x0, .int .i64 (reachA c.f b.l b.s a).y0, .int .i64 (reachA c.f b.l b.s a).x1, .int .i64 (reachA c.f b.l b.s a).y1]) := by
  have l1 := rlist_pure a ha
  obtain ⟨a1, a2, a3, a4, a5⟩ := id ha
  obtain ⟨n, hn⟩ : ∃ n, a.c.toNat = n + 1 := ⟨a.c.toNat - 1, by omega⟩
  have hlen : (listM a).length = n + 1 := by rw [listM_len, hn]
  have hA : reachA c.f b.l b.s a = reachU c.f b.l b.s a n := by unfold reachA; rw [show (a.c - 1).toNat = n by omega]
  have get : ∀ i : Nat, i ≤ n → ((listM a).map enI).getD i [.int .i64 0] = [.int .i64 ((a.f + i) % 256)] := by
    intro i hi
    rw [int_get2, listM_get a (by omega)]
  have g0 := get 0 (by omega)
  rw [show (a.f + ((0 : Nat) : Int)) % 256 = a.f % 256 by simp] at g0
  have hpos : (0 : Int) < ((n + 1 : Nat) : Int) := by omega
  have r0 := rreach_pure c b (a.f % 256) hc hb (by omega)
  rw [hA]
  (refine pure_of_ev tt_ok Try.func83 rfl (by decide +kernel) (Nat.le_of_ble_eq_true rfl) ?_; simp only [Try.f83])
  repeat' first
    | refine ev_seq (fun K hK => ?_)
    | ((first | refine evrd (id := 2) hmix tt_ok false [([], true), ([], true), ([], true), ([], true), ([], true), ([], true), ([], true), ([], true), ([], true), ([0, 1, 2, 3, 4, 5, 6, 7, 8], false), ([8], false), ([], false)] (by decide +kernel) ?_ | refine evrd (id := 6) hmix tt_ok false [([], true), ([], true), ([], true), ([], true), ([], true), ([], true), ([], true), ([], true), ([], true), ([], true), ([0, 1, 2, 3, 4, 5, 6, 7, 8, 9], false), ([9], false), ([], false)] (by decide +kernel) ?_ | refine evr tt_ok false ?_ | refine ev_skip ?_ | refine ev_ret ?_ | refine ev_exit ?_ | refine evc (fun X Y hX hY => ?_)); simp only [go_sem, reduceAdd, reduceSub, reduceMul, reduceEqDiff, reduceLeDiff, Nat.reduceBEq, reduceLT, reduceIte, reduceCtorEq, Int.reduceToNat, List.length_map, hlen, hpos, g0]; try (first | (refine ⟨fun h => hX ?_, fun h => hY ?_⟩; clear hX hY) | (refine hX ?_; clear hX hY) | (refine hY ?_; clear hX hY)))
    | refine ev_block ?_
    | (apply hK; clear hK)
    | apply_assumption -exfalso -symm only [*]
    | (refine And.intro ?_ ?_; first | omega | assumption | (unfold maxLen; omega) | (simp only [decide_eq_true_eq, decide_eq_false_iff_not, Int.not_lt, Int.not_le] at h; omega))
    | ((first | apply callP | apply callPG | apply callP0); (case' hv => (simp only [go_sem, reduceAdd, reduceSub, reduceMul, reduceEqDiff, reduceLeDiff, Nat.reduceBEq, reduceLT, reduceIte, reduceCtorEq, Int.reduceToNat, List.length_map, hlen, hpos, g0]; try exact rfl)); (case' hp => (first | refine' l1 | (refine' (fun hg => ?_); refine' l1) | refine' r0 | (refine' (fun hg => ?_); refine' r0))); (case' h => ((first | refine evOps_fin ?_ | refine And.intro ?_ (evD_fin ?_) | refine evD_fin ?_) <;> simp only [go_sem, reduceAdd, reduceSub, reduceMul, reduceEqDiff, reduceLeDiff, Nat.reduceBEq, reduceLT, reduceIte, reduceCtorEq, Int.reduceToNat, List.length_map, hlen, hpos, g0])))
    | (refine callX ?_; (first | refine evOps_fin ?_ | refine And.intro ?_ (evD_fin ?_) | refine evD_fin ?_) <;> simp only [go_sem, reduceAdd, reduceSub, reduceMul, reduceEqDiff, reduceLeDiff, Nat.reduceBEq, reduceLT, reduceIte, reduceCtorEq, Int.reduceToNat, List.length_map, hlen, hpos, g0])
  refine ev_loop (fun i : Nat => i ≤ n)
    (fun i => ⟨62, [(10, .int .i64 ((i + 1 : Nat) : Int)), (8, .own 4 0 0 0), (7, .sl (List.map enI (listM a))), (6, .own 3 0 0 0), (4, .own 1 0 0 0), (3, .own 0 0 0 0)],
      [.blk 35 0 2 [[.int .i64 c.t, .int .i64 c.f]], .blk 37 0 4 [[.int .i64 b.t, .int .i64 b.l, .int .i64 b.s, .int .i64 b.r]], .blk 74 0 2 [[.int .i64 a.f, .int .i64 a.c]], .blk 78 0 4 [[.int .i64 0, .int .i64 0, .int .i64 0, .int .i64 0]], .blk 78 0 4 [[.int .i64 (reachU c.f b.l b.s a i).x0, .int .i64 (reachU c.f b.l b.s a i).y0, .int .i64 (reachU c.f b.l b.s a i).x1, .int .i64 (reachU c.f b.l b.s a i).y1]]]⟩)
    (fun i => n - i) 0 (Nat.zero_le _) ?_ ?_
  · simp only [go_sem, reduceAdd, reduceSub, reduceMul, reduceEqDiff, reduceLeDiff, Nat.reduceBEq, reduceLT, reduceIte, reduceCtorEq, Int.reduceToNat, fits, fitT, fitOs, fitO, V.under, unders, rowsUnder]
    repeat' first | rfl | apply And.intro
  · intro i hi
    have hb0 : 0 ≤ ((i + 1 : Nat) : Int) := by omega
    have hw : IntKind.i64.wrap (((i + 1 : Nat) : Int) + 1) = ((i + 1 + 1 : Nat) : Int) := by rw [w64] <;> omega
    by_cases hlt : ((i + 1 : Nat) : Int) < ((n + 1 : Nat) : Int)
    · have hg := get (i + 1) (by omega)
      have r1 := rreach_pure c b ((a.f + (i + 1 : Nat)) % 256) hc hb (by omega)
      repeat' first
        | refine ev_seq (fun K hK => ?_)
        | ((first | refine evrd (id := 2) hmix tt_ok false [([], true), ([], true), ([], true), ([], true), ([], true), ([], true), ([], true), ([], true), ([], true), ([0, 1, 2, 3, 4, 5, 6, 7, 8], false), ([8], false), ([], false)] (by decide +kernel) ?_ | refine evrd (id := 6) hmix tt_ok false [([], true), ([], true), ([], true), ([], true), ([], true), ([], true), ([], true), ([], true), ([], true), ([], true), ([0, 1, 2, 3, 4, 5, 6, 7, 8, 9], false), ([9], false), ([], false)] (by decide +kernel) ?_ | refine evr tt_ok false ?_ | refine ev_skip ?_ | refine ev_ret ?_ | refine ev_exit ?_ | refine evc (fun X Y hX hY => ?_)); simp only [go_sem, reduceAdd, reduceSub, reduceMul, reduceEqDiff, reduceLeDiff, Nat.reduceBEq, reduceLT, reduceIte, reduceCtorEq, Int.reduceToNat, List.length_map, hlen, hb0, hlt, hw, hg, Int.toNat_natCast]; try (first | (refine ⟨fun h => hX ?_, fun h => hY ?_⟩; clear hX hY) | (refine hX ?_; clear hX hY) | (refine hY ?_; clear hX hY)))
        | refine ev_block ?_
        | (apply hK; clear hK)
        | apply_assumption -exfalso -symm only [*]
        | (refine And.intro ?_ ?_; first | omega | assumption | (unfold maxLen; omega) | (simp only [decide_eq_true_eq, decide_eq_false_iff_not, Int.not_lt, Int.not_le] at h; omega))
        | ((first | apply callP | apply callPG | apply callP0); (case' hv => (simp only [go_sem, reduceAdd, reduceSub, reduceMul, reduceEqDiff, reduceLeDiff, Nat.reduceBEq, reduceLT, reduceIte, reduceCtorEq, Int.reduceToNat, List.length_map, hlen, hb0, hlt, hw, hg, Int.toNat_natCast]; try exact rfl)); (case' hp => (first | refine' r1 | (refine' (fun hg => ?_); refine' r1))); (case' h => ((first | refine evOps_fin ?_ | refine And.intro ?_ (evD_fin ?_) | refine evD_fin ?_) <;> simp only [go_sem, reduceAdd, reduceSub, reduceMul, reduceEqDiff, reduceLeDiff, Nat.reduceBEq, reduceLT, reduceIte, reduceCtorEq, Int.reduceToNat, List.length_map, hlen, hb0, hlt, hw, hg, Int.toNat_natCast])))
        | (refine callX ?_; (first | refine evOps_fin ?_ | refine And.intro ?_ (evD_fin ?_) | refine evD_fin ?_) <;> simp only [go_sem, reduceAdd, reduceSub, reduceMul, reduceEqDiff, reduceLeDiff, Nat.reduceBEq, reduceLT, reduceIte, reduceCtorEq, Int.reduceToNat, List.length_map, hlen, hb0, hlt, hw, hg, Int.toNat_natCast])
      refine ⟨i + 1, by omega, ?_, by omega⟩
      repeat' first | rfl | apply And.intro
    · obtain rfl : i = n := by omega
      repeat' first
        | refine ev_seq (fun K hK => ?_)
        | ((first | refine evrd (id := 2) hmix tt_ok false [([], true), ([], true), ([], true), ([], true), ([], true), ([], true), ([], true), ([], true), ([], true), ([0, 1, 2, 3, 4, 5, 6, 7, 8], false), ([8], false), ([], false)] (by decide +kernel) ?_ | refine evrd (id := 6) hmix tt_ok false [([], true), ([], true), ([], true), ([], true), ([], true), ([], true), ([], true), ([], true), ([], true), ([], true), ([0, 1, 2, 3, 4, 5, 6, 7, 8, 9], false), ([9], false), ([], false)] (by decide +kernel) ?_ | refine evr tt_ok false ?_ | refine ev_skip ?_ | refine ev_ret ?_ | refine ev_exit ?_ | refine evc (fun X Y hX hY => ?_)); simp only [go_sem, reduceAdd, reduceSub, reduceMul, reduceEqDiff, reduceLeDiff, Nat.reduceBEq, reduceLT, reduceIte, reduceCtorEq, Int.reduceToNat, List.length_map, hlen, hlt]; try (first | (refine ⟨fun h => hX ?_, fun h => hY ?_⟩; clear hX hY) | (refine hX ?_; clear hX hY) | (refine hY ?_; clear hX hY)))
        | refine ev_block ?_
        | (apply hK; clear hK)
        | apply_assumption -exfalso -symm only [*]
        | (refine And.intro ?_ ?_; first | omega | assumption | (unfold maxLen; omega) | (simp only [decide_eq_true_eq, decide_eq_false_iff_not, Int.not_lt, Int.not_le] at h; omega))
      all_goals rfl
end Go.Proofs.Ytmpmggbcmioipaa
