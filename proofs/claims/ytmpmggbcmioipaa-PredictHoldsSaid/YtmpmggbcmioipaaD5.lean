import Derived.Test.YtmpmggbcmioipaaD4
set_option linter.all false
namespace Go.Proofs.Ytmpmggbcmioipaa
open Nat (reduceAdd reduceSub reduceMul reduceEqDiff reduceLeDiff reduceLT)
open Go Go.K
set_option maxRecDepth 20000
set_option maxHeartbeats 4000000
def outB (b : Box) (r : Rect) (a : Arc) : Box := ⟨b.x0 + r.x0, b.y0 + r.y0, b.x1 + r.x1, b.y1 + r.y1, a.f, a.c⟩
def resB (b : Box) (r : Rect) (a : Arc) : MvR := if (outB b r a).ok then ⟨outB b r a, 0⟩ else ⟨Box.zero, 2⟩
def Rect.fit (r : Rect) : Prop := -56 ≤ r.x0 ∧ r.x0 ≤ r.x1 ∧ r.x1 ≤ 56 ∧ -56 ≤ r.y0 ∧ r.y0 ≤ r.y1 ∧ r.y1 ≤ 56
theorem reachA_fit {c : Cmd} {d : Bounds} {a : Arc} (hc : c.ok) (hd : d.ok) : (reachA c.f d.l d.s a).fit := by
  obtain ⟨c1, c2, c3, c4⟩ := hc
  obtain ⟨b1, b2, b3, b4, b5, b6, b7, b8⟩ := hd
  exact reachU_small ⟨c3, c4⟩ ⟨b3, b4⟩ ⟨b5, b6⟩ _
def Rect.neg (r : Rect) : Rect := ⟨-r.x1, -r.y1, -r.x0, -r.y0⟩
theorem neg_fit {r : Rect} (h : r.fit) : r.neg.fit := by
  obtain ⟨h1, h2, h3, h4, h5, h6⟩ := h
  refine ⟨?_, ?_, ?_, ?_, ?_, ?_⟩ <;> simp only [Rect.neg] <;> omega
theorem pmoved_pure (b : Box) (a : Arc) (r : Rect) (hb : b.ok) (ha : a.ok) (hr : r.fit) : Pure Try.prog 48 [.agg [.int .i64 b.x0, .int .i64 b.y0, .int .i64 b.x1, .int .i64 b.y1, .int .i64 b.f, .int .i64 b.c], .agg [.int .i64 a.f, .int .i64 a.c], .agg [.int .i64 r.x0, .int .i64 r.y0, .int .i64 r.x1, .int .i64 r.y1]] (encMv (resB b r a)) := by
  have m := move_pure ⟨b.x0, b.y0, b.x1, b.y1, a.f, a.c⟩ r.x0 r.x1 r.y0 r.y1
  obtain ⟨r1, r2, r3, r4, r5, r6⟩ := hr
  have hk : (Box.mk b.x0 b.y0 b.x1 b.y1 a.f a.c).ok := by
    obtain ⟨b1, b2, b3, b4, b5, b6, b7⟩ := hb
    exact ⟨b1, b2, b3, b4, b5, b6, ha⟩
  have hn : ¬ (¬ (Box.mk b.x0 b.y0 b.x1 b.y1 a.f a.c).ok ∨ r.x1 < r.x0 ∨ r.y1 < r.y0) := by
    rintro (h | h | h)
    · exact h hk
    · omega
    · omega
  have e : moveM ⟨b.x0, b.y0, b.x1, b.y1, a.f, a.c⟩ r.x0 r.x1 r.y0 r.y1 = resB b r a := by
    unfold resB
    by_cases ho : (outB b r a).ok
    · rw [if_pos ho]; exact move_ok hn ho
    · rw [if_neg ho]; exact move_no hn ho
  rw [e] at m
  generalize resB b r a = q at *
  simp only [encMv, encBox] at *
  (refine pure_of_ev tt_ok Try.func48 rfl (by decide +kernel) (Nat.le_of_ble_eq_true rfl) ?_; simp only [Try.f48])
  repeat' first
    | refine ev_seq (fun K hK => ?_)
    | ((first | refine evrd (id := 1) hmix tt_ok false [([], false), ([], false), ([], true), ([], true), ([], false), ([2, 3], false), ([], false), ([], false)] (by decide +kernel) ?_ | refine evr tt_ok false ?_ | refine ev_skip ?_ | refine ev_ret ?_ | refine ev_exit ?_ | refine evc (fun X Y hX hY => ?_)); simp only [go_sem, reduceAdd, reduceSub, reduceMul, reduceEqDiff, reduceLeDiff, Nat.reduceBEq, reduceLT, reduceIte, reduceCtorEq, Int.reduceToNat]; try (first | (refine ⟨fun h => hX ?_, fun h => hY ?_⟩; clear hX hY) | (refine hX ?_; clear hX hY) | (refine hY ?_; clear hX hY)))
    | refine ev_block ?_
    | (apply hK; clear hK)
    | apply_assumption -exfalso -symm only [*]
    | (refine And.intro ?_ ?_; first | omega | assumption | (unfold maxLen; omega) | (simp only [decide_eq_true_eq, decide_eq_false_iff_not, Int.not_lt, Int.not_le] at h; omega))
    | ((first | apply callP | apply callPG | apply callP0); (case' hv => (simp only [go_sem, reduceAdd, reduceSub, reduceMul, reduceEqDiff, reduceLeDiff, Nat.reduceBEq, reduceLT, reduceIte, reduceCtorEq, Int.reduceToNat]; try exact rfl)); (case' hp => (first | refine' m | (refine' (fun hg => ?_); refine' m))); (case' h => ((first | refine evOps_fin ?_ | refine And.intro ?_ (evD_fin ?_) | refine evD_fin ?_) <;> simp only [go_sem, reduceAdd, reduceSub, reduceMul, reduceEqDiff, reduceLeDiff, Nat.reduceBEq, reduceLT, reduceIte, reduceCtorEq, Int.reduceToNat])))
    | (refine callX ?_; (first | refine evOps_fin ?_ | refine And.intro ?_ (evD_fin ?_) | refine evD_fin ?_) <;> simp only [go_sem, reduceAdd, reduceSub, reduceMul, reduceEqDiff, reduceLeDiff, Nat.reduceBEq, reduceLT, reduceIte, reduceCtorEq, Int.reduceToNat])
  all_goals rfl
theorem rrmoved_pure (b : Box) (a : Arc) (r : Rect) (hb : b.ok) (hr : r.fit) : Pure Try.prog 82 [.agg [.int .i64 b.x0, .int .i64 b.y0, .int .i64 b.x1, .int .i64 b.y1, .int .i64 b.f, .int .i64 b.c], .agg [.int .i64 r.x0, .int .i64 r.y0, .int .i64 r.x1, .int .i64 r.y1], .agg [.int .i64 a.f, .int .i64 a.c]] (.tup [.agg (encBox (resB b r a).b), .bool (decide (outB b r a).ok)]) := by
  obtain ⟨r1, r2, r3, r4, r5, r6⟩ := hr
  obtain ⟨b1, b2, b3, b4, b5, b6, b7⟩ := hb
  have w1 : IntKind.i64.wrap (b.x0 + r.x0) = b.x0 + r.x0 := w64 (by omega) (by omega)
  have w2 : IntKind.i64.wrap (b.y0 + r.y0) = b.y0 + r.y0 := w64 (by omega) (by omega)
  have w3 : IntKind.i64.wrap (b.x1 + r.x1) = b.x1 + r.x1 := w64 (by omega) (by omega)
  have w4 : IntKind.i64.wrap (b.y1 + r.y1) = b.y1 + r.y1 := w64 (by omega) (by omega)
  have k := boxB_pure (outB b r a)
  unfold resB
  by_cases ho : (outB b r a).ok
  · rw [decide_eq_true ho] at k ⊢
    rw [if_pos ho]
    simp only [outB, encBox] at k ⊢
    (refine pure_of_ev tt_ok Try.func82 rfl (by decide +kernel) (Nat.le_of_ble_eq_true rfl) ?_; simp only [Try.f82])
    repeat' first
      | refine ev_seq (fun K hK => ?_)
      | ((first | refine evr tt_ok false ?_ | refine ev_skip ?_ | refine ev_ret ?_ | refine ev_exit ?_ | refine evc (fun X Y hX hY => ?_)); simp only [go_sem, reduceAdd, reduceSub, reduceMul, reduceEqDiff, reduceLeDiff, Nat.reduceBEq, reduceLT, reduceIte, reduceCtorEq, Int.reduceToNat, w1, w2, w3, w4]; try (first | (refine ⟨fun h => hX ?_, fun h => hY ?_⟩; clear hX hY) | (refine hX ?_; clear hX hY) | (refine hY ?_; clear hX hY)))
      | refine ev_block ?_
      | (apply hK; clear hK)
      | apply_assumption -exfalso -symm only [*]
      | (refine And.intro ?_ ?_; first | omega | assumption | (unfold maxLen; omega) | (simp only [decide_eq_true_eq, decide_eq_false_iff_not, Int.not_lt, Int.not_le] at h; omega))
      | ((first | apply callP | apply callPG | apply callP0); (case' hv => (simp only [go_sem, reduceAdd, reduceSub, reduceMul, reduceEqDiff, reduceLeDiff, Nat.reduceBEq, reduceLT, reduceIte, reduceCtorEq, Int.reduceToNat, w1, w2, w3, w4]; try exact rfl)); (case' hp => (first | refine' k | (refine' (fun hg => ?_); refine' k))); (case' h => ((first | refine evOps_fin ?_ | refine And.intro ?_ (evD_fin ?_) | refine evD_fin ?_) <;> simp only [go_sem, reduceAdd, reduceSub, reduceMul, reduceEqDiff, reduceLeDiff, Nat.reduceBEq, reduceLT, reduceIte, reduceCtorEq, Int.reduceToNat, w1, w2, w3, w4])))
      | (refine callX ?_; (first | refine evOps_fin ?_ | refine And.intro ?_ (evD_fin ?_) | refine evD_fin ?_) <;> simp only [go_sem, reduceAdd, reduceSub, reduceMul, reduceEqDiff, reduceLeDiff, Nat.reduceBEq, reduceLT, reduceIte, reduceCtorEq, Int.reduceToNat, w1, w2, w3, w4])
    all_goals rfl
  · rw [decide_eq_false ho] at k ⊢
    rw [if_neg ho]
    simp only [outB, encBox, Box.zero] at k ⊢
    (refine pure_of_ev tt_ok Try.func82 rfl (by decide +kernel) (Nat.le_of_ble_eq_true rfl) ?_; simp only [Try.f82])
    repeat' first
      | refine ev_seq (fun K hK => ?_)
      | ((first | refine evr tt_ok false ?_ | refine ev_skip ?_ | refine ev_ret ?_ | refine ev_exit ?_ | refine evc (fun X Y hX hY => ?_)); simp only [go_sem, reduceAdd, reduceSub, reduceMul, reduceEqDiff, reduceLeDiff, Nat.reduceBEq, reduceLT, reduceIte, reduceCtorEq, Int.reduceToNat, w1, w2, w3, w4]; try (first | (refine ⟨fun h => hX ?_, fun h => hY ?_⟩; clear hX hY) | (refine hX ?_; clear hX hY) | (refine hY ?_; clear hX hY)))
      | refine ev_block ?_
      | (apply hK; clear hK)
      | apply_assumption -exfalso -symm only [*]
      | (refine And.intro ?_ ?_; first | omega | assumption | (unfold maxLen; omega) | (simp only [decide_eq_true_eq, decide_eq_false_iff_not, Int.not_lt, Int.not_le] at h; omega))
      | ((first | apply callP | apply callPG | apply callP0); (case' hv => (simp only [go_sem, reduceAdd, reduceSub, reduceMul, reduceEqDiff, reduceLeDiff, Nat.reduceBEq, reduceLT, reduceIte, reduceCtorEq, Int.reduceToNat, w1, w2, w3, w4]; try exact rfl)); (case' hp => (first | refine' k | (refine' (fun hg => ?_); refine' k))); (case' h => ((first | refine evOps_fin ?_ | refine And.intro ?_ (evD_fin ?_) | refine evD_fin ?_) <;> simp only [go_sem, reduceAdd, reduceSub, reduceMul, reduceEqDiff, reduceLeDiff, Nat.reduceBEq, reduceLT, reduceIte, reduceCtorEq, Int.reduceToNat, w1, w2, w3, w4])))
      | (refine callX ?_; (first | refine evOps_fin ?_ | refine And.intro ?_ (evD_fin ?_) | refine evD_fin ?_) <;> simp only [go_sem, reduceAdd, reduceSub, reduceMul, reduceEqDiff, reduceLeDiff, Nat.reduceBEq, reduceLT, reduceIte, reduceCtorEq, Int.reduceToNat, w1, w2, w3, w4])
    all_goals rfl
def imageM (b : Box) (c : Cmd) (d : Bounds) : MvR :=
  if b.ok ∧ c.ok ∧ d.ok then resB b (reachA c.f d.l d.s (turnedM b.arc c.t d.t)) (turnedM b.arc c.t d.t) else ⟨Box.zero, 1⟩
def rewindM (b : Box) (c : Cmd) (d : Bounds) : MvR :=
  if b.ok ∧ c.ok ∧ d.ok then resB b (reachA c.f d.l d.s b.arc).neg (turnedM b.arc (-c.t) d.t) else ⟨Box.zero, 1⟩
theorem guard_no {b : Box} {c : Cmd} {d : Bounds} (h : ¬ (b.ok ∧ c.ok ∧ d.ok)) : (decide b.ok && decide c.ok && decide d.ok) = false := by
  cases hg : (decide b.ok && decide c.ok && decide d.ok) with
  | false => rfl
  | true =>
    simp only [Bool.and_eq_true, decide_eq_true_eq] at hg
    exact absurd ⟨hg.1.1, hg.1.2, hg.2⟩ h
theorem guard_yes {b : Box} {c : Cmd} {d : Bounds} (h : b.ok ∧ c.ok ∧ d.ok) : (decide b.ok && decide c.ok && decide d.ok) = true := by simp [h]
theorem image_pure (b : Box) (c : Cmd) (d : Bounds) : Pure Try.prog 27 [.agg [.int .i64 b.x0, .int .i64 b.y0, .int .i64 b.x1, .int .i64 b.y1, .int .i64 b.f, .int .i64 b.c], .agg [.int .i64 c.t, .int .i64 c.f], .agg [.int .i64 d.t, .int .i64 d.l, .int .i64 d.s, .int .i64 d.r]] (encMv (imageM b c d)) := by
  have v := pvalid_pure b c d
  unfold imageM
  by_cases h : b.ok ∧ c.ok ∧ d.ok
  · rw [guard_yes h] at v
    rw [if_pos h]
    obtain ⟨hb, hc, hd⟩ := h
    have k1 := hd.1; have k2 := hd.2.1
    have ha : b.arc.ok := hb.2.2.2.2.2.2
    have t1 := pturned_pure b c.t d.t hb ⟨by omega, by omega⟩
    have e : turnedM ⟨b.f, b.c⟩ c.t d.t = turnedM b.arc c.t d.t := rfl
    rw [e] at t1
    have hk := turned_ok ha (t := c.t) (n := d.t) (by omega)
    generalize turnedM b.arc c.t d.t = a at *
    have r1 := preach_pure c d a hc hd hk
    have hf := @reachA_fit c d a hc hd
    generalize reachA c.f d.l d.s a = r at *
    have m1 := pmoved_pure b a r hb hk hf
    generalize resB b r a = q at *
    simp only [encMv, encBox] at *
    (refine pure_of_ev tt_ok Try.func27 rfl (by decide +kernel) (Nat.le_of_ble_eq_true rfl) ?_; simp only [Try.f27])
    repeat' first
      | refine ev_seq (fun K hK => ?_)
      | ((first | refine evrd (id := 4) hmix tt_ok false [([], true), ([], true), ([], false), ([], false), ([], false), ([0, 1], false), ([], false), ([], false), ([], false), ([], false), ([], false)] (by decide +kernel) ?_ | refine evr tt_ok false ?_ | refine ev_skip ?_ | refine ev_ret ?_ | refine ev_exit ?_ | refine evc (fun X Y hX hY => ?_)); simp only [go_sem, reduceAdd, reduceSub, reduceMul, reduceEqDiff, reduceLeDiff, Nat.reduceBEq, reduceLT, reduceIte, reduceCtorEq, Int.reduceToNat]; try (first | (refine ⟨fun h => hX ?_, fun h => hY ?_⟩; clear hX hY) | (refine hX ?_; clear hX hY) | (refine hY ?_; clear hX hY)))
      | refine ev_block ?_
      | (apply hK; clear hK)
      | apply_assumption -exfalso -symm only [*]
      | (refine And.intro ?_ ?_; first | omega | assumption | (unfold maxLen; omega) | (simp only [decide_eq_true_eq, decide_eq_false_iff_not, Int.not_lt, Int.not_le] at h; omega))
      | ((first | apply callP | apply callPG | apply callP0); (case' hv => (simp only [go_sem, reduceAdd, reduceSub, reduceMul, reduceEqDiff, reduceLeDiff, Nat.reduceBEq, reduceLT, reduceIte, reduceCtorEq, Int.reduceToNat]; try exact rfl)); (case' hp => (first | refine' v | (refine' (fun hg => ?_); refine' v) | refine' t1 | (refine' (fun hg => ?_); refine' t1) | refine' r1 | (refine' (fun hg => ?_); refine' r1) | refine' m1 | (refine' (fun hg => ?_); refine' m1))); (case' h => ((first | refine evOps_fin ?_ | refine And.intro ?_ (evD_fin ?_) | refine evD_fin ?_) <;> simp only [go_sem, reduceAdd, reduceSub, reduceMul, reduceEqDiff, reduceLeDiff, Nat.reduceBEq, reduceLT, reduceIte, reduceCtorEq, Int.reduceToNat])))
      | (refine callX ?_; (first | refine evOps_fin ?_ | refine And.intro ?_ (evD_fin ?_) | refine evD_fin ?_) <;> simp only [go_sem, reduceAdd, reduceSub, reduceMul, reduceEqDiff, reduceLeDiff, Nat.reduceBEq, reduceLT, reduceIte, reduceCtorEq, Int.reduceToNat])
    all_goals rfl
  · rw [guard_no h] at v
    rw [if_neg h]
    simp only [encMv, encBox, Box.zero]
    (refine pure_of_ev tt_ok Try.func27 rfl (by decide +kernel) (Nat.le_of_ble_eq_true rfl) ?_; simp only [Try.f27])
    repeat' first
      | refine ev_seq (fun K hK => ?_)
      | ((first | refine evrd (id := 4) hmix tt_ok false [([], true), ([], true), ([], false), ([], false), ([], false), ([0, 1], false), ([], false), ([], false), ([], false), ([], false), ([], false)] (by decide +kernel) ?_ | refine evr tt_ok false ?_ | refine ev_skip ?_ | refine ev_ret ?_ | refine ev_exit ?_ | refine evc (fun X Y hX hY => ?_)); simp only [go_sem, reduceAdd, reduceSub, reduceMul, reduceEqDiff, reduceLeDiff, Nat.reduceBEq, reduceLT, reduceIte, reduceCtorEq, Int.reduceToNat]; try (first | (refine ⟨fun h => hX ?_, fun h => hY ?_⟩; clear hX hY) | (refine hX ?_; clear hX hY) | (refine hY ?_; clear hX hY)))
      | refine ev_block ?_
      | (apply hK; clear hK)
      | apply_assumption -exfalso -symm only [*]
      | (refine And.intro ?_ ?_; first | omega | assumption | (unfold maxLen; omega) | (simp only [decide_eq_true_eq, decide_eq_false_iff_not, Int.not_lt, Int.not_le] at h; omega))
      | ((first | apply callP | apply callPG | apply callP0); (case' hv => (simp only [go_sem, reduceAdd, reduceSub, reduceMul, reduceEqDiff, reduceLeDiff, Nat.reduceBEq, reduceLT, reduceIte, reduceCtorEq, Int.reduceToNat]; try exact rfl)); (case' hp => (first | refine' v | (refine' (fun hg => ?_); refine' v))); (case' h => ((first | refine evOps_fin ?_ | refine And.intro ?_ (evD_fin ?_) | refine evD_fin ?_) <;> simp only [go_sem, reduceAdd, reduceSub, reduceMul, reduceEqDiff, reduceLeDiff, Nat.reduceBEq, reduceLT, reduceIte, reduceCtorEq, Int.reduceToNat])))
      | (refine callX ?_; (first | refine evOps_fin ?_ | refine And.intro ?_ (evD_fin ?_) | refine evD_fin ?_) <;> simp only [go_sem, reduceAdd, reduceSub, reduceMul, reduceEqDiff, reduceLeDiff, Nat.reduceBEq, reduceLT, reduceIte, reduceCtorEq, Int.reduceToNat])
    all_goals rfl
theorem rewind_pure (b : Box) (c : Cmd) (d : Bounds) : Pure Try.prog 18 [.agg [.int .i64 b.x0, .int .i64 b.y0, .int .i64 b.x1, .int .i64 b.y1, .int .i64 b.f, .int .i64 b.c], .agg [.int .i64 c.t, .int .i64 c.f], .agg [.int .i64 d.t, .int .i64 d.l, .int .i64 d.s, .int .i64 d.r]] (encMv (rewindM b c d)) := by
  have v := pvalid_pure b c d
  unfold rewindM
  by_cases h : b.ok ∧ c.ok ∧ d.ok
  · rw [guard_yes h] at v
    rw [if_pos h]
    obtain ⟨hb, hc, hd⟩ := h
    have k1 := hd.1; have k2 := hd.2.1
    have k3 := hc.1; have k4 := hc.2.1
    have ha : b.arc.ok := hb.2.2.2.2.2.2
    have wt : IntKind.i64.wrap (0 - c.t) = -c.t := by rw [w64] <;> omega
    have t1 := pturned_pure b (-c.t) d.t hb ⟨by omega, by omega⟩
    have e : turnedM ⟨b.f, b.c⟩ (-c.t) d.t = turnedM b.arc (-c.t) d.t := rfl
    rw [e] at t1
    have hk := turned_ok ha (t := -c.t) (n := d.t) (by omega)
    generalize turnedM b.arc (-c.t) d.t = a at *
    have r1 := preach_pure c d b.arc hc hd ha
    have hf := @reachA_fit c d b.arc hc hd
    simp only [Box.arc] at r1 hf ⊢
    generalize reachA c.f d.l d.s ⟨b.f, b.c⟩ = r at *
    have m1 := pmoved_pure b a r.neg hb hk (neg_fit hf)
    obtain ⟨f1, f2, f3, f4, f5, f6⟩ := hf
    have w1 : IntKind.i64.wrap (0 - r.x0) = -r.x0 := by rw [w64] <;> omega
    have w2 : IntKind.i64.wrap (0 - r.y0) = -r.y0 := by rw [w64] <;> omega
    have w3 : IntKind.i64.wrap (0 - r.x1) = -r.x1 := by rw [w64] <;> omega
    have w4 : IntKind.i64.wrap (0 - r.y1) = -r.y1 := by rw [w64] <;> omega
    generalize resB b r.neg a = q at *
    simp only [encMv, encBox, Rect.neg] at *
    (refine pure_of_ev tt_ok Try.func18 rfl (by decide +kernel) (Nat.le_of_ble_eq_true rfl) ?_; simp only [Try.f18])
    repeat' first
      | refine ev_seq (fun K hK => ?_)
      | ((first | refine evrd (id := 3) hmix tt_ok false [([], true), ([], true), ([], true), ([0, 1], true), ([], true), ([0, 1, 2, 3, 4], false), ([], false)] (by decide +kernel) ?_ | refine evrd (id := 4) hmix tt_ok false [([], true), ([], false), ([], false), ([], false), ([], false), ([], false), ([], false), ([0], true), ([7], false), ([7], false), ([7], false), ([7], false), ([7], false), ([7], false), ([7], false), ([7], false), ([7], false), ([7], false), ([7], false), ([7], false), ([7], false), ([], false), ([], false), ([], false), ([], false), ([], false)] (by decide +kernel) ?_ | refine evr tt_ok false ?_ | refine ev_skip ?_ | refine ev_ret ?_ | refine ev_exit ?_ | refine evc (fun X Y hX hY => ?_)); simp only [go_sem, reduceAdd, reduceSub, reduceMul, reduceEqDiff, reduceLeDiff, Nat.reduceBEq, reduceLT, reduceIte, reduceCtorEq, Int.reduceToNat, wt, w1, w2, w3, w4]; try (first | (refine ⟨fun h => hX ?_, fun h => hY ?_⟩; clear hX hY) | (refine hX ?_; clear hX hY) | (refine hY ?_; clear hX hY)))
      | refine ev_block ?_
      | (apply hK; clear hK)
      | apply_assumption -exfalso -symm only [*]
      | (refine And.intro ?_ ?_; first | omega | assumption | (unfold maxLen; omega) | (simp only [decide_eq_true_eq, decide_eq_false_iff_not, Int.not_lt, Int.not_le] at h; omega))
      | ((first | apply callP | apply callPG | apply callP0); (case' hv => (simp only [go_sem, reduceAdd, reduceSub, reduceMul, reduceEqDiff, reduceLeDiff, Nat.reduceBEq, reduceLT, reduceIte, reduceCtorEq, Int.reduceToNat, wt, w1, w2, w3, w4]; try exact rfl)); (case' hp => (first | refine' v | (refine' (fun hg => ?_); refine' v) | refine' parc_pure b | (refine' (fun hg => ?_); refine' parc_pure b) | refine' t1 | (refine' (fun hg => ?_); refine' t1) | refine' r1 | (refine' (fun hg => ?_); refine' r1) | refine' m1 | (refine' (fun hg => ?_); refine' m1))); (case' h => ((first | refine evOps_fin ?_ | refine And.intro ?_ (evD_fin ?_) | refine evD_fin ?_) <;> simp only [go_sem, reduceAdd, reduceSub, reduceMul, reduceEqDiff, reduceLeDiff, Nat.reduceBEq, reduceLT, reduceIte, reduceCtorEq, Int.reduceToNat, wt, w1, w2, w3, w4])))
      | (refine callX ?_; (first | refine evOps_fin ?_ | refine And.intro ?_ (evD_fin ?_) | refine evD_fin ?_) <;> simp only [go_sem, reduceAdd, reduceSub, reduceMul, reduceEqDiff, reduceLeDiff, Nat.reduceBEq, reduceLT, reduceIte, reduceCtorEq, Int.reduceToNat, wt, w1, w2, w3, w4])
    all_goals rfl
  · rw [guard_no h] at v
    rw [if_neg h]
    simp only [encMv, encBox, Box.zero]
    (refine pure_of_ev tt_ok Try.func18 rfl (by decide +kernel) (Nat.le_of_ble_eq_true rfl) ?_; simp only [Try.f18])
    repeat' first
      | refine ev_seq (fun K hK => ?_)
      | ((first | refine evrd (id := 3) hmix tt_ok false [([], true), ([], true), ([], true), ([0, 1], true), ([], true), ([0, 1, 2, 3, 4], false), ([], false)] (by decide +kernel) ?_ | refine evrd (id := 4) hmix tt_ok false [([], true), ([], false), ([], false), ([], false), ([], false), ([], false), ([], false), ([0], true), ([7], false), ([7], false), ([7], false), ([7], false), ([7], false), ([7], false), ([7], false), ([7], false), ([7], false), ([7], false), ([7], false), ([7], false), ([7], false), ([], false), ([], false), ([], false), ([], false), ([], false)] (by decide +kernel) ?_ | refine evr tt_ok false ?_ | refine ev_skip ?_ | refine ev_ret ?_ | refine ev_exit ?_ | refine evc (fun X Y hX hY => ?_)); simp only [go_sem, reduceAdd, reduceSub, reduceMul, reduceEqDiff, reduceLeDiff, Nat.reduceBEq, reduceLT, reduceIte, reduceCtorEq, Int.reduceToNat]; try (first | (refine ⟨fun h => hX ?_, fun h => hY ?_⟩; clear hX hY) | (refine hX ?_; clear hX hY) | (refine hY ?_; clear hX hY)))
      | refine ev_block ?_
      | (apply hK; clear hK)
      | apply_assumption -exfalso -symm only [*]
      | (refine And.intro ?_ ?_; first | omega | assumption | (unfold maxLen; omega) | (simp only [decide_eq_true_eq, decide_eq_false_iff_not, Int.not_lt, Int.not_le] at h; omega))
      | ((first | apply callP | apply callPG | apply callP0); (case' hv => (simp only [go_sem, reduceAdd, reduceSub, reduceMul, reduceEqDiff, reduceLeDiff, Nat.reduceBEq, reduceLT, reduceIte, reduceCtorEq, Int.reduceToNat]; try exact rfl)); (case' hp => (first | refine' v | (refine' (fun hg => ?_); refine' v))); (case' h => ((first | refine evOps_fin ?_ | refine And.intro ?_ (evD_fin ?_) | refine evD_fin ?_) <;> simp only [go_sem, reduceAdd, reduceSub, reduceMul, reduceEqDiff, reduceLeDiff, Nat.reduceBEq, reduceLT, reduceIte, reduceCtorEq, Int.reduceToNat])))
      | (refine callX ?_; (first | refine evOps_fin ?_ | refine And.intro ?_ (evD_fin ?_) | refine evD_fin ?_) <;> simp only [go_sem, reduceAdd, reduceSub, reduceMul, reduceEqDiff, reduceLeDiff, Nat.reduceBEq, reduceLT, reduceIte, reduceCtorEq, Int.reduceToNat])
    all_goals rfl
end Go.Proofs.Ytmpmggbcmioipaa
