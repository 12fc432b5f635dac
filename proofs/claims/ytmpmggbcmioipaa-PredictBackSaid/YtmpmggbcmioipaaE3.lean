import Derived.Test.YtmpmggbcmioipaaD11
set_option linter.all false
namespace Go.Proofs.Ytmpmggbcmioipaa
open Nat (reduceAdd reduceSub reduceMul reduceEqDiff reduceLeDiff reduceLT)
open Go Go.K
set_option maxRecDepth 20000
set_option maxHeartbeats 8000000
/-! ### back -/
def nextA (p : Pose) (c : Cmd) (e : Slip) : PoR := if p.ok then nextM p c e else ⟨⟨0, 0, 0⟩, 1⟩
theorem rnext_any (p : Pose) (c : Cmd) (e : Slip) (hc : c.ok) (he : e.low) : Pure Try.prog 22 [.agg [.int .i64 p.x, .int .i64 p.y, .int .i64 p.h], .agg [.int .i64 c.t, .int .i64 c.f], .agg [.int .i64 e.t, .int .i64 e.l, .int .i64 e.x, .int .i64 e.y]] (encPoR (nextA p c e)) := by
  unfold nextA
  by_cases hp : p.ok
  · rw [if_pos hp]; exact rnext_pure p c e hp hc he
  · rw [if_neg hp]
    have v := bpose_pure p
    have vc := bcmd_pure c
    rw [decide_eq_false hp] at v
    simp only [encPoR]
    (refine pure_of_ev tt_ok Try.func22 rfl (by decide +kernel) (Nat.le_of_ble_eq_true rfl) ?_; simp only [Try.f22])
    repeat' first
      | refine ev_seq (fun K hK => ?_)
      | ((first | refine evrd (id := 5) hmix tt_ok false [([], true), ([], true), ([], true), ([], true), ([], true), ([], true), ([], true), ([], true), ([], true), ([], true), ([], true), ([], true), ([0, 1, 2, 3], true), ([], true), ([0, 1, 2, 3, 4, 5, 6, 7, 8, 9, 10, 11, 12, 13], false), ([], false)] (by decide +kernel) ?_ | refine evr tt_ok false ?_ | refine ev_skip ?_ | refine ev_ret ?_ | refine ev_exit ?_ | refine evc (fun X Y hX hY => ?_)); simp only [go_sem, reduceAdd, reduceSub, reduceMul, reduceEqDiff, reduceLeDiff, Nat.reduceBEq, reduceLT, reduceIte, reduceCtorEq, Int.reduceToNat]; try (first | (refine ⟨fun h => hX ?_, fun h => hY ?_⟩; clear hX hY) | (refine hX ?_; clear hX hY) | (refine hY ?_; clear hX hY)))
      | refine ev_block ?_
      | (apply hK; clear hK)
      | apply_assumption -exfalso -symm only [*]
      | (refine And.intro ?_ ?_; first | omega | assumption | (unfold maxLen; omega) | (simp only [decide_eq_true_eq, decide_eq_false_iff_not, Int.not_lt, Int.not_le] at h; omega))
      | ((first | apply callP | apply callPG | apply callP0); (case' hv => (simp only [go_sem, reduceAdd, reduceSub, reduceMul, reduceEqDiff, reduceLeDiff, Nat.reduceBEq, reduceLT, reduceIte, reduceCtorEq, Int.reduceToNat]; try exact rfl)); (case' hp => (first | refine' v | (refine' (fun hg => ?_); refine' v) | refine' vc | (refine' (fun hg => ?_); refine' vc))); (case' h => ((first | refine evOps_fin ?_ | refine And.intro ?_ (evD_fin ?_) | refine evD_fin ?_) <;> simp only [go_sem, reduceAdd, reduceSub, reduceMul, reduceEqDiff, reduceLeDiff, Nat.reduceBEq, reduceLT, reduceIte, reduceCtorEq, Int.reduceToNat])))
      | (refine callX ?_; (first | refine evOps_fin ?_ | refine And.intro ?_ (evD_fin ?_) | refine evD_fin ?_) <;> simp only [go_sem, reduceAdd, reduceSub, reduceMul, reduceEqDiff, reduceLeDiff, Nat.reduceBEq, reduceLT, reduceIte, reduceCtorEq, Int.reduceToNat])
    all_goals rfl
theorem clip_low {d : Bounds} (hd : d.ok) (e : Slip) : (clipS d e).low ∧ (-d.t ≤ (clipS d e).t ∧ (clipS d e).t ≤ d.t) ∧ (-d.l ≤ (clipS d e).l ∧ (clipS d e).l ≤ d.l) ∧ (-d.s ≤ (clipS d e).x ∧ (clipS d e).x ≤ d.s) ∧ (-d.s ≤ (clipS d e).y ∧ (clipS d e).y ≤ d.s) := by
  obtain ⟨d1, d2, d3, d4, d5, d6, d7, d8⟩ := hd
  unfold Slip.low clipS
  simp only
  omega
theorem mem_mod (a : Arc) (h : Int) : a.mem (h % 256) = a.mem h := by
  unfold Arc.mem
  rw [show (h % 256 - a.f) % 256 = (h - a.f) % 256 by omega]
/-- the displacement of a motion -/
def goX (c : Cmd) (e : Slip) (h : Int) : Int := if c.f = 0 then 0 else alo (c.f + e.l) (dirM h).x (dirM h).d + e.x
def goY (c : Cmd) (e : Slip) (h : Int) : Int := if c.f = 0 then 0 else alo (c.f + e.l) (dirM h).y (dirM h).d + e.y
theorem goP_eq (p : Pose) (c : Cmd) (e : Slip) : goP p c e = ⟨p.x + goX c e (goH p c e), p.y + goY c e (goH p c e), goH p c e⟩ := by
  unfold goP goX goY
  split
  · simp
  · rfl
/-- the displacement lies in the reach of its mark -/
theorem go_reach {c : Cmd} {d : Bounds} (hc : c.ok) (hd : d.ok) (e : Slip) (h : Int) : (reachM c.f d.l d.s h).x0 ≤ goX c (clipS d e) h ∧ goX c (clipS d e) h ≤ (reachM c.f d.l d.s h).x1 ∧ (reachM c.f d.l d.s h).y0 ≤ goY c (clipS d e) h ∧ goY c (clipS d e) h ≤ (reachM c.f d.l d.s h).y1 := by
  obtain ⟨_, s1, s2, s3, s4⟩ := clip_low hd e
  unfold goX goY
  by_cases hf : c.f = 0
  · rw [if_pos hf, if_pos hf]
    unfold reachM
    rw [if_pos hf]
    exact ⟨Int.le_refl 0, Int.le_refl 0, Int.le_refl 0, Int.le_refl 0⟩
  · rw [if_neg hf, if_neg hf]
    exact go_in hf s2 s3 s4
theorem reachA_mem {f l s : Int} {a : Arc} (ha : a.ok) {h : Int} (h0 : 0 ≤ h ∧ h < 256) (hm : a.mem h = true) : (reachM f l s h).sub (reachA f l s a) := by
  obtain ⟨a1, a2, a3, a4, a5⟩ := ha
  unfold Arc.mem at hm
  rw [decide_eq_true_eq] at hm
  have := reachU_has f l s a (a.c - 1).toNat (i := ((h - a.f) % 256).toNat) (by omega)
  rwa [show (a.f + ((((h - a.f) % 256).toNat : Nat) : Int)) % 256 = h by omega] at this
/-- All the facts of a motion back. -/
structure BackF (b : Box) (c : Cmd) (d : Bounds) (e : Slip) (to : Pose) (w : Box) (h0 : Int) (t : Pose) : Prop where
  e0 : (to.h - c.t - (clipS d e).t) % 256 = h0
  n1 : nextA ⟨0, 0, h0⟩ c (clipS d e) = ⟨t, 0⟩
  ti : -200 ≤ t.x ∧ t.x ≤ 200 ∧ -200 ≤ t.y ∧ t.y ≤ 200
  has : w.has ⟨to.x - t.x, to.y - t.y, h0⟩
theorem back_facts {b : Box} {c : Cmd} {d : Bounds} (hb : b.ok) (hc : c.ok) (hd : d.ok) (e : Slip) {to : Pose} (hp : b.has to) (hh : 0 ≤ to.h ∧ to.h < 256) {w : Box} (hw : rewindM b c d = ⟨w, 0⟩) : ∃ h0 t, BackF b c d e to w h0 t := by
  obtain ⟨lo, s1, s2, s3, s4⟩ := clip_low hd e
  have hgo := go_reach hc hd e to.h
  have hm := hp.2.2.2.2.2
  have hra := reachA_mem (f := c.f) (l := d.l) (s := d.s) (a := b.arc) hb.2.2.2.2.2.2 hh hm
  have hfit := reachA_fit (a := b.arc) hc hd
  obtain ⟨h0, eh⟩ : ∃ h0, (to.h - c.t - (clipS d e).t) % 256 = h0 := ⟨_, rfl⟩
  have hg : goH ⟨0, 0, h0⟩ c (clipS d e) = to.h := by unfold goH; simp only; omega
  have hgp : goP ⟨0, 0, h0⟩ c (clipS d e) = ⟨goX c (clipS d e) to.h, goY c (clipS d e) to.h, to.h⟩ := by rw [goP_eq, hg]; simp
  have hwo : (outB b (reachA c.f d.l d.s b.arc).neg (turnedM b.arc (-c.t) d.t)).ok ∧ w = outB b (reachA c.f d.l d.s b.arc).neg (turnedM b.arc (-c.t) d.t) := by
    unfold rewindM resB at hw
    rw [if_pos ⟨hb, hc, hd⟩] at hw
    by_cases ho : (outB b (reachA c.f d.l d.s b.arc).neg (turnedM b.arc (-c.t) d.t)).ok
    · rw [if_pos ho] at hw
      injection hw with h1 h2
      exact ⟨ho, h1.symm⟩
    · rw [if_neg ho] at hw
      injection hw with h1 h2
      omega
  obtain ⟨ho, rfl⟩ := hwo
  have hdt := hd.1
  have hdt2 := hd.2.1
  have tm := turned_mem (t := -c.t) (n := d.t) (k := -(clipS d e).t) hb.2.2.2.2.2.2 ⟨hdt, hdt2⟩ (by omega) hm
  obtain ⟨f1, f2, f3, f4, f5, f6⟩ := hfit
  obtain ⟨q1, q2, q3, q4⟩ := hra
  obtain ⟨p0, p1, p2, p3, p4, _⟩ := hp
  refine ⟨h0, ⟨goX c (clipS d e) to.h, goY c (clipS d e) to.h, to.h⟩, eh, ?_, ?_, ho, ?_, ?_, ?_, ?_, ?_⟩
  · unfold nextA nextM
    rw [if_pos (show (Pose.mk 0 0 h0).ok from ⟨by simp, by simp, by simp, by simp, by show 0 ≤ h0; omega, by show h0 < 256; omega⟩), hgp, if_pos]
    exact ⟨by show _ ≤ goX c (clipS d e) to.h; omega, by show goX c (clipS d e) to.h ≤ _; omega, by show _ ≤ goY c (clipS d e) to.h; omega, by show goY c (clipS d e) to.h ≤ _; omega, hh.1, hh.2⟩
  · simp only; omega
  · show b.x0 + -(reachA c.f d.l d.s b.arc).x1 ≤ to.x - goX c (clipS d e) to.h; omega
  · show to.x - goX c (clipS d e) to.h ≤ b.x1 + -(reachA c.f d.l d.s b.arc).x0; omega
  · show b.y0 + -(reachA c.f d.l d.s b.arc).y1 ≤ to.y - goY c (clipS d e) to.h; omega
  · show to.y - goY c (clipS d e) to.h ≤ b.y1 + -(reachA c.f d.l d.s b.arc).y0; omega
  · show (turnedM b.arc (-c.t) d.t).mem h0 = true
    rw [← eh, mem_mod, show to.h - c.t - (clipS d e).t = to.h + -c.t + -(clipS d e).t by omega]
    exact tm
theorem lback_pure (b : Box) (g : GoT) (x : TryT) (hk : 0 ≤ x.k ∧ x.k ≤ 255) (hh : 0 ≤ x.h ∧ x.h ≤ 255) : Pure Try.prog 4 [.agg (encBox b), .agg (encGo g), .agg (encTry x)] (.bool true) := by
  have m1 := rewind_pure b g.c g.b
  have v1 := boxB_pure b
  have v2 := bcmd_pure g.c
  have v3 := bbounds_pure g.b
  simp only [encBox, encGo, encTry]
  by_cases h : b.ok ∧ g.c.ok ∧ g.b.ok
  · rw [decide_eq_true h.1] at v1
    rw [decide_eq_true h.2.1] at v2
    rw [decide_eq_true h.2.2] at v3
    by_cases he : (rewindM b g.c g.b).e = 0
    · have pp := lpose_pure b x.k x.h h.1 hk hh
      obtain ⟨hp, p0, p1⟩ := pose_has h.1 (x.k.tmod 5) hh.1
      generalize poseAt b (x.k.tmod 5) x.h = to at *
      obtain ⟨w, ew⟩ : ∃ w, rewindM b g.c g.b = ⟨w, 0⟩ := ⟨(rewindM b g.c g.b).b, by cases hr : rewindM b g.c g.b; rw [hr] at he; simp only at he; subst he; rfl⟩
      obtain ⟨h0, t, e0, n1, ti, hhas⟩ := back_facts h.1 h.2.1 h.2.2 x.e hp ⟨p0, p1⟩ ew
      rw [ew] at m1
      obtain ⟨lo, s1, _⟩ := clip_low h.2.2 x.e
      have cl := rclip_pure g.b x.e h.2.2
      have nx1 := rnext_any ⟨0, 0, h0⟩ g.c (clipS g.b x.e) h.2.1 lo
      rw [n1] at nx1
      have nx2 := rnext_any ⟨to.x - t.x, to.y - t.y, h0⟩ g.c (clipS g.b x.e) h.2.1 lo
      have wo := hhas.1
      have vw := boxB_pure w
      rw [decide_eq_true wo] at vw
      have vh := lhas_pure w ⟨to.x - t.x, to.y - t.y, h0⟩ wo
      rw [decide_eq_true hhas] at vh
      obtain ⟨c1, c2, c3, c4⟩ := id h.2.1
      obtain ⟨d1, d2, d3, d4, d5, d6, d7, d8⟩ := id h.2.2
      have w1 : IntKind.i64.wrap (to.h - g.c.t) = to.h - g.c.t := w64 (by omega) (by omega)
      have w2 : IntKind.i64.wrap (to.h - g.c.t - (clipS g.b x.e).t) = to.h - g.c.t - (clipS g.b x.e).t := w64 (by omega) (by omega)
      have mm := mod_pure (to.h - g.c.t - (clipS g.b x.e).t) 256 (by omega) (by omega)
      rw [e0] at mm
      obtain ⟨b1, b2, b3, b4, b5, b6, _⟩ := id h.1
      obtain ⟨_, q1, q2, q3, q4, _⟩ := id hp
      have w3 : IntKind.i64.wrap (to.x - t.x) = to.x - t.x := w64 (by omega) (by omega)
      have w4 : IntKind.i64.wrap (to.y - t.y) = to.y - t.y := w64 (by omega) (by omega)
      generalize clipS g.b x.e = s at *
      generalize nextA ⟨to.x - t.x, to.y - t.y, h0⟩ g.c s = R at *
      clear h he hp ew e0 n1 ti hhas wo
      simp only [encMv, encBox, encPoR] at *
      (refine pure_of_ev tt_ok Try.func4 rfl (by decide +kernel) (Nat.le_of_ble_eq_true rfl) ?_; simp only [Try.f4])
      repeat' first
        | refine ev_seq (fun K hK => ?_)
        | ((first | refine evrd (id := 13) hmix tt_ok false [([], true), ([], true), ([], true), ([], true), ([], true), ([], true), ([], true), ([], true), ([], true), ([], true), ([], true), ([], true), ([], true), ([0, 1, 2, 3], true), ([], true), ([0, 1, 2, 3, 4, 5, 6, 7, 8, 9, 10, 11, 12, 13, 14], false), ([], false)] (by decide +kernel) ?_ | refine evr tt_ok false ?_ | refine ev_skip ?_ | refine ev_ret ?_ | refine ev_exit ?_ | refine evc (fun X Y hX hY => ?_)); simp only [go_sem, reduceAdd, reduceSub, reduceMul, reduceEqDiff, reduceLeDiff, Nat.reduceBEq, reduceLT, reduceIte, reduceCtorEq, Int.reduceToNat, w1, w2, w3, w4, bne, Int.reduceBEq, beq_self_eq_true]; try (first | (refine ⟨fun h => hX ?_, fun h => hY ?_⟩; clear hX hY) | (refine hX ?_; clear hX hY) | (refine hY ?_; clear hX hY)))
        | refine ev_block ?_
        | (apply hK; clear hK)
        | apply_assumption -exfalso -symm only [*]
        | (refine And.intro ?_ ?_; first | omega | assumption | (unfold maxLen; omega) | (simp only [decide_eq_true_eq, decide_eq_false_iff_not, Int.not_lt, Int.not_le] at h; omega))
        | ((first | apply callP | apply callPG | apply callP0); (case' hv => (simp only [go_sem, reduceAdd, reduceSub, reduceMul, reduceEqDiff, reduceLeDiff, Nat.reduceBEq, reduceLT, reduceIte, reduceCtorEq, Int.reduceToNat, w1, w2, w3, w4, bne, Int.reduceBEq, beq_self_eq_true]; try exact rfl)); (case' hp => (first | refine' awake23_pure | (refine' (fun hg => ?_); refine' awake23_pure) | refine' v1 | (refine' (fun hg => ?_); refine' v1) | refine' v2 | (refine' (fun hg => ?_); refine' v2) | refine' v3 | (refine' (fun hg => ?_); refine' v3) | refine' m1 | (refine' (fun hg => ?_); refine' m1) | refine' vw | (refine' (fun hg => ?_); refine' vw) | refine' cl | (refine' (fun hg => ?_); refine' cl) | refine' pp | (refine' (fun hg => ?_); refine' pp) | refine' mm | (refine' (fun hg => ?_); refine' mm) | refine' nx1 | (refine' (fun hg => ?_); refine' nx1) | refine' nx2 | (refine' (fun hg => ?_); refine' nx2) | refine' vh | (refine' (fun hg => ?_); refine' vh))); (case' h => ((first | refine evOps_fin ?_ | refine And.intro ?_ (evD_fin ?_) | refine evD_fin ?_) <;> simp only [go_sem, reduceAdd, reduceSub, reduceMul, reduceEqDiff, reduceLeDiff, Nat.reduceBEq, reduceLT, reduceIte, reduceCtorEq, Int.reduceToNat, w1, w2, w3, w4, bne, Int.reduceBEq, beq_self_eq_true])))
        | (refine callX ?_; (first | refine evOps_fin ?_ | refine And.intro ?_ (evD_fin ?_) | refine evD_fin ?_) <;> simp only [go_sem, reduceAdd, reduceSub, reduceMul, reduceEqDiff, reduceLeDiff, Nat.reduceBEq, reduceLT, reduceIte, reduceCtorEq, Int.reduceToNat, w1, w2, w3, w4, bne, Int.reduceBEq, beq_self_eq_true])
    · have e2 : (rewindM b g.c g.b).e = 2 := by
        unfold rewindM at *
        rw [if_pos h] at *
        unfold resB at *
        split
        · rename_i hh; rw [if_pos hh] at he; exact absurd rfl he
        · rfl
      generalize rewindM b g.c g.b = R at *
      simp only [encMv, encBox, e2] at *
      (refine pure_of_ev tt_ok Try.func4 rfl (by decide +kernel) (Nat.le_of_ble_eq_true rfl) ?_; simp only [Try.f4])
      repeat' first
        | refine ev_seq (fun K hK => ?_)
        | ((first | refine evrd (id := 13) hmix tt_ok false [([], true), ([], true), ([], true), ([], true), ([], true), ([], true), ([], true), ([], true), ([], true), ([], true), ([], true), ([], true), ([], true), ([0, 1, 2, 3], true), ([], true), ([0, 1, 2, 3, 4, 5, 6, 7, 8, 9, 10, 11, 12, 13, 14], false), ([], false)] (by decide +kernel) ?_ | refine evr tt_ok false ?_ | refine ev_skip ?_ | refine ev_ret ?_ | refine ev_exit ?_ | refine evc (fun X Y hX hY => ?_)); simp only [go_sem, reduceAdd, reduceSub, reduceMul, reduceEqDiff, reduceLeDiff, Nat.reduceBEq, reduceLT, reduceIte, reduceCtorEq, Int.reduceToNat, bne, Int.reduceBEq]; try (first | (refine ⟨fun h => hX ?_, fun h => hY ?_⟩; clear hX hY) | (refine hX ?_; clear hX hY) | (refine hY ?_; clear hX hY)))
        | refine ev_block ?_
        | (apply hK; clear hK)
        | apply_assumption -exfalso -symm only [*]
        | (refine And.intro ?_ ?_; first | omega | assumption | (unfold maxLen; omega) | (simp only [decide_eq_true_eq, decide_eq_false_iff_not, Int.not_lt, Int.not_le] at h; omega))
        | ((first | apply callP | apply callPG | apply callP0); (case' hv => (simp only [go_sem, reduceAdd, reduceSub, reduceMul, reduceEqDiff, reduceLeDiff, Nat.reduceBEq, reduceLT, reduceIte, reduceCtorEq, Int.reduceToNat, bne, Int.reduceBEq]; try exact rfl)); (case' hp => (first | refine' awake23_pure | (refine' (fun hg => ?_); refine' awake23_pure) | refine' v1 | (refine' (fun hg => ?_); refine' v1) | refine' v2 | (refine' (fun hg => ?_); refine' v2) | refine' v3 | (refine' (fun hg => ?_); refine' v3) | refine' m1 | (refine' (fun hg => ?_); refine' m1))); (case' h => ((first | refine evOps_fin ?_ | refine And.intro ?_ (evD_fin ?_) | refine evD_fin ?_) <;> simp only [go_sem, reduceAdd, reduceSub, reduceMul, reduceEqDiff, reduceLeDiff, Nat.reduceBEq, reduceLT, reduceIte, reduceCtorEq, Int.reduceToNat, bne, Int.reduceBEq])))
        | (refine callX ?_; (first | refine evOps_fin ?_ | refine And.intro ?_ (evD_fin ?_) | refine evD_fin ?_) <;> simp only [go_sem, reduceAdd, reduceSub, reduceMul, reduceEqDiff, reduceLeDiff, Nat.reduceBEq, reduceLT, reduceIte, reduceCtorEq, Int.reduceToNat, bne, Int.reduceBEq])
  · have e : rewindM b g.c g.b = ⟨Box.zero, 1⟩ := if_neg h
    rw [e] at m1
    simp only [encMv, encBox, Box.zero] at m1
    by_cases hb : b.ok
    · rw [decide_eq_true hb] at v1
      by_cases hc : g.c.ok
      · have hd : ¬ g.b.ok := fun hd => h ⟨hb, hc, hd⟩
        rw [decide_eq_true hc] at v2
        rw [decide_eq_false hd] at v3
        (refine pure_of_ev tt_ok Try.func4 rfl (by decide +kernel) (Nat.le_of_ble_eq_true rfl) ?_; simp only [Try.f4])
        repeat' first
          | refine ev_seq (fun K hK => ?_)
          | ((first | refine evrd (id := 13) hmix tt_ok false [([], true), ([], true), ([], true), ([], true), ([], true), ([], true), ([], true), ([], true), ([], true), ([], true), ([], true), ([], true), ([], true), ([0, 1, 2, 3], true), ([], true), ([0, 1, 2, 3, 4, 5, 6, 7, 8, 9, 10, 11, 12, 13, 14], false), ([], false)] (by decide +kernel) ?_ | refine evr tt_ok false ?_ | refine ev_skip ?_ | refine ev_ret ?_ | refine ev_exit ?_ | refine evc (fun X Y hX hY => ?_)); simp only [go_sem, reduceAdd, reduceSub, reduceMul, reduceEqDiff, reduceLeDiff, Nat.reduceBEq, reduceLT, reduceIte, reduceCtorEq, Int.reduceToNat, Int.reduceBEq]; try (first | (refine ⟨fun h => hX ?_, fun h => hY ?_⟩; clear hX hY) | (refine hX ?_; clear hX hY) | (refine hY ?_; clear hX hY)))
          | refine ev_block ?_
          | (apply hK; clear hK)
          | apply_assumption -exfalso -symm only [*]
          | (refine And.intro ?_ ?_; first | omega | assumption | (unfold maxLen; omega) | (simp only [decide_eq_true_eq, decide_eq_false_iff_not, Int.not_lt, Int.not_le] at h; omega))
          | ((first | apply callP | apply callPG | apply callP0); (case' hv => (simp only [go_sem, reduceAdd, reduceSub, reduceMul, reduceEqDiff, reduceLeDiff, Nat.reduceBEq, reduceLT, reduceIte, reduceCtorEq, Int.reduceToNat, Int.reduceBEq]; try exact rfl)); (case' hp => (first | refine' awake23_pure | (refine' (fun hg => ?_); refine' awake23_pure) | refine' v1 | (refine' (fun hg => ?_); refine' v1) | refine' v2 | (refine' (fun hg => ?_); refine' v2) | refine' v3 | (refine' (fun hg => ?_); refine' v3) | refine' m1 | (refine' (fun hg => ?_); refine' m1))); (case' h => ((first | refine evOps_fin ?_ | refine And.intro ?_ (evD_fin ?_) | refine evD_fin ?_) <;> simp only [go_sem, reduceAdd, reduceSub, reduceMul, reduceEqDiff, reduceLeDiff, Nat.reduceBEq, reduceLT, reduceIte, reduceCtorEq, Int.reduceToNat, Int.reduceBEq])))
          | (refine callX ?_; (first | refine evOps_fin ?_ | refine And.intro ?_ (evD_fin ?_) | refine evD_fin ?_) <;> simp only [go_sem, reduceAdd, reduceSub, reduceMul, reduceEqDiff, reduceLeDiff, Nat.reduceBEq, reduceLT, reduceIte, reduceCtorEq, Int.reduceToNat, Int.reduceBEq])
        all_goals rfl
      · rw [decide_eq_false hc] at v2
        (refine pure_of_ev tt_ok Try.func4 rfl (by decide +kernel) (Nat.le_of_ble_eq_true rfl) ?_; simp only [Try.f4])
        repeat' first
          | refine ev_seq (fun K hK => ?_)
          | ((first | refine evrd (id := 13) hmix tt_ok false [([], true), ([], true), ([], true), ([], true), ([], true), ([], true), ([], true), ([], true), ([], true), ([], true), ([], true), ([], true), ([], true), ([0, 1, 2, 3], true), ([], true), ([0, 1, 2, 3, 4, 5, 6, 7, 8, 9, 10, 11, 12, 13, 14], false), ([], false)] (by decide +kernel) ?_ | refine evr tt_ok false ?_ | refine ev_skip ?_ | refine ev_ret ?_ | refine ev_exit ?_ | refine evc (fun X Y hX hY => ?_)); simp only [go_sem, reduceAdd, reduceSub, reduceMul, reduceEqDiff, reduceLeDiff, Nat.reduceBEq, reduceLT, reduceIte, reduceCtorEq, Int.reduceToNat, Int.reduceBEq]; try (first | (refine ⟨fun h => hX ?_, fun h => hY ?_⟩; clear hX hY) | (refine hX ?_; clear hX hY) | (refine hY ?_; clear hX hY)))
          | refine ev_block ?_
          | (apply hK; clear hK)
          | apply_assumption -exfalso -symm only [*]
          | (refine And.intro ?_ ?_; first | omega | assumption | (unfold maxLen; omega) | (simp only [decide_eq_true_eq, decide_eq_false_iff_not, Int.not_lt, Int.not_le] at h; omega))
          | ((first | apply callP | apply callPG | apply callP0); (case' hv => (simp only [go_sem, reduceAdd, reduceSub, reduceMul, reduceEqDiff, reduceLeDiff, Nat.reduceBEq, reduceLT, reduceIte, reduceCtorEq, Int.reduceToNat, Int.reduceBEq]; try exact rfl)); (case' hp => (first | refine' awake23_pure | (refine' (fun hg => ?_); refine' awake23_pure) | refine' v1 | (refine' (fun hg => ?_); refine' v1) | refine' v2 | (refine' (fun hg => ?_); refine' v2) | refine' v3 | (refine' (fun hg => ?_); refine' v3) | refine' m1 | (refine' (fun hg => ?_); refine' m1))); (case' h => ((first | refine evOps_fin ?_ | refine And.intro ?_ (evD_fin ?_) | refine evD_fin ?_) <;> simp only [go_sem, reduceAdd, reduceSub, reduceMul, reduceEqDiff, reduceLeDiff, Nat.reduceBEq, reduceLT, reduceIte, reduceCtorEq, Int.reduceToNat, Int.reduceBEq])))
          | (refine callX ?_; (first | refine evOps_fin ?_ | refine And.intro ?_ (evD_fin ?_) | refine evD_fin ?_) <;> simp only [go_sem, reduceAdd, reduceSub, reduceMul, reduceEqDiff, reduceLeDiff, Nat.reduceBEq, reduceLT, reduceIte, reduceCtorEq, Int.reduceToNat, Int.reduceBEq])
        all_goals rfl
    · rw [decide_eq_false hb] at v1
      (refine pure_of_ev tt_ok Try.func4 rfl (by decide +kernel) (Nat.le_of_ble_eq_true rfl) ?_; simp only [Try.f4])
      repeat' first
        | refine ev_seq (fun K hK => ?_)
        | ((first | refine evrd (id := 13) hmix tt_ok false [([], true), ([], true), ([], true), ([], true), ([], true), ([], true), ([], true), ([], true), ([], true), ([], true), ([], true), ([], true), ([], true), ([0, 1, 2, 3], true), ([], true), ([0, 1, 2, 3, 4, 5, 6, 7, 8, 9, 10, 11, 12, 13, 14], false), ([], false)] (by decide +kernel) ?_ | refine evr tt_ok false ?_ | refine ev_skip ?_ | refine ev_ret ?_ | refine ev_exit ?_ | refine evc (fun X Y hX hY => ?_)); simp only [go_sem, reduceAdd, reduceSub, reduceMul, reduceEqDiff, reduceLeDiff, Nat.reduceBEq, reduceLT, reduceIte, reduceCtorEq, Int.reduceToNat, Int.reduceBEq]; try (first | (refine ⟨fun h => hX ?_, fun h => hY ?_⟩; clear hX hY) | (refine hX ?_; clear hX hY) | (refine hY ?_; clear hX hY)))
        | refine ev_block ?_
        | (apply hK; clear hK)
        | apply_assumption -exfalso -symm only [*]
        | (refine And.intro ?_ ?_; first | omega | assumption | (unfold maxLen; omega) | (simp only [decide_eq_true_eq, decide_eq_false_iff_not, Int.not_lt, Int.not_le] at h; omega))
        | ((first | apply callP | apply callPG | apply callP0); (case' hv => (simp only [go_sem, reduceAdd, reduceSub, reduceMul, reduceEqDiff, reduceLeDiff, Nat.reduceBEq, reduceLT, reduceIte, reduceCtorEq, Int.reduceToNat, Int.reduceBEq]; try exact rfl)); (case' hp => (first | refine' awake23_pure | (refine' (fun hg => ?_); refine' awake23_pure) | refine' v1 | (refine' (fun hg => ?_); refine' v1) | refine' v2 | (refine' (fun hg => ?_); refine' v2) | refine' v3 | (refine' (fun hg => ?_); refine' v3) | refine' m1 | (refine' (fun hg => ?_); refine' m1))); (case' h => ((first | refine evOps_fin ?_ | refine And.intro ?_ (evD_fin ?_) | refine evD_fin ?_) <;> simp only [go_sem, reduceAdd, reduceSub, reduceMul, reduceEqDiff, reduceLeDiff, Nat.reduceBEq, reduceLT, reduceIte, reduceCtorEq, Int.reduceToNat, Int.reduceBEq])))
        | (refine callX ?_; (first | refine evOps_fin ?_ | refine And.intro ?_ (evD_fin ?_) | refine evD_fin ?_) <;> simp only [go_sem, reduceAdd, reduceSub, reduceMul, reduceEqDiff, reduceLeDiff, Nat.reduceBEq, reduceLT, reduceIte, reduceCtorEq, Int.reduceToNat, Int.reduceBEq])
      all_goals rfl
end Go.Proofs.Ytmpmggbcmioipaa
