import Derived.Test.YtmpmggbcmioipaaD9
set_option linter.all false
namespace Go.Proofs.Ytmpmggbcmioipaa
open Nat (reduceAdd reduceSub reduceMul reduceEqDiff reduceLeDiff reduceLT)
open Go Go.K
set_option maxRecDepth 20000
set_option maxHeartbeats 4000000
def Pose.ok (p : Pose) : Prop := -1048576 ≤ p.x ∧ p.x ≤ 1048576 ∧ -1048576 ≤ p.y ∧ p.y ≤ 1048576 ∧ 0 ≤ p.h ∧ p.h < 256
instance decPoseOk (p : Pose) : Decidable p.ok := by unfold Pose.ok; infer_instance
theorem bpose_pure (p : Pose) : Pure Try.prog 52 [.agg [.int .i64 p.x, .int .i64 p.y, .int .i64 p.h]] (.bool (decide p.ok)) := by
  (refine pure_of_ev tt_ok Try.func52 rfl (by decide +kernel) (Nat.le_of_ble_eq_true rfl) ?_; simp only [Try.f52])
  repeat' first
    | refine ev_seq (fun K hK => ?_)
    | ((first | refine evr tt_ok false ?_ | refine ev_skip ?_ | refine ev_ret ?_ | refine ev_exit ?_ | refine evc (fun X Y hX hY => ?_)); simp only [go_sem, reduceAdd, reduceSub, reduceMul, reduceEqDiff, reduceLeDiff, Nat.reduceBEq, reduceLT, reduceIte, reduceCtorEq, Int.reduceToNat]; try (first | (refine ⟨fun h => hX ?_, fun h => hY ?_⟩; clear hX hY) | (refine hX ?_; clear hX hY) | (refine hY ?_; clear hX hY)))
    | refine ev_block ?_
    | (apply hK; clear hK)
    | apply_assumption -exfalso -symm only [*]
    | (refine And.intro ?_ ?_; first | omega | assumption | (unfold maxLen; omega) | (simp only [decide_eq_true_eq, decide_eq_false_iff_not, Int.not_lt, Int.not_le] at h; omega))
    | ((first | apply callP | apply callPG | apply callP0); (case' hv => (simp only [go_sem, reduceAdd, reduceSub, reduceMul, reduceEqDiff, reduceLeDiff, Nat.reduceBEq, reduceLT, reduceIte, reduceCtorEq, Int.reduceToNat]; try exact rfl)); (case' hp => (first | refine' bsize_pure p.x 1048576 (by omega) | (refine' (fun hg => ?_); refine' bsize_pure p.x 1048576 (by omega)) | refine' bsize_pure p.y 1048576 (by omega) | (refine' (fun hg => ?_); refine' bsize_pure p.y 1048576 (by omega)))); (case' h => ((first | refine evOps_fin ?_ | refine And.intro ?_ (evD_fin ?_) | refine evD_fin ?_) <;> simp only [go_sem, reduceAdd, reduceSub, reduceMul, reduceEqDiff, reduceLeDiff, Nat.reduceBEq, reduceLT, reduceIte, reduceCtorEq, Int.reduceToNat])))
    | (refine callX ?_; (first | refine evOps_fin ?_ | refine And.intro ?_ (evD_fin ?_) | refine evD_fin ?_) <;> simp only [go_sem, reduceAdd, reduceSub, reduceMul, reduceEqDiff, reduceLeDiff, Nat.reduceBEq, reduceLT, reduceIte, reduceCtorEq, Int.reduceToNat])
  refine bool_dec ?_
  simp only [Bool.and_eq_true, decide_eq_true_eq]
  unfold Pose.ok
  constructor
  · rintro ⟨⟨⟨⟨h1, h2⟩, h3, h4⟩, h5⟩, h6⟩; exact ⟨by omega, h2, by omega, h4, h5, h6⟩
  · rintro ⟨h1, h2, h3, h4, h5, h6⟩; exact ⟨⟨⟨⟨by omega, h2⟩, by omega, h4⟩, h5⟩, h6⟩
theorem lhas_pure (b : Box) (p : Pose) (hb : b.ok) : Pure Try.prog 23 [.agg [.int .i64 b.x0, .int .i64 b.y0, .int .i64 b.x1, .int .i64 b.y1, .int .i64 b.f, .int .i64 b.c], .agg [.int .i64 p.x, .int .i64 p.y, .int .i64 p.h]] (.bool (decide (b.has p))) := by
  have ha : (Arc.mk b.f b.c).ok := hb.2.2.2.2.2.2
  have k1 := arcB_pure ⟨b.f, b.c⟩
  have k2 := rhas_pure ⟨b.f, b.c⟩ p.h
  rw [decide_eq_true ha] at k1 k2
  rw [Bool.true_and] at k2
  have fin : (decide (b.x0 ≤ p.x) && decide (p.x ≤ b.x1) && decide (b.y0 ≤ p.y) && decide (p.y ≤ b.y1) && (Arc.mk b.f b.c).mem p.h) = decide (b.has p) := by
    rw [Bool.eq_iff_iff]
    simp only [Bool.and_eq_true, decide_eq_true_eq]
    constructor
    · rintro ⟨⟨⟨⟨h1, h2⟩, h3⟩, h4⟩, h5⟩; exact ⟨hb, h1, h2, h3, h4, h5⟩
    · rintro ⟨_, h1, h2, h3, h4, h5⟩; exact ⟨⟨⟨⟨h1, h2⟩, h3⟩, h4⟩, h5⟩
  rw [← fin]
  (refine pure_of_ev tt_ok Try.func23 rfl (by decide +kernel) (Nat.le_of_ble_eq_true rfl) ?_; simp only [Try.f23])
  repeat' first
    | refine ev_seq (fun K hK => ?_)
    | ((first | refine evr tt_ok false ?_ | refine ev_skip ?_ | refine ev_ret ?_ | refine ev_exit ?_ | refine evc (fun X Y hX hY => ?_)); simp only [go_sem, reduceAdd, reduceSub, reduceMul, reduceEqDiff, reduceLeDiff, Nat.reduceBEq, reduceLT, reduceIte, reduceCtorEq, Int.reduceToNat, Bool.and_true]; try (first | (refine ⟨fun h => hX ?_, fun h => hY ?_⟩; clear hX hY) | (refine hX ?_; clear hX hY) | (refine hY ?_; clear hX hY)))
    | refine ev_block ?_
    | (apply hK; clear hK)
    | apply_assumption -exfalso -symm only [*]
    | (refine And.intro ?_ ?_; first | omega | assumption | (unfold maxLen; omega) | (simp only [decide_eq_true_eq, decide_eq_false_iff_not, Int.not_lt, Int.not_le] at h; omega))
    | ((first | apply callP | apply callPG | apply callP0); (case' hv => (simp only [go_sem, reduceAdd, reduceSub, reduceMul, reduceEqDiff, reduceLeDiff, Nat.reduceBEq, reduceLT, reduceIte, reduceCtorEq, Int.reduceToNat, Bool.and_true]; try exact rfl)); (case' hp => (first | refine' k1 | (refine' (fun hg => ?_); refine' k1) | refine' k2 | (refine' (fun hg => ?_); refine' k2))); (case' h => ((first | refine evOps_fin ?_ | refine And.intro ?_ (evD_fin ?_) | refine evD_fin ?_) <;> simp only [go_sem, reduceAdd, reduceSub, reduceMul, reduceEqDiff, reduceLeDiff, Nat.reduceBEq, reduceLT, reduceIte, reduceCtorEq, Int.reduceToNat, Bool.and_true])))
    | (refine callX ?_; (first | refine evOps_fin ?_ | refine And.intro ?_ (evD_fin ?_) | refine evD_fin ?_) <;> simp only [go_sem, reduceAdd, reduceSub, reduceMul, reduceEqDiff, reduceLeDiff, Nat.reduceBEq, reduceLT, reduceIte, reduceCtorEq, Int.reduceToNat, Bool.and_true])
def clipS (d : Bounds) (e : Slip) : Slip := ⟨max (-d.t) (min e.t d.t), max (-d.l) (min e.l d.l), max (-d.s) (min e.x d.s), max (-d.s) (min e.y d.s)⟩
theorem rclip_pure (d : Bounds) (e : Slip) (hd : d.ok) : Pure Try.prog 19 [.agg [.int .i64 d.t, .int .i64 d.l, .int .i64 d.s, .int .i64 d.r], .agg [.int .i64 e.t, .int .i64 e.l, .int .i64 e.x, .int .i64 e.y]] (.tup [.agg [.int .i64 (clipS d e).t, .int .i64 (clipS d e).l, .int .i64 (clipS d e).x, .int .i64 (clipS d e).y], .int .i64 0]) := by
  have v := bbounds_pure d
  rw [decide_eq_true hd] at v
  obtain ⟨d1, d2, d3, d4, d5, d6, d7, d8⟩ := hd
  have w1 : IntKind.i64.wrap (0 - d.t) = -d.t := by rw [w64] <;> omega
  have w2 : IntKind.i64.wrap (0 - d.l) = -d.l := by rw [w64] <;> omega
  have w3 : IntKind.i64.wrap (0 - d.s) = -d.s := by rw [w64] <;> omega
  (refine pure_of_ev tt_ok Try.func19 rfl (by decide +kernel) (Nat.le_of_ble_eq_true rfl) ?_; simp only [Try.f19])
  repeat' first
    | refine ev_seq (fun K hK => ?_)
    | ((first | refine evrd (id := 3) hmix tt_ok false [([], false), ([], false), ([], false), ([], false), ([], false), ([], false), ([], false), ([], true), ([7], false), ([7], false), ([7], false), ([7], false), ([7], false), ([7], false), ([7], false), ([], true), ([7, 15], false), ([7, 15], false), ([7, 15], false), ([7, 15], false), ([7, 15], false), ([7, 15], false), ([7, 15], false), ([], true), ([7, 15, 23], false), ([7, 15, 23], false), ([7, 15, 23], false), ([7, 15, 23], false), ([7, 15, 23], false), ([7, 15, 23], false), ([7, 15, 23], false), ([], false), ([], false), ([], false), ([], false)] (by decide +kernel) ?_ | refine evr tt_ok false ?_ | refine ev_skip ?_ | refine ev_ret ?_ | refine ev_exit ?_ | refine evc (fun X Y hX hY => ?_)); simp only [go_sem, reduceAdd, reduceSub, reduceMul, reduceEqDiff, reduceLeDiff, Nat.reduceBEq, reduceLT, reduceIte, reduceCtorEq, Int.reduceToNat, w1, w2, w3]; try (first | (refine ⟨fun h => hX ?_, fun h => hY ?_⟩; clear hX hY) | (refine hX ?_; clear hX hY) | (refine hY ?_; clear hX hY)))
    | refine ev_block ?_
    | (apply hK; clear hK)
    | apply_assumption -exfalso -symm only [*]
    | (refine And.intro ?_ ?_; first | omega | assumption | (unfold maxLen; omega) | (simp only [decide_eq_true_eq, decide_eq_false_iff_not, Int.not_lt, Int.not_le] at h; omega))
    | ((first | apply callP | apply callPG | apply callP0); (case' hv => (simp only [go_sem, reduceAdd, reduceSub, reduceMul, reduceEqDiff, reduceLeDiff, Nat.reduceBEq, reduceLT, reduceIte, reduceCtorEq, Int.reduceToNat, w1, w2, w3]; try exact rfl)); (case' hp => (first | refine' v | (refine' (fun hg => ?_); refine' v) | refine' clip_pure e.t (-d.t) d.t | (refine' (fun hg => ?_); refine' clip_pure e.t (-d.t) d.t) | refine' clip_pure e.l (-d.l) d.l | (refine' (fun hg => ?_); refine' clip_pure e.l (-d.l) d.l) | refine' clip_pure e.x (-d.s) d.s | (refine' (fun hg => ?_); refine' clip_pure e.x (-d.s) d.s) | refine' clip_pure e.y (-d.s) d.s | (refine' (fun hg => ?_); refine' clip_pure e.y (-d.s) d.s))); (case' h => ((first | refine evOps_fin ?_ | refine And.intro ?_ (evD_fin ?_) | refine evD_fin ?_) <;> simp only [go_sem, reduceAdd, reduceSub, reduceMul, reduceEqDiff, reduceLeDiff, Nat.reduceBEq, reduceLT, reduceIte, reduceCtorEq, Int.reduceToNat, w1, w2, w3])))
    | (refine callX ?_; (first | refine evOps_fin ?_ | refine And.intro ?_ (evD_fin ?_) | refine evD_fin ?_) <;> simp only [go_sem, reduceAdd, reduceSub, reduceMul, reduceEqDiff, reduceLeDiff, Nat.reduceBEq, reduceLT, reduceIte, reduceCtorEq, Int.reduceToNat, w1, w2, w3])
  all_goals rfl
def Slip.low (e : Slip) : Prop := -64 ≤ e.t ∧ e.t ≤ 64 ∧ -64 ≤ e.l ∧ e.l ≤ 64 ∧ -64 ≤ e.x ∧ e.x ≤ 64 ∧ -64 ≤ e.y ∧ e.y ≤ 64
def goH (p : Pose) (c : Cmd) (e : Slip) : Int := (p.h + c.t + e.t) % 256
def goP (p : Pose) (c : Cmd) (e : Slip) : Pose :=
  if c.f = 0 then ⟨p.x, p.y, goH p c e⟩ else ⟨p.x + (alo (c.f + e.l) (dirM (goH p c e)).x (dirM (goH p c e)).d + e.x), p.y + (alo (c.f + e.l) (dirM (goH p c e)).y (dirM (goH p c e)).d + e.y), goH p c e⟩
structure PoR where
  (p : Pose)
  (e : Int)
def nextM (p : Pose) (c : Cmd) (e : Slip) : PoR := if (goP p c e).ok then ⟨goP p c e, 0⟩ else ⟨⟨0, 0, 0⟩, 2⟩
def encPoR (r : PoR) : V := .tup [.agg [.int .i64 r.p.x, .int .i64 r.p.y, .int .i64 r.p.h], .int .i64 r.e]
theorem rnext_pure (p : Pose) (c : Cmd) (e : Slip) (hp : p.ok) (hc : c.ok) (he : e.low) : Pure Try.prog 22 [.agg [.int .i64 p.x, .int .i64 p.y, .int .i64 p.h], .agg [.int .i64 c.t, .int .i64 c.f], .agg [.int .i64 e.t, .int .i64 e.l, .int .i64 e.x, .int .i64 e.y]] (encPoR (nextM p c e)) := by
  have v := bpose_pure p
  have vc := bcmd_pure c
  rw [decide_eq_true hp] at v
  rw [decide_eq_true hc] at vc
  obtain ⟨p1, p2, p3, p4, p5, p6⟩ := id hp
  obtain ⟨c1, c2, c3, c4⟩ := hc
  obtain ⟨e1, e2, e3, e4, e5, e6, e7, e8⟩ := he
  have z : ∀ n : Int, -64 ≤ n → n ≤ 64 → Pure Try.prog 44 [.int .i64 n, .int .i64 64] (.bool true) := by
    intro n h1 h2
    have := bsize_pure n 64 (by omega)
    rw [show (decide (-64 ≤ n) && decide (n ≤ 64)) = true by simp; omega] at this
    exact this
  have z1 := z e.t e1 e2
  have z2 := z e.l e3 e4
  have z3 := z e.x e5 e6
  have z4 := z e.y e7 e8
  have w1 : IntKind.i64.wrap (p.h + c.t) = p.h + c.t := w64 (by omega) (by omega)
  have w2 : IntKind.i64.wrap (p.h + c.t + e.t) = p.h + c.t + e.t := w64 (by omega) (by omega)
  have m := mod_pure (p.h + c.t + e.t) 256 (by omega) (by omega)
  have hh : 0 ≤ goH p c e ∧ goH p c e < 256 := by unfold goH; omega
  have eh : (p.h + c.t + e.t) % 256 = goH p c e := rfl
  rw [eh] at m
  unfold nextM goP
  generalize goH p c e = h at *
  by_cases hf : c.f = 0
  · have hf2 : (c.f == 0) = true := by rw [hf]; rfl
    have ok : (Pose.mk p.x p.y h).ok := ⟨p1, p2, p3, p4, hh.1, hh.2⟩
    rw [if_pos hf, if_pos ok]
    simp only [encPoR]
    (refine pure_of_ev tt_ok Try.func22 rfl (by decide +kernel) (Nat.le_of_ble_eq_true rfl) ?_; simp only [Try.f22])
    repeat' first
      | refine ev_seq (fun K hK => ?_)
      | ((first | refine evrd (id := 5) hmix tt_ok false [([], true), ([], true), ([], true), ([], true), ([], true), ([], true), ([], true), ([], true), ([], true), ([], true), ([], true), ([], true), ([0, 1, 2, 3], true), ([], true), ([0, 1, 2, 3, 4, 5, 6, 7, 8, 9, 10, 11, 12, 13], false), ([], false)] (by decide +kernel) ?_ | refine evr tt_ok false ?_ | refine ev_skip ?_ | refine ev_ret ?_ | refine ev_exit ?_ | refine evc (fun X Y hX hY => ?_)); simp only [go_sem, reduceAdd, reduceSub, reduceMul, reduceEqDiff, reduceLeDiff, Nat.reduceBEq, reduceLT, reduceIte, reduceCtorEq, Int.reduceToNat, w1, w2, hf2]; try (first | (refine ⟨fun h => hX ?_, fun h => hY ?_⟩; clear hX hY) | (refine hX ?_; clear hX hY) | (refine hY ?_; clear hX hY)))
      | refine ev_block ?_
      | (apply hK; clear hK)
      | apply_assumption -exfalso -symm only [*]
      | (refine And.intro ?_ ?_; first | omega | assumption | (unfold maxLen; omega) | (simp only [decide_eq_true_eq, decide_eq_false_iff_not, Int.not_lt, Int.not_le] at h; omega))
      | ((first | apply callP | apply callPG | apply callP0); (case' hv => (simp only [go_sem, reduceAdd, reduceSub, reduceMul, reduceEqDiff, reduceLeDiff, Nat.reduceBEq, reduceLT, reduceIte, reduceCtorEq, Int.reduceToNat, w1, w2, hf2]; try exact rfl)); (case' hp => (first | refine' v | (refine' (fun hg => ?_); refine' v) | refine' vc | (refine' (fun hg => ?_); refine' vc) | refine' z1 | (refine' (fun hg => ?_); refine' z1) | refine' z2 | (refine' (fun hg => ?_); refine' z2) | refine' z3 | (refine' (fun hg => ?_); refine' z3) | refine' z4 | (refine' (fun hg => ?_); refine' z4) | refine' m | (refine' (fun hg => ?_); refine' m))); (case' h => ((first | refine evOps_fin ?_ | refine And.intro ?_ (evD_fin ?_) | refine evD_fin ?_) <;> simp only [go_sem, reduceAdd, reduceSub, reduceMul, reduceEqDiff, reduceLeDiff, Nat.reduceBEq, reduceLT, reduceIte, reduceCtorEq, Int.reduceToNat, w1, w2, hf2])))
      | (refine callX ?_; (first | refine evOps_fin ?_ | refine And.intro ?_ (evD_fin ?_) | refine evD_fin ?_) <;> simp only [go_sem, reduceAdd, reduceSub, reduceMul, reduceEqDiff, reduceLeDiff, Nat.reduceBEq, reduceLT, reduceIte, reduceCtorEq, Int.reduceToNat, w1, w2, hf2])
    all_goals rfl
  · have hf2 : (c.f == 0) = false := by rw [beq_eq_false_iff_ne]; exact hf
    rw [if_neg hf]
    have w3 : IntKind.i64.wrap (c.f + e.l) = c.f + e.l := w64 (by omega) (by omega)
    have mv := rmoved_pure (max (c.f + e.l) 0) h (by omega)
    obtain ⟨d1, d2, d3, d4, d5, d6, d7⟩ := dir_ok h
    have bx := alo_between (n := c.f + e.l) (show 0 < (dirM h).d by omega) d3 d4
    have by' := alo_between (n := c.f + e.l) (show 0 < (dirM h).d by omega) d5 d6
    have hm0 : alo (max (c.f + e.l) 0) (dirM h).x (dirM h).d = alo (c.f + e.l) (dirM h).x (dirM h).d := by unfold alo; rw [show max 0 (max (c.f + e.l) 0) = max 0 (c.f + e.l) by omega]
    have hm1 : alo (max (c.f + e.l) 0) (dirM h).y (dirM h).d = alo (c.f + e.l) (dirM h).y (dirM h).d := by unfold alo; rw [show max 0 (max (c.f + e.l) 0) = max 0 (c.f + e.l) by omega]
    rw [hm0, hm1] at mv
    generalize alo (c.f + e.l) (dirM h).x (dirM h).d = dx at *
    generalize alo (c.f + e.l) (dirM h).y (dirM h).d = dy at *
    have w4 : IntKind.i64.wrap (dx + e.x) = dx + e.x := w64 (by omega) (by omega)
    have w5 : IntKind.i64.wrap (dy + e.y) = dy + e.y := w64 (by omega) (by omega)
    have w6 : IntKind.i64.wrap (p.x + (dx + e.x)) = p.x + (dx + e.x) := w64 (by omega) (by omega)
    have w7 : IntKind.i64.wrap (p.y + (dy + e.y)) = p.y + (dy + e.y) := w64 (by omega) (by omega)
    have v2 := bpose_pure ⟨p.x + (dx + e.x), p.y + (dy + e.y), h⟩
    by_cases ok : (Pose.mk (p.x + (dx + e.x)) (p.y + (dy + e.y)) h).ok
    · rw [decide_eq_true ok] at v2
      rw [if_pos ok]
      simp only [encPoR]
      (refine pure_of_ev tt_ok Try.func22 rfl (by decide +kernel) (Nat.le_of_ble_eq_true rfl) ?_; simp only [Try.f22])
      repeat' first
        | refine ev_seq (fun K hK => ?_)
        | ((first | refine evrd (id := 5) hmix tt_ok false [([], true), ([], true), ([], true), ([], true), ([], true), ([], true), ([], true), ([], true), ([], true), ([], true), ([], true), ([], true), ([0, 1, 2, 3], true), ([], true), ([0, 1, 2, 3, 4, 5, 6, 7, 8, 9, 10, 11, 12, 13], false), ([], false)] (by decide +kernel) ?_ | refine evr tt_ok false ?_ | refine ev_skip ?_ | refine ev_ret ?_ | refine ev_exit ?_ | refine evc (fun X Y hX hY => ?_)); simp only [go_sem, reduceAdd, reduceSub, reduceMul, reduceEqDiff, reduceLeDiff, Nat.reduceBEq, reduceLT, reduceIte, reduceCtorEq, Int.reduceToNat, w1, w2, w3, w4, w5, w6, w7, hf2]; try (first | (refine ⟨fun h => hX ?_, fun h => hY ?_⟩; clear hX hY) | (refine hX ?_; clear hX hY) | (refine hY ?_; clear hX hY)))
        | refine ev_block ?_
        | (apply hK; clear hK)
        | apply_assumption -exfalso -symm only [*]
        | (refine And.intro ?_ ?_; first | omega | assumption | (unfold maxLen; omega) | (simp only [decide_eq_true_eq, decide_eq_false_iff_not, Int.not_lt, Int.not_le] at h; omega))
        | ((first | apply callP | apply callPG | apply callP0); (case' hv => (simp only [go_sem, reduceAdd, reduceSub, reduceMul, reduceEqDiff, reduceLeDiff, Nat.reduceBEq, reduceLT, reduceIte, reduceCtorEq, Int.reduceToNat, w1, w2, w3, w4, w5, w6, w7, hf2]; try exact rfl)); (case' hp => (first | refine' v | (refine' (fun hg => ?_); refine' v) | refine' vc | (refine' (fun hg => ?_); refine' vc) | refine' z1 | (refine' (fun hg => ?_); refine' z1) | refine' z2 | (refine' (fun hg => ?_); refine' z2) | refine' z3 | (refine' (fun hg => ?_); refine' z3) | refine' z4 | (refine' (fun hg => ?_); refine' z4) | refine' m | (refine' (fun hg => ?_); refine' m) | refine' mv | (refine' (fun hg => ?_); refine' mv) | refine' v2 | (refine' (fun hg => ?_); refine' v2))); (case' h => ((first | refine evOps_fin ?_ | refine And.intro ?_ (evD_fin ?_) | refine evD_fin ?_) <;> simp only [go_sem, reduceAdd, reduceSub, reduceMul, reduceEqDiff, reduceLeDiff, Nat.reduceBEq, reduceLT, reduceIte, reduceCtorEq, Int.reduceToNat, w1, w2, w3, w4, w5, w6, w7, hf2])))
        | (refine callX ?_; (first | refine evOps_fin ?_ | refine And.intro ?_ (evD_fin ?_) | refine evD_fin ?_) <;> simp only [go_sem, reduceAdd, reduceSub, reduceMul, reduceEqDiff, reduceLeDiff, Nat.reduceBEq, reduceLT, reduceIte, reduceCtorEq, Int.reduceToNat, w1, w2, w3, w4, w5, w6, w7, hf2])
      all_goals rfl
    · rw [decide_eq_false ok] at v2
      rw [if_neg ok]
      simp only [encPoR]
      (refine pure_of_ev tt_ok Try.func22 rfl (by decide +kernel) (Nat.le_of_ble_eq_true rfl) ?_; simp only [Try.f22])
      repeat' first
        | refine ev_seq (fun K hK => ?_)
        | ((first | refine evrd (id := 5) hmix tt_ok false [([], true), ([], true), ([], true), ([], true), ([], true), ([], true), ([], true), ([], true), ([], true), ([], true), ([], true), ([], true), ([0, 1, 2, 3], true), ([], true), ([0, 1, 2, 3, 4, 5, 6, 7, 8, 9, 10, 11, 12, 13], false), ([], false)] (by decide +kernel) ?_ | refine evr tt_ok false ?_ | refine ev_skip ?_ | refine ev_ret ?_ | refine ev_exit ?_ | refine evc (fun X Y hX hY => ?_)); simp only [go_sem, reduceAdd, reduceSub, reduceMul, reduceEqDiff, reduceLeDiff, Nat.reduceBEq, reduceLT, reduceIte, reduceCtorEq, Int.reduceToNat, w1, w2, w3, w4, w5, w6, w7, hf2]; try (first | (refine ⟨fun h => hX ?_, fun h => hY ?_⟩; clear hX hY) | (refine hX ?_; clear hX hY) | (refine hY ?_; clear hX hY)))
        | refine ev_block ?_
        | (apply hK; clear hK)
        | apply_assumption -exfalso -symm only [*]
        | (refine And.intro ?_ ?_; first | omega | assumption | (unfold maxLen; omega) | (simp only [decide_eq_true_eq, decide_eq_false_iff_not, Int.not_lt, Int.not_le] at h; omega))
        | ((first | apply callP | apply callPG | apply callP0); (case' hv => (simp only [go_sem, reduceAdd, reduceSub, reduceMul, reduceEqDiff, reduceLeDiff, Nat.reduceBEq, reduceLT, reduceIte, reduceCtorEq, Int.reduceToNat, w1, w2, w3, w4, w5, w6, w7, hf2]; try exact rfl)); (case' hp => (first | refine' v | (refine' (fun hg => ?_); refine' v) | refine' vc | (refine' (fun hg => ?_); refine' vc) | refine' z1 | (refine' (fun hg => ?_); refine' z1) | refine' z2 | (refine' (fun hg => ?_); refine' z2) | refine' z3 | (refine' (fun hg => ?_); refine' z3) | refine' z4 | (refine' (fun hg => ?_); refine' z4) | refine' m | (refine' (fun hg => ?_); refine' m) | refine' mv | (refine' (fun hg => ?_); refine' mv) | refine' v2 | (refine' (fun hg => ?_); refine' v2))); (case' h => ((first | refine evOps_fin ?_ | refine And.intro ?_ (evD_fin ?_) | refine evD_fin ?_) <;> simp only [go_sem, reduceAdd, reduceSub, reduceMul, reduceEqDiff, reduceLeDiff, Nat.reduceBEq, reduceLT, reduceIte, reduceCtorEq, Int.reduceToNat, w1, w2, w3, w4, w5, w6, w7, hf2])))
        | (refine callX ?_; (first | refine evOps_fin ?_ | refine And.intro ?_ (evD_fin ?_) | refine evD_fin ?_) <;> simp only [go_sem, reduceAdd, reduceSub, reduceMul, reduceEqDiff, reduceLeDiff, Nat.reduceBEq, reduceLT, reduceIte, reduceCtorEq, Int.reduceToNat, w1, w2, w3, w4, w5, w6, w7, hf2])
      all_goals rfl
end Go.Proofs.Ytmpmggbcmioipaa
