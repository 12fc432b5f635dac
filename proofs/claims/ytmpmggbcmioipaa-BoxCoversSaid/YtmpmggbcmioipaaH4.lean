import Derived.Test.YtmpmggbcmioipaaH3
set_option linter.all false
namespace Go.Proofs.Ytmpmggbcmioipaa
open Nat (reduceAdd reduceSub reduceMul reduceEqDiff reduceLeDiff reduceLT)
open Go Go.K
set_option maxRecDepth 20000
set_option maxHeartbeats 4000000
def bw (b : Box) : Int := b.x1 - b.x0 + 1
def bh (b : Box) : Int := b.y1 - b.y0 + 1
def sx (b : Box) : Int := if bw b = 1 then 0 else bw b
def sy (b : Box) : Int := if bh b = 1 then 0 else bh b
def sh (b : Box) : Int := if b.c = 1 then 0 else b.c * 8
def Box.one (b : Box) : Prop := bw b = 1 ∧ bh b = 1 ∧ b.c = 1
instance decOne (b : Box) : Decidable b.one := by unfold Box.one; infer_instance
structure Spl where
  (a b : Box)
  (ok : Bool)
def splitM (b : Box) : Spl :=
  if ¬ b.ok ∨ b.one then ⟨Box.zero, Box.zero, false⟩
  else if sy b ≤ sx b ∧ sh b ≤ sx b then ⟨{ b with x1 := b.x0 + bw b / 2 - 1 }, { b with x0 := b.x0 + bw b / 2 }, true⟩
  else if sh b ≤ sy b then ⟨{ b with y1 := b.y0 + bh b / 2 - 1 }, { b with y0 := b.y0 + bh b / 2 }, true⟩
  else ⟨{ b with c := b.c / 2 }, { b with f := (b.f + b.c / 2) % 256, c := b.c - b.c / 2 }, true⟩
def encSpl (s : Spl) : V := .tup [.agg (encBox s.a), .agg (encBox s.b), .bool s.ok]
structure BoxFacts (b : Box) : Prop where
  w : IntKind.i64.wrap (IntKind.i64.wrap (b.x1 - b.x0) + 1) = bw b
  h : IntKind.i64.wrap (IntKind.i64.wrap (b.y1 - b.y0) + 1) = bh b
  w2 : IntKind.i64.wrap ((bw b).tdiv 2) = bw b / 2
  h2 : IntKind.i64.wrap ((bh b).tdiv 2) = bh b / 2
  c2 : IntKind.i64.wrap (b.c.tdiv 2) = b.c / 2
  wx : IntKind.i64.wrap (b.x0 + bw b / 2) = b.x0 + bw b / 2
  wx1 : IntKind.i64.wrap (b.x0 + bw b / 2 - 1) = b.x0 + bw b / 2 - 1
  wx2 : IntKind.i64.wrap (b.x0 + bw b / 2 - 1 + 1) = b.x0 + bw b / 2
  hy : IntKind.i64.wrap (b.y0 + bh b / 2) = b.y0 + bh b / 2
  hy1 : IntKind.i64.wrap (b.y0 + bh b / 2 - 1) = b.y0 + bh b / 2 - 1
  hy2 : IntKind.i64.wrap (b.y0 + bh b / 2 - 1 + 1) = b.y0 + bh b / 2
  f : IntKind.i64.wrap (b.f + b.c / 2) = b.f + b.c / 2
  fm : (b.f + b.c / 2).tmod 256 = (b.f + b.c / 2) % 256
  c : IntKind.i64.wrap (b.c - b.c / 2) = b.c - b.c / 2
  pw : 1 ≤ bw b
  ph : 1 ≤ bh b
  pc : 1 ≤ b.c
  uw : bw b ≤ 2097153
  uh : bh b ≤ 2097153
  uc : b.c ≤ 256
theorem box_facts {b : Box} (h : b.ok) : BoxFacts b := by
  obtain ⟨a1, a2, a3, a4, a5, a6, c1, c2, c3, c4, c5⟩ := h
  have d1 : 0 ≤ b.f := c1
  have d2 : b.f < 256 := c2
  have d3 : 1 ≤ b.c := c3
  have d4 : b.c ≤ 256 := c4
  have t : ∀ {n : Int}, 0 ≤ n → n ≤ 4000000 → IntKind.i64.wrap (n.tdiv 2) = n / 2 := fun h1 h2 => by
    rw [Int.tdiv_eq_ediv_of_nonneg h1, w64 (by omega) (by omega)]
  constructor
  · rw [w64 (x := b.x1 - b.x0) (by omega) (by omega), w64 (by omega) (by omega)]; rfl
  · rw [w64 (x := b.y1 - b.y0) (by omega) (by omega), w64 (by omega) (by omega)]; rfl
  · unfold bw; exact t (by omega) (by omega)
  · unfold bh; exact t (by omega) (by omega)
  · exact t (by omega) (by omega)
  · unfold bw; rw [w64 (by omega) (by omega)]
  · unfold bw; rw [w64 (by omega) (by omega)]
  · unfold bw; rw [w64 (by omega) (by omega)]; omega
  · unfold bh; rw [w64 (by omega) (by omega)]
  · unfold bh; rw [w64 (by omega) (by omega)]
  · unfold bh; rw [w64 (by omega) (by omega)]; omega
  · rw [w64 (by omega) (by omega)]
  · exact Int.tmod_eq_emod_of_nonneg (by omega)
  · rw [w64 (by omega) (by omega)]
  · unfold bw; omega
  · unfold bh; omega
  · omega
  · unfold bw; omega
  · unfold bh; omega
  · omega
theorem vol_one {b : Box} (h : b.ok) : b.vol < 2 ↔ b.one := by
  have F := box_facts h
  have e : b.vol = bw b * bh b * b.c := by unfold Box.vol; rw [if_pos h]; rfl
  have p1 := F.pw; have p2 := F.ph; have p3 := F.pc
  rw [e]
  unfold Box.one
  generalize bw b = w at *
  generalize bh b = g at *
  generalize b.c = c at *
  constructor
  · intro hv
    have q1 : w ≤ w * g := by have := Int.mul_le_mul_of_nonneg_left p2 (show 0 ≤ w by omega); omega
    have q2 : g ≤ w * g := by have := Int.mul_le_mul_of_nonneg_right p1 (show 0 ≤ g by omega); omega
    have q3 : w * g ≤ w * g * c := by have := Int.mul_le_mul_of_nonneg_left p3 (show 0 ≤ w * g by omega); omega
    have q4 : c ≤ w * g * c := by have := Int.mul_le_mul_of_nonneg_right (show 1 ≤ w * g by omega) (show 0 ≤ c by omega); omega
    omega
  · rintro ⟨rfl, rfl, rfl⟩; decide
theorem split_no {b : Box} (h : ¬ b.ok ∨ b.one) : splitM b = ⟨Box.zero, Box.zero, false⟩ := if_pos h
theorem split_x {b : Box} (h : b.ok) (h1 : ¬ b.one) (h2 : sy b ≤ sx b ∧ sh b ≤ sx b) : splitM b = ⟨{ b with x1 := b.x0 + bw b / 2 - 1 }, { b with x0 := b.x0 + bw b / 2 }, true⟩ := by
  unfold splitM; rw [if_neg (by intro hh; rcases hh with hh | hh <;> contradiction), if_pos h2]
theorem split_y {b : Box} (h : b.ok) (h1 : ¬ b.one) (h2 : ¬ (sy b ≤ sx b ∧ sh b ≤ sx b)) (h3 : sh b ≤ sy b) : splitM b = ⟨{ b with y1 := b.y0 + bh b / 2 - 1 }, { b with y0 := b.y0 + bh b / 2 }, true⟩ := by
  unfold splitM; rw [if_neg (by intro hh; rcases hh with hh | hh <;> contradiction), if_neg h2, if_pos h3]
theorem split_h {b : Box} (h : b.ok) (h1 : ¬ b.one) (h2 : ¬ (sy b ≤ sx b ∧ sh b ≤ sx b)) (h3 : ¬ sh b ≤ sy b) : splitM b = ⟨{ b with c := b.c / 2 }, { b with f := (b.f + b.c / 2) % 256, c := b.c - b.c / 2 }, true⟩ := by
  unfold splitM; rw [if_neg (by intro hh; rcases hh with hh | hh <;> contradiction), if_neg h2, if_neg h3]
theorem split_pure (b : Box) : Pure Try.prog 29 [.agg [.int .i64 b.x0, .int .i64 b.y0, .int .i64 b.x1, .int .i64 b.y1, .int .i64 b.f, .int .i64 b.c]] (encSpl (splitM b)) := by
  by_cases hok : b.ok
  · have F := box_facts hok
    have hv := vol_one hok
    obtain ⟨w, hh, w2, h2, c2, wx, wx1, wx2, hy, hy1, hy2, hf, fm, hc, pw, ph, pc, uw, uh, uc⟩ := F
    by_cases h1 : b.one
    · have hd : b.vol < 2 := hv.2 h1
      rw [split_no (.inr h1)]
      (refine pure_of_ev tt_ok Try.func29 rfl (by decide +kernel) (Nat.le_of_ble_eq_true rfl) ?_; simp only [Try.f29])
      repeat' first
        | refine ev_seq (fun K hK => ?_)
        | ((first | refine evrd (id := 4) hmix tt_ok false [([], false), ([], false), ([], false), ([], false), ([], false), ([], false), ([], false), ([], false), ([], false), ([], false), ([], false), ([], false), ([], false), ([], false)] (by decide +kernel) ?_ | refine evrd (id := 5) hmix tt_ok false [([], false), ([], false), ([], true), ([2], false), ([2], false), ([], true), ([2, 5], false), ([2, 5], false), ([2, 5], false), ([], false), ([], false), ([], false), ([], false)] (by decide +kernel) ?_ | refine evrd (id := 6) hmix tt_ok false [([], true), ([], true), ([0, 1], true), ([0, 1, 2], false), ([1], false), ([], false)] (by decide +kernel) ?_ | refine evrd (id := 9) hmix tt_ok false [([], false), ([], false), ([], false), ([], false), ([], false), ([], true), ([], true), ([], true), ([], true), ([], false), ([5, 6, 7, 8], false), ([], false), ([], false)] (by decide +kernel) ?_ | refine evrd (id := 16) hmix tt_ok false [([], false), ([], true), ([1], false), ([], false), ([], false)] (by decide +kernel) ?_ | refine evr tt_ok false ?_ | refine ev_skip ?_ | refine ev_ret ?_ | refine ev_exit ?_ | refine evc (fun X Y hX hY => ?_)); simp only [go_sem, reduceAdd, reduceSub, reduceMul, reduceEqDiff, reduceLeDiff, Nat.reduceBEq, reduceLT, reduceIte, reduceCtorEq, Int.reduceToNat, hd]; try (first | (refine ⟨fun h => hX ?_, fun h => hY ?_⟩; clear hX hY) | (refine hX ?_; clear hX hY) | (refine hY ?_; clear hX hY)))
        | refine ev_block ?_
        | (apply hK; clear hK)
        | apply_assumption -exfalso -symm only [*]
        | (refine And.intro ?_ ?_; first | omega | assumption | (unfold maxLen; omega) | (simp only [decide_eq_true_eq, decide_eq_false_iff_not, Int.not_lt, Int.not_le] at h; omega))
        | ((first | apply callP | apply callPG | apply callP0); (case' hv => (simp only [go_sem, reduceAdd, reduceSub, reduceMul, reduceEqDiff, reduceLeDiff, Nat.reduceBEq, reduceLT, reduceIte, reduceCtorEq, Int.reduceToNat, hd]; try exact rfl)); (case' hp => (first | refine' volume_pure b | (refine' (fun hg => ?_); refine' volume_pure b))); (case' h => ((first | refine evOps_fin ?_ | refine And.intro ?_ (evD_fin ?_) | refine evD_fin ?_) <;> simp only [go_sem, reduceAdd, reduceSub, reduceMul, reduceEqDiff, reduceLeDiff, Nat.reduceBEq, reduceLT, reduceIte, reduceCtorEq, Int.reduceToNat, hd])))
        | (refine callX ?_; (first | refine evOps_fin ?_ | refine And.intro ?_ (evD_fin ?_) | refine evD_fin ?_) <;> simp only [go_sem, reduceAdd, reduceSub, reduceMul, reduceEqDiff, reduceLeDiff, Nat.reduceBEq, reduceLT, reduceIte, reduceCtorEq, Int.reduceToNat, hd])
      rfl
    · have hd : ¬ b.vol < 2 := fun h => h1 (hv.1 h)
      have ex : (if bw b = 1 then (0 : Int) else IntKind.i64.wrap (bw b * 1)) = sx b := by
        unfold sx; rw [Int.mul_one]; split
        · rfl
        · exact w64 (by omega) (by omega)
      have ey : (if bh b = 1 then (0 : Int) else IntKind.i64.wrap (bh b * 1)) = sy b := by
        unfold sy; rw [Int.mul_one]; split
        · rfl
        · exact w64 (by omega) (by omega)
      have eh : (if b.c = 1 then (0 : Int) else IntKind.i64.wrap (b.c * 8)) = sh b := by
        unfold sh; split
        · rfl
        · rw [w64 (by omega) (by omega)]
      (refine pure_of_ev tt_ok Try.func29 rfl (by decide +kernel) (Nat.le_of_ble_eq_true rfl) ?_; simp only [Try.f29])
      repeat' first
        | refine ev_seq (fun K hK => ?_)
        | ((first | refine evrd (id := 4) hmix tt_ok false [([], false), ([], false), ([], false), ([], false), ([], false), ([], false), ([], false), ([], false), ([], false), ([], false), ([], false), ([], false), ([], false), ([], false)] (by decide +kernel) ?_ | refine evrd (id := 5) hmix tt_ok false [([], false), ([], false), ([], true), ([2], false), ([2], false), ([], true), ([2, 5], false), ([2, 5], false), ([2, 5], false), ([], false), ([], false), ([], false), ([], false)] (by decide +kernel) ?_ | refine evrd (id := 6) hmix tt_ok false [([], true), ([], true), ([0, 1], true), ([0, 1, 2], false), ([1], false), ([], false)] (by decide +kernel) ?_ | refine evrd (id := 9) hmix tt_ok false [([], false), ([], false), ([], false), ([], false), ([], false), ([], true), ([], true), ([], true), ([], true), ([], false), ([5, 6, 7, 8], false), ([], false), ([], false)] (by decide +kernel) ?_ | refine evrd (id := 16) hmix tt_ok false [([], false), ([], true), ([1], false), ([], false), ([], false)] (by decide +kernel) ?_ | refine evr tt_ok false ?_ | refine ev_skip ?_ | refine ev_ret ?_ | refine ev_exit ?_ | refine evc (fun X Y hX hY => ?_)); simp only [go_sem, reduceAdd, reduceSub, reduceMul, reduceEqDiff, reduceLeDiff, Nat.reduceBEq, reduceLT, reduceIte, reduceCtorEq, Int.reduceToNat, hd, w, hh, w2, h2, c2, wx, wx1, hy, hy1, hf, fm, hc, ex, ey, eh]; try (first | (refine ⟨fun h => hX ?_, fun h => hY ?_⟩; clear hX hY) | (refine hX ?_; clear hX hY) | (refine hY ?_; clear hX hY)))
        | refine ev_block ?_
        | (apply hK; clear hK)
        | apply_assumption -exfalso -symm only [*]
        | (refine And.intro ?_ ?_; first | omega | assumption | (unfold maxLen; omega) | (simp only [decide_eq_true_eq, decide_eq_false_iff_not, Int.not_lt, Int.not_le] at h; omega))
        | ((first | apply callP | apply callPG | apply callP0); (case' hv => (simp only [go_sem, reduceAdd, reduceSub, reduceMul, reduceEqDiff, reduceLeDiff, Nat.reduceBEq, reduceLT, reduceIte, reduceCtorEq, Int.reduceToNat, hd, w, hh, w2, h2, c2, wx, wx1, hy, hy1, hf, fm, hc, ex, ey, eh]; try exact rfl)); (case' hp => (first | refine' volume_pure b | (refine' (fun hg => ?_); refine' volume_pure b) | refine' size1_pure _ _ | (refine' (fun hg => ?_); refine' size1_pure _ _))); (case' h => ((first | refine evOps_fin ?_ | refine And.intro ?_ (evD_fin ?_) | refine evD_fin ?_) <;> simp only [go_sem, reduceAdd, reduceSub, reduceMul, reduceEqDiff, reduceLeDiff, Nat.reduceBEq, reduceLT, reduceIte, reduceCtorEq, Int.reduceToNat, hd, w, hh, w2, h2, c2, wx, wx1, hy, hy1, hf, fm, hc, ex, ey, eh])))
        | (refine callX ?_; (first | refine evOps_fin ?_ | refine And.intro ?_ (evD_fin ?_) | refine evD_fin ?_) <;> simp only [go_sem, reduceAdd, reduceSub, reduceMul, reduceEqDiff, reduceLeDiff, Nat.reduceBEq, reduceLT, reduceIte, reduceCtorEq, Int.reduceToNat, hd, w, hh, w2, h2, c2, wx, wx1, hy, hy1, hf, fm, hc, ex, ey, eh])
      · rw [split_x hok h1 (by simpa using h)]; rfl
      · have h5 := ‹(decide (sy b ≤ sx b) && decide (sh b ≤ sx b)) = false›
        rw [split_y hok h1 (by simpa using h5) (by simpa using h)]; rfl
      · have h5 := ‹(decide (sy b ≤ sx b) && decide (sh b ≤ sx b)) = false›
        rw [split_h hok h1 (by simpa using h5) (by simpa using h)]; rfl
  · have hd : b.vol < 2 := by have : b.vol = 0 := if_neg hok
                              omega
    rw [split_no (.inl hok)]
    (refine pure_of_ev tt_ok Try.func29 rfl (by decide +kernel) (Nat.le_of_ble_eq_true rfl) ?_; simp only [Try.f29])
    repeat' first
      | refine ev_seq (fun K hK => ?_)
      | ((first | refine evrd (id := 4) hmix tt_ok false [([], false), ([], false), ([], false), ([], false), ([], false), ([], false), ([], false), ([], false), ([], false), ([], false), ([], false), ([], false), ([], false), ([], false)] (by decide +kernel) ?_ | refine evrd (id := 5) hmix tt_ok false [([], false), ([], false), ([], true), ([2], false), ([2], false), ([], true), ([2, 5], false), ([2, 5], false), ([2, 5], false), ([], false), ([], false), ([], false), ([], false)] (by decide +kernel) ?_ | refine evrd (id := 6) hmix tt_ok false [([], true), ([], true), ([0, 1], true), ([0, 1, 2], false), ([1], false), ([], false)] (by decide +kernel) ?_ | refine evrd (id := 9) hmix tt_ok false [([], false), ([], false), ([], false), ([], false), ([], false), ([], true), ([], true), ([], true), ([], true), ([], false), ([5, 6, 7, 8], false), ([], false), ([], false)] (by decide +kernel) ?_ | refine evrd (id := 16) hmix tt_ok false [([], false), ([], true), ([1], false), ([], false), ([], false)] (by decide +kernel) ?_ | refine evr tt_ok false ?_ | refine ev_skip ?_ | refine ev_ret ?_ | refine ev_exit ?_ | refine evc (fun X Y hX hY => ?_)); simp only [go_sem, reduceAdd, reduceSub, reduceMul, reduceEqDiff, reduceLeDiff, Nat.reduceBEq, reduceLT, reduceIte, reduceCtorEq, Int.reduceToNat, hd]; try (first | (refine ⟨fun h => hX ?_, fun h => hY ?_⟩; clear hX hY) | (refine hX ?_; clear hX hY) | (refine hY ?_; clear hX hY)))
      | refine ev_block ?_
      | (apply hK; clear hK)
      | apply_assumption -exfalso -symm only [*]
      | (refine And.intro ?_ ?_; first | omega | assumption | (unfold maxLen; omega) | (simp only [decide_eq_true_eq, decide_eq_false_iff_not, Int.not_lt, Int.not_le] at h; omega))
      | ((first | apply callP | apply callPG | apply callP0); (case' hv => (simp only [go_sem, reduceAdd, reduceSub, reduceMul, reduceEqDiff, reduceLeDiff, Nat.reduceBEq, reduceLT, reduceIte, reduceCtorEq, Int.reduceToNat, hd]; try exact rfl)); (case' hp => (first | refine' volume_pure b | (refine' (fun hg => ?_); refine' volume_pure b))); (case' h => ((first | refine evOps_fin ?_ | refine And.intro ?_ (evD_fin ?_) | refine evD_fin ?_) <;> simp only [go_sem, reduceAdd, reduceSub, reduceMul, reduceEqDiff, reduceLeDiff, Nat.reduceBEq, reduceLT, reduceIte, reduceCtorEq, Int.reduceToNat, hd])))
      | (refine callX ?_; (first | refine evOps_fin ?_ | refine And.intro ?_ (evD_fin ?_) | refine evD_fin ?_) <;> simp only [go_sem, reduceAdd, reduceSub, reduceMul, reduceEqDiff, reduceLeDiff, Nat.reduceBEq, reduceLT, reduceIte, reduceCtorEq, Int.reduceToNat, hd])
    rfl
end Go.Proofs.Ytmpmggbcmioipaa
