import Derived.Test.YtbibplkhhdomnaaGreatW40
import Derived.Test.YtbibplkhhdomnaaGreatW27
import Derived.Test.YtbibplkhhdomnaaGreatW26
set_option linter.all false
namespace Go.Proofs.YtbibplkhhdomnaaGreat
open Nat (reduceAdd reduceSub reduceMul reduceEqDiff reduceLeDiff reduceLT)
open Go Go.K
set_option maxRecDepth 20000
set_option maxHeartbeats 32000000
def proT : Prob := ⟨⟨2, 0, 1, 1, [9]⟩, [⟨0, 64⟩], 32, 32, 0, 1, 1⟩
theorem proT_ok : proT.ok := by decide +kernel
theorem bytesT : bytesL proT.f.v := by
  intro b hb
  simp [proT] at hb
  omega
theorem optT : Opt proT 9 ⟨0, 0, 1⟩ := by
  refine ⟨fun c hc => ?_, by decide +kernel, by decide +kernel⟩
  obtain ⟨j, hj, rfl⟩ := in_cnd proT_ok hc
  have e : proT.N = 9 := by decide +kernel
  rw [e] at hj
  have key : ∀ j, j < 9 → ¬ betM (boundM proT (toB (cndAt proT j))) (cndAt proT j) 9 ⟨0, 0, 1⟩ := by decide +kernel
  exact key j hj
theorem awakeT_pure : Pure Tryz.prog 4 [] (.bool true) := by
  have o : Opt proT (fndM proT).sc (fndM proT).b := opt_of proT_ok bytesT
  obtain ⟨u1, u2⟩ := o.uniq optT
  have hl : (proT.s.length : Int) < 4611686018427387904 := by decide
  have fp := find_pure proT bytesT hl
  unfold fndR at fp
  rw [if_pos proT_ok] at fp
  have c1 := check_pure proT bytesT hl (fndM proT)
  rw [fnd_check proT_ok bytesT] at c1
  clear o
  generalize fndM proT = m at *
  simp only [encMa, encM, encP, u1, u2, proT, List.map_cons, List.map_nil, enB, enBm] at fp c1
  (refine pure_of_ev tt_ok Tryz.func4 rfl (by decide +kernel) (Nat.le_of_ble_eq_true rfl) ?_; simp only [Tryz.f4])
  refine ev_seq (fun K hK => ?_)
  refine evr tt_ok false ?_
  simp only [go_sem, reduceAdd, reduceSub, reduceMul, reduceEqDiff, reduceLeDiff, Nat.reduceBEq, reduceLT, reduceIte, reduceCtorEq, Int.reduceToNat]
  apply hK; clear hK
  refine ev_seq (fun K hK => ?_)
  refine evr tt_ok false ?_
  simp only [go_sem, reduceAdd, reduceSub, reduceMul, reduceEqDiff, reduceLeDiff, Nat.reduceBEq, reduceLT, reduceIte, reduceCtorEq, Int.reduceToNat]
  refine And.intro (by unfold maxLen; omega) ?_
  apply hK; clear hK
  refine ev_freeze 0 rfl rfl ?_
  refine ev_freeze 1 rfl rfl ?_
  repeat' first
    | refine ev_seq (fun K hK => ?_)
    | ((first | refine evr tt_ok false ?_ | refine ev_skip ?_ | refine ev_ret ?_ | refine ev_exit ?_ | refine evc (fun X Y hX hY => ?_)); simp only [go_sem, reduceAdd, reduceSub, reduceMul, reduceEqDiff, reduceLeDiff, Nat.reduceBEq, reduceLT, reduceIte, reduceCtorEq, Int.reduceToNat, Int.reduceBEq, beq_self_eq_true, bne]; try (first | (refine ⟨fun h => hX ?_, fun h => hY ?_⟩; clear hX hY) | (refine hX ?_; clear hX hY) | (refine hY ?_; clear hX hY)))
    | refine ev_block ?_
    | (apply hK; clear hK)
    | apply_assumption -exfalso -symm only [*]
    | (refine And.intro ?_ ?_; first | omega | assumption | (unfold maxLen; omega) | (simp only [decide_eq_true_eq, decide_eq_false_iff_not, Int.not_lt, Int.not_le] at h; omega))
    | ((first | apply callP | apply callPG | apply callP0); (case' hv => (simp only [go_sem, reduceAdd, reduceSub, reduceMul, reduceEqDiff, reduceLeDiff, Nat.reduceBEq, reduceLT, reduceIte, reduceCtorEq, Int.reduceToNat, Int.reduceBEq, beq_self_eq_true, bne]; try exact rfl)); (case' hp => (first | refine' fp | (refine' (fun hg => ?_); refine' fp))); (case' h => ((first | refine evOps_fin ?_ | refine And.intro ?_ (evD_fin ?_) | refine evD_fin ?_) <;> simp only [go_sem, reduceAdd, reduceSub, reduceMul, reduceEqDiff, reduceLeDiff, Nat.reduceBEq, reduceLT, reduceIte, reduceCtorEq, Int.reduceToNat, Int.reduceBEq, beq_self_eq_true, bne])))
    | ((first | apply callL | apply callLG | apply callL0); (case' hv => (simp only [go_sem, reduceAdd, reduceSub, reduceMul, reduceEqDiff, reduceLeDiff, Nat.reduceBEq, reduceLT, reduceIte, reduceCtorEq, Int.reduceToNat, Int.reduceBEq, beq_self_eq_true, bne]; try exact rfl)); (case' hp => (first | refine' c1 | (refine' (fun hg => ?_); refine' c1))); (case' hf => exact rfl); (case' h => ((first | refine evOps_fin ?_ | refine And.intro ?_ (evD_fin ?_) | refine evD_fin ?_) <;> simp only [go_sem, reduceAdd, reduceSub, reduceMul, reduceEqDiff, reduceLeDiff, Nat.reduceBEq, reduceLT, reduceIte, reduceCtorEq, Int.reduceToNat, Int.reduceBEq, beq_self_eq_true, bne])))
    | (refine callX ?_; (first | refine evOps_fin ?_ | refine And.intro ?_ (evD_fin ?_) | refine evD_fin ?_) <;> simp only [go_sem, reduceAdd, reduceSub, reduceMul, reduceEqDiff, reduceLeDiff, Nat.reduceBEq, reduceLT, reduceIte, reduceCtorEq, Int.reduceToNat, Int.reduceBEq, beq_self_eq_true, bne])
  all_goals rfl
theorem cnd_eq {a : Cnd} {k y x : Int} (h1 : a.k = k) (h2 : a.y = y) (h3 : a.x = x) : a = ⟨k, y, x⟩ := by
  cases a; subst h1 h2 h3; rfl
theorem match_x (ps : List Cnd) (ss : List (List Bem)) (q : Sea) (hps : ps.length ≤ 9223372036854775807) :
    PureX Tryz.prog 3 [.sl (ps.map enC), .sl (ss.map encS), .agg (encSea q)] fun z => z = .bool true := by
  have aw := awakeT_pure
  have lx := light_x ps ss q
  refine pureX_of_ev tt_ok Tryz.func3 rfl (by decide +kernel) (Nat.le_of_ble_eq_true rfl) ?_
  simp only [Tryz.f3]
  unfold encSea at lx ⊢
  repeat' first
    | refine ev_seq (fun K hK => ?_)
    | refine ev_held (id := 1) ?_
    | ((first | refine evr tt_ok false ?_ | refine ev_skip ?_ | refine ev_ret ?_ | refine ev_exit ?_ | refine evc (fun X Y hX hY => ?_)); simp only [go_sem, reduceAdd, reduceSub, reduceMul, reduceEqDiff, reduceLeDiff, Nat.reduceBEq, reduceLT, reduceIte, reduceCtorEq, Int.reduceToNat]; try (first | (refine ⟨fun h => hX ?_, fun h => hY ?_⟩; clear hX hY) | (refine hX ?_; clear hX hY) | (refine hY ?_; clear hX hY)))
    | refine ev_block ?_
    | (apply hK; clear hK)
    | apply_assumption -exfalso -symm only [*]
    | (refine And.intro ?_ ?_; first | omega | assumption | (unfold maxLen; omega) | (simp only [decide_eq_true_eq, decide_eq_false_iff_not, Int.not_lt, Int.not_le] at h; omega))
  refine Held.mk ?_
  refine ev_region3 tt_ok false ?_
  simp only [go_sem, reduceAdd, reduceSub, reduceMul, reduceEqDiff, reduceLeDiff, Nat.reduceBEq, reduceLT, reduceIte, reduceCtorEq, Int.reduceToNat]
  refine ev3_spec rfl (by simp only [go_sem, reduceAdd, reduceSub, reduceMul, reduceEqDiff, reduceLeDiff, Nat.reduceBEq, reduceLT, reduceIte, reduceCtorEq, Int.reduceToNat]) (specS_pure (pureX_of aw) (by simp only [go_sem, reduceAdd, reduceSub, reduceMul, reduceEqDiff, reduceLeDiff, Nat.reduceBEq, reduceLT, reduceIte, reduceCtorEq, Int.reduceToNat]; rfl) (by simp only [go_sem, reduceAdd, reduceSub, reduceMul, reduceEqDiff, reduceLeDiff, Nat.reduceBEq, reduceLT, reduceIte, reduceCtorEq, Int.reduceToNat]) (by simp only [go_sem, reduceAdd, reduceSub, reduceMul, reduceEqDiff, reduceLeDiff, Nat.reduceBEq, reduceLT, reduceIte, reduceCtorEq, Int.reduceToNat])) ?_
  rintro z ⟨_, rfl, rfl⟩
  simp only [go_sem, reduceAdd, reduceSub, reduceMul, reduceEqDiff, reduceLeDiff, Nat.reduceBEq, reduceLT, reduceIte, reduceCtorEq, Int.reduceToNat]
  iterate 5 (refine ev3_step ?_; simp only [go_sem, reduceAdd, reduceSub, reduceMul, reduceEqDiff, reduceLeDiff, Nat.reduceBEq, reduceLT, reduceIte, reduceCtorEq, Int.reduceToNat])
  refine ev3_specG rfl (by simp only [go_sem, reduceAdd, reduceSub, reduceMul, reduceEqDiff, reduceLeDiff, Nat.reduceBEq, reduceLT, reduceIte, reduceCtorEq, Int.reduceToNat]) (by simp only [go_sem, reduceAdd, reduceSub, reduceMul, reduceEqDiff, reduceLeDiff, Nat.reduceBEq, reduceLT, reduceIte, reduceCtorEq, Int.reduceToNat]) (specS_pure lx (by simp only [go_sem, reduceAdd, reduceSub, reduceMul, reduceEqDiff, reduceLeDiff, Nat.reduceBEq, reduceLT, reduceIte, reduceCtorEq, Int.reduceToNat]; rfl) (by simp only [go_sem, reduceAdd, reduceSub, reduceMul, reduceEqDiff, reduceLeDiff, Nat.reduceBEq, reduceLT, reduceIte, reduceCtorEq, Int.reduceToNat]) (by simp only [go_sem, reduceAdd, reduceSub, reduceMul, reduceEqDiff, reduceLeDiff, Nat.reduceBEq, reduceLT, reduceIte, reduceCtorEq, Int.reduceToNat])) ?_
  rintro z ⟨_, ⟨b0, rfl, hb0⟩, rfl⟩
  simp only [go_sem, reduceAdd, reduceSub, reduceMul, reduceEqDiff, reduceLeDiff, Nat.reduceBEq, reduceLT, reduceIte, reduceCtorEq, Int.reduceToNat]
  iterate 2 (refine ev3_step ?_; simp only [go_sem, reduceAdd, reduceSub, reduceMul, reduceEqDiff, reduceLeDiff, Nat.reduceBEq, reduceLT, reduceIte, reduceCtorEq, Int.reduceToNat])
  refine ev3_nil ?_
  apply hK; clear hK
  repeat' first
    | refine ev_seq (fun K hK => ?_)
    | refine ev_held (id := 3) ?_
    | ((first | refine evr tt_ok false ?_ | refine ev_skip ?_ | refine ev_ret ?_ | refine ev_exit ?_ | refine evc (fun X Y hX hY => ?_)); simp only [go_sem, reduceAdd, reduceSub, reduceMul, reduceEqDiff, reduceLeDiff, Nat.reduceBEq, reduceLT, reduceIte, reduceCtorEq, Int.reduceToNat]; try (first | (refine ⟨fun h => hX ?_, fun h => hY ?_⟩; clear hX hY) | (refine hX ?_; clear hX hY) | (refine hY ?_; clear hX hY)))
    | refine ev_block ?_
    | (apply hK; clear hK)
    | apply_assumption -exfalso -symm only [*]
    | (refine And.intro ?_ ?_; first | omega | assumption | (unfold maxLen; omega) | (simp only [decide_eq_true_eq, decide_eq_false_iff_not, Int.not_lt, Int.not_le] at h; omega))
    | ((first | apply callP | apply callPG | apply callP0); (case' hv => (simp only [go_sem, reduceAdd, reduceSub, reduceMul, reduceEqDiff, reduceLeDiff, Nat.reduceBEq, reduceLT, reduceIte, reduceCtorEq, Int.reduceToNat]; try exact rfl)); (case' hp => (first | refine' aw | (refine' (fun hg => ?_); refine' aw))); (case' h => ((first | refine evOps_fin ?_ | refine And.intro ?_ (evD_fin ?_) | refine evD_fin ?_) <;> simp only [go_sem, reduceAdd, reduceSub, reduceMul, reduceEqDiff, reduceLeDiff, Nat.reduceBEq, reduceLT, reduceIte, reduceCtorEq, Int.reduceToNat])))
    | (refine callX ?_; (first | refine evOps_fin ?_ | refine And.intro ?_ (evD_fin ?_) | refine evD_fin ?_) <;> simp only [go_sem, reduceAdd, reduceSub, reduceMul, reduceEqDiff, reduceLeDiff, Nat.reduceBEq, reduceLT, reduceIte, reduceCtorEq, Int.reduceToNat])
  · refine ⟨_, rfl, ?_, rfl⟩
    simp only [go_sem, reduceAdd, reduceSub, reduceMul, reduceEqDiff, reduceLeDiff, Nat.reduceBEq, reduceLT, reduceIte, reduceCtorEq, Int.reduceToNat]
  have hb1 : b0 = true := by cases b0 with | true => rfl | false => simp at h
  obtain ⟨g1, g2⟩ := hb0 hb1
  have px := problem_x ps ss q hps (fun l hl => by have := g1 l hl; omega) (by omega)
  unfold encSea at px
  refine Held.mk ?_
  refine ev_region3 tt_ok false ?_
  simp only [go_sem, reduceAdd, reduceSub, reduceMul, reduceEqDiff, reduceLeDiff, Nat.reduceBEq, reduceLT, reduceIte, reduceCtorEq, Int.reduceToNat]
  iterate 3 (refine ev3_step ?_; simp only [go_sem, reduceAdd, reduceSub, reduceMul, reduceEqDiff, reduceLeDiff, Nat.reduceBEq, reduceLT, reduceIte, reduceCtorEq, Int.reduceToNat])
  refine ev3_spec rfl (by simp only [go_sem, reduceAdd, reduceSub, reduceMul, reduceEqDiff, reduceLeDiff, Nat.reduceBEq, reduceLT, reduceIte, reduceCtorEq, Int.reduceToNat]) (specS_pure px (by simp only [go_sem, reduceAdd, reduceSub, reduceMul, reduceEqDiff, reduceLeDiff, Nat.reduceBEq, reduceLT, reduceIte, reduceCtorEq, Int.reduceToNat]; rfl) (by simp only [go_sem, reduceAdd, reduceSub, reduceMul, reduceEqDiff, reduceLeDiff, Nat.reduceBEq, reduceLT, reduceIte, reduceCtorEq, Int.reduceToNat]) (by simp only [go_sem, reduceAdd, reduceSub, reduceMul, reduceEqDiff, reduceLeDiff, Nat.reduceBEq, reduceLT, reduceIte, reduceCtorEq, Int.reduceToNat])) ?_
  rintro z ⟨_, ⟨p, ok, hb, hl, hok, rfl⟩, rfl⟩
  unfold encP
  simp only [go_sem, reduceAdd, reduceSub, reduceMul, reduceEqDiff, reduceLeDiff, Nat.reduceBEq, reduceLT, reduceIte, reduceCtorEq, Int.reduceToNat]
  iterate 6 (refine ev3_step ?_; simp only [go_sem, reduceAdd, reduceSub, reduceMul, reduceEqDiff, reduceLeDiff, Nat.reduceBEq, reduceLT, reduceIte, reduceCtorEq, Int.reduceToNat])
  refine ev3_nil ?_
  apply hK; clear hK
  cases ok with
  | false =>
    repeat' first
      | refine ev_seq (fun K hK => ?_)
      | ((first | refine evr tt_ok false ?_ | refine ev_skip ?_ | refine ev_ret ?_ | refine ev_exit ?_ | refine evc (fun X Y hX hY => ?_)); simp only [go_sem, reduceAdd, reduceSub, reduceMul, reduceEqDiff, reduceLeDiff, Nat.reduceBEq, reduceLT, reduceIte, reduceCtorEq, Int.reduceToNat]; try (first | (refine ⟨fun h => hX ?_, fun h => hY ?_⟩; clear hX hY) | (refine hX ?_; clear hX hY) | (refine hY ?_; clear hX hY)))
      | refine ev_block ?_
      | (apply hK; clear hK)
      | apply_assumption -exfalso -symm only [*]
      | (refine And.intro ?_ ?_; first | omega | assumption | (unfold maxLen; omega) | (simp only [decide_eq_true_eq, decide_eq_false_iff_not, Int.not_lt, Int.not_le] at h; omega))
    try refine ev_ret ?_
    refine ⟨_, rfl, ?_, rfl⟩
    simp only [go_sem, reduceAdd, reduceSub, reduceMul, reduceEqDiff, reduceLeDiff, Nat.reduceBEq, reduceLT, reduceIte, reduceCtorEq, Int.reduceToNat]
  | true =>
    have h := hok rfl
    have ho : Opt p (fndM p).sc (fndM p).b := opt_of h hb
    have fp := find_pure p hb hl
    unfold fndR at fp
    rw [if_pos h] at fp
    have c1 := check_pure p hb hl (fndM p)
    rw [fnd_check h hb] at c1
    generalize fndM p = m at *
    simp only [encMa, encM, encP] at fp c1
    repeat' first
      | refine ev_seq (fun K hK => ?_)
      | ((first | refine evr tt_ok false ?_ | refine ev_skip ?_ | refine ev_ret ?_ | refine ev_exit ?_ | refine evc (fun X Y hX hY => ?_)); simp only [go_sem, reduceAdd, reduceSub, reduceMul, reduceEqDiff, reduceLeDiff, Nat.reduceBEq, reduceLT, reduceIte, reduceCtorEq, Int.reduceToNat, Int.reduceBEq, beq_self_eq_true, bne]; try (first | (refine ⟨fun h => hX ?_, fun h => hY ?_⟩; clear hX hY) | (refine hX ?_; clear hX hY) | (refine hY ?_; clear hX hY)))
      | refine ev_block ?_
      | (apply hK; clear hK)
      | apply_assumption -exfalso -symm only [*]
      | (refine And.intro ?_ ?_; first | omega | assumption | (unfold maxLen; omega) | (simp only [decide_eq_true_eq, decide_eq_false_iff_not, Int.not_lt, Int.not_le] at h; omega))
      | ((first | apply callP | apply callPG | apply callP0); (case' hv => (simp only [go_sem, reduceAdd, reduceSub, reduceMul, reduceEqDiff, reduceLeDiff, Nat.reduceBEq, reduceLT, reduceIte, reduceCtorEq, Int.reduceToNat, Int.reduceBEq, beq_self_eq_true, bne]; try exact rfl)); (case' hp => (first | refine' fp | (refine' (fun hg => ?_); refine' fp) | refine' c1 | (refine' (fun hg => ?_); refine' c1))); (case' h => ((first | refine evOps_fin ?_ | refine And.intro ?_ (evD_fin ?_) | refine evD_fin ?_) <;> simp only [go_sem, reduceAdd, reduceSub, reduceMul, reduceEqDiff, reduceLeDiff, Nat.reduceBEq, reduceLT, reduceIte, reduceCtorEq, Int.reduceToNat, Int.reduceBEq, beq_self_eq_true, bne])))
      | (refine callX ?_; (first | refine evOps_fin ?_ | refine And.intro ?_ (evD_fin ?_) | refine evD_fin ?_) <;> simp only [go_sem, reduceAdd, reduceSub, reduceMul, reduceEqDiff, reduceLeDiff, Nat.reduceBEq, reduceLT, reduceIte, reduceCtorEq, Int.reduceToNat, Int.reduceBEq, beq_self_eq_true, bne])
    obtain ⟨d1, d2, d3, d4, d5, d6⟩ := ho.in'
    obtain ⟨_, hkK, hN, r0, r1, k1, k2⟩ := winOk h
    have wn : IntKind.i64.wrap (0 - p.re) = -p.re := by rw [w64] <;> omega
    refine ev_loop (fun k : Nat => (k : Int) ≤ p.ct)
      (fun k => ⟨117, [(12, .int .i64 (k : Int)), (11, .bool (decide ((k : Int) ≤ m.b.k))), (7, .own 1 0 0 0), (9, .own 2 0 0 0)], [.gone, .blk 37 0 11 [[.int .i64 p.f.x, .int .i64 p.f.y, .int .i64 p.f.w, .int .i64 p.f.h, .sl (p.f.v.map enB), .sl (p.s.map enBm), .int .i64 p.cx, .int .i64 p.cy, .int .i64 p.fr, .int .i64 p.ct, .int .i64 p.re]], .blk 46 0 8 [[.int .i64 m.b.k, .int .i64 m.b.y, .int .i64 m.b.x, .int .i64 m.px, .int .i64 m.py, .int .i64 m.ph, .int .i64 m.sc, .sl (m.l.map enBl)]]]⟩)
      (fun k => p.ct.toNat - k) 0 (by omega) ?_ ?_
    · simp only [go_sem, reduceAdd, reduceSub, reduceMul, reduceEqDiff, reduceLeDiff, Nat.reduceBEq, reduceLT, reduceIte, reduceCtorEq, Int.reduceToNat, fits, fitT, fitOs, fitO, V.under, unders, rowsUnder]
      repeat' first | rfl | exact congrArg (V.int .i64) (by omega) | exact congrArg V.bool (decide_eq_decide.2 (by omega)) | exact congrArg V.bool (decide_eq_true (by omega)).symm | apply And.intro
      all_goals trace_state
    · intro k hk
      have hwk : IntKind.i64.wrap ((k : Int) + 1) = ((k + 1 : Nat) : Int) := by rw [w64] <;> omega
      by_cases hlt : (k : Int) < p.ct
      · repeat' first
        | refine ev_seq (fun K hK => ?_)
        | ((first | refine evr tt_ok false ?_ | refine ev_skip ?_ | refine ev_ret ?_ | refine ev_exit ?_ | refine evc (fun X Y hX hY => ?_)); simp only [go_sem, reduceAdd, reduceSub, reduceMul, reduceEqDiff, reduceLeDiff, Nat.reduceBEq, reduceLT, reduceIte, reduceCtorEq, Int.reduceToNat, hlt, wn]; try (first | (refine ⟨fun h => hX ?_, fun h => hY ?_⟩; clear hX hY) | (refine hX ?_; clear hX hY) | (refine hY ?_; clear hX hY)))
        | refine ev_block ?_
        | (apply hK; clear hK)
        | apply_assumption -exfalso -symm only [*]
        | (refine And.intro ?_ ?_; first | omega | assumption | (unfold maxLen; omega) | (simp only [decide_eq_true_eq, decide_eq_false_iff_not, Int.not_lt, Int.not_le] at h; omega))
        refine ev_loop (fun j : Nat => (j : Int) ≤ 2 * p.re + 1)
          (fun j => ⟨117, [(13, .int .i64 (-p.re + (j : Int))), (12, .int .i64 (k : Int)), (11, .bool (decide ((k : Int) < m.b.k ∨ (k : Int) = m.b.k ∧ -p.re + (j : Int) ≤ m.b.y))), (7, .own 1 0 0 0), (9, .own 2 0 0 0)], [.gone, .blk 37 0 11 [[.int .i64 p.f.x, .int .i64 p.f.y, .int .i64 p.f.w, .int .i64 p.f.h, .sl (p.f.v.map enB), .sl (p.s.map enBm), .int .i64 p.cx, .int .i64 p.cy, .int .i64 p.fr, .int .i64 p.ct, .int .i64 p.re]], .blk 46 0 8 [[.int .i64 m.b.k, .int .i64 m.b.y, .int .i64 m.b.x, .int .i64 m.px, .int .i64 m.py, .int .i64 m.ph, .int .i64 m.sc, .sl (m.l.map enBl)]]]⟩)
          (fun j => (2 * p.re + 1).toNat - j) 0 (by omega) ?_ ?_
        · simp only [go_sem, reduceAdd, reduceSub, reduceMul, reduceEqDiff, reduceLeDiff, Nat.reduceBEq, reduceLT, reduceIte, reduceCtorEq, Int.reduceToNat, fits, fitT, fitOs, fitO, V.under, unders, rowsUnder]
          repeat' first | rfl | exact congrArg (V.int .i64) (by omega) | exact congrArg V.bool (decide_eq_decide.2 (by omega)) | exact congrArg V.bool (decide_eq_true (by omega)).symm | apply And.intro
          all_goals trace_state
        · intro j hj
          have hwj : IntKind.i64.wrap (-p.re + (j : Int) + 1) = -p.re + ((j + 1 : Nat) : Int) := by rw [w64] <;> omega
          by_cases hlj : -p.re + (j : Int) ≤ p.re
          · repeat' first
            | refine ev_seq (fun K hK => ?_)
            | ((first | refine evr tt_ok false ?_ | refine ev_skip ?_ | refine ev_ret ?_ | refine ev_exit ?_ | refine evc (fun X Y hX hY => ?_)); simp only [go_sem, reduceAdd, reduceSub, reduceMul, reduceEqDiff, reduceLeDiff, Nat.reduceBEq, reduceLT, reduceIte, reduceCtorEq, Int.reduceToNat, hlj, wn]; try (first | (refine ⟨fun h => hX ?_, fun h => hY ?_⟩; clear hX hY) | (refine hX ?_; clear hX hY) | (refine hY ?_; clear hX hY)))
            | refine ev_block ?_
            | (apply hK; clear hK)
            | apply_assumption -exfalso -symm only [*]
            | (refine And.intro ?_ ?_; first | omega | assumption | (unfold maxLen; omega) | (simp only [decide_eq_true_eq, decide_eq_false_iff_not, Int.not_lt, Int.not_le] at h; omega))
            refine ev_loop (fun i : Nat => (i : Int) ≤ 2 * p.re + 1)
              (fun i => ⟨117, [(14, .int .i64 (-p.re + (i : Int))), (13, .int .i64 (-p.re + (j : Int))), (12, .int .i64 (k : Int)), (11, .bool (decide ((k : Int) < m.b.k ∨ (k : Int) = m.b.k ∧ (-p.re + (j : Int) < m.b.y ∨ -p.re + (j : Int) = m.b.y ∧ -p.re + (i : Int) ≤ m.b.x)))), (7, .own 1 0 0 0), (9, .own 2 0 0 0)], [.gone, .blk 37 0 11 [[.int .i64 p.f.x, .int .i64 p.f.y, .int .i64 p.f.w, .int .i64 p.f.h, .sl (p.f.v.map enB), .sl (p.s.map enBm), .int .i64 p.cx, .int .i64 p.cy, .int .i64 p.fr, .int .i64 p.ct, .int .i64 p.re]], .blk 46 0 8 [[.int .i64 m.b.k, .int .i64 m.b.y, .int .i64 m.b.x, .int .i64 m.px, .int .i64 m.py, .int .i64 m.ph, .int .i64 m.sc, .sl (m.l.map enBl)]]]⟩)
              (fun i => (2 * p.re + 1).toNat - i) 0 (by omega) ?_ ?_
            · simp only [go_sem, reduceAdd, reduceSub, reduceMul, reduceEqDiff, reduceLeDiff, Nat.reduceBEq, reduceLT, reduceIte, reduceCtorEq, Int.reduceToNat, fits, fitT, fitOs, fitO, V.under, unders, rowsUnder]
              repeat' first | rfl | exact congrArg (V.int .i64) (by omega) | exact congrArg V.bool (decide_eq_decide.2 (by omega)) | exact congrArg V.bool (decide_eq_true (by omega)).symm | apply And.intro
              all_goals trace_state
            · intro i hi
              have hwi : IntKind.i64.wrap (-p.re + (i : Int) + 1) = -p.re + ((i + 1 : Nat) : Int) := by rw [w64] <;> omega
              by_cases hli : -p.re + (i : Int) ≤ p.re
              · have hin : inW p ⟨(k : Int), -p.re + (j : Int), -p.re + (i : Int)⟩ := ⟨by simp only; omega, by simp only; omega, by simp only; omega, by simp only; omega, by simp only; omega, by simp only; omega⟩
                have vs := Score_pure p hb hl ⟨(k : Int), -p.re + (j : Int), -p.re + (i : Int)⟩
                unfold boundR at vs
                rw [if_pos h, if_pos ⟨hin, Int.le_refl 0, by show (0 : Int) ≤ 6; decide⟩] at vs
                have nb := ho.nb _ hin
                have hsc := ho.sc
                have bsc : m.b = ⟨(k : Int), -p.re + (j : Int), -p.re + (i : Int)⟩ → boundM p ⟨(k : Int), -p.re + (j : Int), -p.re + (i : Int), 0⟩ = m.sc := fun e => by rw [hsc, e]; rfl
                unfold nbM betM befM toB at nb
                simp only at nb
                generalize boundM p ⟨(k : Int), -p.re + (j : Int), -p.re + (i : Int), 0⟩ = sc at *
                simp only [encP, enC, encNu] at vs
                obtain ⟨yy, hyy⟩ : ∃ yy, -p.re + (j : Int) = yy := ⟨_, rfl⟩
                obtain ⟨xx, hxx⟩ : ∃ xx, -p.re + (i : Int) = xx := ⟨_, rfl⟩
                rw [hyy, hxx] at vs nb bsc
                have hgt : decide (m.sc < sc) = false := decide_eq_false (by omega)
                rw [hxx] at hwi hli
                by_cases hs : sc = m.sc
                · have hs1 : (sc == m.sc) = true := by rw [hs]; exact beq_self_eq_true _
                  have hs2 : decide (sc < m.sc) = false := decide_eq_false (by omega)
                  by_cases hf : (k : Int) < m.b.k ∨ (k : Int) = m.b.k ∧ (yy < m.b.y ∨ yy = m.b.y ∧ xx ≤ m.b.x)
                  · have hfl := decide_eq_true hf
                    have e1 : ((k : Int) == m.b.k) = true := by rw [beq_iff_eq]; omega
                    have e2 : (yy == m.b.y) = true := by rw [beq_iff_eq]; omega
                    have e3 : (xx == m.b.x) = true := by rw [beq_iff_eq]; omega
                    repeat' first
                      | refine ev_seq (fun K hK => ?_)
                      | ((first | refine evr tt_ok false ?_ | refine ev_skip ?_ | refine ev_ret ?_ | refine ev_exit ?_ | refine evc (fun X Y hX hY => ?_)); simp only [go_sem, reduceAdd, reduceSub, reduceMul, reduceEqDiff, reduceLeDiff, Nat.reduceBEq, reduceLT, reduceIte, reduceCtorEq, Int.reduceToNat, hli, hyy, hxx, hfl, e1, e2, e3, hs1, hs2, hgt, hwi, bne, beq_self_eq_true, Bool.and_false, Bool.false_and, Bool.or_false, Bool.not_true]; try (first | (refine ⟨fun h => hX ?_, fun h => hY ?_⟩; clear hX hY) | (refine hX ?_; clear hX hY) | (refine hY ?_; clear hX hY)))
                      | refine ev_block ?_
                      | (apply hK; clear hK)
                      | apply_assumption -exfalso -symm only [*]
                      | (refine And.intro ?_ ?_; first | omega | assumption | (unfold maxLen; omega) | (simp only [decide_eq_true_eq, decide_eq_false_iff_not, Int.not_lt, Int.not_le] at h; omega))
                      | ((first | apply callP | apply callPG | apply callP0); (case' hv => (simp only [go_sem, reduceAdd, reduceSub, reduceMul, reduceEqDiff, reduceLeDiff, Nat.reduceBEq, reduceLT, reduceIte, reduceCtorEq, Int.reduceToNat, hli, hyy, hxx, hfl, e1, e2, e3, hs1, hs2, hgt, hwi, bne, beq_self_eq_true, Bool.and_false, Bool.false_and, Bool.or_false, Bool.not_true]; try exact rfl)); (case' hp => (first | refine' vs | (refine' (fun hg => ?_); refine' vs))); (case' h => ((first | refine evOps_fin ?_ | refine And.intro ?_ (evD_fin ?_) | refine evD_fin ?_) <;> simp only [go_sem, reduceAdd, reduceSub, reduceMul, reduceEqDiff, reduceLeDiff, Nat.reduceBEq, reduceLT, reduceIte, reduceCtorEq, Int.reduceToNat, hli, hyy, hxx, hfl, e1, e2, e3, hs1, hs2, hgt, hwi, bne, beq_self_eq_true, Bool.and_false, Bool.false_and, Bool.or_false, Bool.not_true])))
                      | (refine callX ?_; (first | refine evOps_fin ?_ | refine And.intro ?_ (evD_fin ?_) | refine evD_fin ?_) <;> simp only [go_sem, reduceAdd, reduceSub, reduceMul, reduceEqDiff, reduceLeDiff, Nat.reduceBEq, reduceLT, reduceIte, reduceCtorEq, Int.reduceToNat, hli, hyy, hxx, hfl, e1, e2, e3, hs1, hs2, hgt, hwi, bne, beq_self_eq_true, Bool.and_false, Bool.false_and, Bool.or_false, Bool.not_true])
                    exact ⟨i + 1, by omega, ⟨rfl, congrArg V.bool (decide_eq_false (by omega)).symm⟩, by omega⟩
                  · have hfl := decide_eq_false hf
                    repeat' first
                      | refine ev_seq (fun K hK => ?_)
                      | ((first | refine evr tt_ok false ?_ | refine ev_skip ?_ | refine ev_ret ?_ | refine ev_exit ?_ | refine evc (fun X Y hX hY => ?_)); simp only [go_sem, reduceAdd, reduceSub, reduceMul, reduceEqDiff, reduceLeDiff, Nat.reduceBEq, reduceLT, reduceIte, reduceCtorEq, Int.reduceToNat, hli, hyy, hxx, hfl, hs1, hs2, hgt, hwi, bne, beq_self_eq_true, Bool.and_false, Bool.false_and, Bool.or_false, Bool.not_true]; try (first | (refine ⟨fun h => hX ?_, fun h => hY ?_⟩; clear hX hY) | (refine hX ?_; clear hX hY) | (refine hY ?_; clear hX hY)))
                      | refine ev_block ?_
                      | (apply hK; clear hK)
                      | apply_assumption -exfalso -symm only [*]
                      | (refine And.intro ?_ ?_; first | omega | assumption | (unfold maxLen; omega) | (simp only [decide_eq_true_eq, decide_eq_false_iff_not, Int.not_lt, Int.not_le] at h; omega))
                      | ((first | apply callP | apply callPG | apply callP0); (case' hv => (simp only [go_sem, reduceAdd, reduceSub, reduceMul, reduceEqDiff, reduceLeDiff, Nat.reduceBEq, reduceLT, reduceIte, reduceCtorEq, Int.reduceToNat, hli, hyy, hxx, hfl, hs1, hs2, hgt, hwi, bne, beq_self_eq_true, Bool.and_false, Bool.false_and, Bool.or_false, Bool.not_true]; try exact rfl)); (case' hp => (first | refine' vs | (refine' (fun hg => ?_); refine' vs))); (case' h => ((first | refine evOps_fin ?_ | refine And.intro ?_ (evD_fin ?_) | refine evD_fin ?_) <;> simp only [go_sem, reduceAdd, reduceSub, reduceMul, reduceEqDiff, reduceLeDiff, Nat.reduceBEq, reduceLT, reduceIte, reduceCtorEq, Int.reduceToNat, hli, hyy, hxx, hfl, hs1, hs2, hgt, hwi, bne, beq_self_eq_true, Bool.and_false, Bool.false_and, Bool.or_false, Bool.not_true])))
                      | (refine callX ?_; (first | refine evOps_fin ?_ | refine And.intro ?_ (evD_fin ?_) | refine evD_fin ?_) <;> simp only [go_sem, reduceAdd, reduceSub, reduceMul, reduceEqDiff, reduceLeDiff, Nat.reduceBEq, reduceLT, reduceIte, reduceCtorEq, Int.reduceToNat, hli, hyy, hxx, hfl, hs1, hs2, hgt, hwi, bne, beq_self_eq_true, Bool.and_false, Bool.false_and, Bool.or_false, Bool.not_true])
                    exact ⟨i + 1, by omega, ⟨rfl, congrArg V.bool (decide_eq_false (by omega)).symm⟩, by omega⟩
                · have hs1 : (sc == m.sc) = false := by rw [beq_eq_false_iff_ne]; exact hs
                  have hs2 : decide (sc < m.sc) = true := decide_eq_true (by omega)
                  have hne : ¬ (m.b.k = (k : Int) ∧ m.b.y = yy ∧ m.b.x = xx) := fun ⟨e1, e2, e3⟩ => hs (bsc (cnd_eq e1 e2 e3))
                  repeat' first
                    | refine ev_seq (fun K hK => ?_)
                    | ((first | refine evr tt_ok false ?_ | refine ev_skip ?_ | refine ev_ret ?_ | refine ev_exit ?_ | refine evc (fun X Y hX hY => ?_)); simp only [go_sem, reduceAdd, reduceSub, reduceMul, reduceEqDiff, reduceLeDiff, Nat.reduceBEq, reduceLT, reduceIte, reduceCtorEq, Int.reduceToNat, hli, hyy, hxx, hs1, hs2, hgt, hwi, bne, beq_self_eq_true, Bool.and_false, Bool.false_and, Bool.or_false, Bool.and_true]; try (first | (refine ⟨fun h => hX ?_, fun h => hY ?_⟩; clear hX hY) | (refine hX ?_; clear hX hY) | (refine hY ?_; clear hX hY)))
                    | refine ev_block ?_
                    | (apply hK; clear hK)
                    | apply_assumption -exfalso -symm only [*]
                    | (refine And.intro ?_ ?_; first | omega | assumption | (unfold maxLen; omega) | (simp only [decide_eq_true_eq, decide_eq_false_iff_not, Int.not_lt, Int.not_le] at h; omega))
                    | ((first | apply callP | apply callPG | apply callP0); (case' hv => (simp only [go_sem, reduceAdd, reduceSub, reduceMul, reduceEqDiff, reduceLeDiff, Nat.reduceBEq, reduceLT, reduceIte, reduceCtorEq, Int.reduceToNat, hli, hyy, hxx, hs1, hs2, hgt, hwi, bne, beq_self_eq_true, Bool.and_false, Bool.false_and, Bool.or_false, Bool.and_true]; try exact rfl)); (case' hp => (first | refine' vs | (refine' (fun hg => ?_); refine' vs))); (case' h => ((first | refine evOps_fin ?_ | refine And.intro ?_ (evD_fin ?_) | refine evD_fin ?_) <;> simp only [go_sem, reduceAdd, reduceSub, reduceMul, reduceEqDiff, reduceLeDiff, Nat.reduceBEq, reduceLT, reduceIte, reduceCtorEq, Int.reduceToNat, hli, hyy, hxx, hs1, hs2, hgt, hwi, bne, beq_self_eq_true, Bool.and_false, Bool.false_and, Bool.or_false, Bool.and_true])))
                    | (refine callX ?_; (first | refine evOps_fin ?_ | refine And.intro ?_ (evD_fin ?_) | refine evD_fin ?_) <;> simp only [go_sem, reduceAdd, reduceSub, reduceMul, reduceEqDiff, reduceLeDiff, Nat.reduceBEq, reduceLT, reduceIte, reduceCtorEq, Int.reduceToNat, hli, hyy, hxx, hs1, hs2, hgt, hwi, bne, beq_self_eq_true, Bool.and_false, Bool.false_and, Bool.or_false, Bool.and_true])
                  exact ⟨i + 1, by omega, ⟨rfl, congrArg V.bool (decide_eq_decide.2 (by omega))⟩, by omega⟩
              · repeat' first
                | refine ev_seq (fun K hK => ?_)
                | ((first | refine evr tt_ok false ?_ | refine ev_skip ?_ | refine ev_ret ?_ | refine ev_exit ?_ | refine evc (fun X Y hX hY => ?_)); simp only [go_sem, reduceAdd, reduceSub, reduceMul, reduceEqDiff, reduceLeDiff, Nat.reduceBEq, reduceLT, reduceIte, reduceCtorEq, Int.reduceToNat, hli, hwj]; try (first | (refine ⟨fun h => hX ?_, fun h => hY ?_⟩; clear hX hY) | (refine hX ?_; clear hX hY) | (refine hY ?_; clear hX hY)))
                | refine ev_block ?_
                | (apply hK; clear hK)
                | apply_assumption -exfalso -symm only [*]
                | (refine And.intro ?_ ?_; first | omega | assumption | (unfold maxLen; omega) | (simp only [decide_eq_true_eq, decide_eq_false_iff_not, Int.not_lt, Int.not_le] at h; omega))
                exact ⟨j + 1, by omega, ⟨rfl, congrArg V.bool (decide_eq_decide.2 (by omega))⟩, by omega⟩
          · repeat' first
            | refine ev_seq (fun K hK => ?_)
            | ((first | refine evr tt_ok false ?_ | refine ev_skip ?_ | refine ev_ret ?_ | refine ev_exit ?_ | refine evc (fun X Y hX hY => ?_)); simp only [go_sem, reduceAdd, reduceSub, reduceMul, reduceEqDiff, reduceLeDiff, Nat.reduceBEq, reduceLT, reduceIte, reduceCtorEq, Int.reduceToNat, hlj, hwk]; try (first | (refine ⟨fun h => hX ?_, fun h => hY ?_⟩; clear hX hY) | (refine hX ?_; clear hX hY) | (refine hY ?_; clear hX hY)))
            | refine ev_block ?_
            | (apply hK; clear hK)
            | apply_assumption -exfalso -symm only [*]
            | (refine And.intro ?_ ?_; first | omega | assumption | (unfold maxLen; omega) | (simp only [decide_eq_true_eq, decide_eq_false_iff_not, Int.not_lt, Int.not_le] at h; omega))
            exact ⟨k + 1, by omega, ⟨rfl, congrArg V.bool (decide_eq_decide.2 (by omega))⟩, by omega⟩
      · have hz : decide ((k : Int) ≤ m.b.k) = false := decide_eq_false (by omega)
        repeat' first
          | refine ev_seq (fun K hK => ?_)
          | ((first | refine evr tt_ok false ?_ | refine ev_skip ?_ | refine ev_ret ?_ | refine ev_exit ?_ | refine evc (fun X Y hX hY => ?_)); simp only [go_sem, reduceAdd, reduceSub, reduceMul, reduceEqDiff, reduceLeDiff, Nat.reduceBEq, reduceLT, reduceIte, reduceCtorEq, Int.reduceToNat, hlt, hz]; try (first | (refine ⟨fun h => hX ?_, fun h => hY ?_⟩; clear hX hY) | (refine hX ?_; clear hX hY) | (refine hY ?_; clear hX hY)))
          | refine ev_block ?_
          | (apply hK; clear hK)
          | apply_assumption -exfalso -symm only [*]
          | (refine And.intro ?_ ?_; first | omega | assumption | (unfold maxLen; omega) | (simp only [decide_eq_true_eq, decide_eq_false_iff_not, Int.not_lt, Int.not_le] at h; omega))
        refine ev_ret ?_
        refine ⟨_, rfl, ?_⟩
        simp only [go_sem, reduceAdd, reduceSub, reduceMul, reduceEqDiff, reduceLeDiff, Nat.reduceBEq, reduceLT, reduceIte, reduceCtorEq, Int.reduceToNat]
theorem match_law (ps : List Cnd) (ss : List (List Bem)) (q : Sea) (hps : ps.length ≤ 9223372036854775807) :
    Pure Tryz.prog 3 [.sl (ps.map enC), .sl (ss.map encS), .agg (encSea q)] (.bool true) :=
  ⟨(match_x ps ss q hps).enters, fun w E vs hi ha => ((match_x ps ss q hps).run w E vs hi ha).mono fun e w' ⟨r, v, E', hr, h⟩ => by subst hr; exact ⟨v, E', h⟩⟩
end Go.Proofs.YtbibplkhhdomnaaGreat
