import Derived.Test.YtokhaefcnbiadaaNO
set_option linter.all false
namespace Go.Proofs.Ytokhaefcnbiadaa
open Nat (reduceAdd reduceSub reduceMul reduceEqDiff reduceLeDiff reduceLT)
open Go Go.K
set_option maxRecDepth 20000
set_option maxHeartbeats 8000000
/-! ### ref19.Find -/
def rfM (p : Prob) : Nat → Int × Cnd
  | 0 => (-1, ⟨0, 0, 0⟩)
  | i + 1 => if (rfM p i).1 < boundM p (toB (cndAt p i)) then (boundM p (toB (cndAt p i)), cndAt p i) else rfM p i
theorem rf_gt {p : Prob} {i : Nat} (h : (rfM p i).1 < boundM p (toB (cndAt p i))) : rfM p (i + 1) = (boundM p (toB (cndAt p i)), cndAt p i) := if_pos h
theorem rf_le {p : Prob} {i : Nat} (h : ¬ (rfM p i).1 < boundM p (toB (cndAt p i))) : rfM p (i + 1) = rfM p i := if_neg h
theorem cnd_bef {p : Prob} (h : p.ok) {j i : Nat} (hj : j < i) : befM (cndAt p j) (cndAt p i) := by
  obtain ⟨hs, hk, hn, r0, r1, k1, k2⟩ := winOk h
  have hS : 0 < p.S := by omega
  unfold befM cndAt
  simp only
  have e1 := Nat.div_add_mod j p.S
  have e2 := Nat.div_add_mod i p.S
  have l1 : j / p.S ≤ i / p.S := Nat.div_le_div_right (Nat.le_of_lt hj)
  have e3 := Nat.div_add_mod (j / p.S) p.S
  have e4 := Nat.div_add_mod (i / p.S) p.S
  have l2 : j / p.S / p.S ≤ i / p.S / p.S := Nat.div_le_div_right l1
  generalize j / p.S / p.S = a at *
  generalize i / p.S / p.S = b at *
  by_cases hab : a = b
  · subst hab
    generalize j / p.S % p.S = c at *
    generalize i / p.S % p.S = d at *
    by_cases hcd : c = d
    · subst hcd
      have : j / p.S = i / p.S := by omega
      rw [this] at e1
      omega
    · omega
  · omega
theorem rf_inv {p : Prob} (h : p.ok) (hb : bytesL p.f.v) : ∀ i, (∀ j, j < i → ¬ betM (boundM p (toB (cndAt p j))) (cndAt p j) (rfM p i).1 (rfM p i).2) ∧ ((i = 0 ∧ (rfM p i).1 = -1) ∨ ∃ j, j < i ∧ (rfM p i).2 = cndAt p j ∧ (rfM p i).1 = boundM p (toB (cndAt p j)))
  | 0 => ⟨fun j hj => by omega, .inl ⟨rfl, rfl⟩⟩
  | i + 1 => by
    obtain ⟨h1, h2⟩ := rf_inv h hb i
    have hs := score_in h hb (toB (cndAt p i))
    by_cases hg : (rfM p i).1 < boundM p (toB (cndAt p i))
    · rw [rf_gt hg]
      refine ⟨fun j hj => ?_, .inr ⟨i, by omega, rfl, rfl⟩⟩
      by_cases e : j = i
      · subst e; exact bet_irr _ _
      · have := h1 j (by omega)
        unfold betM at *
        simp only
        omega
    · rw [rf_le hg]
      rcases h2 with ⟨e, e2⟩ | ⟨k, hk, e1, e2⟩
      · omega
      · refine ⟨fun j hj => ?_, .inr ⟨k, by omega, e1, e2⟩⟩
        by_cases e : j = i
        · subst e
          have hbf := cnd_bef h hk
          rw [← e1] at hbf
          unfold betM befM at *
          omega
        · exact h1 j (by omega)
theorem rf_opt {p : Prob} (h : p.ok) (hb : bytesL p.f.v) : (rfM p p.N).1 = (fndM p).sc ∧ (rfM p p.N).2 = (fndM p).b := by
  obtain ⟨h1, h2⟩ := rf_inv h hb p.N
  have ho : Opt p (fndM p).sc (fndM p).b := opt_of h hb
  have hN : 1 ≤ p.N := by
    obtain ⟨hs, hk, hn, r0, r1, k1, k2⟩ := winOk h
    have hS : 1 ≤ p.S := by omega
    have : 1 * (1 * 1) ≤ p.S * (p.S * p.K) := Nat.mul_le_mul hS (Nat.mul_le_mul hS k1)
    exact this
  rcases h2 with ⟨e, _⟩ | ⟨k, hk, e1, e2⟩
  · omega
  · refine Opt.uniq (p := p) ⟨fun c hc => ?_, by rw [e1]; exact cnd_in h hk, by rw [e1]; exact e2⟩ ho
    obtain ⟨j, hj, rfl⟩ := in_cnd h hc
    exact h1 j hj
def rfndR (p : Prob) : MaR := if p.ok then ⟨⟨(fndM p).b, (fndM p).px, (fndM p).py, (fndM p).ph, (fndM p).sc, (allL p).map toB⟩, 0⟩ else ⟨Mat.zero, 1⟩
theorem rfind_pure (p : Prob) (hb : bytesL p.f.v) (hl : (p.s.length : Int) < 4611686018427387904) : Pure Try.prog 45 [.agg (encP p)] (encMa (rfndR p)) := by
  have v := rprob_pure p hl
  unfold rfndR
  by_cases h : p.ok
  · rw [decide_eq_true h] at v
    rw [if_pos h]
    have va := all1_pure p h
    have ho : Opt p (fndM p).sc (fndM p).b := opt_of h hb
    have vp := rpose_pure p hl (fndM p).b
    unfold poseM at vp
    rw [if_pos h, if_pos ho.in'] at vp
    have vs := fun i (hi : i < p.N) => rScore_pure p hb hl (cndAt p i)
    have hbr : ∀ i, i < p.N → boundR p ⟨(cndAt p i).k, (cndAt p i).y, (cndAt p i).x, 0⟩ = ⟨boundM p (toB (cndAt p i)), 0⟩ := fun i hi => by
      unfold boundR
      rw [if_pos h, if_pos (show blkOk p ⟨(cndAt p i).k, (cndAt p i).y, (cndAt p i).x, 0⟩ from toB_ok h hi)]; rfl
    obtain ⟨q1, q2⟩ := rf_opt h hb
    have e1 : (fndM p).px = p.cx + 64 * (fndM p).b.x := rfl
    have e2 : (fndM p).py = p.cy + 64 * (fndM p).b.y := rfl
    have e3 : (fndM p).ph = (p.fr + (fndM p).b.k) % 256 := rfl
    rw [e1, e2, e3, ← q1]
    rw [← q2] at vp ⊢
    have hn := (winOk h).n
    have r0 : rfM p 0 = (-1, ⟨0, 0, 0⟩) := rfl
    have rg := fun i => @rf_gt p i
    have rl := fun i => @rf_le p i
    clear ho q1 q2 e1 e2 e3
    generalize rfM p = rf at *
    simp only [encMa, encM, enCB_map]
    unfold allL at *
    have hlen := allN_len p
    have hget := @allN_get p p.N
    have hstep := allB_step p
    generalize p.N = n at *
    generalize hbo : boundM p = bo at *
    clear hbo
    simp only [encP, enC, encPo, encNu] at *
    (refine pure_of_ev tt_ok Try.func45 rfl (by decide +kernel) (Nat.le_of_ble_eq_true rfl) ?_; simp only [Try.f45])
    repeat' first
      | refine ev_seq (fun K hK => ?_)
      | ((first | refine evrd (id := 8) hmix tt_ok false [([], false), ([], false), ([], false), ([], false), ([], false), ([], false), ([], false), ([], false), ([], false), ([], false), ([], false)] (by decide +kernel) ?_ | refine evrd (id := 12) hmix tt_ok false [([], true), ([], true), ([], false), ([], false), ([], false), ([], false), ([], false), ([], false), ([], false), ([], false), ([], false), ([], false), ([], false), ([], false), ([], false), ([], false), ([], false), ([], false), ([0, 1], false), ([], false), ([], false), ([], false)] (by decide +kernel) ?_ | refine evr tt_ok false ?_ | refine ev_skip ?_ | refine ev_ret ?_ | refine ev_exit ?_ | refine evc (fun X Y hX hY => ?_)); simp only [go_sem, reduceAdd, reduceSub, reduceMul, reduceEqDiff, reduceLeDiff, Nat.reduceBEq, reduceLT, reduceIte, reduceCtorEq, Int.reduceToNat]; try (first | (refine ⟨fun h => hX ?_, fun h => hY ?_⟩; clear hX hY) | (refine hX ?_; clear hX hY) | (refine hY ?_; clear hX hY)))
      | refine ev_block ?_
      | (apply hK; clear hK)
      | apply_assumption -exfalso -symm only [*]
      | (refine And.intro ?_ ?_; first | omega | assumption | (unfold maxLen; omega) | (simp only [decide_eq_true_eq, decide_eq_false_iff_not, Int.not_lt, Int.not_le] at h; omega))
      | ((first | apply callP | apply callPG | apply callP0); (case' hv => (simp only [go_sem, reduceAdd, reduceSub, reduceMul, reduceEqDiff, reduceLeDiff, Nat.reduceBEq, reduceLT, reduceIte, reduceCtorEq, Int.reduceToNat]; try exact rfl)); (case' hp => (first | refine' v | (refine' (fun hg => ?_); refine' v) | refine' va | (refine' (fun hg => ?_); refine' va))); (case' h => ((first | refine evOps_fin ?_ | refine And.intro ?_ (evD_fin ?_) | refine evD_fin ?_) <;> simp only [go_sem, reduceAdd, reduceSub, reduceMul, reduceEqDiff, reduceLeDiff, Nat.reduceBEq, reduceLT, reduceIte, reduceCtorEq, Int.reduceToNat])))
      | (refine callX ?_; (first | refine evOps_fin ?_ | refine And.intro ?_ (evD_fin ?_) | refine evD_fin ?_) <;> simp only [go_sem, reduceAdd, reduceSub, reduceMul, reduceEqDiff, reduceLeDiff, Nat.reduceBEq, reduceLT, reduceIte, reduceCtorEq, Int.reduceToNat])
    refine ev_adoptC 2 0 7 56 4 (by decide) rfl rfl rfl ?_
    refine ev_loop (fun i : Nat => i ≤ n)
      (fun i => ⟨72, [(6, .int .i64 (i : Int)), (5, .sl ((allN p n).map fun c => [.int .i64 c.k, .int .i64 c.y, .int .i64 c.x])), (4, .own 2 0 0 0), (2, .own 1 0 0 0), (1, .own 0 0 0 0)],
        [.blk 31 0 11 [[.int .i64 p.f.x, .int .i64 p.f.y, .int .i64 p.f.w, .int .i64 p.f.h, .sl (p.f.v.map enB), .sl (p.s.map enBm), .int .i64 p.cx, .int .i64 p.cy, .int .i64 p.fr, .int .i64 p.ct, .int .i64 p.re]],
         .blk 41 0 8 [[.int .i64 0, .int .i64 0, .int .i64 0, .int .i64 0, .int .i64 0, .int .i64 0, .int .i64 0, .emp]],
         .blk 41 0 8 [[.int .i64 (rf i).2.k, .int .i64 (rf i).2.y, .int .i64 (rf i).2.x, .int .i64 0, .int .i64 0, .int .i64 0, .int .i64 (rf i).1, .rs 3 i 0 i]],
         .blk 56 i 4 ((allN p i).map enCB)]⟩)
      (fun i => n - i) 0 (Nat.zero_le _) ?_ ?_
    · simp only [go_sem, reduceAdd, reduceSub, reduceMul, reduceEqDiff, reduceLeDiff, Nat.reduceBEq, reduceLT, reduceIte, reduceCtorEq, Int.reduceToNat, fits, fitT, fitOs, fitO, V.under, unders, rowsUnder, r0]
      repeat' first | rfl | exact rowsUnder_lit _ (lit_enCB _) | (simp only [V.under, unders, rowsUnder, Nat.reduceLT]; done) | apply And.intro
    · intro i hi
      have hb0 : 0 ≤ (i : Int) := by omega
      have hw : IntKind.i64.wrap ((i : Int) + 1) = ((i + 1 : Nat) : Int) := by rw [w64] <;> omega
      have hln := hlen n
      by_cases hlt : (i : Int) < (n : Int)
      · have hg := cnd_get (allN p n) i
        rw [hget (by omega)] at hg
        have hst := hstep i
        have hll := hlen i
        have hq : 1 ≤ maxLen ∧ i + 1 ≤ maxLen ∧ (i + 1) * 32 ≤ 140737488355328 := by
          have : maxLen = 9223372036854775807 := rfl
          omega
        have eC : enC = fun c : Cnd => [V.int .i64 c.k, V.int .i64 c.y, V.int .i64 c.x] := rfl
        rw [eC] at hg
        have vsi := vs i (by omega)
        rw [hbr i (by omega)] at vsi
        have rgi := rg i
        have rli := rl i
        clear hbr vs rg rl
        generalize cndAt p i = q at *
        generalize bo (toB q) = s at *
        by_cases hg2 : (rf i).1 < s
        · have e := rgi hg2
          repeat' first
            | refine ev_seq (fun K hK => ?_)
            | ((first | refine evrd (id := 8) hmix tt_ok false [([], false), ([], false), ([], false), ([], false), ([], false), ([], false), ([], false), ([], false), ([], false), ([], false), ([], false)] (by decide +kernel) ?_ | refine evrd (id := 12) hmix tt_ok false [([], true), ([], true), ([], false), ([], false), ([], false), ([], false), ([], false), ([], false), ([], false), ([], false), ([], false), ([], false), ([], false), ([], false), ([], false), ([], false), ([], false), ([], false), ([0, 1], false), ([], false), ([], false), ([], false)] (by decide +kernel) ?_ | refine evr tt_ok false ?_ | refine ev_skip ?_ | refine ev_ret ?_ | refine ev_exit ?_ | refine evc (fun X Y hX hY => ?_)); simp only [go_sem, reduceAdd, reduceSub, reduceMul, reduceEqDiff, reduceLeDiff, Nat.reduceBEq, reduceLT, reduceIte, reduceCtorEq, Int.reduceToNat, hlt, hb0, hw, hg, hll, hln, hg2, List.length_map, Int.toNat_natCast, Nat.zero_add, Nat.le_refl]; try (first | (refine ⟨fun h => hX ?_, fun h => hY ?_⟩; clear hX hY) | (refine hX ?_; clear hX hY) | (refine hY ?_; clear hX hY)))
            | refine ev_block ?_
            | (apply hK; clear hK)
            | apply_assumption -exfalso -symm only [*]
            | (refine And.intro ?_ ?_; first | omega | assumption | (unfold maxLen; omega) | (simp only [decide_eq_true_eq, decide_eq_false_iff_not, Int.not_lt, Int.not_le] at h; omega))
            | ((first | apply callP | apply callPG | apply callP0); (case' hv => (simp only [go_sem, reduceAdd, reduceSub, reduceMul, reduceEqDiff, reduceLeDiff, Nat.reduceBEq, reduceLT, reduceIte, reduceCtorEq, Int.reduceToNat, hlt, hb0, hw, hg, hll, hln, hg2, List.length_map, Int.toNat_natCast, Nat.zero_add, Nat.le_refl]; try exact rfl)); (case' hp => (first | refine' vsi | (refine' (fun hg => ?_); refine' vsi))); (case' h => ((first | refine evOps_fin ?_ | refine And.intro ?_ (evD_fin ?_) | refine evD_fin ?_) <;> simp only [go_sem, reduceAdd, reduceSub, reduceMul, reduceEqDiff, reduceLeDiff, Nat.reduceBEq, reduceLT, reduceIte, reduceCtorEq, Int.reduceToNat, hlt, hb0, hw, hg, hll, hln, hg2, List.length_map, Int.toNat_natCast, Nat.zero_add, Nat.le_refl])))
            | (refine callX ?_; (first | refine evOps_fin ?_ | refine And.intro ?_ (evD_fin ?_) | refine evD_fin ?_) <;> simp only [go_sem, reduceAdd, reduceSub, reduceMul, reduceEqDiff, reduceLeDiff, Nat.reduceBEq, reduceLT, reduceIte, reduceCtorEq, Int.reduceToNat, hlt, hb0, hw, hg, hll, hln, hg2, List.length_map, Int.toNat_natCast, Nat.zero_add, Nat.le_refl])
          refine ⟨i + 1, by omega, ?_, by omega⟩
          rw [e]
          repeat' first | rfl | exact rowsUnder_lit _ (lit_enCB _) | exact hst | (simp only [V.under, unders, rowsUnder, Nat.reduceLT]; done) | apply And.intro
        · have e := rli hg2
          repeat' first
            | refine ev_seq (fun K hK => ?_)
            | ((first | refine evrd (id := 8) hmix tt_ok false [([], false), ([], false), ([], false), ([], false), ([], false), ([], false), ([], false), ([], false), ([], false), ([], false), ([], false)] (by decide +kernel) ?_ | refine evrd (id := 12) hmix tt_ok false [([], true), ([], true), ([], false), ([], false), ([], false), ([], false), ([], false), ([], false), ([], false), ([], false), ([], false), ([], false), ([], false), ([], false), ([], false), ([], false), ([], false), ([], false), ([0, 1], false), ([], false), ([], false), ([], false)] (by decide +kernel) ?_ | refine evr tt_ok false ?_ | refine ev_skip ?_ | refine ev_ret ?_ | refine ev_exit ?_ | refine evc (fun X Y hX hY => ?_)); simp only [go_sem, reduceAdd, reduceSub, reduceMul, reduceEqDiff, reduceLeDiff, Nat.reduceBEq, reduceLT, reduceIte, reduceCtorEq, Int.reduceToNat, hlt, hb0, hw, hg, hll, hln, hg2, List.length_map, Int.toNat_natCast, Nat.zero_add, Nat.le_refl]; try (first | (refine ⟨fun h => hX ?_, fun h => hY ?_⟩; clear hX hY) | (refine hX ?_; clear hX hY) | (refine hY ?_; clear hX hY)))
            | refine ev_block ?_
            | (apply hK; clear hK)
            | apply_assumption -exfalso -symm only [*]
            | (refine And.intro ?_ ?_; first | omega | assumption | (unfold maxLen; omega) | (simp only [decide_eq_true_eq, decide_eq_false_iff_not, Int.not_lt, Int.not_le] at h; omega))
            | ((first | apply callP | apply callPG | apply callP0); (case' hv => (simp only [go_sem, reduceAdd, reduceSub, reduceMul, reduceEqDiff, reduceLeDiff, Nat.reduceBEq, reduceLT, reduceIte, reduceCtorEq, Int.reduceToNat, hlt, hb0, hw, hg, hll, hln, hg2, List.length_map, Int.toNat_natCast, Nat.zero_add, Nat.le_refl]; try exact rfl)); (case' hp => (first | refine' vsi | (refine' (fun hg => ?_); refine' vsi))); (case' h => ((first | refine evOps_fin ?_ | refine And.intro ?_ (evD_fin ?_) | refine evD_fin ?_) <;> simp only [go_sem, reduceAdd, reduceSub, reduceMul, reduceEqDiff, reduceLeDiff, Nat.reduceBEq, reduceLT, reduceIte, reduceCtorEq, Int.reduceToNat, hlt, hb0, hw, hg, hll, hln, hg2, List.length_map, Int.toNat_natCast, Nat.zero_add, Nat.le_refl])))
            | (refine callX ?_; (first | refine evOps_fin ?_ | refine And.intro ?_ (evD_fin ?_) | refine evD_fin ?_) <;> simp only [go_sem, reduceAdd, reduceSub, reduceMul, reduceEqDiff, reduceLeDiff, Nat.reduceBEq, reduceLT, reduceIte, reduceCtorEq, Int.reduceToNat, hlt, hb0, hw, hg, hll, hln, hg2, List.length_map, Int.toNat_natCast, Nat.zero_add, Nat.le_refl])
          refine ⟨i + 1, by omega, ?_, by omega⟩
          rw [e]
          repeat' first | rfl | exact rowsUnder_lit _ (lit_enCB _) | exact hst | (simp only [V.under, unders, rowsUnder, Nat.reduceLT]; done) | apply And.intro
      · obtain rfl : i = n := by omega
        have htk : List.take i ((allN p i).map enCB) = (allN p i).map enCB := List.take_of_length_le (by simp [hln])
        repeat' first
          | refine ev_seq (fun K hK => ?_)
          | ((first | refine evrd (id := 8) hmix tt_ok false [([], false), ([], false), ([], false), ([], false), ([], false), ([], false), ([], false), ([], false), ([], false), ([], false), ([], false)] (by decide +kernel) ?_ | refine evrd (id := 12) hmix tt_ok false [([], true), ([], true), ([], false), ([], false), ([], false), ([], false), ([], false), ([], false), ([], false), ([], false), ([], false), ([], false), ([], false), ([], false), ([], false), ([], false), ([], false), ([], false), ([0, 1], false), ([], false), ([], false), ([], false)] (by decide +kernel) ?_ | refine evr tt_ok false ?_ | refine ev_skip ?_ | refine ev_ret ?_ | refine ev_exit ?_ | refine evc (fun X Y hX hY => ?_)); simp only [go_sem, reduceAdd, reduceSub, reduceMul, reduceEqDiff, reduceLeDiff, Nat.reduceBEq, reduceLT, reduceIte, reduceCtorEq, Int.reduceToNat, hlt, hln, List.length_map, vrows_lit _ (lit_enCB (allN p i)), Nat.le_refl, Nat.sub_zero, htk]; try (first | (refine ⟨fun h => hX ?_, fun h => hY ?_⟩; clear hX hY) | (refine hX ?_; clear hX hY) | (refine hY ?_; clear hX hY)))
          | refine ev_block ?_
          | (apply hK; clear hK)
          | apply_assumption -exfalso -symm only [*]
          | (refine And.intro ?_ ?_; first | omega | assumption | (unfold maxLen; omega) | (simp only [decide_eq_true_eq, decide_eq_false_iff_not, Int.not_lt, Int.not_le] at h; omega))
          | ((first | apply callP | apply callPG | apply callP0); (case' hv => (simp only [go_sem, reduceAdd, reduceSub, reduceMul, reduceEqDiff, reduceLeDiff, Nat.reduceBEq, reduceLT, reduceIte, reduceCtorEq, Int.reduceToNat, hlt, hln, List.length_map, vrows_lit _ (lit_enCB (allN p i)), Nat.le_refl, Nat.sub_zero, htk]; try exact rfl)); (case' hp => (first | refine' vp | (refine' (fun hg => ?_); refine' vp))); (case' h => ((first | refine evOps_fin ?_ | refine And.intro ?_ (evD_fin ?_) | refine evD_fin ?_) <;> simp only [go_sem, reduceAdd, reduceSub, reduceMul, reduceEqDiff, reduceLeDiff, Nat.reduceBEq, reduceLT, reduceIte, reduceCtorEq, Int.reduceToNat, hlt, hln, List.length_map, vrows_lit _ (lit_enCB (allN p i)), Nat.le_refl, Nat.sub_zero, htk])))
          | (refine callX ?_; (first | refine evOps_fin ?_ | refine And.intro ?_ (evD_fin ?_) | refine evD_fin ?_) <;> simp only [go_sem, reduceAdd, reduceSub, reduceMul, reduceEqDiff, reduceLeDiff, Nat.reduceBEq, reduceLT, reduceIte, reduceCtorEq, Int.reduceToNat, hlt, hln, List.length_map, vrows_lit _ (lit_enCB (allN p i)), Nat.le_refl, Nat.sub_zero, htk])
        all_goals rfl
  · rw [decide_eq_false h] at v
    rw [if_neg h]
    simp only [encMa, encM, encP, Mat.zero, List.map_nil] at *
    (refine pure_of_ev tt_ok Try.func45 rfl (by decide +kernel) (Nat.le_of_ble_eq_true rfl) ?_; simp only [Try.f45])
    repeat' first
      | refine ev_seq (fun K hK => ?_)
      | ((first | refine evrd (id := 8) hmix tt_ok false [([], false), ([], false), ([], false), ([], false), ([], false), ([], false), ([], false), ([], false), ([], false), ([], false), ([], false)] (by decide +kernel) ?_ | refine evrd (id := 12) hmix tt_ok false [([], true), ([], true), ([], false), ([], false), ([], false), ([], false), ([], false), ([], false), ([], false), ([], false), ([], false), ([], false), ([], false), ([], false), ([], false), ([], false), ([], false), ([], false), ([0, 1], false), ([], false), ([], false), ([], false)] (by decide +kernel) ?_ | refine evr tt_ok false ?_ | refine ev_skip ?_ | refine ev_exit ?_ | refine evc (fun X Y hX hY => ?_)); simp only [go_sem, reduceAdd, reduceSub, reduceMul, reduceEqDiff, reduceLeDiff, Nat.reduceBEq, reduceLT, reduceIte, reduceCtorEq, Int.reduceToNat]; try (first | (refine ⟨fun h => hX ?_, fun h => hY ?_⟩; clear hX hY) | (refine hX ?_; clear hX hY) | (refine hY ?_; clear hX hY)))
      | refine ev_block ?_
      | (apply hK; clear hK)
      | apply_assumption -exfalso -symm only [*]
      | (refine And.intro ?_ ?_; first | omega | assumption | (unfold maxLen; omega) | (simp only [decide_eq_true_eq, decide_eq_false_iff_not, Int.not_lt, Int.not_le] at h; omega))
      | ((first | apply callP | apply callPG | apply callP0); (case' hv => (simp only [go_sem, reduceAdd, reduceSub, reduceMul, reduceEqDiff, reduceLeDiff, Nat.reduceBEq, reduceLT, reduceIte, reduceCtorEq, Int.reduceToNat]; try exact rfl)); (case' hp => (first | refine' v | (refine' (fun hg => ?_); refine' v))); (case' h => ((first | refine evOps_fin ?_ | refine And.intro ?_ (evD_fin ?_) | refine evD_fin ?_) <;> simp only [go_sem, reduceAdd, reduceSub, reduceMul, reduceEqDiff, reduceLeDiff, Nat.reduceBEq, reduceLT, reduceIte, reduceCtorEq, Int.reduceToNat])))
      | (refine callX ?_; (first | refine evOps_fin ?_ | refine And.intro ?_ (evD_fin ?_) | refine evD_fin ?_) <;> simp only [go_sem, reduceAdd, reduceSub, reduceMul, reduceEqDiff, reduceLeDiff, Nat.reduceBEq, reduceLT, reduceIte, reduceCtorEq, Int.reduceToNat])
    refine ev_adoptC 1 0 7 56 4 (by decide) rfl rfl rfl ?_
    repeat' first
      | refine ev_seq (fun K hK => ?_)
      | ((first | refine evrd (id := 8) hmix tt_ok false [([], false), ([], false), ([], false), ([], false), ([], false), ([], false), ([], false), ([], false), ([], false), ([], false), ([], false)] (by decide +kernel) ?_ | refine evrd (id := 12) hmix tt_ok false [([], true), ([], true), ([], false), ([], false), ([], false), ([], false), ([], false), ([], false), ([], false), ([], false), ([], false), ([], false), ([], false), ([], false), ([], false), ([], false), ([], false), ([], false), ([0, 1], false), ([], false), ([], false), ([], false)] (by decide +kernel) ?_ | refine evr tt_ok false ?_ | refine ev_skip ?_ | refine ev_ret ?_ | refine ev_exit ?_ | refine evc (fun X Y hX hY => ?_)); simp only [go_sem, reduceAdd, reduceSub, reduceMul, reduceEqDiff, reduceLeDiff, Nat.reduceBEq, reduceLT, reduceIte, reduceCtorEq, Int.reduceToNat]; try (first | (refine ⟨fun h => hX ?_, fun h => hY ?_⟩; clear hX hY) | (refine hX ?_; clear hX hY) | (refine hY ?_; clear hX hY)))
      | refine ev_block ?_
      | (apply hK; clear hK)
      | apply_assumption -exfalso -symm only [*]
      | (refine And.intro ?_ ?_; first | omega | assumption | (unfold maxLen; omega) | (simp only [decide_eq_true_eq, decide_eq_false_iff_not, Int.not_lt, Int.not_le] at h; omega))
    all_goals rfl
theorem mfinds_law (p : Prob) (hb : bytesL p.f.v) : Pure Try.prog 12 [.agg (encP p)] (.bool true) := by
  have aw := awake19_pure
  have fw := few9_pure p
  by_cases hf : few9 p
  · rw [decide_eq_true hf] at fw
    have hl : (p.s.length : Int) < 4611686018427387904 := by have := hf.2.1; omega
    have fp := find_pure p hb hl
    have rp := rfind_pure p hb hl
    unfold fndR at fp
    unfold rfndR at rp
    by_cases h : p.ok
    · rw [if_pos h] at fp rp
      have hlen : ((fndM p).l.length : Int) ≤ (((allL p).map toB).length : Int) := by
        have := good_len h (found h hb)
        rw [List.length_map]
        unfold allL
        rw [allN_len]; omega
      generalize (allL p).map toB = bl at *
      generalize fndM p = m at *
      simp only [encP, encMa, encM] at *
      (refine pure_of_ev tt_ok Try.func12 rfl (by decide +kernel) (Nat.le_of_ble_eq_true rfl) ?_; simp only [Try.f12])
      repeat' first
        | refine ev_seq (fun K hK => ?_)
        | ((first | refine evr tt_ok false ?_ | refine ev_skip ?_ | refine ev_ret ?_ | refine ev_exit ?_ | refine evc (fun X Y hX hY => ?_)); simp only [go_sem, reduceAdd, reduceSub, reduceMul, reduceEqDiff, reduceLeDiff, Nat.reduceBEq, reduceLT, reduceIte, reduceCtorEq, Int.reduceToNat, hlen, List.length_map, beq_self_eq_true]; try (first | (refine ⟨fun h => hX ?_, fun h => hY ?_⟩; clear hX hY) | (refine hX ?_; clear hX hY) | (refine hY ?_; clear hX hY)))
        | refine ev_block ?_
        | (apply hK; clear hK)
        | apply_assumption -exfalso -symm only [*]
        | (refine And.intro ?_ ?_; first | omega | assumption | (unfold maxLen; omega) | (simp only [decide_eq_true_eq, decide_eq_false_iff_not, Int.not_lt, Int.not_le] at h; omega))
        | ((first | apply callP | apply callPG | apply callP0); (case' hv => (simp only [go_sem, reduceAdd, reduceSub, reduceMul, reduceEqDiff, reduceLeDiff, Nat.reduceBEq, reduceLT, reduceIte, reduceCtorEq, Int.reduceToNat, hlen, List.length_map, beq_self_eq_true]; try exact rfl)); (case' hp => (first | refine' aw | (refine' (fun hg => ?_); refine' aw) | refine' fw | (refine' (fun hg => ?_); refine' fw) | refine' fp | (refine' (fun hg => ?_); refine' fp) | refine' rp | (refine' (fun hg => ?_); refine' rp))); (case' h => ((first | refine evOps_fin ?_ | refine And.intro ?_ (evD_fin ?_) | refine evD_fin ?_) <;> simp only [go_sem, reduceAdd, reduceSub, reduceMul, reduceEqDiff, reduceLeDiff, Nat.reduceBEq, reduceLT, reduceIte, reduceCtorEq, Int.reduceToNat, hlen, List.length_map, beq_self_eq_true])))
        | (refine callX ?_; (first | refine evOps_fin ?_ | refine And.intro ?_ (evD_fin ?_) | refine evD_fin ?_) <;> simp only [go_sem, reduceAdd, reduceSub, reduceMul, reduceEqDiff, reduceLeDiff, Nat.reduceBEq, reduceLT, reduceIte, reduceCtorEq, Int.reduceToNat, hlen, List.length_map, beq_self_eq_true])
    · rw [if_neg h] at fp rp
      simp only [encP, encMa, encM, Mat.zero] at *
      (refine pure_of_ev tt_ok Try.func12 rfl (by decide +kernel) (Nat.le_of_ble_eq_true rfl) ?_; simp only [Try.f12])
      repeat' first
        | refine ev_seq (fun K hK => ?_)
        | ((first | refine evr tt_ok false ?_ | refine ev_skip ?_ | refine ev_ret ?_ | refine ev_exit ?_ | refine evc (fun X Y hX hY => ?_)); simp only [go_sem, reduceAdd, reduceSub, reduceMul, reduceEqDiff, reduceLeDiff, Nat.reduceBEq, reduceLT, reduceIte, reduceCtorEq, Int.reduceToNat, List.length_map, beq_self_eq_true, Int.le_refl]; try (first | (refine ⟨fun h => hX ?_, fun h => hY ?_⟩; clear hX hY) | (refine hX ?_; clear hX hY) | (refine hY ?_; clear hX hY)))
        | refine ev_block ?_
        | (apply hK; clear hK)
        | apply_assumption -exfalso -symm only [*]
        | (refine And.intro ?_ ?_; first | omega | assumption | (unfold maxLen; omega) | (simp only [decide_eq_true_eq, decide_eq_false_iff_not, Int.not_lt, Int.not_le] at h; omega))
        | ((first | apply callP | apply callPG | apply callP0); (case' hv => (simp only [go_sem, reduceAdd, reduceSub, reduceMul, reduceEqDiff, reduceLeDiff, Nat.reduceBEq, reduceLT, reduceIte, reduceCtorEq, Int.reduceToNat, List.length_map, beq_self_eq_true, Int.le_refl]; try exact rfl)); (case' hp => (first | refine' aw | (refine' (fun hg => ?_); refine' aw) | refine' fw | (refine' (fun hg => ?_); refine' fw) | refine' fp | (refine' (fun hg => ?_); refine' fp) | refine' rp | (refine' (fun hg => ?_); refine' rp))); (case' h => ((first | refine evOps_fin ?_ | refine And.intro ?_ (evD_fin ?_) | refine evD_fin ?_) <;> simp only [go_sem, reduceAdd, reduceSub, reduceMul, reduceEqDiff, reduceLeDiff, Nat.reduceBEq, reduceLT, reduceIte, reduceCtorEq, Int.reduceToNat, List.length_map, beq_self_eq_true, Int.le_refl])))
        | (refine callX ?_; (first | refine evOps_fin ?_ | refine And.intro ?_ (evD_fin ?_) | refine evD_fin ?_) <;> simp only [go_sem, reduceAdd, reduceSub, reduceMul, reduceEqDiff, reduceLeDiff, Nat.reduceBEq, reduceLT, reduceIte, reduceCtorEq, Int.reduceToNat, List.length_map, beq_self_eq_true, Int.le_refl])
      all_goals rfl
  · rw [decide_eq_false hf] at fw
    simp only [encP] at *
    (refine pure_of_ev tt_ok Try.func12 rfl (by decide +kernel) (Nat.le_of_ble_eq_true rfl) ?_; simp only [Try.f12])
    repeat' first
      | refine ev_seq (fun K hK => ?_)
      | ((first | refine evr tt_ok false ?_ | refine ev_skip ?_ | refine ev_ret ?_ | refine ev_exit ?_ | refine evc (fun X Y hX hY => ?_)); simp only [go_sem, reduceAdd, reduceSub, reduceMul, reduceEqDiff, reduceLeDiff, Nat.reduceBEq, reduceLT, reduceIte, reduceCtorEq, Int.reduceToNat]; try (first | (refine ⟨fun h => hX ?_, fun h => hY ?_⟩; clear hX hY) | (refine hX ?_; clear hX hY) | (refine hY ?_; clear hX hY)))
      | refine ev_block ?_
      | (apply hK; clear hK)
      | apply_assumption -exfalso -symm only [*]
      | (refine And.intro ?_ ?_; first | omega | assumption | (unfold maxLen; omega) | (simp only [decide_eq_true_eq, decide_eq_false_iff_not, Int.not_lt, Int.not_le] at h; omega))
      | ((first | apply callP | apply callPG | apply callP0); (case' hv => (simp only [go_sem, reduceAdd, reduceSub, reduceMul, reduceEqDiff, reduceLeDiff, Nat.reduceBEq, reduceLT, reduceIte, reduceCtorEq, Int.reduceToNat]; try exact rfl)); (case' hp => (first | refine' aw | (refine' (fun hg => ?_); refine' aw) | refine' fw | (refine' (fun hg => ?_); refine' fw) | refine' aw | (refine' (fun hg => ?_); refine' aw))); (case' h => ((first | refine evOps_fin ?_ | refine And.intro ?_ (evD_fin ?_) | refine evD_fin ?_) <;> simp only [go_sem, reduceAdd, reduceSub, reduceMul, reduceEqDiff, reduceLeDiff, Nat.reduceBEq, reduceLT, reduceIte, reduceCtorEq, Int.reduceToNat])))
      | (refine callX ?_; (first | refine evOps_fin ?_ | refine And.intro ?_ (evD_fin ?_) | refine evD_fin ?_) <;> simp only [go_sem, reduceAdd, reduceSub, reduceMul, reduceEqDiff, reduceLeDiff, Nat.reduceBEq, reduceLT, reduceIte, reduceCtorEq, Int.reduceToNat])
end Go.Proofs.Ytokhaefcnbiadaa
