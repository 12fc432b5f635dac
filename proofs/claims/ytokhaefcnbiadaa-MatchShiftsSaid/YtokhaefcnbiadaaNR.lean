import Derived.Test.YtokhaefcnbiadaaNO
set_option linter.all false
namespace Go.Proofs.Ytokhaefcnbiadaa
open Nat (reduceAdd reduceSub reduceMul reduceEqDiff reduceLeDiff reduceLT)
open Go Go.K
set_option maxRecDepth 20000
set_option maxHeartbeats 8000000
/-! ### a field that is moved with its center -/
def shP (p : Prob) (x y : Int) : Prob := ⟨⟨p.f.x + x, p.f.y + y, p.f.w, p.f.h, p.f.v⟩, p.s, p.cx + 64 * x, p.cy + 64 * y, p.fr, p.ct, p.re⟩
theorem sh_div (c x D r X : Int) (hD : 0 < D) : ((c + 64 * x) * D + r * X) / (D * 64) = (c * D + r * X) / (D * 64) + x := by
  rw [show (c + 64 * x) * D + r * X = (c * D + r * X) + x * (D * 64) by
    rw [Int.add_mul, Int.mul_comm D 64, ← Int.mul_assoc x 64 D, Int.mul_comm x 64]; omega]
  exact Int.add_mul_ediv_right _ _ (by omega)
theorem sh_end (p : Prob) (x y k : Int) (b : Bem) : endC (shP p x y) k b = ⟨(endC p k b).x + x, (endC p k b).y + y⟩ := by
  have hD := (beam_ok (p.fr + k) b.m).1
  unfold endC shP
  simp only [Cel.mk.injEq]
  exact ⟨sh_div _ _ _ _ _ (by omega), sh_div _ _ _ _ _ (by omega)⟩
theorem sh_ends (p : Prob) (x y k : Int) : endsM (shP p x y) k = (endsM p k).map fun c => ⟨c.x + x, c.y + y⟩ := by
  unfold endsM endsN
  rw [List.map_map]
  refine List.map_congr_left fun b _ => ?_
  exact sh_end p x y k b
theorem getD_mapC (L : List Cel) (g : Cel → Cel) {j : Nat} (hj : j < L.length) : (L.map g).getD j ⟨0, 0⟩ = g (L.getD j ⟨0, 0⟩) := by
  rw [List.getD_eq_getElem?_getD, List.getD_eq_getElem?_getD, List.getElem?_map, List.getElem?_eq_getElem hj]; rfl
theorem sh_bound {p : Prob} {x y : Int} (h : p.ok) (hq : (shP p x y).ok) (hx : -128 ≤ x ∧ x ≤ 127) (hy : -128 ≤ y ∧ y ≤ 127) (hw : p.f.w ≠ 0) {b : Blc} (hk : blkOk p b) : boundM (shP p x y) b = boundM p b := by
  obtain ⟨⟨c1, c2, c3, c4, c5, c6⟩, l0, l6⟩ := hk
  simp only at c1 c2 c3 c4 c5 c6
  have hr := h.2.2.2.2.2.1
  have hl : (endsM (shP p x y) b.k).length = (endsM p b.k).length := by rw [sh_ends, List.length_map]
  unfold boundM
  rw [hl]
  unfold boundN
  refine smN_congr _ fun j hj => ?_
  have e1 := ends_at h b.k j
  have e2 := ends_at hq b.k j
  rw [sh_ends, getD_mapC _ _ hj] at *
  generalize (endsM p b.k).getD j ⟨0, 0⟩ = c at *
  unfold cellB
  simp only at e2 ⊢
  rw [maxM_at l0 l6 (by omega) (by omega), maxM_at l0 l6 (by omega) (by omega)]
  unfold lvf
  rw [if_neg hw, if_neg (show ¬ (shP p x y).f.w = 0 from hw)]
  have := at_move (f := p.f) (g := (shP p x y).f) rfl rfl rfl b.l.toNat (c.x + b.x - p.f.x) (c.y + b.y - p.f.y)
  have ex : (shP p x y).f.x = p.f.x + x := rfl
  have ey : (shP p x y).f.y = p.f.y + y := rfl
  rw [ex, ey] at this
  rw [show p.f.x + x + (c.x + b.x - p.f.x) = c.x + x + b.x by omega, show p.f.y + y + (c.y + b.y - p.f.y) = c.y + y + b.y by omega, show p.f.x + (c.x + b.x - p.f.x) = c.x + b.x by omega, show p.f.y + (c.y + b.y - p.f.y) = c.y + b.y by omega] at this
  exact this
theorem sh_opt {p : Prob} {x y : Int} (h : p.ok) (hb : bytesL p.f.v) (hq : (shP p x y).ok) (hx : -128 ≤ x ∧ x ≤ 127) (hy : -128 ≤ y ∧ y ≤ 127) (hw : p.f.w ≠ 0) : (fndM (shP p x y)).sc = (fndM p).sc ∧ (fndM (shP p x y)).b = (fndM p).b := by
  have ho : Opt p (fndM p).sc (fndM p).b := opt_of h hb
  have ho2 : Opt (shP p x y) (fndM (shP p x y)).sc (fndM (shP p x y)).b := opt_of hq hb
  have hbd : ∀ c, inW p c → boundM (shP p x y) (toB c) = boundM p (toB c) := fun c hc => sh_bound h hq hx hy hw ⟨hc, by show (0 : Int) ≤ 0; decide, by show (0 : Int) ≤ 6; decide⟩
  refine ho2.uniq ⟨fun c hc => ?_, ho.in', ?_⟩
  · have := ho.nb c hc
    unfold nbM at *
    rw [hbd c hc]; exact this
  · rw [hbd _ ho.in']; exact ho.sc
theorem mshifts_law (p : Prob) (x y : Int) (hb : bytesL p.f.v) (hx : -128 ≤ x ∧ x ≤ 127) (hy : -128 ≤ y ∧ y ≤ 127) : Pure Try.prog 15 [.agg (encP p), .int .i8 x, .int .i8 y] (.bool true) := by
  have aw := awake19_pure
  have fw := few9_pure p
  by_cases hf : few9 p
  · rw [decide_eq_true hf] at fw
    have hl : (p.s.length : Int) < 4611686018427387904 := by have := hf.2.1; omega
    have rv := rprob_pure p hl
    by_cases h : p.ok
    · rw [decide_eq_true h] at rv
      by_cases hw : p.f.w = 0
      · have hw2 : (p.f.w == 0) = true := by rw [hw]; rfl
        simp only [encP] at *
        (refine pure_of_ev tt_ok Try.func15 rfl (by decide +kernel) (Nat.le_of_ble_eq_true rfl) ?_; simp only [Try.f15])
        repeat' first
          | refine ev_seq (fun K hK => ?_)
          | ((first | refine evrd (id := 4) hmix tt_ok false [([], false), ([], false), ([], false), ([], false), ([], false), ([], false), ([], true), ([], true), ([], true), ([], true), ([], true), ([], true), ([], false), ([], false), ([6, 7, 8, 9, 10, 11], false), ([], false), ([], false), ([], false)] (by decide +kernel) ?_ | refine evr tt_ok false ?_ | refine ev_skip ?_ | refine ev_ret ?_ | refine ev_exit ?_ | refine evc (fun X Y hX hY => ?_)); simp only [go_sem, reduceAdd, reduceSub, reduceMul, reduceEqDiff, reduceLeDiff, Nat.reduceBEq, reduceLT, reduceIte, reduceCtorEq, Int.reduceToNat, hw2]; try (first | (refine ⟨fun h => hX ?_, fun h => hY ?_⟩; clear hX hY) | (refine hX ?_; clear hX hY) | (refine hY ?_; clear hX hY)))
          | refine ev_block ?_
          | (apply hK; clear hK)
          | apply_assumption -exfalso -symm only [*]
          | (refine And.intro ?_ ?_; first | omega | assumption | (unfold maxLen; omega) | (simp only [decide_eq_true_eq, decide_eq_false_iff_not, Int.not_lt, Int.not_le] at h; omega))
          | ((first | apply callP | apply callPG | apply callP0); (case' hv => (simp only [go_sem, reduceAdd, reduceSub, reduceMul, reduceEqDiff, reduceLeDiff, Nat.reduceBEq, reduceLT, reduceIte, reduceCtorEq, Int.reduceToNat, hw2]; try exact rfl)); (case' hp => (first | refine' aw | (refine' (fun hg => ?_); refine' aw) | refine' fw | (refine' (fun hg => ?_); refine' fw) | refine' rv | (refine' (fun hg => ?_); refine' rv) | refine' aw | (refine' (fun hg => ?_); refine' aw))); (case' h => ((first | refine evOps_fin ?_ | refine And.intro ?_ (evD_fin ?_) | refine evD_fin ?_) <;> simp only [go_sem, reduceAdd, reduceSub, reduceMul, reduceEqDiff, reduceLeDiff, Nat.reduceBEq, reduceLT, reduceIte, reduceCtorEq, Int.reduceToNat, hw2])))
          | (refine callX ?_; (first | refine evOps_fin ?_ | refine And.intro ?_ (evD_fin ?_) | refine evD_fin ?_) <;> simp only [go_sem, reduceAdd, reduceSub, reduceMul, reduceEqDiff, reduceLeDiff, Nat.reduceBEq, reduceLT, reduceIte, reduceCtorEq, Int.reduceToNat, hw2])
      · have hw2 : (p.f.w == 0) = false := by rw [beq_eq_false_iff_ne]; exact hw
        have rq := rprob_pure (shP p x y) hl
        obtain ⟨f1, f2, f3, f4, f5, f6, f7, f8, f9, f10, f11⟩ := id h.1
        have hcx := h.2.2.2.1
        have hcy := h.2.2.2.2.1
        have a1 : IntKind.i64.wrap x = x := w64 (by omega) (by omega)
        have a2 : IntKind.i64.wrap y = y := w64 (by omega) (by omega)
        have a3 : IntKind.i64.wrap (p.f.x + x) = p.f.x + x := w64 (by omega) (by omega)
        have a4 : IntKind.i64.wrap (p.f.y + y) = p.f.y + y := w64 (by omega) (by omega)
        have a5 : IntKind.i64.wrap (64 * x) = 64 * x := w64 (by omega) (by omega)
        have a6 : IntKind.i64.wrap (64 * y) = 64 * y := w64 (by omega) (by omega)
        have a7 : IntKind.i64.wrap (p.cx + 64 * x) = p.cx + 64 * x := w64 (by omega) (by omega)
        have a8 : IntKind.i64.wrap (p.cy + 64 * y) = p.cy + 64 * y := w64 (by omega) (by omega)
        by_cases hq : (shP p x y).ok
        · rw [decide_eq_true hq] at rq
          have fp := find_pure p hb hl
          have fq := find_pure (shP p x y) hb hl
          unfold fndR at fp fq
          rw [if_pos h] at fp
          rw [if_pos hq] at fq
          obtain ⟨q1, q2⟩ := sh_opt h hb hq hx hy hw
          have r0 := h.2.2.2.2.2.1
          have r1 := (winOk h).k1
          have r2 := (winOk h).k
          have hk : blkOk p ⟨0, 0, 0, 1⟩ := ⟨⟨by simp only; omega, by simp only; omega, by simp only; omega, by simp only; omega, by simp only; omega, by simp only; omega⟩, by show (0 : Int) ≤ 1; decide, by show (1 : Int) ≤ 6; decide⟩
          have vb := Bound_pure p hb hl ⟨0, 0, 0, 1⟩
          have vq := Bound_pure (shP p x y) hb hl ⟨0, 0, 0, 1⟩
          unfold boundR at vb vq
          rw [if_pos h, if_pos hk] at vb
          rw [if_pos hq, if_pos (show blkOk (shP p x y) ⟨0, 0, 0, 1⟩ from hk), sh_bound h hq hx hy hw hk] at vq
          generalize boundM p ⟨0, 0, 0, 1⟩ = bd at *
          generalize fndM p = m at *
          generalize fndM (shP p x y) = n at *
          simp only [encMa, encM, q1, q2] at fq
          clear h hq hk hf q1 q2
          simp only [encMa, encM, encP, shP, enBl, encNu] at *
          (refine pure_of_ev tt_ok Try.func15 rfl (by decide +kernel) (Nat.le_of_ble_eq_true rfl) ?_; simp only [Try.f15])
          repeat' first
            | refine ev_seq (fun K hK => ?_)
            | ((first | refine evrd (id := 4) hmix tt_ok false [([], false), ([], false), ([], false), ([], false), ([], false), ([], false), ([], true), ([], true), ([], true), ([], true), ([], true), ([], true), ([], false), ([], false), ([6, 7, 8, 9, 10, 11], false), ([], false), ([], false), ([], false)] (by decide +kernel) ?_ | refine evr tt_ok false ?_ | refine ev_skip ?_ | refine ev_ret ?_ | refine ev_exit ?_ | refine evc (fun X Y hX hY => ?_)); simp only [go_sem, reduceAdd, reduceSub, reduceMul, reduceEqDiff, reduceLeDiff, Nat.reduceBEq, reduceLT, reduceIte, reduceCtorEq, Int.reduceToNat, hw2, a1, a2, a3, a4, a5, a6, a7, a8, Int.reduceBEq, beq_self_eq_true]; try (first | (refine ⟨fun h => hX ?_, fun h => hY ?_⟩; clear hX hY) | (refine hX ?_; clear hX hY) | (refine hY ?_; clear hX hY)))
            | refine ev_block ?_
            | (apply hK; clear hK)
            | apply_assumption -exfalso -symm only [*]
            | (refine And.intro ?_ ?_; first | omega | assumption | (unfold maxLen; omega) | (simp only [decide_eq_true_eq, decide_eq_false_iff_not, Int.not_lt, Int.not_le] at h; omega))
            | ((first | apply callP | apply callPG | apply callP0); (case' hv => (simp only [go_sem, reduceAdd, reduceSub, reduceMul, reduceEqDiff, reduceLeDiff, Nat.reduceBEq, reduceLT, reduceIte, reduceCtorEq, Int.reduceToNat, hw2, a1, a2, a3, a4, a5, a6, a7, a8, Int.reduceBEq, beq_self_eq_true]; try exact rfl)); (case' hp => (first | refine' aw | (refine' (fun hg => ?_); refine' aw) | refine' fw | (refine' (fun hg => ?_); refine' fw) | refine' rv | (refine' (fun hg => ?_); refine' rv) | refine' rq | (refine' (fun hg => ?_); refine' rq) | refine' fp | (refine' (fun hg => ?_); refine' fp) | refine' fq | (refine' (fun hg => ?_); refine' fq) | refine' vb | (refine' (fun hg => ?_); refine' vb) | refine' vq | (refine' (fun hg => ?_); refine' vq))); (case' h => ((first | refine evOps_fin ?_ | refine And.intro ?_ (evD_fin ?_) | refine evD_fin ?_) <;> simp only [go_sem, reduceAdd, reduceSub, reduceMul, reduceEqDiff, reduceLeDiff, Nat.reduceBEq, reduceLT, reduceIte, reduceCtorEq, Int.reduceToNat, hw2, a1, a2, a3, a4, a5, a6, a7, a8, Int.reduceBEq, beq_self_eq_true])))
            | (refine callX ?_; (first | refine evOps_fin ?_ | refine And.intro ?_ (evD_fin ?_) | refine evD_fin ?_) <;> simp only [go_sem, reduceAdd, reduceSub, reduceMul, reduceEqDiff, reduceLeDiff, Nat.reduceBEq, reduceLT, reduceIte, reduceCtorEq, Int.reduceToNat, hw2, a1, a2, a3, a4, a5, a6, a7, a8, Int.reduceBEq, beq_self_eq_true])
        · rw [decide_eq_false hq] at rq
          clear h hq hf
          simp only [encP, shP] at *
          (refine pure_of_ev tt_ok Try.func15 rfl (by decide +kernel) (Nat.le_of_ble_eq_true rfl) ?_; simp only [Try.f15])
          repeat' first
            | refine ev_seq (fun K hK => ?_)
            | ((first | refine evrd (id := 4) hmix tt_ok false [([], false), ([], false), ([], false), ([], false), ([], false), ([], false), ([], true), ([], true), ([], true), ([], true), ([], true), ([], true), ([], false), ([], false), ([6, 7, 8, 9, 10, 11], false), ([], false), ([], false), ([], false)] (by decide +kernel) ?_ | refine evr tt_ok false ?_ | refine ev_skip ?_ | refine ev_ret ?_ | refine ev_exit ?_ | refine evc (fun X Y hX hY => ?_)); simp only [go_sem, reduceAdd, reduceSub, reduceMul, reduceEqDiff, reduceLeDiff, Nat.reduceBEq, reduceLT, reduceIte, reduceCtorEq, Int.reduceToNat, hw2, a1, a2, a3, a4, a5, a6, a7, a8]; try (first | (refine ⟨fun h => hX ?_, fun h => hY ?_⟩; clear hX hY) | (refine hX ?_; clear hX hY) | (refine hY ?_; clear hX hY)))
            | refine ev_block ?_
            | (apply hK; clear hK)
            | apply_assumption -exfalso -symm only [*]
            | (refine And.intro ?_ ?_; first | omega | assumption | (unfold maxLen; omega) | (simp only [decide_eq_true_eq, decide_eq_false_iff_not, Int.not_lt, Int.not_le] at h; omega))
            | ((first | apply callP | apply callPG | apply callP0); (case' hv => (simp only [go_sem, reduceAdd, reduceSub, reduceMul, reduceEqDiff, reduceLeDiff, Nat.reduceBEq, reduceLT, reduceIte, reduceCtorEq, Int.reduceToNat, hw2, a1, a2, a3, a4, a5, a6, a7, a8]; try exact rfl)); (case' hp => (first | refine' aw | (refine' (fun hg => ?_); refine' aw) | refine' fw | (refine' (fun hg => ?_); refine' fw) | refine' rv | (refine' (fun hg => ?_); refine' rv) | refine' rq | (refine' (fun hg => ?_); refine' rq))); (case' h => ((first | refine evOps_fin ?_ | refine And.intro ?_ (evD_fin ?_) | refine evD_fin ?_) <;> simp only [go_sem, reduceAdd, reduceSub, reduceMul, reduceEqDiff, reduceLeDiff, Nat.reduceBEq, reduceLT, reduceIte, reduceCtorEq, Int.reduceToNat, hw2, a1, a2, a3, a4, a5, a6, a7, a8])))
            | (refine callX ?_; (first | refine evOps_fin ?_ | refine And.intro ?_ (evD_fin ?_) | refine evD_fin ?_) <;> simp only [go_sem, reduceAdd, reduceSub, reduceMul, reduceEqDiff, reduceLeDiff, Nat.reduceBEq, reduceLT, reduceIte, reduceCtorEq, Int.reduceToNat, hw2, a1, a2, a3, a4, a5, a6, a7, a8])
    · rw [decide_eq_false h] at rv
      simp only [encP] at *
      (refine pure_of_ev tt_ok Try.func15 rfl (by decide +kernel) (Nat.le_of_ble_eq_true rfl) ?_; simp only [Try.f15])
      repeat' first
        | refine ev_seq (fun K hK => ?_)
        | ((first | refine evrd (id := 4) hmix tt_ok false [([], false), ([], false), ([], false), ([], false), ([], false), ([], false), ([], true), ([], true), ([], true), ([], true), ([], true), ([], true), ([], false), ([], false), ([6, 7, 8, 9, 10, 11], false), ([], false), ([], false), ([], false)] (by decide +kernel) ?_ | refine evr tt_ok false ?_ | refine ev_skip ?_ | refine ev_ret ?_ | refine ev_exit ?_ | refine evc (fun X Y hX hY => ?_)); simp only [go_sem, reduceAdd, reduceSub, reduceMul, reduceEqDiff, reduceLeDiff, Nat.reduceBEq, reduceLT, reduceIte, reduceCtorEq, Int.reduceToNat]; try (first | (refine ⟨fun h => hX ?_, fun h => hY ?_⟩; clear hX hY) | (refine hX ?_; clear hX hY) | (refine hY ?_; clear hX hY)))
        | refine ev_block ?_
        | (apply hK; clear hK)
        | apply_assumption -exfalso -symm only [*]
        | (refine And.intro ?_ ?_; first | omega | assumption | (unfold maxLen; omega) | (simp only [decide_eq_true_eq, decide_eq_false_iff_not, Int.not_lt, Int.not_le] at h; omega))
        | ((first | apply callP | apply callPG | apply callP0); (case' hv => (simp only [go_sem, reduceAdd, reduceSub, reduceMul, reduceEqDiff, reduceLeDiff, Nat.reduceBEq, reduceLT, reduceIte, reduceCtorEq, Int.reduceToNat]; try exact rfl)); (case' hp => (first | refine' aw | (refine' (fun hg => ?_); refine' aw) | refine' fw | (refine' (fun hg => ?_); refine' fw) | refine' rv | (refine' (fun hg => ?_); refine' rv) | refine' aw | (refine' (fun hg => ?_); refine' aw))); (case' h => ((first | refine evOps_fin ?_ | refine And.intro ?_ (evD_fin ?_) | refine evD_fin ?_) <;> simp only [go_sem, reduceAdd, reduceSub, reduceMul, reduceEqDiff, reduceLeDiff, Nat.reduceBEq, reduceLT, reduceIte, reduceCtorEq, Int.reduceToNat])))
        | (refine callX ?_; (first | refine evOps_fin ?_ | refine And.intro ?_ (evD_fin ?_) | refine evD_fin ?_) <;> simp only [go_sem, reduceAdd, reduceSub, reduceMul, reduceEqDiff, reduceLeDiff, Nat.reduceBEq, reduceLT, reduceIte, reduceCtorEq, Int.reduceToNat])
  · rw [decide_eq_false hf] at fw
    simp only [encP] at *
    (refine pure_of_ev tt_ok Try.func15 rfl (by decide +kernel) (Nat.le_of_ble_eq_true rfl) ?_; simp only [Try.f15])
    repeat' first
      | refine ev_seq (fun K hK => ?_)
      | ((first | refine evrd (id := 4) hmix tt_ok false [([], false), ([], false), ([], false), ([], false), ([], false), ([], false), ([], true), ([], true), ([], true), ([], true), ([], true), ([], true), ([], false), ([], false), ([6, 7, 8, 9, 10, 11], false), ([], false), ([], false), ([], false)] (by decide +kernel) ?_ | refine evr tt_ok false ?_ | refine ev_skip ?_ | refine ev_ret ?_ | refine ev_exit ?_ | refine evc (fun X Y hX hY => ?_)); simp only [go_sem, reduceAdd, reduceSub, reduceMul, reduceEqDiff, reduceLeDiff, Nat.reduceBEq, reduceLT, reduceIte, reduceCtorEq, Int.reduceToNat]; try (first | (refine ⟨fun h => hX ?_, fun h => hY ?_⟩; clear hX hY) | (refine hX ?_; clear hX hY) | (refine hY ?_; clear hX hY)))
      | refine ev_block ?_
      | (apply hK; clear hK)
      | apply_assumption -exfalso -symm only [*]
      | (refine And.intro ?_ ?_; first | omega | assumption | (unfold maxLen; omega) | (simp only [decide_eq_true_eq, decide_eq_false_iff_not, Int.not_lt, Int.not_le] at h; omega))
      | ((first | apply callP | apply callPG | apply callP0); (case' hv => (simp only [go_sem, reduceAdd, reduceSub, reduceMul, reduceEqDiff, reduceLeDiff, Nat.reduceBEq, reduceLT, reduceIte, reduceCtorEq, Int.reduceToNat]; try exact rfl)); (case' hp => (first | refine' aw | (refine' (fun hg => ?_); refine' aw) | refine' fw | (refine' (fun hg => ?_); refine' fw) | refine' aw | (refine' (fun hg => ?_); refine' aw))); (case' h => ((first | refine evOps_fin ?_ | refine And.intro ?_ (evD_fin ?_) | refine evD_fin ?_) <;> simp only [go_sem, reduceAdd, reduceSub, reduceMul, reduceEqDiff, reduceLeDiff, Nat.reduceBEq, reduceLT, reduceIte, reduceCtorEq, Int.reduceToNat])))
      | (refine callX ?_; (first | refine evOps_fin ?_ | refine And.intro ?_ (evD_fin ?_) | refine evD_fin ?_) <;> simp only [go_sem, reduceAdd, reduceSub, reduceMul, reduceEqDiff, reduceLeDiff, Nat.reduceBEq, reduceLT, reduceIte, reduceCtorEq, Int.reduceToNat])
end Go.Proofs.Ytokhaefcnbiadaa
