import Derived.Test.YtbibplkhhdomnaaGreatW20
set_option linter.all false
namespace Go.Proofs.YtbibplkhhdomnaaGreat
open Nat (reduceAdd reduceSub reduceMul reduceEqDiff reduceLeDiff reduceLT)
open Go Go.K
set_option maxRecDepth 20000
set_option maxHeartbeats 8000000
theorem pyr_len (f : Fld) : (pyrV f).length = 41 := rfl
theorem cellsAt_weak {E : Ext} {b : Nat} : ∀ {xs ys : List V} {o : Nat}, xs.length = ys.length → (∀ (i : Nat) (x y : V), xs[i]? = some x → ys[i]? = some y → x = y ∨ (x = .emp ∧ y = .sl [])) → CellsAt E b o xs → CellsAt E b o ys
  | [], [], _, _, _, _ => by unfold CellsAt; trivial
  | [], _ :: _, _, h, _, _ => by simp at h
  | _ :: _, [], _, h, _, _ => by simp at h
  | x :: xs, y :: ys, o, h, hp, hc => by
    unfold CellsAt at hc ⊢
    obtain ⟨h1, ⟨v, h2, h3⟩, h4⟩ := hc
    refine ⟨?_, ⟨v, h2, ?_⟩, cellsAt_weak (by simpa using h) (fun i a b ha hb => hp (i + 1) a b (by simpa using ha) (by simpa using hb)) h4⟩
    · rcases hp 0 x y rfl rfl with e | ⟨_, e⟩
      · rw [← e]; exact h1
      · rw [e]; rfl
    · rcases hp 0 x y rfl rfl with e | ⟨e1, e⟩
      · rw [← e]; exact h3
      · rw [e1] at h3; rw [e]; exact emp_sl h3
theorem new_pure (f : Fld) (h : f.ok) (hb : bytesL f.v) : Pure Tryz.prog 39 [.agg [.int .i64 f.x, .int .i64 f.y, .int .i64 f.w, .int .i64 f.h, .sl (f.v.map enB)]] (.tup [.pi (pyrV f) 0, .int .i64 0]) := by
  by_cases hw : f.w = 0
  · refine Pure.weak (new_zero f h hw) fun E v hv => tup_fst hv fun u hu => ?_
    obtain ⟨h1, h2, h3, h4, h5, h6, h7, h8, h9, h10, h11⟩ := h
    have hh := h5.1 hw
    have hvl : f.v = [] := by
      rw [hw, hh] at h6
      exact List.eq_nil_of_length_eq_zero (by simpa using h6)
    obtain ⟨hx, hy⟩ := h11 hw
    obtain ⟨x, y, w, h, l⟩ := f
    simp only at hw hh hvl hx hy
    subst hw hh hvl hx hy
    unfold V.Is at hu ⊢
    obtain ⟨b, o, e, hc⟩ := hu
    refine ⟨b, o, e, cellsAt_weak (by rfl) (fun i p q hp hq => ?_) hc⟩
    have hi : i < 41 := get_lt hp
    have : i = 0 ∨ i = 1 ∨ i = 2 ∨ i = 3 ∨ i = 4 ∨ i = 5 ∨ i = 6 ∨ i = 7 ∨ i = 8 ∨ i = 9 ∨ i = 10 ∨ i = 11 ∨ i = 12 ∨ i = 13 ∨ i = 14 ∨ i = 15 ∨ i = 16 ∨ i = 17 ∨ i = 18 ∨ i = 19 ∨ i = 20 ∨ i = 21 ∨ i = 22 ∨ i = 23 ∨ i = 24 ∨ i = 25 ∨ i = 26 ∨ i = 27 ∨ i = 28 ∨ i = 29 ∨ i = 30 ∨ i = 31 ∨ i = 32 ∨ i = 33 ∨ i = 34 ∨ i = 35 ∨ i = 36 ∨ i = 37 ∨ i = 38 ∨ i = 39 ∨ i = 40 := by omega
    rcases this with rfl | rfl | rfl | rfl | rfl | rfl | rfl | rfl | rfl | rfl | rfl | rfl | rfl | rfl | rfl | rfl | rfl | rfl | rfl | rfl | rfl | rfl | rfl | rfl | rfl | rfl | rfl | rfl | rfl | rfl | rfl | rfl | rfl | rfl | rfl | rfl | rfl | rfl | rfl | rfl | rfl <;>
      (have h1 := Option.some.inj hp; have h2 := Option.some.inj hq; subst h1 h2; first | exact .inl rfl | exact .inr ⟨rfl, rfl⟩)
  · have e : ∀ j, lvf f j = lev f j := fun j => by unfold lvf; rw [if_neg hw]
    have := new_some f h hb hw
    unfold pyrV
    simp only [e]
    exact this
theorem lvf_fine {f : Fld} (h : f.ok) (hb : bytesL f.v) {j : Nat} (hj : j ≤ 6) : (lvf f j).fine := by
  unfold lvf; split
  · exact ⟨by decide, by decide, by decide, by decide, by decide, by decide, by decide, by decide, by decide, fun b hb => by cases hb⟩
  · exact lev_fine h hb hj
def maxM (f : Fld) (l x y : Int) : Int := if l < 0 ∨ 6 < l ∨ farM x = true ∨ farM y = true then 0 else atM (lvf f l.toNat) x y
def inI (x : Int) : Prop := -9223372036854775808 ≤ x ∧ x ≤ 9223372036854775807
theorem pmax_pure (f : Fld) (h : f.ok) (hb : bytesL f.v) (l x y : Int) (hx : inI x) (hy : inI y) : Pure Tryz.prog 72 [.pi (pyrV f) 0, .int .i64 l, .int .i64 x, .int .i64 y] (.int .u8 (maxM f l x y)) := by
  have hlen := pyr_len f
  unfold maxM
  by_cases hc : l < 0 ∨ 6 < l ∨ farM x = true ∨ farM y = true
  · have hc2 : (((decide (l < 0) || decide (6 < l)) || farM x) || farM y) = true := by
      simp only [Bool.or_eq_true, decide_eq_true_eq]
      rcases hc with h | h | h | h
      · exact .inl (.inl (.inl h))
      · exact .inl (.inl (.inr h))
      · exact .inl (.inr h)
      · exact .inr h
    rw [if_pos hc]
    (refine pure_of_ev tt_ok Tryz.func72 rfl (by decide +kernel) (Nat.le_of_ble_eq_true rfl) ?_; simp only [Tryz.f72])
    repeat' first
      | refine ev_seq (fun K hK => ?_)
      | ((first | refine evr tt_ok false ?_ | refine ev_skip ?_ | refine ev_ret ?_ | refine ev_exit ?_ | refine evc (fun X Y hX hY => ?_)); simp only [go_sem, reduceAdd, reduceSub, reduceMul, reduceEqDiff, reduceLeDiff, Nat.reduceBEq, reduceLT, reduceIte, reduceCtorEq, Int.reduceToNat, hc2]; try (first | (refine ⟨fun h => hX ?_, fun h => hY ?_⟩; clear hX hY) | (refine hX ?_; clear hX hY) | (refine hY ?_; clear hX hY)))
      | refine ev_block ?_
      | (apply hK; clear hK)
      | apply_assumption -exfalso -symm only [*]
      | (refine And.intro ?_ ?_; first | omega | assumption | (unfold maxLen; omega) | (simp only [decide_eq_true_eq, decide_eq_false_iff_not, Int.not_lt, Int.not_le] at h; omega))
      | ((first | apply callP | apply callPG | apply callP0); (case' hv => (simp only [go_sem, reduceAdd, reduceSub, reduceMul, reduceEqDiff, reduceLeDiff, Nat.reduceBEq, reduceLT, reduceIte, reduceCtorEq, Int.reduceToNat, hc2]; try exact rfl)); (case' hp => (first | refine' far_pure x | (refine' (fun hg => ?_); refine' far_pure x) | refine' far_pure y | (refine' (fun hg => ?_); refine' far_pure y))); (case' h => ((first | refine evOps_fin ?_ | refine And.intro ?_ (evD_fin ?_) | refine evD_fin ?_) <;> simp only [go_sem, reduceAdd, reduceSub, reduceMul, reduceEqDiff, reduceLeDiff, Nat.reduceBEq, reduceLT, reduceIte, reduceCtorEq, Int.reduceToNat, hc2])))
      | (refine callX ?_; (first | refine evOps_fin ?_ | refine And.intro ?_ (evD_fin ?_) | refine evD_fin ?_) <;> simp only [go_sem, reduceAdd, reduceSub, reduceMul, reduceEqDiff, reduceLeDiff, Nat.reduceBEq, reduceLT, reduceIte, reduceCtorEq, Int.reduceToNat, hc2])
  · have n1 : ¬ l < 0 := fun h => hc (.inl h)
    have n2 : ¬ 6 < l := fun h => hc (.inr (.inl h))
    have n3 : farM x = false := by cases h : farM x with | false => rfl | true => exact absurd (.inr (.inr (.inl h))) hc
    have n4 : farM y = false := by cases h : farM y with | false => rfl | true => exact absurd (.inr (.inr (.inr h))) hc
    rw [if_neg hc]
    have fx := far_pure x
    have fy := far_pure y
    rw [n3] at fx
    rw [n4] at fy
    have hcase : l = 0 ∨ l = 1 ∨ l = 2 ∨ l = 3 ∨ l = 4 ∨ l = 5 ∨ l = 6 := by omega
    have p0 : List.take 5 (List.drop 5 (pyrV f)) = [.int .i64 (lvf f 0).x, .int .i64 (lvf f 0).y, .int .i64 (lvf f 0).w, .int .i64 (lvf f 0).h, .sl ((lvf f 0).v.map enB)] := rfl
    have p1 : List.take 5 (List.drop 10 (pyrV f)) = [.int .i64 (lvf f 1).x, .int .i64 (lvf f 1).y, .int .i64 (lvf f 1).w, .int .i64 (lvf f 1).h, .sl ((lvf f 1).v.map enB)] := rfl
    have p2 : List.take 5 (List.drop 15 (pyrV f)) = [.int .i64 (lvf f 2).x, .int .i64 (lvf f 2).y, .int .i64 (lvf f 2).w, .int .i64 (lvf f 2).h, .sl ((lvf f 2).v.map enB)] := rfl
    have p3 : List.take 5 (List.drop 20 (pyrV f)) = [.int .i64 (lvf f 3).x, .int .i64 (lvf f 3).y, .int .i64 (lvf f 3).w, .int .i64 (lvf f 3).h, .sl ((lvf f 3).v.map enB)] := rfl
    have p4 : List.take 5 (List.drop 25 (pyrV f)) = [.int .i64 (lvf f 4).x, .int .i64 (lvf f 4).y, .int .i64 (lvf f 4).w, .int .i64 (lvf f 4).h, .sl ((lvf f 4).v.map enB)] := rfl
    have p5 : List.take 5 (List.drop 30 (pyrV f)) = [.int .i64 (lvf f 5).x, .int .i64 (lvf f 5).y, .int .i64 (lvf f 5).w, .int .i64 (lvf f 5).h, .sl ((lvf f 5).v.map enB)] := rfl
    have p6 : List.take 5 (List.drop 35 (pyrV f)) = [.int .i64 (lvf f 6).x, .int .i64 (lvf f 6).y, .int .i64 (lvf f 6).w, .int .i64 (lvf f 6).h, .sl ((lvf f 6).v.map enB)] := rfl
    generalize pyrV f = C at *
    rcases hcase with rfl | rfl | rfl | rfl | rfl | rfl | rfl
    · have a := at_pure (lvf f 0) (lvf_fine h hb (by decide)) x y hx hy
      (refine pure_of_ev tt_ok Tryz.func72 rfl (by decide +kernel) (Nat.le_of_ble_eq_true rfl) ?_; simp only [Tryz.f72])
      repeat' first
        | refine ev_seq (fun K hK => ?_)
        | ((first | refine evr tt_ok false ?_ | refine ev_skip ?_ | refine ev_ret ?_ | refine ev_exit ?_ | refine evc (fun X Y hX hY => ?_)); simp only [go_sem, reduceAdd, reduceSub, reduceMul, reduceEqDiff, reduceLeDiff, Nat.reduceBEq, reduceLT, reduceIte, reduceCtorEq, Int.reduceToNat, hlen, p0, Int.reduceToNat, Int.reduceLT, Int.reduceLE]; try (first | (refine ⟨fun h => hX ?_, fun h => hY ?_⟩; clear hX hY) | (refine hX ?_; clear hX hY) | (refine hY ?_; clear hX hY)))
        | refine ev_block ?_
        | (apply hK; clear hK)
        | apply_assumption -exfalso -symm only [*]
        | (refine And.intro ?_ ?_; first | omega | assumption | (unfold maxLen; omega) | (simp only [decide_eq_true_eq, decide_eq_false_iff_not, Int.not_lt, Int.not_le] at h; omega))
        | ((first | apply callP | apply callPG | apply callP0); (case' hv => (simp only [go_sem, reduceAdd, reduceSub, reduceMul, reduceEqDiff, reduceLeDiff, Nat.reduceBEq, reduceLT, reduceIte, reduceCtorEq, Int.reduceToNat, hlen, p0, Int.reduceToNat, Int.reduceLT, Int.reduceLE]; try exact rfl)); (case' hp => (first | refine' fx | (refine' (fun hg => ?_); refine' fx) | refine' fy | (refine' (fun hg => ?_); refine' fy) | refine' a | (refine' (fun hg => ?_); refine' a))); (case' h => ((first | refine evOps_fin ?_ | refine And.intro ?_ (evD_fin ?_) | refine evD_fin ?_) <;> simp only [go_sem, reduceAdd, reduceSub, reduceMul, reduceEqDiff, reduceLeDiff, Nat.reduceBEq, reduceLT, reduceIte, reduceCtorEq, Int.reduceToNat, hlen, p0, Int.reduceToNat, Int.reduceLT, Int.reduceLE])))
        | (refine callX ?_; (first | refine evOps_fin ?_ | refine And.intro ?_ (evD_fin ?_) | refine evD_fin ?_) <;> simp only [go_sem, reduceAdd, reduceSub, reduceMul, reduceEqDiff, reduceLeDiff, Nat.reduceBEq, reduceLT, reduceIte, reduceCtorEq, Int.reduceToNat, hlen, p0, Int.reduceToNat, Int.reduceLT, Int.reduceLE])
      all_goals rfl
    · have a := at_pure (lvf f 1) (lvf_fine h hb (by decide)) x y hx hy
      (refine pure_of_ev tt_ok Tryz.func72 rfl (by decide +kernel) (Nat.le_of_ble_eq_true rfl) ?_; simp only [Tryz.f72])
      repeat' first
        | refine ev_seq (fun K hK => ?_)
        | ((first | refine evr tt_ok false ?_ | refine ev_skip ?_ | refine ev_ret ?_ | refine ev_exit ?_ | refine evc (fun X Y hX hY => ?_)); simp only [go_sem, reduceAdd, reduceSub, reduceMul, reduceEqDiff, reduceLeDiff, Nat.reduceBEq, reduceLT, reduceIte, reduceCtorEq, Int.reduceToNat, hlen, p1, Int.reduceToNat, Int.reduceLT, Int.reduceLE]; try (first | (refine ⟨fun h => hX ?_, fun h => hY ?_⟩; clear hX hY) | (refine hX ?_; clear hX hY) | (refine hY ?_; clear hX hY)))
        | refine ev_block ?_
        | (apply hK; clear hK)
        | apply_assumption -exfalso -symm only [*]
        | (refine And.intro ?_ ?_; first | omega | assumption | (unfold maxLen; omega) | (simp only [decide_eq_true_eq, decide_eq_false_iff_not, Int.not_lt, Int.not_le] at h; omega))
        | ((first | apply callP | apply callPG | apply callP0); (case' hv => (simp only [go_sem, reduceAdd, reduceSub, reduceMul, reduceEqDiff, reduceLeDiff, Nat.reduceBEq, reduceLT, reduceIte, reduceCtorEq, Int.reduceToNat, hlen, p1, Int.reduceToNat, Int.reduceLT, Int.reduceLE]; try exact rfl)); (case' hp => (first | refine' fx | (refine' (fun hg => ?_); refine' fx) | refine' fy | (refine' (fun hg => ?_); refine' fy) | refine' a | (refine' (fun hg => ?_); refine' a))); (case' h => ((first | refine evOps_fin ?_ | refine And.intro ?_ (evD_fin ?_) | refine evD_fin ?_) <;> simp only [go_sem, reduceAdd, reduceSub, reduceMul, reduceEqDiff, reduceLeDiff, Nat.reduceBEq, reduceLT, reduceIte, reduceCtorEq, Int.reduceToNat, hlen, p1, Int.reduceToNat, Int.reduceLT, Int.reduceLE])))
        | (refine callX ?_; (first | refine evOps_fin ?_ | refine And.intro ?_ (evD_fin ?_) | refine evD_fin ?_) <;> simp only [go_sem, reduceAdd, reduceSub, reduceMul, reduceEqDiff, reduceLeDiff, Nat.reduceBEq, reduceLT, reduceIte, reduceCtorEq, Int.reduceToNat, hlen, p1, Int.reduceToNat, Int.reduceLT, Int.reduceLE])
      all_goals rfl
    · have a := at_pure (lvf f 2) (lvf_fine h hb (by decide)) x y hx hy
      (refine pure_of_ev tt_ok Tryz.func72 rfl (by decide +kernel) (Nat.le_of_ble_eq_true rfl) ?_; simp only [Tryz.f72])
      repeat' first
        | refine ev_seq (fun K hK => ?_)
        | ((first | refine evr tt_ok false ?_ | refine ev_skip ?_ | refine ev_ret ?_ | refine ev_exit ?_ | refine evc (fun X Y hX hY => ?_)); simp only [go_sem, reduceAdd, reduceSub, reduceMul, reduceEqDiff, reduceLeDiff, Nat.reduceBEq, reduceLT, reduceIte, reduceCtorEq, Int.reduceToNat, hlen, p2, Int.reduceToNat, Int.reduceLT, Int.reduceLE]; try (first | (refine ⟨fun h => hX ?_, fun h => hY ?_⟩; clear hX hY) | (refine hX ?_; clear hX hY) | (refine hY ?_; clear hX hY)))
        | refine ev_block ?_
        | (apply hK; clear hK)
        | apply_assumption -exfalso -symm only [*]
        | (refine And.intro ?_ ?_; first | omega | assumption | (unfold maxLen; omega) | (simp only [decide_eq_true_eq, decide_eq_false_iff_not, Int.not_lt, Int.not_le] at h; omega))
        | ((first | apply callP | apply callPG | apply callP0); (case' hv => (simp only [go_sem, reduceAdd, reduceSub, reduceMul, reduceEqDiff, reduceLeDiff, Nat.reduceBEq, reduceLT, reduceIte, reduceCtorEq, Int.reduceToNat, hlen, p2, Int.reduceToNat, Int.reduceLT, Int.reduceLE]; try exact rfl)); (case' hp => (first | refine' fx | (refine' (fun hg => ?_); refine' fx) | refine' fy | (refine' (fun hg => ?_); refine' fy) | refine' a | (refine' (fun hg => ?_); refine' a))); (case' h => ((first | refine evOps_fin ?_ | refine And.intro ?_ (evD_fin ?_) | refine evD_fin ?_) <;> simp only [go_sem, reduceAdd, reduceSub, reduceMul, reduceEqDiff, reduceLeDiff, Nat.reduceBEq, reduceLT, reduceIte, reduceCtorEq, Int.reduceToNat, hlen, p2, Int.reduceToNat, Int.reduceLT, Int.reduceLE])))
        | (refine callX ?_; (first | refine evOps_fin ?_ | refine And.intro ?_ (evD_fin ?_) | refine evD_fin ?_) <;> simp only [go_sem, reduceAdd, reduceSub, reduceMul, reduceEqDiff, reduceLeDiff, Nat.reduceBEq, reduceLT, reduceIte, reduceCtorEq, Int.reduceToNat, hlen, p2, Int.reduceToNat, Int.reduceLT, Int.reduceLE])
      all_goals rfl
    · have a := at_pure (lvf f 3) (lvf_fine h hb (by decide)) x y hx hy
      (refine pure_of_ev tt_ok Tryz.func72 rfl (by decide +kernel) (Nat.le_of_ble_eq_true rfl) ?_; simp only [Tryz.f72])
      repeat' first
        | refine ev_seq (fun K hK => ?_)
        | ((first | refine evr tt_ok false ?_ | refine ev_skip ?_ | refine ev_ret ?_ | refine ev_exit ?_ | refine evc (fun X Y hX hY => ?_)); simp only [go_sem, reduceAdd, reduceSub, reduceMul, reduceEqDiff, reduceLeDiff, Nat.reduceBEq, reduceLT, reduceIte, reduceCtorEq, Int.reduceToNat, hlen, p3, Int.reduceToNat, Int.reduceLT, Int.reduceLE]; try (first | (refine ⟨fun h => hX ?_, fun h => hY ?_⟩; clear hX hY) | (refine hX ?_; clear hX hY) | (refine hY ?_; clear hX hY)))
        | refine ev_block ?_
        | (apply hK; clear hK)
        | apply_assumption -exfalso -symm only [*]
        | (refine And.intro ?_ ?_; first | omega | assumption | (unfold maxLen; omega) | (simp only [decide_eq_true_eq, decide_eq_false_iff_not, Int.not_lt, Int.not_le] at h; omega))
        | ((first | apply callP | apply callPG | apply callP0); (case' hv => (simp only [go_sem, reduceAdd, reduceSub, reduceMul, reduceEqDiff, reduceLeDiff, Nat.reduceBEq, reduceLT, reduceIte, reduceCtorEq, Int.reduceToNat, hlen, p3, Int.reduceToNat, Int.reduceLT, Int.reduceLE]; try exact rfl)); (case' hp => (first | refine' fx | (refine' (fun hg => ?_); refine' fx) | refine' fy | (refine' (fun hg => ?_); refine' fy) | refine' a | (refine' (fun hg => ?_); refine' a))); (case' h => ((first | refine evOps_fin ?_ | refine And.intro ?_ (evD_fin ?_) | refine evD_fin ?_) <;> simp only [go_sem, reduceAdd, reduceSub, reduceMul, reduceEqDiff, reduceLeDiff, Nat.reduceBEq, reduceLT, reduceIte, reduceCtorEq, Int.reduceToNat, hlen, p3, Int.reduceToNat, Int.reduceLT, Int.reduceLE])))
        | (refine callX ?_; (first | refine evOps_fin ?_ | refine And.intro ?_ (evD_fin ?_) | refine evD_fin ?_) <;> simp only [go_sem, reduceAdd, reduceSub, reduceMul, reduceEqDiff, reduceLeDiff, Nat.reduceBEq, reduceLT, reduceIte, reduceCtorEq, Int.reduceToNat, hlen, p3, Int.reduceToNat, Int.reduceLT, Int.reduceLE])
      all_goals rfl
    · have a := at_pure (lvf f 4) (lvf_fine h hb (by decide)) x y hx hy
      (refine pure_of_ev tt_ok Tryz.func72 rfl (by decide +kernel) (Nat.le_of_ble_eq_true rfl) ?_; simp only [Tryz.f72])
      repeat' first
        | refine ev_seq (fun K hK => ?_)
        | ((first | refine evr tt_ok false ?_ | refine ev_skip ?_ | refine ev_ret ?_ | refine ev_exit ?_ | refine evc (fun X Y hX hY => ?_)); simp only [go_sem, reduceAdd, reduceSub, reduceMul, reduceEqDiff, reduceLeDiff, Nat.reduceBEq, reduceLT, reduceIte, reduceCtorEq, Int.reduceToNat, hlen, p4, Int.reduceToNat, Int.reduceLT, Int.reduceLE]; try (first | (refine ⟨fun h => hX ?_, fun h => hY ?_⟩; clear hX hY) | (refine hX ?_; clear hX hY) | (refine hY ?_; clear hX hY)))
        | refine ev_block ?_
        | (apply hK; clear hK)
        | apply_assumption -exfalso -symm only [*]
        | (refine And.intro ?_ ?_; first | omega | assumption | (unfold maxLen; omega) | (simp only [decide_eq_true_eq, decide_eq_false_iff_not, Int.not_lt, Int.not_le] at h; omega))
        | ((first | apply callP | apply callPG | apply callP0); (case' hv => (simp only [go_sem, reduceAdd, reduceSub, reduceMul, reduceEqDiff, reduceLeDiff, Nat.reduceBEq, reduceLT, reduceIte, reduceCtorEq, Int.reduceToNat, hlen, p4, Int.reduceToNat, Int.reduceLT, Int.reduceLE]; try exact rfl)); (case' hp => (first | refine' fx | (refine' (fun hg => ?_); refine' fx) | refine' fy | (refine' (fun hg => ?_); refine' fy) | refine' a | (refine' (fun hg => ?_); refine' a))); (case' h => ((first | refine evOps_fin ?_ | refine And.intro ?_ (evD_fin ?_) | refine evD_fin ?_) <;> simp only [go_sem, reduceAdd, reduceSub, reduceMul, reduceEqDiff, reduceLeDiff, Nat.reduceBEq, reduceLT, reduceIte, reduceCtorEq, Int.reduceToNat, hlen, p4, Int.reduceToNat, Int.reduceLT, Int.reduceLE])))
        | (refine callX ?_; (first | refine evOps_fin ?_ | refine And.intro ?_ (evD_fin ?_) | refine evD_fin ?_) <;> simp only [go_sem, reduceAdd, reduceSub, reduceMul, reduceEqDiff, reduceLeDiff, Nat.reduceBEq, reduceLT, reduceIte, reduceCtorEq, Int.reduceToNat, hlen, p4, Int.reduceToNat, Int.reduceLT, Int.reduceLE])
      all_goals rfl
    · have a := at_pure (lvf f 5) (lvf_fine h hb (by decide)) x y hx hy
      (refine pure_of_ev tt_ok Tryz.func72 rfl (by decide +kernel) (Nat.le_of_ble_eq_true rfl) ?_; simp only [Tryz.f72])
      repeat' first
        | refine ev_seq (fun K hK => ?_)
        | ((first | refine evr tt_ok false ?_ | refine ev_skip ?_ | refine ev_ret ?_ | refine ev_exit ?_ | refine evc (fun X Y hX hY => ?_)); simp only [go_sem, reduceAdd, reduceSub, reduceMul, reduceEqDiff, reduceLeDiff, Nat.reduceBEq, reduceLT, reduceIte, reduceCtorEq, Int.reduceToNat, hlen, p5, Int.reduceToNat, Int.reduceLT, Int.reduceLE]; try (first | (refine ⟨fun h => hX ?_, fun h => hY ?_⟩; clear hX hY) | (refine hX ?_; clear hX hY) | (refine hY ?_; clear hX hY)))
        | refine ev_block ?_
        | (apply hK; clear hK)
        | apply_assumption -exfalso -symm only [*]
        | (refine And.intro ?_ ?_; first | omega | assumption | (unfold maxLen; omega) | (simp only [decide_eq_true_eq, decide_eq_false_iff_not, Int.not_lt, Int.not_le] at h; omega))
        | ((first | apply callP | apply callPG | apply callP0); (case' hv => (simp only [go_sem, reduceAdd, reduceSub, reduceMul, reduceEqDiff, reduceLeDiff, Nat.reduceBEq, reduceLT, reduceIte, reduceCtorEq, Int.reduceToNat, hlen, p5, Int.reduceToNat, Int.reduceLT, Int.reduceLE]; try exact rfl)); (case' hp => (first | refine' fx | (refine' (fun hg => ?_); refine' fx) | refine' fy | (refine' (fun hg => ?_); refine' fy) | refine' a | (refine' (fun hg => ?_); refine' a))); (case' h => ((first | refine evOps_fin ?_ | refine And.intro ?_ (evD_fin ?_) | refine evD_fin ?_) <;> simp only [go_sem, reduceAdd, reduceSub, reduceMul, reduceEqDiff, reduceLeDiff, Nat.reduceBEq, reduceLT, reduceIte, reduceCtorEq, Int.reduceToNat, hlen, p5, Int.reduceToNat, Int.reduceLT, Int.reduceLE])))
        | (refine callX ?_; (first | refine evOps_fin ?_ | refine And.intro ?_ (evD_fin ?_) | refine evD_fin ?_) <;> simp only [go_sem, reduceAdd, reduceSub, reduceMul, reduceEqDiff, reduceLeDiff, Nat.reduceBEq, reduceLT, reduceIte, reduceCtorEq, Int.reduceToNat, hlen, p5, Int.reduceToNat, Int.reduceLT, Int.reduceLE])
      all_goals rfl
    · have a := at_pure (lvf f 6) (lvf_fine h hb (by decide)) x y hx hy
      (refine pure_of_ev tt_ok Tryz.func72 rfl (by decide +kernel) (Nat.le_of_ble_eq_true rfl) ?_; simp only [Tryz.f72])
      repeat' first
        | refine ev_seq (fun K hK => ?_)
        | ((first | refine evr tt_ok false ?_ | refine ev_skip ?_ | refine ev_ret ?_ | refine ev_exit ?_ | refine evc (fun X Y hX hY => ?_)); simp only [go_sem, reduceAdd, reduceSub, reduceMul, reduceEqDiff, reduceLeDiff, Nat.reduceBEq, reduceLT, reduceIte, reduceCtorEq, Int.reduceToNat, hlen, p6, Int.reduceToNat, Int.reduceLT, Int.reduceLE]; try (first | (refine ⟨fun h => hX ?_, fun h => hY ?_⟩; clear hX hY) | (refine hX ?_; clear hX hY) | (refine hY ?_; clear hX hY)))
        | refine ev_block ?_
        | (apply hK; clear hK)
        | apply_assumption -exfalso -symm only [*]
        | (refine And.intro ?_ ?_; first | omega | assumption | (unfold maxLen; omega) | (simp only [decide_eq_true_eq, decide_eq_false_iff_not, Int.not_lt, Int.not_le] at h; omega))
        | ((first | apply callP | apply callPG | apply callP0); (case' hv => (simp only [go_sem, reduceAdd, reduceSub, reduceMul, reduceEqDiff, reduceLeDiff, Nat.reduceBEq, reduceLT, reduceIte, reduceCtorEq, Int.reduceToNat, hlen, p6, Int.reduceToNat, Int.reduceLT, Int.reduceLE]; try exact rfl)); (case' hp => (first | refine' fx | (refine' (fun hg => ?_); refine' fx) | refine' fy | (refine' (fun hg => ?_); refine' fy) | refine' a | (refine' (fun hg => ?_); refine' a))); (case' h => ((first | refine evOps_fin ?_ | refine And.intro ?_ (evD_fin ?_) | refine evD_fin ?_) <;> simp only [go_sem, reduceAdd, reduceSub, reduceMul, reduceEqDiff, reduceLeDiff, Nat.reduceBEq, reduceLT, reduceIte, reduceCtorEq, Int.reduceToNat, hlen, p6, Int.reduceToNat, Int.reduceLT, Int.reduceLE])))
        | (refine callX ?_; (first | refine evOps_fin ?_ | refine And.intro ?_ (evD_fin ?_) | refine evD_fin ?_) <;> simp only [go_sem, reduceAdd, reduceSub, reduceMul, reduceEqDiff, reduceLeDiff, Nat.reduceBEq, reduceLT, reduceIte, reduceCtorEq, Int.reduceToNat, hlen, p6, Int.reduceToNat, Int.reduceLT, Int.reduceLE])
      all_goals rfl
def valueM (f : Fld) (x y : Int) : Int := if f.ok then atM f x y else 0
end Go.Proofs.YtbibplkhhdomnaaGreat
