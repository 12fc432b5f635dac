import Derived.Test.YtnkiejbkfafciaaA1
set_option linter.all false
namespace Go.Proofs.Ytnkiejbkfafciaa
open Go Go.K
set_option maxRecDepth 20000
set_option maxHeartbeats 4000000
set_option linter.unusedSimpArgs false
set_option linter.unusedVariables false
structure Fl where
  (stop lost bump late : Bool)
def b2 (b : Bool) (n : Int) : Int := if b then n else 0
def flI (F : Fl) : Int := b2 F.stop 1 + b2 F.lost 2 + b2 F.bump 4 + b2 F.late 8
theorem set1 (on : Bool) (F : Fl) : setF on (flI F) 1 = flI { F with stop := F.stop || on } := by
  obtain ⟨a, b, c, d⟩ := F
  cases on <;> cases a <;> cases b <;> cases c <;> cases d <;> decide +kernel
theorem set2 (on : Bool) (F : Fl) : setF on (flI F) 2 = flI { F with lost := F.lost || on } := by
  obtain ⟨a, b, c, d⟩ := F
  cases on <;> cases a <;> cases b <;> cases c <;> cases d <;> decide +kernel
theorem set4 (on : Bool) (F : Fl) : setF on (flI F) 4 = flI { F with bump := F.bump || on } := by
  obtain ⟨a, b, c, d⟩ := F
  cases on <;> cases a <;> cases b <;> cases c <;> cases d <;> decide +kernel
theorem set8 (on : Bool) (F : Fl) : setF on (flI F) 8 = flI { F with late := F.late || on } := by
  obtain ⟨a, b, c, d⟩ := F
  cases on <;> cases a <;> cases b <;> cases c <;> cases d <;> decide +kernel
def Fl.none : Fl := ⟨false, false, false, false⟩
def nextAge (s : Sig) (a : Int) : Int := if s.scan then 0 else if 1073741824 < a + 1 then 1073741824 else a + 1
def nextFl (L : Int) (s : Sig) (F : Fl) (a : Int) : Fl :=
  let B := if s.reset then Fl.none else F
  ⟨B.stop || s.stop, B.lost || s.lost, B.bump || s.bump, B.late || decide (L < nextAge s a)⟩
theorem obs_run {ow : List Own} {i : Nat} {l a : Int} {F0 : Fl} (h : ow[i]? = some (.blk 51 0 3 [mcells l (flI F0) a])) (ha : 0 ≤ a ∧ a ≤ 1073741824) (s : Sig) :
    Run Try.prog 13 [.own i 0 0 0, .agg [.bool s.stop, .bool s.lost, .bool s.bump, .bool s.scan, .bool s.reset]] [i] ow (.int .i64 (flI (nextFl l s F0 a))) [(i, .blk 51 0 3 [mcells l (flI (nextFl l s F0 a)) (nextAge s a)])] := by
  refine run_of_ev tt_ok Try.func13 rfl (by decide +kernel) (Nat.le_of_ble_eq_true rfl) (by simp) (fun F hF => ⟨by simp only [go_sem, Nat.reduceAdd, Nat.reduceSub, Nat.reduceMul, Nat.reduceEqDiff, Nat.reduceLeDiff, Nat.reduceBEq, Nat.reduceLT, reduceIte, reduceCtorEq, Int.toNat_zero, Int.toNat_one, Int.reduceToNat, Nat.zero_add, Nat.add_zero, Nat.sub_zero, Nat.zero_mul, mcells], ?_⟩)
  have hi := agree_one hF h
  have hlt := get_lt hi
  simp only [mcells] at hi
  have hw : IntKind.i64.wrap (a + 1) = a + 1 := w64 (by omega) (by omega)
  have z : (0 : Int) = flI Fl.none := rfl
  have fin : ∀ (reset : Bool) (f : Int) (age : Int), f = flI (if reset then Fl.none else F0) → setF (decide (l < age)) (setF s.bump (setF s.lost (setF s.stop f 1) 2) 4) 8 =
      flI ⟨(if reset then Fl.none else F0).stop || s.stop, (if reset then Fl.none else F0).lost || s.lost, (if reset then Fl.none else F0).bump || s.bump, (if reset then Fl.none else F0).late || decide (l < age)⟩ := by
    intro reset f age hf
    rw [hf, set1, set2, set4, set8]
  simp only [Try.f13]
  repeat' first
    | refine ev_seq (fun K hK => ?_)
    | (refine evrd (id := 11) hmix tt_ok false [([], false), ([], false), ([], false), ([], false), ([], false), ([], false), ([], false), ([], false), ([], false), ([], false), ([], false)] (by decide +kernel) ?_; simp only [go_sem, Nat.reduceAdd, Nat.reduceSub, Nat.reduceMul, Nat.reduceEqDiff, Nat.reduceLeDiff, Nat.reduceBEq, Nat.reduceLT, reduceIte, reduceCtorEq, Int.toNat_zero, Int.toNat_one, Int.reduceToNat, Nat.zero_add, Nat.add_zero, Nat.sub_zero, Nat.zero_mul, mcells, hi, hlt, hw, ap_get0, ap_getk, ap_set0, ap_setk, ap_get _ _ hlt, ap_set _ _ hlt, aps_get0, aps_getk, aps_set0, aps_setk, aps_get hlt, aps_set hlt, List.append_assoc, List.length_append, List.length_set])
    | (refine evr tt_ok false ?_; simp only [go_sem, Nat.reduceAdd, Nat.reduceSub, Nat.reduceMul, Nat.reduceEqDiff, Nat.reduceLeDiff, Nat.reduceBEq, Nat.reduceLT, reduceIte, reduceCtorEq, Int.toNat_zero, Int.toNat_one, Int.reduceToNat, Nat.zero_add, Nat.add_zero, Nat.sub_zero, Nat.zero_mul, mcells, hi, hlt, hw, ap_get0, ap_getk, ap_set0, ap_setk, ap_get _ _ hlt, ap_set _ _ hlt, aps_get0, aps_getk, aps_set0, aps_setk, aps_get hlt, aps_set hlt, List.append_assoc, List.length_append, List.length_set])
    | (refine evc (fun X Y hX hY => ?_); simp only [go_sem, Nat.reduceAdd, Nat.reduceSub, Nat.reduceMul, Nat.reduceEqDiff, Nat.reduceLeDiff, Nat.reduceBEq, Nat.reduceLT, reduceIte, reduceCtorEq, Int.toNat_zero, Int.toNat_one, Int.reduceToNat, Nat.zero_add, Nat.add_zero, Nat.sub_zero, Nat.zero_mul, mcells, hi, hlt, hw, ap_get0, ap_getk, ap_set0, ap_setk, ap_get _ _ hlt, ap_set _ _ hlt, aps_get0, aps_getk, aps_set0, aps_setk, aps_get hlt, aps_set hlt, List.append_assoc, List.length_append, List.length_set]; first | (refine ⟨fun h => hX ?_, fun h => hY ?_⟩; clear hX hY) | (refine hX ?_; clear hX hY) | (refine hY ?_; clear hX hY))
    | (refine ev_skip ?_; simp only [go_sem, Nat.reduceAdd, Nat.reduceSub, Nat.reduceMul, Nat.reduceEqDiff, Nat.reduceLeDiff, Nat.reduceBEq, Nat.reduceLT, reduceIte, reduceCtorEq, Int.toNat_zero, Int.toNat_one, Int.reduceToNat, Nat.zero_add, Nat.add_zero, Nat.sub_zero, Nat.zero_mul, mcells, hi, hlt, hw, ap_get0, ap_getk, ap_set0, ap_setk, ap_get _ _ hlt, ap_set _ _ hlt, aps_get0, aps_getk, aps_set0, aps_setk, aps_get hlt, aps_set hlt, List.append_assoc, List.length_append, List.length_set])
    | (refine ev_ret ?_; simp only [go_sem, Nat.reduceAdd, Nat.reduceSub, Nat.reduceMul, Nat.reduceEqDiff, Nat.reduceLeDiff, Nat.reduceBEq, Nat.reduceLT, reduceIte, reduceCtorEq, Int.toNat_zero, Int.toNat_one, Int.reduceToNat, Nat.zero_add, Nat.add_zero, Nat.sub_zero, Nat.zero_mul, mcells, hi, hlt, hw, ap_get0, ap_getk, ap_set0, ap_setk, ap_get _ _ hlt, ap_set _ _ hlt, aps_get0, aps_getk, aps_set0, aps_setk, aps_get hlt, aps_set hlt, List.append_assoc, List.length_append, List.length_set])
    | refine ev_block ?_
    | (refine ev_exit ?_; simp only [go_sem, Nat.reduceAdd, Nat.reduceSub, Nat.reduceMul, Nat.reduceEqDiff, Nat.reduceLeDiff, Nat.reduceBEq, Nat.reduceLT, reduceIte, reduceCtorEq, Int.toNat_zero, Int.toNat_one, Int.reduceToNat, Nat.zero_add, Nat.add_zero, Nat.sub_zero, Nat.zero_mul, mcells, hi, hlt, hw, ap_get0, ap_getk, ap_set0, ap_setk, ap_get _ _ hlt, ap_set _ _ hlt, aps_get0, aps_getk, aps_set0, aps_setk, aps_get hlt, aps_set hlt, List.append_assoc, List.length_append, List.length_set])
    | (apply hK; clear hK)
    | apply_assumption -exfalso -symm only [*]
    | (refine And.intro ?_ ?_; first | omega | assumption | (simp only [decide_eq_true_eq, decide_eq_false_iff_not, Int.not_lt, Int.not_le] at h; omega))
    | (apply callE; (case' hp => (refine' set_run ?_ _ _; all_goals first | (fail_if_success refine prop_id ?_; skip) | omega | assumption | (refine' Eq.trans ?_ ?_; (focus (simp only [go_sem, Nat.reduceAdd, Nat.reduceSub, Nat.reduceMul, Nat.reduceEqDiff, Nat.reduceLeDiff, Nat.reduceBEq, Nat.reduceLT, reduceIte, reduceCtorEq, Int.toNat_zero, Int.toNat_one, Int.reduceToNat, Nat.zero_add, Nat.add_zero, Nat.sub_zero, Nat.zero_mul, mcells, hi, hlt, hw, ap_get0, ap_getk, ap_set0, ap_setk, ap_get _ _ hlt, ap_set _ _ hlt, aps_get0, aps_getk, aps_set0, aps_setk, aps_get hlt, aps_set hlt, List.append_assoc, List.length_append, List.length_set]; exact rfl)); exact rfl) | (simp only [go_sem, Nat.reduceAdd, Nat.reduceSub, Nat.reduceMul, Nat.reduceEqDiff, Nat.reduceLeDiff, Nat.reduceBEq, Nat.reduceLT, reduceIte, reduceCtorEq, Int.toNat_zero, Int.toNat_one, Int.reduceToNat, Nat.zero_add, Nat.add_zero, Nat.sub_zero, Nat.zero_mul, mcells, hi, hlt, hw, ap_get0, ap_getk, ap_set0, ap_setk, ap_get _ _ hlt, ap_set _ _ hlt, aps_get0, aps_getk, aps_set0, aps_setk, aps_get hlt, aps_set hlt, List.append_assoc, List.length_append, List.length_set]; done) | (simp only [go_sem, Nat.reduceAdd, Nat.reduceSub, Nat.reduceMul, Nat.reduceEqDiff, Nat.reduceLeDiff, Nat.reduceBEq, Nat.reduceLT, reduceIte, reduceCtorEq, Int.toNat_zero, Int.toNat_one, Int.reduceToNat, Nat.zero_add, Nat.add_zero, Nat.sub_zero, Nat.zero_mul, mcells, hi, hlt, hw, ap_get0, ap_getk, ap_set0, ap_setk, ap_get _ _ hlt, ap_set _ _ hlt, aps_get0, aps_getk, aps_set0, aps_setk, aps_get hlt, aps_set hlt, List.append_assoc, List.length_append, List.length_set]; exact rfl) | (simp only [go_sem, Nat.reduceAdd, Nat.reduceSub, Nat.reduceMul, Nat.reduceEqDiff, Nat.reduceLeDiff, Nat.reduceBEq, Nat.reduceLT, reduceIte, reduceCtorEq, Int.toNat_zero, Int.toNat_one, Int.reduceToNat, Nat.zero_add, Nat.add_zero, Nat.sub_zero, Nat.zero_mul, mcells, hi, hlt, hw, ap_get0, ap_getk, ap_set0, ap_setk, ap_get _ _ hlt, ap_set _ _ hlt, aps_get0, aps_getk, aps_set0, aps_setk, aps_get hlt, aps_set hlt, List.append_assoc, List.length_append, List.length_set]; omega))); (case' h => (first | (refine evOps_fin ?_; simp only [go_sem, Nat.reduceAdd, Nat.reduceSub, Nat.reduceMul, Nat.reduceEqDiff, Nat.reduceLeDiff, Nat.reduceBEq, Nat.reduceLT, reduceIte, reduceCtorEq, Int.toNat_zero, Int.toNat_one, Int.reduceToNat, Nat.zero_add, Nat.add_zero, Nat.sub_zero, Nat.zero_mul, mcells, hi, hlt, hw, ap_get0, ap_getk, ap_set0, ap_setk, ap_get _ _ hlt, ap_set _ _ hlt, aps_get0, aps_getk, aps_set0, aps_setk, aps_get hlt, aps_set hlt, List.append_assoc, List.length_append, List.length_set]) | (refine And.intro ?_ (evD_fin ?_); (focus (simp only [go_sem, Nat.reduceAdd, Nat.reduceSub, Nat.reduceMul, Nat.reduceEqDiff, Nat.reduceLeDiff, Nat.reduceBEq, Nat.reduceLT, reduceIte, reduceCtorEq, Int.toNat_zero, Int.toNat_one, Int.reduceToNat, Nat.zero_add, Nat.add_zero, Nat.sub_zero, Nat.zero_mul, mcells, hi, hlt, hw, ap_get0, ap_getk, ap_set0, ap_setk, ap_get _ _ hlt, ap_set _ _ hlt, aps_get0, aps_getk, aps_set0, aps_setk, aps_get hlt, aps_set hlt, List.append_assoc, List.length_append, List.length_set]; done)); simp only [go_sem, Nat.reduceAdd, Nat.reduceSub, Nat.reduceMul, Nat.reduceEqDiff, Nat.reduceLeDiff, Nat.reduceBEq, Nat.reduceLT, reduceIte, reduceCtorEq, Int.toNat_zero, Int.toNat_one, Int.reduceToNat, Nat.zero_add, Nat.add_zero, Nat.sub_zero, Nat.zero_mul, mcells, hi, hlt, hw, ap_get0, ap_getk, ap_set0, ap_setk, ap_get _ _ hlt, ap_set _ _ hlt, aps_get0, aps_getk, aps_set0, aps_setk, aps_get hlt, aps_set hlt, List.append_assoc, List.length_append, List.length_set]) | (refine evD_fin ?_; simp only [go_sem, Nat.reduceAdd, Nat.reduceSub, Nat.reduceMul, Nat.reduceEqDiff, Nat.reduceLeDiff, Nat.reduceBEq, Nat.reduceLT, reduceIte, reduceCtorEq, Int.toNat_zero, Int.toNat_one, Int.reduceToNat, Nat.zero_add, Nat.add_zero, Nat.sub_zero, Nat.zero_mul, mcells, hi, hlt, hw, ap_get0, ap_getk, ap_set0, ap_setk, ap_get _ _ hlt, ap_set _ _ hlt, aps_get0, aps_getk, aps_set0, aps_setk, aps_get hlt, aps_set hlt, List.append_assoc, List.length_append, List.length_set]))))
  all_goals
    have hr : s.reset = _ := ‹s.reset = _›
    have fin2 := fun f hf => fin s.reset f (nextAge s a) hf
    have hnf : flI (nextFl l s F0 a) = flI ⟨(if s.reset = true then Fl.none else F0).stop || s.stop, (if s.reset = true then Fl.none else F0).lost || s.lost, (if s.reset = true then Fl.none else F0).bump || s.bump, (if s.reset = true then Fl.none else F0).late || decide (l < nextAge s a)⟩ := rfl
    rw [hnf]
    first
      | (have E := fin2 0 (by simp only [hr, if_true]; rfl)
         simp only [nextAge, h, if_true, if_false, Bool.false_eq_true] at E ⊢
         rw [E]; exact ⟨rfl, [_], rfl⟩)
      | (have E := fin2 (flI F0) (by simp only [hr, if_false, Bool.false_eq_true])
         simp only [nextAge, h, if_true, if_false, Bool.false_eq_true] at E ⊢
         rw [E]; exact ⟨rfl, [_], rfl⟩)
theorem obs_nil (s : Sig) : Pure Try.prog 13 [.nilp, .agg [.bool s.stop, .bool s.lost, .bool s.bump, .bool s.scan, .bool s.reset]] (.int .i64 0) := by
  (refine pure_of_ev tt_ok Try.func13 rfl (by decide +kernel) (Nat.le_of_ble_eq_true rfl) ?_; simp only [Try.f13])
  repeat' first
    | refine ev_seq (fun K hK => ?_)
    | (refine evrd (id := 11) hmix tt_ok false [([], false), ([], false), ([], false), ([], false), ([], false), ([], false), ([], false), ([], false), ([], false), ([], false), ([], false)] (by decide +kernel) ?_; simp only [go_sem, Nat.reduceAdd, Nat.reduceSub, Nat.reduceMul, Nat.reduceEqDiff, Nat.reduceLeDiff, Nat.reduceBEq, Nat.reduceLT, reduceIte, reduceCtorEq, Int.toNat_zero, Int.toNat_one, Int.reduceToNat, Nat.zero_add, Nat.add_zero, Nat.sub_zero, Nat.zero_mul])
    | (refine evr tt_ok false ?_; simp only [go_sem, Nat.reduceAdd, Nat.reduceSub, Nat.reduceMul, Nat.reduceEqDiff, Nat.reduceLeDiff, Nat.reduceBEq, Nat.reduceLT, reduceIte, reduceCtorEq, Int.toNat_zero, Int.toNat_one, Int.reduceToNat, Nat.zero_add, Nat.add_zero, Nat.sub_zero, Nat.zero_mul])
    | (refine evc (fun X Y hX hY => ?_); simp only [go_sem, Nat.reduceAdd, Nat.reduceSub, Nat.reduceMul, Nat.reduceEqDiff, Nat.reduceLeDiff, Nat.reduceBEq, Nat.reduceLT, reduceIte, reduceCtorEq, Int.toNat_zero, Int.toNat_one, Int.reduceToNat, Nat.zero_add, Nat.add_zero, Nat.sub_zero, Nat.zero_mul]; first | (refine ⟨fun h => hX ?_, fun h => hY ?_⟩; clear hX hY) | (refine hX ?_; clear hX hY) | (refine hY ?_; clear hX hY))
    | (refine ev_skip ?_; simp only [go_sem, Nat.reduceAdd, Nat.reduceSub, Nat.reduceMul, Nat.reduceEqDiff, Nat.reduceLeDiff, Nat.reduceBEq, Nat.reduceLT, reduceIte, reduceCtorEq, Int.toNat_zero, Int.toNat_one, Int.reduceToNat, Nat.zero_add, Nat.add_zero, Nat.sub_zero, Nat.zero_mul])
    | (refine ev_ret ?_; simp only [go_sem, Nat.reduceAdd, Nat.reduceSub, Nat.reduceMul, Nat.reduceEqDiff, Nat.reduceLeDiff, Nat.reduceBEq, Nat.reduceLT, reduceIte, reduceCtorEq, Int.toNat_zero, Int.toNat_one, Int.reduceToNat, Nat.zero_add, Nat.add_zero, Nat.sub_zero, Nat.zero_mul])
    | refine ev_block ?_
    | (refine ev_exit ?_; simp only [go_sem, Nat.reduceAdd, Nat.reduceSub, Nat.reduceMul, Nat.reduceEqDiff, Nat.reduceLeDiff, Nat.reduceBEq, Nat.reduceLT, reduceIte, reduceCtorEq, Int.toNat_zero, Int.toNat_one, Int.reduceToNat, Nat.zero_add, Nat.add_zero, Nat.sub_zero, Nat.zero_mul])
    | (apply hK; clear hK)
    | apply_assumption -exfalso -symm only [*]
    | (refine And.intro ?_ ?_; first | omega | assumption | (simp only [decide_eq_true_eq, decide_eq_false_iff_not, Int.not_lt, Int.not_le] at h; omega))
theorem gate_run {ow : List Own} {i : Nat} {l f a : Int} (h : ow[i]? = some (.blk 51 0 3 [mcells l f a])) (c : Cmd) (safe : Bool) :
    Run Try.prog 14 [.own i 0 0 0, .agg [.int .i64 c.t, .int .i64 c.f], .bool safe] [i] ow (.agg [.int .i64 (gateR f c safe).t, .int .i64 (gateR f c safe).f]) [] := by
  refine run_of_ev tt_ok Try.func14 rfl (by decide +kernel) (Nat.le_of_ble_eq_true rfl) (by simp) (fun F hF => ⟨by simp only [go_sem, Nat.reduceAdd, Nat.reduceSub, Nat.reduceMul, Nat.reduceEqDiff, Nat.reduceLeDiff, Nat.reduceBEq, Nat.reduceLT, reduceIte, reduceCtorEq, Int.toNat_zero, Int.toNat_one, Int.reduceToNat, Nat.zero_add, Nat.add_zero, Nat.sub_zero, Nat.zero_mul, mcells], ?_⟩)
  have hi := agree_one hF h
  have hlt := get_lt hi
  simp only [mcells] at hi
  simp only [Try.f14]
  repeat' first
    | refine ev_seq (fun K hK => ?_)
    | (refine evr tt_ok false ?_; simp only [go_sem, Nat.reduceAdd, Nat.reduceSub, Nat.reduceMul, Nat.reduceEqDiff, Nat.reduceLeDiff, Nat.reduceBEq, Nat.reduceLT, reduceIte, reduceCtorEq, Int.toNat_zero, Int.toNat_one, Int.reduceToNat, Nat.zero_add, Nat.add_zero, Nat.sub_zero, Nat.zero_mul, mcells, hi, hlt, ap_get0, ap_getk, ap_set0, ap_setk, ap_get _ _ hlt, ap_set _ _ hlt, aps_get0, aps_getk, aps_set0, aps_setk, aps_get hlt, aps_set hlt, List.append_assoc, List.length_append, List.length_set])
    | (refine evc (fun X Y hX hY => ?_); simp only [go_sem, Nat.reduceAdd, Nat.reduceSub, Nat.reduceMul, Nat.reduceEqDiff, Nat.reduceLeDiff, Nat.reduceBEq, Nat.reduceLT, reduceIte, reduceCtorEq, Int.toNat_zero, Int.toNat_one, Int.reduceToNat, Nat.zero_add, Nat.add_zero, Nat.sub_zero, Nat.zero_mul, mcells, hi, hlt, ap_get0, ap_getk, ap_set0, ap_setk, ap_get _ _ hlt, ap_set _ _ hlt, aps_get0, aps_getk, aps_set0, aps_setk, aps_get hlt, aps_set hlt, List.append_assoc, List.length_append, List.length_set]; first | (refine ⟨fun h => hX ?_, fun h => hY ?_⟩; clear hX hY) | (refine hX ?_; clear hX hY) | (refine hY ?_; clear hX hY))
    | (refine ev_skip ?_; simp only [go_sem, Nat.reduceAdd, Nat.reduceSub, Nat.reduceMul, Nat.reduceEqDiff, Nat.reduceLeDiff, Nat.reduceBEq, Nat.reduceLT, reduceIte, reduceCtorEq, Int.toNat_zero, Int.toNat_one, Int.reduceToNat, Nat.zero_add, Nat.add_zero, Nat.sub_zero, Nat.zero_mul, mcells, hi, hlt, ap_get0, ap_getk, ap_set0, ap_setk, ap_get _ _ hlt, ap_set _ _ hlt, aps_get0, aps_getk, aps_set0, aps_setk, aps_get hlt, aps_set hlt, List.append_assoc, List.length_append, List.length_set])
    | (refine ev_ret ?_; simp only [go_sem, Nat.reduceAdd, Nat.reduceSub, Nat.reduceMul, Nat.reduceEqDiff, Nat.reduceLeDiff, Nat.reduceBEq, Nat.reduceLT, reduceIte, reduceCtorEq, Int.toNat_zero, Int.toNat_one, Int.reduceToNat, Nat.zero_add, Nat.add_zero, Nat.sub_zero, Nat.zero_mul, mcells, hi, hlt, ap_get0, ap_getk, ap_set0, ap_setk, ap_get _ _ hlt, ap_set _ _ hlt, aps_get0, aps_getk, aps_set0, aps_setk, aps_get hlt, aps_set hlt, List.append_assoc, List.length_append, List.length_set])
    | refine ev_block ?_
    | (refine ev_exit ?_; simp only [go_sem, Nat.reduceAdd, Nat.reduceSub, Nat.reduceMul, Nat.reduceEqDiff, Nat.reduceLeDiff, Nat.reduceBEq, Nat.reduceLT, reduceIte, reduceCtorEq, Int.toNat_zero, Int.toNat_one, Int.reduceToNat, Nat.zero_add, Nat.add_zero, Nat.sub_zero, Nat.zero_mul, mcells, hi, hlt, ap_get0, ap_getk, ap_set0, ap_setk, ap_get _ _ hlt, ap_set _ _ hlt, aps_get0, aps_getk, aps_set0, aps_setk, aps_get hlt, aps_set hlt, List.append_assoc, List.length_append, List.length_set])
    | (apply hK; clear hK)
    | apply_assumption -exfalso -symm only [*]
    | (refine And.intro ?_ ?_; first | omega | assumption | (simp only [decide_eq_true_eq, decide_eq_false_iff_not, Int.not_lt, Int.not_le] at h; omega))
  · have hc : gateR f c safe = ⟨0, 0⟩ := by
      unfold gateR vCmd
      rw [if_pos]
      simp only [Bool.or_eq_true, bne_iff_ne, Bool.not_eq_true'] at h
      rcases h with (h | h) | h
      · exact .inl h
      · exact .inr (.inl h)
      · refine .inr (.inr ?_); rw [← h, Bool.and_assoc, Bool.and_assoc, Bool.and_assoc]
    rw [hc]; exact ⟨rfl, [_, _], rfl⟩
  · have hc : gateR f c safe = c := by
      unfold gateR vCmd
      rw [if_neg]
      simp only [Bool.or_eq_false_iff, bne_eq_false_iff_eq, Bool.not_eq_false'] at h
      obtain ⟨⟨h1, h2⟩, h3⟩ := h
      simp [h1, h2] at h3 ⊢
      simp [h3]
    rw [hc]; exact ⟨rfl, [_, _], rfl⟩
theorem flI_pos {F : Fl} : 0 ≤ flI F ∧ (flI F = 0 ↔ F.stop = false ∧ F.lost = false ∧ F.bump = false ∧ F.late = false) := by
  obtain ⟨a, b, c, d⟩ := F
  cases a <;> cases b <;> cases c <;> cases d <;> decide +kernel
theorem gate_shut {ow : List Own} {i : Nat} {l f a : Int} (h : ow[i]? = some (.blk 51 0 3 [mcells l f a])) (c : Cmd) (safe : Bool) (hf : f ≠ 0 ∨ safe = false ∨ vCmd c = false) :
    Run Try.prog 14 [.own i 0 0 0, .agg [.int .i64 c.t, .int .i64 c.f], .bool safe] [i] ow (.agg [.int .i64 0, .int .i64 0]) [] := by
  have := gate_run h c safe
  rw [show gateR f c safe = ⟨0, 0⟩ from if_pos hf] at this
  exact this
theorem gate_open {ow : List Own} {i : Nat} {l f a : Int} (h : ow[i]? = some (.blk 51 0 3 [mcells l f a])) (c : Cmd) (safe : Bool) (hf : f = 0 ∧ safe = true ∧ vCmd c = true) :
    Run Try.prog 14 [.own i 0 0 0, .agg [.int .i64 c.t, .int .i64 c.f], .bool safe] [i] ow (.agg [.int .i64 c.t, .int .i64 c.f]) [] := by
  have := gate_run h c safe
  rw [show gateR f c safe = c from if_neg (by simp [hf.1, hf.2.1, hf.2.2])] at this
  exact this
theorem gate_nil (c : Cmd) (safe : Bool) : Pure Try.prog 14 [.nilp, .agg [.int .i64 c.t, .int .i64 c.f], .bool safe] (.agg [.int .i64 0, .int .i64 0]) := by
  (refine pure_of_ev tt_ok Try.func14 rfl (by decide +kernel) (Nat.le_of_ble_eq_true rfl) ?_; simp only [Try.f14])
  repeat' first
    | refine ev_seq (fun K hK => ?_)
    | (refine evr tt_ok false ?_; simp only [go_sem, Nat.reduceAdd, Nat.reduceSub, Nat.reduceMul, Nat.reduceEqDiff, Nat.reduceLeDiff, Nat.reduceBEq, Nat.reduceLT, reduceIte, reduceCtorEq, Int.toNat_zero, Int.toNat_one, Int.reduceToNat, Nat.zero_add, Nat.add_zero, Nat.sub_zero, Nat.zero_mul])
    | (refine evc (fun X Y hX hY => ?_); simp only [go_sem, Nat.reduceAdd, Nat.reduceSub, Nat.reduceMul, Nat.reduceEqDiff, Nat.reduceLeDiff, Nat.reduceBEq, Nat.reduceLT, reduceIte, reduceCtorEq, Int.toNat_zero, Int.toNat_one, Int.reduceToNat, Nat.zero_add, Nat.add_zero, Nat.sub_zero, Nat.zero_mul]; first | (refine ⟨fun h => hX ?_, fun h => hY ?_⟩; clear hX hY) | (refine hX ?_; clear hX hY) | (refine hY ?_; clear hX hY))
    | (refine ev_skip ?_; simp only [go_sem, Nat.reduceAdd, Nat.reduceSub, Nat.reduceMul, Nat.reduceEqDiff, Nat.reduceLeDiff, Nat.reduceBEq, Nat.reduceLT, reduceIte, reduceCtorEq, Int.toNat_zero, Int.toNat_one, Int.reduceToNat, Nat.zero_add, Nat.add_zero, Nat.sub_zero, Nat.zero_mul])
    | (refine ev_ret ?_; simp only [go_sem, Nat.reduceAdd, Nat.reduceSub, Nat.reduceMul, Nat.reduceEqDiff, Nat.reduceLeDiff, Nat.reduceBEq, Nat.reduceLT, reduceIte, reduceCtorEq, Int.toNat_zero, Int.toNat_one, Int.reduceToNat, Nat.zero_add, Nat.add_zero, Nat.sub_zero, Nat.zero_mul])
    | refine ev_block ?_
    | (refine ev_exit ?_; simp only [go_sem, Nat.reduceAdd, Nat.reduceSub, Nat.reduceMul, Nat.reduceEqDiff, Nat.reduceLeDiff, Nat.reduceBEq, Nat.reduceLT, reduceIte, reduceCtorEq, Int.toNat_zero, Int.toNat_one, Int.reduceToNat, Nat.zero_add, Nat.add_zero, Nat.sub_zero, Nat.zero_mul])
    | (apply hK; clear hK)
    | apply_assumption -exfalso -symm only [*]
    | (refine And.intro ?_ ?_; first | omega | assumption | (simp only [decide_eq_true_eq, decide_eq_false_iff_not, Int.not_lt, Int.not_le] at h; omega))
theorem new_bad {x : Int} (h : x < 1 ∨ 1000 < x) : Pure Try.prog 11 [.int .i64 x] (.tup [.nilp, .int .i64 2]) := by
  have hb : (decide (x < 1) || decide (1000 < x)) = true := by simpa using h
  (refine pure_of_ev tt_ok Try.func11 rfl (by decide +kernel) (Nat.le_of_ble_eq_true rfl) ?_; simp only [Try.f11])
  repeat' first
    | refine ev_seq (fun K hK => ?_)
    | (refine evr tt_ok false ?_; simp only [go_sem, Nat.reduceAdd, Nat.reduceSub, Nat.reduceMul, Nat.reduceEqDiff, Nat.reduceLeDiff, Nat.reduceBEq, Nat.reduceLT, reduceIte, reduceCtorEq, Int.toNat_zero, Int.toNat_one, Int.reduceToNat, Nat.zero_add, Nat.add_zero, Nat.sub_zero, Nat.zero_mul, hb])
    | (refine evc (fun X Y hX hY => ?_); simp only [go_sem, Nat.reduceAdd, Nat.reduceSub, Nat.reduceMul, Nat.reduceEqDiff, Nat.reduceLeDiff, Nat.reduceBEq, Nat.reduceLT, reduceIte, reduceCtorEq, Int.toNat_zero, Int.toNat_one, Int.reduceToNat, Nat.zero_add, Nat.add_zero, Nat.sub_zero, Nat.zero_mul, hb]; first | (refine ⟨fun h => hX ?_, fun h => hY ?_⟩; clear hX hY) | (refine hX ?_; clear hX hY) | (refine hY ?_; clear hX hY))
    | (refine ev_skip ?_; simp only [go_sem, Nat.reduceAdd, Nat.reduceSub, Nat.reduceMul, Nat.reduceEqDiff, Nat.reduceLeDiff, Nat.reduceBEq, Nat.reduceLT, reduceIte, reduceCtorEq, Int.toNat_zero, Int.toNat_one, Int.reduceToNat, Nat.zero_add, Nat.add_zero, Nat.sub_zero, Nat.zero_mul, hb])
    | (refine ev_ret ?_; simp only [go_sem, Nat.reduceAdd, Nat.reduceSub, Nat.reduceMul, Nat.reduceEqDiff, Nat.reduceLeDiff, Nat.reduceBEq, Nat.reduceLT, reduceIte, reduceCtorEq, Int.toNat_zero, Int.toNat_one, Int.reduceToNat, Nat.zero_add, Nat.add_zero, Nat.sub_zero, Nat.zero_mul, hb])
    | refine ev_block ?_
    | (refine ev_exit ?_; simp only [go_sem, Nat.reduceAdd, Nat.reduceSub, Nat.reduceMul, Nat.reduceEqDiff, Nat.reduceLeDiff, Nat.reduceBEq, Nat.reduceLT, reduceIte, reduceCtorEq, Int.toNat_zero, Int.toNat_one, Int.reduceToNat, Nat.zero_add, Nat.add_zero, Nat.sub_zero, Nat.zero_mul, hb])
    | (apply hK; clear hK)
    | apply_assumption -exfalso -symm only [*]
    | (refine And.intro ?_ ?_; first | omega | assumption | (simp only [decide_eq_true_eq, decide_eq_false_iff_not, Int.not_lt, Int.not_le] at h; omega))
theorem new_run {ow : List Own} {id : Nat} (ho : ow[id]? = some .free) {x : Int} (h1 : 1 ≤ x) (h2 : x ≤ 1000) : Run Try.prog 11 [.int .i64 x] [id] ow (.tup [.own id 0 0 0, .int .i64 0]) [(id, .blk 51 0 3 [mcells x 0 0])] := by
  have hb : (decide (x < 1) || decide (1000 < x)) = false := by simp; omega
  refine run_of_ev tt_ok Try.func11 rfl (by decide +kernel) (Nat.le_of_ble_eq_true rfl) (by simp) (fun F hF => ⟨by simp only [go_sem, Nat.reduceAdd, Nat.reduceSub, Nat.reduceMul, Nat.reduceEqDiff, Nat.reduceLeDiff, Nat.reduceBEq, Nat.reduceLT, reduceIte, reduceCtorEq, Int.toNat_zero, Int.toNat_one, Int.reduceToNat, Nat.zero_add, Nat.add_zero, Nat.sub_zero, Nat.zero_mul, mcells], ?_⟩)
  have hi := agree_one hF ho
  have hlt := get_lt hi
  simp only [Try.f11]
  repeat' first
    | refine ev_seq (fun K hK => ?_)
    | (refine evr tt_ok false ?_; simp only [go_sem, Nat.reduceAdd, Nat.reduceSub, Nat.reduceMul, Nat.reduceEqDiff, Nat.reduceLeDiff, Nat.reduceBEq, Nat.reduceLT, reduceIte, reduceCtorEq, Int.toNat_zero, Int.toNat_one, Int.reduceToNat, Nat.zero_add, Nat.add_zero, Nat.sub_zero, Nat.zero_mul, hb, mcells, hi, hlt, ap_get0, ap_getk, ap_set0, ap_setk, ap_get _ _ hlt, ap_set _ _ hlt, aps_get0, aps_getk, aps_set0, aps_setk, aps_get hlt, aps_set hlt, List.append_assoc, List.length_append, List.length_set])
    | (refine evc (fun X Y hX hY => ?_); simp only [go_sem, Nat.reduceAdd, Nat.reduceSub, Nat.reduceMul, Nat.reduceEqDiff, Nat.reduceLeDiff, Nat.reduceBEq, Nat.reduceLT, reduceIte, reduceCtorEq, Int.toNat_zero, Int.toNat_one, Int.reduceToNat, Nat.zero_add, Nat.add_zero, Nat.sub_zero, Nat.zero_mul, hb, mcells, hi, hlt, ap_get0, ap_getk, ap_set0, ap_setk, ap_get _ _ hlt, ap_set _ _ hlt, aps_get0, aps_getk, aps_set0, aps_setk, aps_get hlt, aps_set hlt, List.append_assoc, List.length_append, List.length_set]; first | (refine ⟨fun h => hX ?_, fun h => hY ?_⟩; clear hX hY) | (refine hX ?_; clear hX hY) | (refine hY ?_; clear hX hY))
    | (refine ev_skip ?_; simp only [go_sem, Nat.reduceAdd, Nat.reduceSub, Nat.reduceMul, Nat.reduceEqDiff, Nat.reduceLeDiff, Nat.reduceBEq, Nat.reduceLT, reduceIte, reduceCtorEq, Int.toNat_zero, Int.toNat_one, Int.reduceToNat, Nat.zero_add, Nat.add_zero, Nat.sub_zero, Nat.zero_mul, hb, mcells, hi, hlt, ap_get0, ap_getk, ap_set0, ap_setk, ap_get _ _ hlt, ap_set _ _ hlt, aps_get0, aps_getk, aps_set0, aps_setk, aps_get hlt, aps_set hlt, List.append_assoc, List.length_append, List.length_set])
    | refine ev_block ?_
    | (refine ev_exit ?_; simp only [go_sem, Nat.reduceAdd, Nat.reduceSub, Nat.reduceMul, Nat.reduceEqDiff, Nat.reduceLeDiff, Nat.reduceBEq, Nat.reduceLT, reduceIte, reduceCtorEq, Int.toNat_zero, Int.toNat_one, Int.reduceToNat, Nat.zero_add, Nat.add_zero, Nat.sub_zero, Nat.zero_mul, hb, mcells, hi, hlt, ap_get0, ap_getk, ap_set0, ap_setk, ap_get _ _ hlt, ap_set _ _ hlt, aps_get0, aps_getk, aps_set0, aps_setk, aps_get hlt, aps_set hlt, List.append_assoc, List.length_append, List.length_set])
    | (apply hK; clear hK)
    | apply_assumption -exfalso -symm only [*]
    | (refine And.intro ?_ ?_; first | omega | assumption | (simp only [decide_eq_true_eq, decide_eq_false_iff_not, Int.not_lt, Int.not_le] at h; omega))
  refine ev_bring id F.length 2 (by simp only [go_sem, Nat.reduceAdd, Nat.reduceSub, Nat.reduceMul, Nat.reduceEqDiff, Nat.reduceLeDiff, Nat.reduceBEq, Nat.reduceLT, reduceIte, reduceCtorEq, Int.toNat_zero, Int.toNat_one, Int.reduceToNat, Nat.zero_add, Nat.add_zero, Nat.sub_zero, Nat.zero_mul, hi, ap_get0, ap_getk, ap_set0, ap_setk, ap_get _ _ hlt, ap_set _ _ hlt, aps_get0, aps_getk, aps_set0, aps_setk, aps_get hlt, aps_set hlt, List.append_assoc, List.length_append, List.length_set]) (by simp only [go_sem, Nat.reduceAdd, Nat.reduceSub, Nat.reduceMul, Nat.reduceEqDiff, Nat.reduceLeDiff, Nat.reduceBEq, Nat.reduceLT, reduceIte, reduceCtorEq, Int.toNat_zero, Int.toNat_one, Int.reduceToNat, Nat.zero_add, Nat.add_zero, Nat.sub_zero, Nat.zero_mul, ap_get0, ap_getk, ap_set0, ap_setk, ap_get _ _ hlt, ap_set _ _ hlt, aps_get0, aps_getk, aps_set0, aps_setk, aps_get hlt, aps_set hlt, List.append_assoc, List.length_append, List.length_set]; exact rfl) rfl (by simp only [go_sem, Nat.reduceAdd, Nat.reduceSub, Nat.reduceMul, Nat.reduceEqDiff, Nat.reduceLeDiff, Nat.reduceBEq, Nat.reduceLT, reduceIte, reduceCtorEq, Int.toNat_zero, Int.toNat_one, Int.reduceToNat, Nat.zero_add, Nat.add_zero, Nat.sub_zero, Nat.zero_mul]; exact rfl) ?_
  refine ev_ret ?_
  simp only [go_sem, Nat.reduceAdd, Nat.reduceSub, Nat.reduceMul, Nat.reduceEqDiff, Nat.reduceLeDiff, Nat.reduceBEq, Nat.reduceLT, reduceIte, reduceCtorEq, Int.toNat_zero, Int.toNat_one, Int.reduceToNat, Nat.zero_add, Nat.add_zero, Nat.sub_zero, Nat.zero_mul, ap_get0, ap_getk, ap_set0, ap_setk, ap_get _ _ hlt, ap_set _ _ hlt, aps_get0, aps_getk, aps_set0, aps_setk, aps_get hlt, aps_set hlt, List.append_assoc, List.length_append, List.length_set, mcells, hlt]
  exact ⟨_, rfl⟩
theorem clone_run {ow : List Own} {i j : Nat} {l f a : Int} (h : ow[i]? = some (.blk 51 0 3 [mcells l f a])) (ho : ow[j]? = some .free) :
    Run Try.prog 22 [.own i 0 0 0] [i, j] ow (.own j 0 0 0) [(j, .blk 51 0 3 [mcells l f a])] := by
  refine run_of_ev tt_ok Try.func22 rfl (by decide +kernel) (Nat.le_of_ble_eq_true rfl) (by simp) (fun F hF => ⟨by simp only [go_sem, Nat.reduceAdd, Nat.reduceSub, Nat.reduceMul, Nat.reduceEqDiff, Nat.reduceLeDiff, Nat.reduceBEq, Nat.reduceLT, reduceIte, reduceCtorEq, Int.toNat_zero, Int.toNat_one, Int.reduceToNat, Nat.zero_add, Nat.add_zero, Nat.sub_zero, Nat.zero_mul, mcells], ?_⟩)
  have hi := (hF i (by simp)).symm.trans h
  have hj := (hF j (by simp)).symm.trans ho
  have hlt := get_lt hi
  simp only [mcells] at hi
  simp only [Try.f22]
  repeat' first
    | refine ev_seq (fun K hK => ?_)
    | (refine evr tt_ok false ?_; simp only [go_sem, Nat.reduceAdd, Nat.reduceSub, Nat.reduceMul, Nat.reduceEqDiff, Nat.reduceLeDiff, Nat.reduceBEq, Nat.reduceLT, reduceIte, reduceCtorEq, Int.toNat_zero, Int.toNat_one, Int.reduceToNat, Nat.zero_add, Nat.add_zero, Nat.sub_zero, Nat.zero_mul, mcells, hi, hj, hlt, ap_get0, ap_getk, ap_set0, ap_setk, ap_get _ _ hlt, ap_set _ _ hlt, aps_get0, aps_getk, aps_set0, aps_setk, aps_get hlt, aps_set hlt, List.append_assoc, List.length_append, List.length_set])
    | (refine evc (fun X Y hX hY => ?_); simp only [go_sem, Nat.reduceAdd, Nat.reduceSub, Nat.reduceMul, Nat.reduceEqDiff, Nat.reduceLeDiff, Nat.reduceBEq, Nat.reduceLT, reduceIte, reduceCtorEq, Int.toNat_zero, Int.toNat_one, Int.reduceToNat, Nat.zero_add, Nat.add_zero, Nat.sub_zero, Nat.zero_mul, mcells, hi, hj, hlt, ap_get0, ap_getk, ap_set0, ap_setk, ap_get _ _ hlt, ap_set _ _ hlt, aps_get0, aps_getk, aps_set0, aps_setk, aps_get hlt, aps_set hlt, List.append_assoc, List.length_append, List.length_set]; first | (refine ⟨fun h => hX ?_, fun h => hY ?_⟩; clear hX hY) | (refine hX ?_; clear hX hY) | (refine hY ?_; clear hX hY))
    | (refine ev_skip ?_; simp only [go_sem, Nat.reduceAdd, Nat.reduceSub, Nat.reduceMul, Nat.reduceEqDiff, Nat.reduceLeDiff, Nat.reduceBEq, Nat.reduceLT, reduceIte, reduceCtorEq, Int.toNat_zero, Int.toNat_one, Int.reduceToNat, Nat.zero_add, Nat.add_zero, Nat.sub_zero, Nat.zero_mul, mcells, hi, hj, hlt, ap_get0, ap_getk, ap_set0, ap_setk, ap_get _ _ hlt, ap_set _ _ hlt, aps_get0, aps_getk, aps_set0, aps_setk, aps_get hlt, aps_set hlt, List.append_assoc, List.length_append, List.length_set])
    | refine ev_block ?_
    | (refine ev_exit ?_; simp only [go_sem, Nat.reduceAdd, Nat.reduceSub, Nat.reduceMul, Nat.reduceEqDiff, Nat.reduceLeDiff, Nat.reduceBEq, Nat.reduceLT, reduceIte, reduceCtorEq, Int.toNat_zero, Int.toNat_one, Int.reduceToNat, Nat.zero_add, Nat.add_zero, Nat.sub_zero, Nat.zero_mul, mcells, hi, hj, hlt, ap_get0, ap_getk, ap_set0, ap_setk, ap_get _ _ hlt, ap_set _ _ hlt, aps_get0, aps_getk, aps_set0, aps_setk, aps_get hlt, aps_set hlt, List.append_assoc, List.length_append, List.length_set])
    | (apply hK; clear hK)
    | apply_assumption -exfalso -symm only [*]
    | (refine And.intro ?_ ?_; first | omega | assumption | (simp only [decide_eq_true_eq, decide_eq_false_iff_not, Int.not_lt, Int.not_le] at h; omega))
  refine ev_bring j F.length 2 (by simp only [go_sem, Nat.reduceAdd, Nat.reduceSub, Nat.reduceMul, Nat.reduceEqDiff, Nat.reduceLeDiff, Nat.reduceBEq, Nat.reduceLT, reduceIte, reduceCtorEq, Int.toNat_zero, Int.toNat_one, Int.reduceToNat, Nat.zero_add, Nat.add_zero, Nat.sub_zero, Nat.zero_mul, hj, ap_get _ _ (get_lt hj)]) (by simp only [go_sem, Nat.reduceAdd, Nat.reduceSub, Nat.reduceMul, Nat.reduceEqDiff, Nat.reduceLeDiff, Nat.reduceBEq, Nat.reduceLT, reduceIte, reduceCtorEq, Int.toNat_zero, Int.toNat_one, Int.reduceToNat, Nat.zero_add, Nat.add_zero, Nat.sub_zero, Nat.zero_mul, ap_get0, ap_getk, ap_set0, ap_setk, ap_get _ _ hlt, ap_set _ _ hlt, aps_get0, aps_getk, aps_set0, aps_setk, aps_get hlt, aps_set hlt, List.append_assoc, List.length_append, List.length_set]; exact rfl) rfl (by simp only [go_sem, Nat.reduceAdd, Nat.reduceSub, Nat.reduceMul, Nat.reduceEqDiff, Nat.reduceLeDiff, Nat.reduceBEq, Nat.reduceLT, reduceIte, reduceCtorEq, Int.toNat_zero, Int.toNat_one, Int.reduceToNat, Nat.zero_add, Nat.add_zero, Nat.sub_zero, Nat.zero_mul]; exact rfl) ?_
  refine ev_ret ?_
  simp only [go_sem, Nat.reduceAdd, Nat.reduceSub, Nat.reduceMul, Nat.reduceEqDiff, Nat.reduceLeDiff, Nat.reduceBEq, Nat.reduceLT, reduceIte, reduceCtorEq, Int.toNat_zero, Int.toNat_one, Int.reduceToNat, Nat.zero_add, Nat.add_zero, Nat.sub_zero, Nat.zero_mul, ap_get0, ap_getk, ap_set0, ap_setk, ap_get _ _ hlt, ap_set _ _ hlt, aps_get0, aps_getk, aps_set0, aps_setk, aps_get hlt, aps_set hlt, List.append_assoc, List.length_append, List.length_set, mcells, hlt, get_lt hj]
  exact ⟨[Own.gone], by simp [get_lt hj, List.set_append]⟩
end Go.Proofs.Ytnkiejbkfafciaa
