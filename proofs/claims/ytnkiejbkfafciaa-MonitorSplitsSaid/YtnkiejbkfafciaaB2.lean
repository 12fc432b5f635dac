import Derived.Test.YtnkiejbkfafciaaB1
set_option linter.all false
namespace Go.Proofs.Ytnkiejbkfafciaa
open Go Go.K
set_option maxRecDepth 20000
set_option maxHeartbeats 4000000
theorem mon_emp {E : Ext} {n c : Int} {v : Value} (h : (V.tup [.agg [.int .i64 n, .emp], .int .i64 c]).Is E [] v) : (V.tup [.agg [.int .i64 n, .sl []], .int .i64 c]).Is E [] v := by
  refine tup_fst h fun u hu => ?_
  rw [V.Is] at hu ⊢
  obtain ⟨vs, rfl, h⟩ := hu
  refine ⟨vs, rfl, ?_⟩
  rw [IsOnes] at h ⊢
  obtain ⟨a, r, rfl, h1, h2, h⟩ := h
  refine ⟨a, r, rfl, h1, h2, ?_⟩
  rw [IsOnes] at h ⊢
  obtain ⟨b, r, rfl, _, h3, h⟩ := h
  exact ⟨b, r, rfl, rfl, emp_sl h3, h⟩
theorem rnew_bad (x : Int) (h : x < 1 ∨ 1000 < x) : Pure Try.prog 18 [.int .i64 x] (.tup [.agg [.int .i64 0, .sl []], .int .i64 2]) := by
  refine Pure.weak (r := .tup [.agg [.int .i64 0, .emp], .int .i64 2]) ?_ (fun E v hv => mon_emp hv)
  have hb : (decide (x < 1) || decide (1000 < x)) = true := by simpa using h
  (refine pure_of_ev tt_ok Try.func18 rfl (by decide +kernel) (Nat.le_of_ble_eq_true rfl) ?_; simp only [Try.f18])
  repeat' first
    | refine ev_seq (fun K hK => ?_)
    | (refine evr tt_ok true ?_; simp only [go_sem, Nat.reduceAdd, Nat.reduceSub, Nat.reduceMul, Nat.reduceEqDiff, Nat.reduceLeDiff, Nat.reduceBEq, Nat.reduceLT, reduceIte, reduceCtorEq, Int.toNat_zero, Int.toNat_one, Int.reduceToNat, Nat.zero_add, Nat.add_zero, Nat.sub_zero, Nat.zero_mul, hb])
    | (refine evc (fun X Y hX hY => ?_); simp only [go_sem, Nat.reduceAdd, Nat.reduceSub, Nat.reduceMul, Nat.reduceEqDiff, Nat.reduceLeDiff, Nat.reduceBEq, Nat.reduceLT, reduceIte, reduceCtorEq, Int.toNat_zero, Int.toNat_one, Int.reduceToNat, Nat.zero_add, Nat.add_zero, Nat.sub_zero, Nat.zero_mul, hb]; first | (refine ⟨fun h => hX ?_, fun h => hY ?_⟩; clear hX hY) | (refine hX ?_; clear hX hY) | (refine hY ?_; clear hX hY))
    | (refine ev_skip ?_; simp only [go_sem, Nat.reduceAdd, Nat.reduceSub, Nat.reduceMul, Nat.reduceEqDiff, Nat.reduceLeDiff, Nat.reduceBEq, Nat.reduceLT, reduceIte, reduceCtorEq, Int.toNat_zero, Int.toNat_one, Int.reduceToNat, Nat.zero_add, Nat.add_zero, Nat.sub_zero, Nat.zero_mul, hb])
    | (refine ev_ret ?_; simp only [go_sem, Nat.reduceAdd, Nat.reduceSub, Nat.reduceMul, Nat.reduceEqDiff, Nat.reduceLeDiff, Nat.reduceBEq, Nat.reduceLT, reduceIte, reduceCtorEq, Int.toNat_zero, Int.toNat_one, Int.reduceToNat, Nat.zero_add, Nat.add_zero, Nat.sub_zero, Nat.zero_mul, hb])
    | refine ev_block ?_
    | (refine ev_exit ?_; simp only [go_sem, Nat.reduceAdd, Nat.reduceSub, Nat.reduceMul, Nat.reduceEqDiff, Nat.reduceLeDiff, Nat.reduceBEq, Nat.reduceLT, reduceIte, reduceCtorEq, Int.toNat_zero, Int.toNat_one, Int.reduceToNat, Nat.zero_add, Nat.add_zero, Nat.sub_zero, Nat.zero_mul, hb])
    | (apply hK; clear hK)
    | apply_assumption -exfalso -symm only [*]
    | (refine And.intro ?_ ?_; first | omega | assumption | (simp only [decide_eq_true_eq, decide_eq_false_iff_not, Int.not_lt, Int.not_le] at h; omega))
theorem rnew_pure (x : Int) (h0 : 1 ≤ x) (h1 : x ≤ 1000) : Pure Try.prog 18 [.int .i64 x] (.tup [.agg [.int .i64 x, .sl []], .int .i64 0]) := by
  refine Pure.weak (r := .tup [.agg [.int .i64 x, .emp], .int .i64 0]) ?_ (fun E v hv => mon_emp hv)
  have hb : (decide (x < 1) || decide (1000 < x)) = false := by simp; omega
  (refine pure_of_ev tt_ok Try.func18 rfl (by decide +kernel) (Nat.le_of_ble_eq_true rfl) ?_; simp only [Try.f18])
  repeat' first
    | refine ev_seq (fun K hK => ?_)
    | (refine evr tt_ok true ?_; simp only [go_sem, Nat.reduceAdd, Nat.reduceSub, Nat.reduceMul, Nat.reduceEqDiff, Nat.reduceLeDiff, Nat.reduceBEq, Nat.reduceLT, reduceIte, reduceCtorEq, Int.toNat_zero, Int.toNat_one, Int.reduceToNat, Nat.zero_add, Nat.add_zero, Nat.sub_zero, Nat.zero_mul, hb])
    | (refine evc (fun X Y hX hY => ?_); simp only [go_sem, Nat.reduceAdd, Nat.reduceSub, Nat.reduceMul, Nat.reduceEqDiff, Nat.reduceLeDiff, Nat.reduceBEq, Nat.reduceLT, reduceIte, reduceCtorEq, Int.toNat_zero, Int.toNat_one, Int.reduceToNat, Nat.zero_add, Nat.add_zero, Nat.sub_zero, Nat.zero_mul, hb]; first | (refine ⟨fun h => hX ?_, fun h => hY ?_⟩; clear hX hY) | (refine hX ?_; clear hX hY) | (refine hY ?_; clear hX hY))
    | (refine ev_skip ?_; simp only [go_sem, Nat.reduceAdd, Nat.reduceSub, Nat.reduceMul, Nat.reduceEqDiff, Nat.reduceLeDiff, Nat.reduceBEq, Nat.reduceLT, reduceIte, reduceCtorEq, Int.toNat_zero, Int.toNat_one, Int.reduceToNat, Nat.zero_add, Nat.add_zero, Nat.sub_zero, Nat.zero_mul, hb])
    | (refine ev_ret ?_; simp only [go_sem, Nat.reduceAdd, Nat.reduceSub, Nat.reduceMul, Nat.reduceEqDiff, Nat.reduceLeDiff, Nat.reduceBEq, Nat.reduceLT, reduceIte, reduceCtorEq, Int.toNat_zero, Int.toNat_one, Int.reduceToNat, Nat.zero_add, Nat.add_zero, Nat.sub_zero, Nat.zero_mul, hb])
    | refine ev_block ?_
    | (refine ev_exit ?_; simp only [go_sem, Nat.reduceAdd, Nat.reduceSub, Nat.reduceMul, Nat.reduceEqDiff, Nat.reduceLeDiff, Nat.reduceBEq, Nat.reduceLT, reduceIte, reduceCtorEq, Int.toNat_zero, Int.toNat_one, Int.reduceToNat, Nat.zero_add, Nat.add_zero, Nat.sub_zero, Nat.zero_mul, hb])
    | (apply hK; clear hK)
    | apply_assumption -exfalso -symm only [*]
    | (refine And.intro ?_ ?_; first | omega | assumption | (simp only [decide_eq_true_eq, decide_eq_false_iff_not, Int.not_lt, Int.not_le] at h; omega))
def encMon (n : Int) (L : List Sig) : List V := [.int .i64 n, .sl (L.map encSig)]
theorem lit_sig (l : List Sig) : litRows (l.map encSig) = true := litRows_map (fun _ => rfl) l
theorem robs_pure (n : Int) (L : List Sig) (s : Sig) (h60 : (L.length : Int) ≤ 60) : Pure Try.prog 19 [.agg [.int .i64 n, .sl (L.map encSig)], .agg [.bool s.stop, .bool s.lost, .bool s.bump, .bool s.scan, .bool s.reset]] (.agg [.int .i64 n, .sl ((L ++ [s]).map encSig)]) := by
  have hgl : ((List.map encSig L).getD 0 [.bool false, .bool false, .bool false, .bool false, .bool false]).length = 5 :=
    congrArg List.length (getD_map (f := encSig) (l := L) (k := 0) (d := ⟨false, false, false, false, false⟩) rfl)
  have hmx : maxLen = 9223372036854775807 := rfl
  have e1 : List.map encSig L ++ [[.bool s.stop, .bool s.lost, .bool s.bump, .bool s.scan, .bool s.reset]] = (L ++ [s]).map encSig := by
    rw [List.map_append]; rfl
  have htk : List.take (L.length + 1) ((L ++ [s]).map encSig) = (L ++ [s]).map encSig := List.take_of_length_le (by simp)
  have hvl := fun g => vrows_lit g (lit_sig (L ++ [s]))
  (refine pure_of_ev tt_ok Try.func19 rfl (by decide +kernel) (Nat.le_of_ble_eq_true rfl) ?_; simp only [Try.f19])
  repeat' first
    | refine ev_seq (fun K hK => ?_)
    | (refine evrd (id := 1) hmix tt_ok true [([], true), ([], true), ([0, 1], true), ([2], true), ([2], true), ([0, 1], true), ([2, 5], false), ([0, 1, 2, 3, 4, 5], false), ([0, 1], false), ([], false), ([], false)] (by decide +kernel) ?_; simp only [go_sem, Nat.reduceAdd, Nat.reduceSub, Nat.reduceMul, Nat.reduceEqDiff, Nat.reduceLeDiff, Nat.reduceBEq, Nat.reduceLT, reduceIte, reduceCtorEq, Int.toNat_zero, Int.toNat_one, Int.reduceToNat, Nat.zero_add, Nat.add_zero, Nat.sub_zero, Nat.zero_mul, List.length_map, hgl, hmx, e1, htk, List.length_append, List.length_cons, List.length_nil, hvl, List.drop_zero, Nat.le_refl])
    | (refine evr tt_ok true ?_; simp only [go_sem, Nat.reduceAdd, Nat.reduceSub, Nat.reduceMul, Nat.reduceEqDiff, Nat.reduceLeDiff, Nat.reduceBEq, Nat.reduceLT, reduceIte, reduceCtorEq, Int.toNat_zero, Int.toNat_one, Int.reduceToNat, Nat.zero_add, Nat.add_zero, Nat.sub_zero, Nat.zero_mul, List.length_map, hgl, hmx, e1, htk, List.length_append, List.length_cons, List.length_nil, hvl, List.drop_zero, Nat.le_refl])
    | (refine evc (fun X Y hX hY => ?_); simp only [go_sem, Nat.reduceAdd, Nat.reduceSub, Nat.reduceMul, Nat.reduceEqDiff, Nat.reduceLeDiff, Nat.reduceBEq, Nat.reduceLT, reduceIte, reduceCtorEq, Int.toNat_zero, Int.toNat_one, Int.reduceToNat, Nat.zero_add, Nat.add_zero, Nat.sub_zero, Nat.zero_mul, List.length_map, hgl, hmx, e1, htk, List.length_append, List.length_cons, List.length_nil, hvl, List.drop_zero, Nat.le_refl]; first | (refine ⟨fun h => hX ?_, fun h => hY ?_⟩; clear hX hY) | (refine hX ?_; clear hX hY) | (refine hY ?_; clear hX hY))
    | (refine ev_skip ?_; simp only [go_sem, Nat.reduceAdd, Nat.reduceSub, Nat.reduceMul, Nat.reduceEqDiff, Nat.reduceLeDiff, Nat.reduceBEq, Nat.reduceLT, reduceIte, reduceCtorEq, Int.toNat_zero, Int.toNat_one, Int.reduceToNat, Nat.zero_add, Nat.add_zero, Nat.sub_zero, Nat.zero_mul, List.length_map, hgl, hmx, e1, htk, List.length_append, List.length_cons, List.length_nil, hvl, List.drop_zero, Nat.le_refl])
    | (refine ev_ret ?_; simp only [go_sem, Nat.reduceAdd, Nat.reduceSub, Nat.reduceMul, Nat.reduceEqDiff, Nat.reduceLeDiff, Nat.reduceBEq, Nat.reduceLT, reduceIte, reduceCtorEq, Int.toNat_zero, Int.toNat_one, Int.reduceToNat, Nat.zero_add, Nat.add_zero, Nat.sub_zero, Nat.zero_mul, List.length_map, hgl, hmx, e1, htk, List.length_append, List.length_cons, List.length_nil, hvl, List.drop_zero, Nat.le_refl])
    | refine ev_block ?_
    | (refine ev_exit ?_; simp only [go_sem, Nat.reduceAdd, Nat.reduceSub, Nat.reduceMul, Nat.reduceEqDiff, Nat.reduceLeDiff, Nat.reduceBEq, Nat.reduceLT, reduceIte, reduceCtorEq, Int.toNat_zero, Int.toNat_one, Int.reduceToNat, Nat.zero_add, Nat.add_zero, Nat.sub_zero, Nat.zero_mul, List.length_map, hgl, hmx, e1, htk, List.length_append, List.length_cons, List.length_nil, hvl, List.drop_zero, Nat.le_refl])
    | (apply hK; clear hK)
    | apply_assumption -exfalso -symm only [*]
    | (refine And.intro ?_ ?_; first | omega | assumption | (simp only [decide_eq_true_eq, decide_eq_false_iff_not, Int.not_lt, Int.not_le] at h; omega))
end Go.Proofs.Ytnkiejbkfafciaa
