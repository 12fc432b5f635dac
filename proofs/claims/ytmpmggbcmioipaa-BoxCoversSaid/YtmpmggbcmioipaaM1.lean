import Derived.Test.YtmpmggbcmioipaaH9
import Derived.Test.YtmpmggbcmioipaaK15
set_option linter.all false
namespace Go.Proofs.Ytmpmggbcmioipaa
open Nat (reduceAdd reduceSub reduceMul reduceEqDiff reduceLeDiff reduceLT)
open Go Go.K
set_option maxRecDepth 20000
set_option maxHeartbeats 4000000
def listM (a : Arc) : List Int := (List.range a.c.toNat).map fun j : Nat => (a.f + j) % 256
def listR (a : Arc) (i n : Nat) : List (List V) := (List.range n).map fun j : Nat => if j < i then [.int .i64 ((a.f + j) % 256)] else [.int .i64 0]
theorem listR_len (a : Arc) (i n : Nat) : (listR a i n).length = n := by simp [listR]
theorem listR_zero (a : Arc) (n : Nat) : List.replicate n [V.int .i64 0] = listR a 0 n := by
  refine List.ext_getElem (by simp [listR]) fun i h1 h2 => by simp [listR]
theorem listR_get (a : Arc) {i n : Nat} (h : i < n) : (listR a i n).getD i [.int .i64 0] = [.int .i64 0] := by
  simp [listR, List.getD_eq_getElem?_getD, h]
theorem listR_set (a : Arc) {i n : Nat} (h : i < n) : (listR a i n).set i [.int .i64 ((a.f + i) % 256)] = listR a (i + 1) n := by
  refine List.ext_getElem (by simp [listR]) fun k h1 h2 => ?_
  simp only [List.length_set, listR_len] at h1
  rw [List.getElem_set]
  split
  · rename_i h3; subst h3; simp [listR]
  · simp only [listR, List.getElem_map, List.getElem_range]
    by_cases h4 : k < i
    · rw [if_pos h4, if_pos (by omega)]
    · rw [if_neg h4, if_neg (by omega)]
theorem listR_all (a : Arc) : listR a a.c.toNat a.c.toNat = (listM a).map enI := by
  unfold listR listM
  rw [List.map_map]
  refine List.map_congr_left fun j hj => ?_
  rw [if_pos (List.mem_range.1 hj)]; rfl
theorem lit_listR (a : Arc) (i n : Nat) : litRows (listR a i n) = true := litRows_map (fun j => by split <;> rfl) _
theorem lit_enI (l : List Int) : litRows (l.map enI) = true := litRows_map (fun _ => rfl) l
theorem lit_arc (l : List Arc) : litRows (l.map encArc) = true := litRows_map (fun _ => rfl) l
theorem lit_box (l : List Box) : litRows (l.map encBox) = true := litRows_map (fun _ => rfl) l
theorem list_pure (a : Arc) (ha : a.ok) : Pure Try.prog 61 [.agg [.int .i64 a.f, .int .i64 a.c]] (.sl ((listM a).map enI)) := by
  obtain ⟨n, hn⟩ : ∃ n : Nat, a.c = n := ⟨a.c.toNat, by have := ha.2.2.1; omega⟩
  obtain ⟨f, c⟩ := a
  simp only at hn
  subst hn
  have hn2 : n ≤ 256 := by have h9 : (n : Int) ≤ 256 := ha.2.2.2.1; omega
  have h8 : 8 * n ≤ 281474976710656 := by omega
  have h0 : (0 : Int) ≤ (n : Int) := by omega
  have hm : n ≤ maxLen := by unfold maxLen; omega
  have hm2 : (n : Int) ≤ ((maxLen : Nat) : Int) := by unfold maxLen; omega
  have hall := listR_all ⟨f, n⟩
  simp only [Int.toNat_natCast] at hall
  (refine pure_of_ev tt_ok Try.func61 rfl (by decide +kernel) (Nat.le_of_ble_eq_true rfl) ?_; simp only [Try.f61])
  repeat' first
    | refine ev_seq (fun K hK => ?_)
    | ((first | refine evr tt_ok false ?_ | refine ev_skip ?_ | refine ev_ret ?_ | refine ev_exit ?_ | refine evc (fun X Y hX hY => ?_)); simp only [go_sem, reduceAdd, reduceSub, reduceMul, reduceEqDiff, reduceLeDiff, Nat.reduceBEq, reduceLT, reduceIte, reduceCtorEq, Int.reduceToNat, ha, Int.toNat_natCast, h8, h0, hm, hm2]; try (first | (refine ⟨fun h => hX ?_, fun h => hY ?_⟩; clear hX hY) | (refine hX ?_; clear hX hY) | (refine hY ?_; clear hX hY)))
    | refine ev_block ?_
    | (apply hK; clear hK)
    | apply_assumption -exfalso -symm only [*]
    | (refine And.intro ?_ ?_; first | omega | assumption | (unfold maxLen; omega) | (simp only [decide_eq_true_eq, decide_eq_false_iff_not, Int.not_lt, Int.not_le] at h; omega))
    | ((first | apply callP | apply callPG | apply callP0); (case' hv => (simp only [go_sem, reduceAdd, reduceSub, reduceMul, reduceEqDiff, reduceLeDiff, Nat.reduceBEq, reduceLT, reduceIte, reduceCtorEq, Int.reduceToNat, ha, Int.toNat_natCast, h8, h0, hm, hm2]; try exact rfl)); (case' hp => (first | refine' varc_pure ⟨f, n⟩ | (refine' (fun hg => ?_); refine' varc_pure ⟨f, n⟩))); (case' h => ((first | refine evOps_fin ?_ | refine And.intro ?_ (evD_fin ?_) | refine evD_fin ?_) <;> simp only [go_sem, reduceAdd, reduceSub, reduceMul, reduceEqDiff, reduceLeDiff, Nat.reduceBEq, reduceLT, reduceIte, reduceCtorEq, Int.reduceToNat, ha, Int.toNat_natCast, h8, h0, hm, hm2])))
    | (refine callX ?_; (first | refine evOps_fin ?_ | refine And.intro ?_ (evD_fin ?_) | refine evD_fin ?_) <;> simp only [go_sem, reduceAdd, reduceSub, reduceMul, reduceEqDiff, reduceLeDiff, Nat.reduceBEq, reduceLT, reduceIte, reduceCtorEq, Int.reduceToNat, ha, Int.toNat_natCast, h8, h0, hm, hm2])
  rw [listR_zero ⟨f, n⟩ n]
  refine ev_loop (fun i : Nat => i ≤ n)
    (fun i => ⟨26, [(13, .int .i64 i), (12, .int .i64 n), (3, .rs 1 0 0 n), (1, .own 0 0 0 0)], [.blk 74 0 2 [[.int .i64 f, .int .i64 n]], .blk 3 0 1 (listR ⟨f, n⟩ i n)]⟩)
    (fun i => n - i) 0 (Nat.zero_le _) ?_ ?_
  · simp only [go_sem, reduceAdd, reduceSub, reduceMul, reduceEqDiff, reduceLeDiff, Nat.reduceBEq, reduceLT, reduceIte, reduceCtorEq, Int.reduceToNat, fits, fitT, fitOs, fitO, V.under, unders, rowsUnder]
    repeat' first | rfl | exact rowsUnder_lit _ (lit_listR _ _ _) | apply And.intro
  · intro i hi
    have hb0 : 0 ≤ (i : Int) := by omega
    have hw : IntKind.i64.wrap ((i : Int) + 1) = ((i + 1 : Nat) : Int) := by rw [w64] <;> omega
    by_cases hlt : (i : Int) < n
    · have hlt2 : i < n := by omega
      have hwa : IntKind.i64.wrap (f + i) = f + i := by
        obtain ⟨a1, a2, a3, a4, a5⟩ := ha
        simp only at a1 a2
        rw [w64] <;> omega
      repeat' first
        | refine ev_seq (fun K hK => ?_)
        | ((first | refine evr tt_ok false ?_ | refine ev_skip ?_ | refine ev_ret ?_ | refine ev_exit ?_ | refine evc (fun X Y hX hY => ?_)); simp only [go_sem, reduceAdd, reduceSub, reduceMul, reduceEqDiff, reduceLeDiff, Nat.reduceBEq, reduceLT, reduceIte, reduceCtorEq, Int.reduceToNat, hb0, hlt, hlt2, hw, hwa, Int.toNat_natCast, Nat.sub_zero, Nat.zero_add, listR_len, listR_get ⟨f, n⟩ hlt2, listR_set ⟨f, n⟩ hlt2, Nat.le_refl]; try (first | (refine ⟨fun h => hX ?_, fun h => hY ?_⟩; clear hX hY) | (refine hX ?_; clear hX hY) | (refine hY ?_; clear hX hY)))
        | refine ev_block ?_
        | (apply hK; clear hK)
        | apply_assumption -exfalso -symm only [*]
        | (refine And.intro ?_ ?_; first | omega | assumption | (unfold maxLen; omega) | (simp only [decide_eq_true_eq, decide_eq_false_iff_not, Int.not_lt, Int.not_le] at h; omega))
        | ((first | apply callP | apply callPG | apply callP0); (case' hv => (simp only [go_sem, reduceAdd, reduceSub, reduceMul, reduceEqDiff, reduceLeDiff, Nat.reduceBEq, reduceLT, reduceIte, reduceCtorEq, Int.reduceToNat, hb0, hlt, hlt2, hw, hwa, Int.toNat_natCast, Nat.sub_zero, Nat.zero_add, listR_len, listR_get ⟨f, n⟩ hlt2, listR_set ⟨f, n⟩ hlt2, Nat.le_refl]; try exact rfl)); (case' hp => (first | refine' mark_pure _ | (refine' (fun hg => ?_); refine' mark_pure _))); (case' h => ((first | refine evOps_fin ?_ | refine And.intro ?_ (evD_fin ?_) | refine evD_fin ?_) <;> simp only [go_sem, reduceAdd, reduceSub, reduceMul, reduceEqDiff, reduceLeDiff, Nat.reduceBEq, reduceLT, reduceIte, reduceCtorEq, Int.reduceToNat, hb0, hlt, hlt2, hw, hwa, Int.toNat_natCast, Nat.sub_zero, Nat.zero_add, listR_len, listR_get ⟨f, n⟩ hlt2, listR_set ⟨f, n⟩ hlt2, Nat.le_refl])))
        | (refine callX ?_; (first | refine evOps_fin ?_ | refine And.intro ?_ (evD_fin ?_) | refine evD_fin ?_) <;> simp only [go_sem, reduceAdd, reduceSub, reduceMul, reduceEqDiff, reduceLeDiff, Nat.reduceBEq, reduceLT, reduceIte, reduceCtorEq, Int.reduceToNat, hb0, hlt, hlt2, hw, hwa, Int.toNat_natCast, Nat.sub_zero, Nat.zero_add, listR_len, listR_get ⟨f, n⟩ hlt2, listR_set ⟨f, n⟩ hlt2, Nat.le_refl])
      exact ⟨i + 1, by omega, ⟨rfl, rfl, rowsUnder_lit _ (lit_listR _ _ _)⟩, by omega⟩
    · obtain rfl : i = n := by omega
      have htk : List.take i (listR ⟨f, i⟩ i i) = listR ⟨f, i⟩ i i := List.take_of_length_le (by simp [listR_len])
      repeat' first
        | refine ev_seq (fun K hK => ?_)
        | ((first | refine evr tt_ok false ?_ | refine ev_skip ?_ | refine ev_ret ?_ | refine ev_exit ?_ | refine evc (fun X Y hX hY => ?_)); simp only [go_sem, reduceAdd, reduceSub, reduceMul, reduceEqDiff, reduceLeDiff, Nat.reduceBEq, reduceLT, reduceIte, reduceCtorEq, Int.reduceToNat, hb0, hlt, listR_len, vrows_lit _ (lit_listR ⟨f, i⟩ i i), Nat.le_refl, htk]; try (first | (refine ⟨fun h => hX ?_, fun h => hY ?_⟩; clear hX hY) | (refine hX ?_; clear hX hY) | (refine hY ?_; clear hX hY)))
        | refine ev_block ?_
        | (apply hK; clear hK)
        | apply_assumption -exfalso -symm only [*]
        | (refine And.intro ?_ ?_; first | omega | assumption | (unfold maxLen; omega) | (simp only [decide_eq_true_eq, decide_eq_false_iff_not, Int.not_lt, Int.not_le] at h; omega))
      rw [hall]
theorem list_bad (a : Arc) (ha : ¬ a.ok) : Pure Try.prog 61 [.agg [.int .i64 a.f, .int .i64 a.c]] (.sl []) := by
  refine Pure.weak (r := .emp) ?_ (fun E v hv => emp_sl hv)
  (refine pure_of_ev tt_ok Try.func61 rfl (by decide +kernel) (Nat.le_of_ble_eq_true rfl) ?_; simp only [Try.f61])
  repeat' first
    | refine ev_seq (fun K hK => ?_)
    | ((first | refine evr tt_ok false ?_ | refine ev_skip ?_ | refine ev_ret ?_ | refine ev_exit ?_ | refine evc (fun X Y hX hY => ?_)); simp only [go_sem, reduceAdd, reduceSub, reduceMul, reduceEqDiff, reduceLeDiff, Nat.reduceBEq, reduceLT, reduceIte, reduceCtorEq, Int.reduceToNat, ha]; try (first | (refine ⟨fun h => hX ?_, fun h => hY ?_⟩; clear hX hY) | (refine hX ?_; clear hX hY) | (refine hY ?_; clear hX hY)))
    | refine ev_block ?_
    | (apply hK; clear hK)
    | apply_assumption -exfalso -symm only [*]
    | (refine And.intro ?_ ?_; first | omega | assumption | (unfold maxLen; omega) | (simp only [decide_eq_true_eq, decide_eq_false_iff_not, Int.not_lt, Int.not_le] at h; omega))
    | ((first | apply callP | apply callPG | apply callP0); (case' hv => (simp only [go_sem, reduceAdd, reduceSub, reduceMul, reduceEqDiff, reduceLeDiff, Nat.reduceBEq, reduceLT, reduceIte, reduceCtorEq, Int.reduceToNat, ha]; try exact rfl)); (case' hp => (first | refine' varc_pure a | (refine' (fun hg => ?_); refine' varc_pure a))); (case' h => ((first | refine evOps_fin ?_ | refine And.intro ?_ (evD_fin ?_) | refine evD_fin ?_) <;> simp only [go_sem, reduceAdd, reduceSub, reduceMul, reduceEqDiff, reduceLeDiff, Nat.reduceBEq, reduceLT, reduceIte, reduceCtorEq, Int.reduceToNat, ha])))
    | (refine callX ?_; (first | refine evOps_fin ?_ | refine And.intro ?_ (evD_fin ?_) | refine evD_fin ?_) <;> simp only [go_sem, reduceAdd, reduceSub, reduceMul, reduceEqDiff, reduceLeDiff, Nat.reduceBEq, reduceLT, reduceIte, reduceCtorEq, Int.reduceToNat, ha])
def marksL : List Int := (List.range 256).map fun j : Nat => (j : Int)
theorem marks_len : marksL.length = 256 := by simp [marksL]
theorem marks_get {i : Nat} (h : i < 256) : (marksL.map enI).getD i [.int .i64 0] = [.int .i64 i] := by
  rw [int_get]; simp [marksL, List.getD_eq_getElem?_getD, h]
theorem marks_pure : Pure Try.prog 85 [] (.sl (marksL.map enI)) := by
  have h := list_pure ⟨0, 256⟩ (by decide)
  have e : listM ⟨0, 256⟩ = marksL := by
    unfold listM marksL
    refine List.map_congr_left fun j hj => ?_
    have : j < 256 := List.mem_range.1 hj
    simp only; omega
  rw [e] at h
  (refine pure_of_ev tt_ok Try.func85 rfl (by decide +kernel) (Nat.le_of_ble_eq_true rfl) ?_; simp only [Try.f85])
  repeat' first
    | refine ev_seq (fun K hK => ?_)
    | ((first | refine evr tt_ok false ?_ | refine ev_skip ?_ | refine ev_ret ?_ | refine ev_exit ?_ | refine evc (fun X Y hX hY => ?_)); simp only [go_sem, reduceAdd, reduceSub, reduceMul, reduceEqDiff, reduceLeDiff, Nat.reduceBEq, reduceLT, reduceIte, reduceCtorEq, Int.reduceToNat]; try (first | (refine ⟨fun h => hX ?_, fun h => hY ?_⟩; clear hX hY) | (refine hX ?_; clear hX hY) | (refine hY ?_; clear hX hY)))
    | refine ev_block ?_
    | (apply hK; clear hK)
    | apply_assumption -exfalso -symm only [*]
    | (refine And.intro ?_ ?_; first | omega | assumption | (unfold maxLen; omega) | (simp only [decide_eq_true_eq, decide_eq_false_iff_not, Int.not_lt, Int.not_le] at h; omega))
    | ((first | apply callP | apply callPG | apply callP0); (case' hv => (simp only [go_sem, reduceAdd, reduceSub, reduceMul, reduceEqDiff, reduceLeDiff, Nat.reduceBEq, reduceLT, reduceIte, reduceCtorEq, Int.reduceToNat]; try exact rfl)); (case' hp => (first | refine' h | (refine' (fun hg => ?_); refine' h))); (case' h => ((first | refine evOps_fin ?_ | refine And.intro ?_ (evD_fin ?_) | refine evD_fin ?_) <;> simp only [go_sem, reduceAdd, reduceSub, reduceMul, reduceEqDiff, reduceLeDiff, Nat.reduceBEq, reduceLT, reduceIte, reduceCtorEq, Int.reduceToNat])))
    | (refine callX ?_; (first | refine evOps_fin ?_ | refine And.intro ?_ (evD_fin ?_) | refine evD_fin ?_) <;> simp only [go_sem, reduceAdd, reduceSub, reduceMul, reduceEqDiff, reduceLeDiff, Nat.reduceBEq, reduceLT, reduceIte, reduceCtorEq, Int.reduceToNat])
theorem meet1_pure {a b : Arc} (ha : a.ok) (hb : b.ok) (h : Int) : Pure Try.prog 84 [.int .i64 h, .pi [.int .i64 a.f, .int .i64 a.c] 0, .pi [.int .i64 b.f, .int .i64 b.c] 0] (.bool (both a b h)) := by
  (refine pure_of_ev tt_ok Try.func84 rfl (by decide +kernel) (Nat.le_of_ble_eq_true rfl) ?_; simp only [Try.f84])
  repeat' first
    | refine ev_seq (fun K hK => ?_)
    | ((first | refine evr tt_ok false ?_ | refine ev_skip ?_ | refine ev_ret ?_ | refine ev_exit ?_ | refine evc (fun X Y hX hY => ?_)); simp only [go_sem, reduceAdd, reduceSub, reduceMul, reduceEqDiff, reduceLeDiff, Nat.reduceBEq, reduceLT, reduceIte, reduceCtorEq, Int.reduceToNat, ha, hb]; try (first | (refine ⟨fun h => hX ?_, fun h => hY ?_⟩; clear hX hY) | (refine hX ?_; clear hX hY) | (refine hY ?_; clear hX hY)))
    | refine ev_block ?_
    | (apply hK; clear hK)
    | apply_assumption -exfalso -symm only [*]
    | (refine And.intro ?_ ?_; first | omega | assumption | (unfold maxLen; omega) | (simp only [decide_eq_true_eq, decide_eq_false_iff_not, Int.not_lt, Int.not_le] at h; omega))
    | ((first | apply callP | apply callPG | apply callP0); (case' hv => (simp only [go_sem, reduceAdd, reduceSub, reduceMul, reduceEqDiff, reduceLeDiff, Nat.reduceBEq, reduceLT, reduceIte, reduceCtorEq, Int.reduceToNat, ha, hb]; try exact rfl)); (case' hp => (first | refine' has_pure a _ | (refine' (fun hg => ?_); refine' has_pure a _) | refine' has_pure b _ | (refine' (fun hg => ?_); refine' has_pure b _))); (case' h => ((first | refine evOps_fin ?_ | refine And.intro ?_ (evD_fin ?_) | refine evD_fin ?_) <;> simp only [go_sem, reduceAdd, reduceSub, reduceMul, reduceEqDiff, reduceLeDiff, Nat.reduceBEq, reduceLT, reduceIte, reduceCtorEq, Int.reduceToNat, ha, hb])))
    | (refine callX ?_; (first | refine evOps_fin ?_ | refine And.intro ?_ (evD_fin ?_) | refine evD_fin ?_) <;> simp only [go_sem, reduceAdd, reduceSub, reduceMul, reduceEqDiff, reduceLeDiff, Nat.reduceBEq, reduceLT, reduceIte, reduceCtorEq, Int.reduceToNat, ha, hb])
  rfl
theorem runsTo_succ (p : Int → Bool) (i : Nat) : runsTo p (i + 1) = runsTo p i ++ if start p i then [⟨(i : Int), (run p i : Int)⟩] else [] := by
  unfold runsTo
  rw [List.range_succ, List.filter_append, List.map_append]
  congr 1
  by_cases h : start p i = true
  · rw [List.filter_cons_of_pos (p := fun h : Nat => start p (h : Int)) h, if_pos h]; rfl
  · rw [List.filter_cons_of_neg (p := fun h : Nat => start p (h : Int)) h, if_neg h]; rfl
theorem runsTo_len (p : Int → Bool) (i : Nat) : (runsTo p i).length ≤ i := by
  unfold runsTo
  rw [List.length_map]
  exact Nat.le_trans (List.length_filter_le _ _) (by simp)
theorem meet_pure (a b : Arc) (ha : a.ok) (hb : b.ok) : Pure Try.prog 59 [.agg [.int .i64 a.f, .int .i64 a.c], .agg [.int .i64 b.f, .int .i64 b.c]] (.sl ((meetM a b).map encArc)) := by
  (refine pure_of_ev tt_ok Try.func59 rfl (by decide +kernel) (Nat.le_of_ble_eq_true rfl) ?_; simp only [Try.f59])
  repeat' first
    | refine ev_seq (fun K hK => ?_)
    | ((first | refine evr tt_ok false ?_ | refine ev_skip ?_ | refine ev_ret ?_ | refine ev_exit ?_ | refine evc (fun X Y hX hY => ?_)); simp only [go_sem, reduceAdd, reduceSub, reduceMul, reduceEqDiff, reduceLeDiff, Nat.reduceBEq, reduceLT, reduceIte, reduceCtorEq, Int.reduceToNat, ha, hb, List.length_map, marks_len, List.size_toArray, eq_self, Op.operands]; try (first | (refine ⟨fun h => hX ?_, fun h => hY ?_⟩; clear hX hY) | (refine hX ?_; clear hX hY) | (refine hY ?_; clear hX hY)))
    | refine ev_block ?_
    | (apply hK; clear hK)
    | apply_assumption -exfalso -symm only [*]
    | (refine And.intro ?_ ?_; first | omega | assumption | (unfold maxLen; omega) | (simp only [decide_eq_true_eq, decide_eq_false_iff_not, Int.not_lt, Int.not_le] at h; omega))
    | ((first | apply callP | apply callPG | apply callP0); (case' hv => (simp only [go_sem, reduceAdd, reduceSub, reduceMul, reduceEqDiff, reduceLeDiff, Nat.reduceBEq, reduceLT, reduceIte, reduceCtorEq, Int.reduceToNat, ha, hb, List.length_map, marks_len, List.size_toArray, eq_self, Op.operands]; try exact rfl)); (case' hp => (first | refine' varc_pure a | (refine' (fun hg => ?_); refine' varc_pure a) | refine' varc_pure b | (refine' (fun hg => ?_); refine' varc_pure b) | refine' marks_pure | (refine' (fun hg => ?_); refine' marks_pure))); (case' h => ((first | refine evOps_fin ?_ | refine And.intro ?_ (evD_fin ?_) | refine evD_fin ?_) <;> simp only [go_sem, reduceAdd, reduceSub, reduceMul, reduceEqDiff, reduceLeDiff, Nat.reduceBEq, reduceLT, reduceIte, reduceCtorEq, Int.reduceToNat, ha, hb, List.length_map, marks_len, List.size_toArray, eq_self, Op.operands])))
    | (refine callX ?_; (first | refine evOps_fin ?_ | refine And.intro ?_ (evD_fin ?_) | refine evD_fin ?_) <;> simp only [go_sem, reduceAdd, reduceSub, reduceMul, reduceEqDiff, reduceLeDiff, Nat.reduceBEq, reduceLT, reduceIte, reduceCtorEq, Int.reduceToNat, ha, hb, List.length_map, marks_len, List.size_toArray, eq_self, Op.operands])
  refine ev_adopt 5 74 2 (by decide) rfl ?_
  have hp := both_per a b
  have st : ∀ (i v : Nat) (l : List Arc), List.length (l.map encArc) = v → (List.map encArc l).length = v := fun _ _ _ h => h
  refine ev_loop (fun i : Nat => i ≤ 256)
    (fun i => ⟨61, [(21, .int .i64 i), (20, .int .i64 ((256 : Nat) : Int)), (19, .sl (List.map enI marksL)), (6, .fn 84 [.own 0 0 0 0, .own 1 0 0 0]), (5, .rs 2 (runsTo (both a b) i).length 0 (runsTo (both a b) i).length), (4, .emp)],
      [.blk 74 0 2 [[.int .i64 a.f, .int .i64 a.c]], .blk 74 0 2 [[.int .i64 b.f, .int .i64 b.c]], .blk 74 (runsTo (both a b) i).length 2 ((runsTo (both a b) i).map encArc)]⟩)
    (fun i => 256 - i) 0 (Nat.zero_le _) ?_ ?_
  · simp only [go_sem, reduceAdd, reduceSub, reduceMul, reduceEqDiff, reduceLeDiff, Nat.reduceBEq, reduceLT, reduceIte, reduceCtorEq, Int.reduceToNat, fits, fitT, fitOs, fitO, V.under, unders, rowsUnder]
    repeat' first | rfl | exact rowsUnder_lit _ (lit_arc _) | apply And.intro
  · intro i hi
    have hll := runsTo_len (both a b) i
    have hb0 : 0 ≤ (i : Int) := by omega
    have hw : IntKind.i64.wrap ((i : Int) + 1) = ((i + 1 : Nat) : Int) := by rw [w64] <;> omega
    by_cases hlt : (i : Int) < ((256 : Nat) : Int)
    · have hlt2 : i < 256 := by omega
      have hlt3 : (i : Int) < 256 := by omega
      have hwm : IntKind.i64.wrap ((i : Int) - 1) = (i : Int) - 1 := w64 (by omega) (by omega)
      have hsu := runsTo_succ (both a b) i
      by_cases hs : start (both a b) i = true
      · obtain ⟨r1, r2, r3, r4⟩ := run_spec hp hs
        rw [if_pos hs] at hsu
        simp only [start, Bool.and_eq_true, Bool.not_eq_true'] at hs
        repeat' first
          | refine ev_seq (fun K hK => ?_)
          | ((first | refine evr tt_ok false ?_ | refine ev_skip ?_ | refine ev_ret ?_ | refine ev_exit ?_ | refine evc (fun X Y hX hY => ?_)); simp only [go_sem, reduceAdd, reduceSub, reduceMul, reduceEqDiff, reduceLeDiff, Nat.reduceBEq, reduceLT, reduceIte, reduceCtorEq, Int.reduceToNat, hb0, hlt, hlt3, hw, hwm, Int.toNat_natCast, List.length_map, marks_len, marks_get hlt2, hs.1, hs.2, List.size_toArray, eq_self, Nat.zero_add, Nat.le_refl]; try (first | (refine ⟨fun h => hX ?_, fun h => hY ?_⟩; clear hX hY) | (refine hX ?_; clear hX hY) | (refine hY ?_; clear hX hY)))
          | refine ev_block ?_
          | (apply hK; clear hK)
          | apply_assumption -exfalso -symm only [*]
          | (refine And.intro ?_ ?_; first | omega | assumption | (unfold maxLen; omega) | (simp only [decide_eq_true_eq, decide_eq_false_iff_not, Int.not_lt, Int.not_le] at h; omega))
          | ((first | apply callL | apply callLG | apply callL0); (case' hv => (simp only [go_sem, reduceAdd, reduceSub, reduceMul, reduceEqDiff, reduceLeDiff, Nat.reduceBEq, reduceLT, reduceIte, reduceCtorEq, Int.reduceToNat, hb0, hlt, hlt3, hw, hwm, Int.toNat_natCast, List.length_map, marks_len, marks_get hlt2, hs.1, hs.2, List.size_toArray, eq_self, Nat.zero_add, Nat.le_refl]; try exact rfl)); (case' hp => (first | refine' meet1_pure ha hb _ | (refine' (fun hg => ?_); refine' meet1_pure ha hb _))); (case' hf => exact rfl); (case' h => ((first | refine evOps_fin ?_ | refine And.intro ?_ (evD_fin ?_) | refine evD_fin ?_) <;> simp only [go_sem, reduceAdd, reduceSub, reduceMul, reduceEqDiff, reduceLeDiff, Nat.reduceBEq, reduceLT, reduceIte, reduceCtorEq, Int.reduceToNat, hb0, hlt, hlt3, hw, hwm, Int.toNat_natCast, List.length_map, marks_len, marks_get hlt2, hs.1, hs.2, List.size_toArray, eq_self, Nat.zero_add, Nat.le_refl])))
          | (refine callX ?_; (first | refine evOps_fin ?_ | refine And.intro ?_ (evD_fin ?_) | refine evD_fin ?_) <;> simp only [go_sem, reduceAdd, reduceSub, reduceMul, reduceEqDiff, reduceLeDiff, Nat.reduceBEq, reduceLT, reduceIte, reduceCtorEq, Int.reduceToNat, hb0, hlt, hlt3, hw, hwm, Int.toNat_natCast, List.length_map, marks_len, marks_get hlt2, hs.1, hs.2, List.size_toArray, eq_self, Nat.zero_add, Nat.le_refl])
        refine ev_loop (fun n : Nat => 1 ≤ n ∧ n ≤ run (both a b) i)
          (fun n => ⟨61, [(9, .int .i64 n), (8, .int .i64 i), (21, .int .i64 i), (20, .int .i64 ((256 : Nat) : Int)), (19, .sl (List.map enI marksL)), (6, .fn 84 [.own 0 0 0 0, .own 1 0 0 0]), (5, .rs 2 (runsTo (both a b) i).length 0 (runsTo (both a b) i).length), (4, .emp)],
            [.blk 74 0 2 [[.int .i64 a.f, .int .i64 a.c]], .blk 74 0 2 [[.int .i64 b.f, .int .i64 b.c]], .blk 74 (runsTo (both a b) i).length 2 ((runsTo (both a b) i).map encArc)]⟩)
          (fun n => run (both a b) i - n) 1 ⟨Nat.le_refl _, r1⟩ ?_ ?_
        · simp only [go_sem, reduceAdd, reduceSub, reduceMul, reduceEqDiff, reduceLeDiff, Nat.reduceBEq, reduceLT, reduceIte, reduceCtorEq, Int.reduceToNat, fits, fitT, fitOs, fitO, V.under, unders, rowsUnder]
          repeat' first | rfl | exact rowsUnder_lit _ (lit_arc _) | apply And.intro
        · rintro n ⟨hn1, hn2⟩
          have hwn : IntKind.i64.wrap ((n : Int) + 1) = ((n + 1 : Nat) : Int) := by rw [w64] <;> omega
          have hwi : IntKind.i64.wrap ((i : Int) + n) = (i : Int) + n := w64 (by omega) (by omega)
          by_cases hln : n < run (both a b) i
          · have hm := r4 n hln
            repeat' first
              | refine ev_seq (fun K hK => ?_)
              | ((first | refine evr tt_ok false ?_ | refine ev_skip ?_ | refine ev_ret ?_ | refine ev_exit ?_ | refine evc (fun X Y hX hY => ?_)); simp only [go_sem, reduceAdd, reduceSub, reduceMul, reduceEqDiff, reduceLeDiff, Nat.reduceBEq, reduceLT, reduceIte, reduceCtorEq, Int.reduceToNat, hwi, hwn, hm]; try (first | (refine ⟨fun h => hX ?_, fun h => hY ?_⟩; clear hX hY) | (refine hX ?_; clear hX hY) | (refine hY ?_; clear hX hY)))
              | refine ev_block ?_
              | (apply hK; clear hK)
              | apply_assumption -exfalso -symm only [*]
              | (refine And.intro ?_ ?_; first | omega | assumption | (unfold maxLen; omega) | (simp only [decide_eq_true_eq, decide_eq_false_iff_not, Int.not_lt, Int.not_le] at h; omega))
              | ((first | apply callL | apply callLG | apply callL0); (case' hv => (simp only [go_sem, reduceAdd, reduceSub, reduceMul, reduceEqDiff, reduceLeDiff, Nat.reduceBEq, reduceLT, reduceIte, reduceCtorEq, Int.reduceToNat, hwi, hwn, hm]; try exact rfl)); (case' hp => (first | refine' meet1_pure ha hb _ | (refine' (fun hg => ?_); refine' meet1_pure ha hb _))); (case' hf => exact rfl); (case' h => ((first | refine evOps_fin ?_ | refine And.intro ?_ (evD_fin ?_) | refine evD_fin ?_) <;> simp only [go_sem, reduceAdd, reduceSub, reduceMul, reduceEqDiff, reduceLeDiff, Nat.reduceBEq, reduceLT, reduceIte, reduceCtorEq, Int.reduceToNat, hwi, hwn, hm])))
              | (refine callX ?_; (first | refine evOps_fin ?_ | refine And.intro ?_ (evD_fin ?_) | refine evD_fin ?_) <;> simp only [go_sem, reduceAdd, reduceSub, reduceMul, reduceEqDiff, reduceLeDiff, Nat.reduceBEq, reduceLT, reduceIte, reduceCtorEq, Int.reduceToNat, hwi, hwn, hm])
            exact ⟨n + 1, ⟨by omega, by omega⟩, ⟨rfl, rowsUnder_lit _ (lit_arc _)⟩, by omega⟩
          · obtain rfl : n = run (both a b) i := by omega
            have hq : 1 ≤ maxLen ∧ (runsTo (both a b) i).length + 1 ≤ maxLen ∧ ((runsTo (both a b) i).length + 1) * 16 ≤ 140737488355328 := by
              have : maxLen = 9223372036854775807 := rfl
              omega
            have hrl : (runsTo (both a b) (i + 1)).length = (runsTo (both a b) i).length + 1 := by rw [hsu]; simp
            repeat' first
              | refine ev_seq (fun K hK => ?_)
              | ((first | refine evr tt_ok false ?_ | refine ev_skip ?_ | refine ev_ret ?_ | refine ev_exit ?_ | refine evc (fun X Y hX hY => ?_)); simp only [go_sem, reduceAdd, reduceSub, reduceMul, reduceEqDiff, reduceLeDiff, Nat.reduceBEq, reduceLT, reduceIte, reduceCtorEq, Int.reduceToNat, hw, hwi, hwn, r3, List.length_map]; try (first | (refine ⟨fun h => hX ?_, fun h => hY ?_⟩; clear hX hY) | (refine hX ?_; clear hX hY) | (refine hY ?_; clear hX hY)))
              | refine ev_block ?_
              | (apply hK; clear hK)
              | apply_assumption -exfalso -symm only [*]
              | (refine And.intro ?_ ?_; first | omega | assumption | (unfold maxLen; omega) | (simp only [decide_eq_true_eq, decide_eq_false_iff_not, Int.not_lt, Int.not_le] at h; omega))
              | ((first | apply callL | apply callLG | apply callL0); (case' hv => (simp only [go_sem, reduceAdd, reduceSub, reduceMul, reduceEqDiff, reduceLeDiff, Nat.reduceBEq, reduceLT, reduceIte, reduceCtorEq, Int.reduceToNat, hw, hwi, hwn, r3, List.length_map]; try exact rfl)); (case' hp => (first | refine' meet1_pure ha hb _ | (refine' (fun hg => ?_); refine' meet1_pure ha hb _))); (case' hf => exact rfl); (case' h => ((first | refine evOps_fin ?_ | refine And.intro ?_ (evD_fin ?_) | refine evD_fin ?_) <;> simp only [go_sem, reduceAdd, reduceSub, reduceMul, reduceEqDiff, reduceLeDiff, Nat.reduceBEq, reduceLT, reduceIte, reduceCtorEq, Int.reduceToNat, hw, hwi, hwn, r3, List.length_map])))
              | (refine callX ?_; (first | refine evOps_fin ?_ | refine And.intro ?_ (evD_fin ?_) | refine evD_fin ?_) <;> simp only [go_sem, reduceAdd, reduceSub, reduceMul, reduceEqDiff, reduceLeDiff, Nat.reduceBEq, reduceLT, reduceIte, reduceCtorEq, Int.reduceToNat, hw, hwi, hwn, r3, List.length_map])
            exact ⟨i + 1, by omega, ⟨⟨rfl, by rw [hrl]⟩, hrl, by rw [hsu, List.map_append]; rfl, rowsUnder_lit _ (lit_arc _)⟩, by omega⟩
      · have hsu2 : runsTo (both a b) (i + 1) = runsTo (both a b) i := by rw [hsu, if_neg hs, List.append_nil]
        have fin : ∀ (X : Nat), X = i + 1 → (runsTo (both a b) X).length = (runsTo (both a b) i).length ∧ (runsTo (both a b) X).map encArc = (runsTo (both a b) i).map encArc := by
          rintro X rfl; rw [hsu2]; exact ⟨rfl, rfl⟩
        obtain ⟨f1, f2⟩ := fin (i + 1) rfl
        cases h1 : both a b i with
        | false =>
          repeat' first
            | refine ev_seq (fun K hK => ?_)
            | ((first | refine evr tt_ok false ?_ | refine ev_skip ?_ | refine ev_ret ?_ | refine ev_exit ?_ | refine evc (fun X Y hX hY => ?_)); simp only [go_sem, reduceAdd, reduceSub, reduceMul, reduceEqDiff, reduceLeDiff, Nat.reduceBEq, reduceLT, reduceIte, reduceCtorEq, Int.reduceToNat, hb0, hlt, hlt3, hw, hwm, Int.toNat_natCast, List.length_map, marks_len, marks_get hlt2, h1, List.size_toArray, eq_self, Nat.zero_add, Nat.le_refl]; try (first | (refine ⟨fun h => hX ?_, fun h => hY ?_⟩; clear hX hY) | (refine hX ?_; clear hX hY) | (refine hY ?_; clear hX hY)))
            | refine ev_block ?_
            | (apply hK; clear hK)
            | apply_assumption -exfalso -symm only [*]
            | (refine And.intro ?_ ?_; first | omega | assumption | (unfold maxLen; omega) | (simp only [decide_eq_true_eq, decide_eq_false_iff_not, Int.not_lt, Int.not_le] at h; omega))
            | ((first | apply callL | apply callLG | apply callL0); (case' hv => (simp only [go_sem, reduceAdd, reduceSub, reduceMul, reduceEqDiff, reduceLeDiff, Nat.reduceBEq, reduceLT, reduceIte, reduceCtorEq, Int.reduceToNat, hb0, hlt, hlt3, hw, hwm, Int.toNat_natCast, List.length_map, marks_len, marks_get hlt2, h1, List.size_toArray, eq_self, Nat.zero_add, Nat.le_refl]; try exact rfl)); (case' hp => (first | refine' meet1_pure ha hb _ | (refine' (fun hg => ?_); refine' meet1_pure ha hb _))); (case' hf => exact rfl); (case' h => ((first | refine evOps_fin ?_ | refine And.intro ?_ (evD_fin ?_) | refine evD_fin ?_) <;> simp only [go_sem, reduceAdd, reduceSub, reduceMul, reduceEqDiff, reduceLeDiff, Nat.reduceBEq, reduceLT, reduceIte, reduceCtorEq, Int.reduceToNat, hb0, hlt, hlt3, hw, hwm, Int.toNat_natCast, List.length_map, marks_len, marks_get hlt2, h1, List.size_toArray, eq_self, Nat.zero_add, Nat.le_refl])))
            | (refine callX ?_; (first | refine evOps_fin ?_ | refine And.intro ?_ (evD_fin ?_) | refine evD_fin ?_) <;> simp only [go_sem, reduceAdd, reduceSub, reduceMul, reduceEqDiff, reduceLeDiff, Nat.reduceBEq, reduceLT, reduceIte, reduceCtorEq, Int.reduceToNat, hb0, hlt, hlt3, hw, hwm, Int.toNat_natCast, List.length_map, marks_len, marks_get hlt2, h1, List.size_toArray, eq_self, Nat.zero_add, Nat.le_refl])
          exact ⟨i + 1, by omega, ⟨⟨rfl, by rw [f1]⟩, f1, f2, rowsUnder_lit _ (lit_arc _)⟩, by omega⟩
        | true =>
          have h2 : both a b ((i : Int) - 1) = true := by
            cases h2 : both a b ((i : Int) - 1) with
            | true => rfl
            | false => exact absurd (by simp [start, h1, h2]) hs
          repeat' first
            | refine ev_seq (fun K hK => ?_)
            | ((first | refine evr tt_ok false ?_ | refine ev_skip ?_ | refine ev_ret ?_ | refine ev_exit ?_ | refine evc (fun X Y hX hY => ?_)); simp only [go_sem, reduceAdd, reduceSub, reduceMul, reduceEqDiff, reduceLeDiff, Nat.reduceBEq, reduceLT, reduceIte, reduceCtorEq, Int.reduceToNat, hb0, hlt, hlt3, hw, hwm, Int.toNat_natCast, List.length_map, marks_len, marks_get hlt2, h1, h2, List.size_toArray, eq_self, Nat.zero_add, Nat.le_refl]; try (first | (refine ⟨fun h => hX ?_, fun h => hY ?_⟩; clear hX hY) | (refine hX ?_; clear hX hY) | (refine hY ?_; clear hX hY)))
            | refine ev_block ?_
            | (apply hK; clear hK)
            | apply_assumption -exfalso -symm only [*]
            | (refine And.intro ?_ ?_; first | omega | assumption | (unfold maxLen; omega) | (simp only [decide_eq_true_eq, decide_eq_false_iff_not, Int.not_lt, Int.not_le] at h; omega))
            | ((first | apply callL | apply callLG | apply callL0); (case' hv => (simp only [go_sem, reduceAdd, reduceSub, reduceMul, reduceEqDiff, reduceLeDiff, Nat.reduceBEq, reduceLT, reduceIte, reduceCtorEq, Int.reduceToNat, hb0, hlt, hlt3, hw, hwm, Int.toNat_natCast, List.length_map, marks_len, marks_get hlt2, h1, h2, List.size_toArray, eq_self, Nat.zero_add, Nat.le_refl]; try exact rfl)); (case' hp => (first | refine' meet1_pure ha hb _ | (refine' (fun hg => ?_); refine' meet1_pure ha hb _))); (case' hf => exact rfl); (case' h => ((first | refine evOps_fin ?_ | refine And.intro ?_ (evD_fin ?_) | refine evD_fin ?_) <;> simp only [go_sem, reduceAdd, reduceSub, reduceMul, reduceEqDiff, reduceLeDiff, Nat.reduceBEq, reduceLT, reduceIte, reduceCtorEq, Int.reduceToNat, hb0, hlt, hlt3, hw, hwm, Int.toNat_natCast, List.length_map, marks_len, marks_get hlt2, h1, h2, List.size_toArray, eq_self, Nat.zero_add, Nat.le_refl])))
            | (refine callX ?_; (first | refine evOps_fin ?_ | refine And.intro ?_ (evD_fin ?_) | refine evD_fin ?_) <;> simp only [go_sem, reduceAdd, reduceSub, reduceMul, reduceEqDiff, reduceLeDiff, Nat.reduceBEq, reduceLT, reduceIte, reduceCtorEq, Int.reduceToNat, hb0, hlt, hlt3, hw, hwm, Int.toNat_natCast, List.length_map, marks_len, marks_get hlt2, h1, h2, List.size_toArray, eq_self, Nat.zero_add, Nat.le_refl])
          exact ⟨i + 1, by omega, ⟨⟨rfl, by rw [f1]⟩, f1, f2, rowsUnder_lit _ (lit_arc _)⟩, by omega⟩
    · obtain rfl : i = 256 := by omega
      have hlt' : ¬ (((256 : Nat) : Int) < ((256 : Nat) : Int)) := by omega
      by_cases hn : runsTo (both a b) 256 = []
      · cases h0 : both a b 0 with
        | false =>
          have e : meetM a b = [] := by unfold meetM meetP; rw [if_neg (by rw [hn, h0]; simp), hn]
          repeat' first
            | refine ev_seq (fun K hK => ?_)
            | ((first | refine evr tt_ok false ?_ | refine ev_skip ?_ | refine ev_ret ?_ | refine ev_exit ?_ | refine evc (fun X Y hX hY => ?_)); simp only [go_sem, reduceAdd, reduceSub, reduceMul, reduceEqDiff, reduceLeDiff, Nat.reduceBEq, reduceLT, reduceIte, reduceCtorEq, Int.reduceToNat, hlt', h0, hn, Int.reduceBEq, Int.natCast_zero, List.length_nil, List.map_nil]; try (first | (refine ⟨fun h => hX ?_, fun h => hY ?_⟩; clear hX hY) | (refine hX ?_; clear hX hY) | (refine hY ?_; clear hX hY)))
            | refine ev_block ?_
            | (apply hK; clear hK)
            | apply_assumption -exfalso -symm only [*]
            | (refine And.intro ?_ ?_; first | omega | assumption | (unfold maxLen; omega) | (simp only [decide_eq_true_eq, decide_eq_false_iff_not, Int.not_lt, Int.not_le] at h; omega))
            | ((first | apply callL | apply callLG | apply callL0); (case' hv => (simp only [go_sem, reduceAdd, reduceSub, reduceMul, reduceEqDiff, reduceLeDiff, Nat.reduceBEq, reduceLT, reduceIte, reduceCtorEq, Int.reduceToNat, hlt', h0, hn, Int.reduceBEq, Int.natCast_zero, List.length_nil, List.map_nil]; try exact rfl)); (case' hp => (first | refine' meet1_pure ha hb _ | (refine' (fun hg => ?_); refine' meet1_pure ha hb _))); (case' hf => exact rfl); (case' h => ((first | refine evOps_fin ?_ | refine And.intro ?_ (evD_fin ?_) | refine evD_fin ?_) <;> simp only [go_sem, reduceAdd, reduceSub, reduceMul, reduceEqDiff, reduceLeDiff, Nat.reduceBEq, reduceLT, reduceIte, reduceCtorEq, Int.reduceToNat, hlt', h0, hn, Int.reduceBEq, Int.natCast_zero, List.length_nil, List.map_nil])))
            | (refine callX ?_; (first | refine evOps_fin ?_ | refine And.intro ?_ (evD_fin ?_) | refine evD_fin ?_) <;> simp only [go_sem, reduceAdd, reduceSub, reduceMul, reduceEqDiff, reduceLeDiff, Nat.reduceBEq, reduceLT, reduceIte, reduceCtorEq, Int.reduceToNat, hlt', h0, hn, Int.reduceBEq, Int.natCast_zero, List.length_nil, List.map_nil])
          rw [e]; rfl
        | true =>
          have e : meetM a b = [⟨0, 256⟩] := by unfold meetM meetP; rw [if_pos ⟨hn, h0⟩]
          have hq : 1 ≤ maxLen := by unfold maxLen; omega
          repeat' first
            | refine ev_seq (fun K hK => ?_)
            | ((first | refine evr tt_ok false ?_ | refine ev_skip ?_ | refine ev_ret ?_ | refine ev_exit ?_ | refine evc (fun X Y hX hY => ?_)); simp only [go_sem, reduceAdd, reduceSub, reduceMul, reduceEqDiff, reduceLeDiff, Nat.reduceBEq, reduceLT, reduceIte, reduceCtorEq, Int.reduceToNat, hlt', h0, hn, Int.reduceBEq, Int.natCast_zero, List.length_nil, List.map_nil, hq]; try (first | (refine ⟨fun h => hX ?_, fun h => hY ?_⟩; clear hX hY) | (refine hX ?_; clear hX hY) | (refine hY ?_; clear hX hY)))
            | refine ev_block ?_
            | (apply hK; clear hK)
            | apply_assumption -exfalso -symm only [*]
            | (refine And.intro ?_ ?_; first | omega | assumption | (unfold maxLen; omega) | (simp only [decide_eq_true_eq, decide_eq_false_iff_not, Int.not_lt, Int.not_le] at h; omega))
            | ((first | apply callL | apply callLG | apply callL0); (case' hv => (simp only [go_sem, reduceAdd, reduceSub, reduceMul, reduceEqDiff, reduceLeDiff, Nat.reduceBEq, reduceLT, reduceIte, reduceCtorEq, Int.reduceToNat, hlt', h0, hn, Int.reduceBEq, Int.natCast_zero, List.length_nil, List.map_nil, hq]; try exact rfl)); (case' hp => (first | refine' meet1_pure ha hb _ | (refine' (fun hg => ?_); refine' meet1_pure ha hb _))); (case' hf => exact rfl); (case' h => ((first | refine evOps_fin ?_ | refine And.intro ?_ (evD_fin ?_) | refine evD_fin ?_) <;> simp only [go_sem, reduceAdd, reduceSub, reduceMul, reduceEqDiff, reduceLeDiff, Nat.reduceBEq, reduceLT, reduceIte, reduceCtorEq, Int.reduceToNat, hlt', h0, hn, Int.reduceBEq, Int.natCast_zero, List.length_nil, List.map_nil, hq])))
            | (refine callX ?_; (first | refine evOps_fin ?_ | refine And.intro ?_ (evD_fin ?_) | refine evD_fin ?_) <;> simp only [go_sem, reduceAdd, reduceSub, reduceMul, reduceEqDiff, reduceLeDiff, Nat.reduceBEq, reduceLT, reduceIte, reduceCtorEq, Int.reduceToNat, hlt', h0, hn, Int.reduceBEq, Int.natCast_zero, List.length_nil, List.map_nil, hq])
          rw [e]; rfl
      · have e : meetM a b = runsTo (both a b) 256 := by unfold meetM meetP; rw [if_neg (fun h => hn h.1)]
        have hpos : (runsTo (both a b) 256).length ≠ 0 := fun h => hn (List.eq_nil_of_length_eq_zero h)
        have hz : (((runsTo (both a b) 256).length : Int) == 0) = false := by simp; exact hn
        have htk : List.take (runsTo (both a b) 256).length (List.map encArc (runsTo (both a b) 256)) = List.map encArc (runsTo (both a b) 256) := List.take_of_length_le (by simp)
        repeat' first
          | refine ev_seq (fun K hK => ?_)
          | ((first | refine evr tt_ok false ?_ | refine ev_skip ?_ | refine ev_ret ?_ | refine ev_exit ?_ | refine evc (fun X Y hX hY => ?_)); simp only [go_sem, reduceAdd, reduceSub, reduceMul, reduceEqDiff, reduceLeDiff, Nat.reduceBEq, reduceLT, reduceIte, reduceCtorEq, Int.reduceToNat, hlt', hz, List.length_map, vrows_lit _ (lit_arc (runsTo (both a b) 256)), Nat.le_refl, htk, Nat.sub_zero]; try (first | (refine ⟨fun h => hX ?_, fun h => hY ?_⟩; clear hX hY) | (refine hX ?_; clear hX hY) | (refine hY ?_; clear hX hY)))
          | refine ev_block ?_
          | (apply hK; clear hK)
          | apply_assumption -exfalso -symm only [*]
          | (refine And.intro ?_ ?_; first | omega | assumption | (unfold maxLen; omega) | (simp only [decide_eq_true_eq, decide_eq_false_iff_not, Int.not_lt, Int.not_le] at h; omega))
          | ((first | apply callL | apply callLG | apply callL0); (case' hv => (simp only [go_sem, reduceAdd, reduceSub, reduceMul, reduceEqDiff, reduceLeDiff, Nat.reduceBEq, reduceLT, reduceIte, reduceCtorEq, Int.reduceToNat, hlt', hz, List.length_map, vrows_lit _ (lit_arc (runsTo (both a b) 256)), Nat.le_refl, htk, Nat.sub_zero]; try exact rfl)); (case' hp => (first | refine' meet1_pure ha hb _ | (refine' (fun hg => ?_); refine' meet1_pure ha hb _))); (case' hf => exact rfl); (case' h => ((first | refine evOps_fin ?_ | refine And.intro ?_ (evD_fin ?_) | refine evD_fin ?_) <;> simp only [go_sem, reduceAdd, reduceSub, reduceMul, reduceEqDiff, reduceLeDiff, Nat.reduceBEq, reduceLT, reduceIte, reduceCtorEq, Int.reduceToNat, hlt', hz, List.length_map, vrows_lit _ (lit_arc (runsTo (both a b) 256)), Nat.le_refl, htk, Nat.sub_zero])))
          | (refine callX ?_; (first | refine evOps_fin ?_ | refine And.intro ?_ (evD_fin ?_) | refine evD_fin ?_) <;> simp only [go_sem, reduceAdd, reduceSub, reduceMul, reduceEqDiff, reduceLeDiff, Nat.reduceBEq, reduceLT, reduceIte, reduceCtorEq, Int.reduceToNat, hlt', hz, List.length_map, vrows_lit _ (lit_arc (runsTo (both a b) 256)), Nat.le_refl, htk, Nat.sub_zero])
        rw [e]
theorem meet_bad (a b : Arc) (h : ¬ (a.ok ∧ b.ok)) : Pure Try.prog 59 [.agg [.int .i64 a.f, .int .i64 a.c], .agg [.int .i64 b.f, .int .i64 b.c]] (.sl []) := by
  refine Pure.weak (r := .emp) ?_ (fun E v hv => emp_sl hv)
  by_cases ha : a.ok
  · have hb : ¬ b.ok := fun hb => h ⟨ha, hb⟩
    (refine pure_of_ev tt_ok Try.func59 rfl (by decide +kernel) (Nat.le_of_ble_eq_true rfl) ?_; simp only [Try.f59])
    repeat' first
      | refine ev_seq (fun K hK => ?_)
      | ((first | refine evr tt_ok false ?_ | refine ev_skip ?_ | refine ev_ret ?_ | refine ev_exit ?_ | refine evc (fun X Y hX hY => ?_)); simp only [go_sem, reduceAdd, reduceSub, reduceMul, reduceEqDiff, reduceLeDiff, Nat.reduceBEq, reduceLT, reduceIte, reduceCtorEq, Int.reduceToNat, ha, hb]; try (first | (refine ⟨fun h => hX ?_, fun h => hY ?_⟩; clear hX hY) | (refine hX ?_; clear hX hY) | (refine hY ?_; clear hX hY)))
      | refine ev_block ?_
      | (apply hK; clear hK)
      | apply_assumption -exfalso -symm only [*]
      | (refine And.intro ?_ ?_; first | omega | assumption | (unfold maxLen; omega) | (simp only [decide_eq_true_eq, decide_eq_false_iff_not, Int.not_lt, Int.not_le] at h; omega))
      | ((first | apply callP | apply callPG | apply callP0); (case' hv => (simp only [go_sem, reduceAdd, reduceSub, reduceMul, reduceEqDiff, reduceLeDiff, Nat.reduceBEq, reduceLT, reduceIte, reduceCtorEq, Int.reduceToNat, ha, hb]; try exact rfl)); (case' hp => (first | refine' varc_pure a | (refine' (fun hg => ?_); refine' varc_pure a) | refine' varc_pure b | (refine' (fun hg => ?_); refine' varc_pure b))); (case' h => ((first | refine evOps_fin ?_ | refine And.intro ?_ (evD_fin ?_) | refine evD_fin ?_) <;> simp only [go_sem, reduceAdd, reduceSub, reduceMul, reduceEqDiff, reduceLeDiff, Nat.reduceBEq, reduceLT, reduceIte, reduceCtorEq, Int.reduceToNat, ha, hb])))
      | (refine callX ?_; (first | refine evOps_fin ?_ | refine And.intro ?_ (evD_fin ?_) | refine evD_fin ?_) <;> simp only [go_sem, reduceAdd, reduceSub, reduceMul, reduceEqDiff, reduceLeDiff, Nat.reduceBEq, reduceLT, reduceIte, reduceCtorEq, Int.reduceToNat, ha, hb])
  · (refine pure_of_ev tt_ok Try.func59 rfl (by decide +kernel) (Nat.le_of_ble_eq_true rfl) ?_; simp only [Try.f59])
    repeat' first
      | refine ev_seq (fun K hK => ?_)
      | ((first | refine evr tt_ok false ?_ | refine ev_skip ?_ | refine ev_ret ?_ | refine ev_exit ?_ | refine evc (fun X Y hX hY => ?_)); simp only [go_sem, reduceAdd, reduceSub, reduceMul, reduceEqDiff, reduceLeDiff, Nat.reduceBEq, reduceLT, reduceIte, reduceCtorEq, Int.reduceToNat, ha]; try (first | (refine ⟨fun h => hX ?_, fun h => hY ?_⟩; clear hX hY) | (refine hX ?_; clear hX hY) | (refine hY ?_; clear hX hY)))
      | refine ev_block ?_
      | (apply hK; clear hK)
      | apply_assumption -exfalso -symm only [*]
      | (refine And.intro ?_ ?_; first | omega | assumption | (unfold maxLen; omega) | (simp only [decide_eq_true_eq, decide_eq_false_iff_not, Int.not_lt, Int.not_le] at h; omega))
      | ((first | apply callP | apply callPG | apply callP0); (case' hv => (simp only [go_sem, reduceAdd, reduceSub, reduceMul, reduceEqDiff, reduceLeDiff, Nat.reduceBEq, reduceLT, reduceIte, reduceCtorEq, Int.reduceToNat, ha]; try exact rfl)); (case' hp => (first | refine' varc_pure a | (refine' (fun hg => ?_); refine' varc_pure a) | refine' varc_pure b | (refine' (fun hg => ?_); refine' varc_pure b))); (case' h => ((first | refine evOps_fin ?_ | refine And.intro ?_ (evD_fin ?_) | refine evD_fin ?_) <;> simp only [go_sem, reduceAdd, reduceSub, reduceMul, reduceEqDiff, reduceLeDiff, Nat.reduceBEq, reduceLT, reduceIte, reduceCtorEq, Int.reduceToNat, ha])))
      | (refine callX ?_; (first | refine evOps_fin ?_ | refine And.intro ?_ (evD_fin ?_) | refine evD_fin ?_) <;> simp only [go_sem, reduceAdd, reduceSub, reduceMul, reduceEqDiff, reduceLeDiff, Nat.reduceBEq, reduceLT, reduceIte, reduceCtorEq, Int.reduceToNat, ha])
end Go.Proofs.Ytmpmggbcmioipaa
