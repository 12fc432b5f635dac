import Derived.Test.YtmpmggbcmioipaaM1
set_option linter.all false
namespace Go.Proofs.Ytmpmggbcmioipaa
open Nat (reduceAdd reduceSub reduceMul reduceEqDiff reduceLeDiff reduceLT)
open Go Go.K
set_option maxRecDepth 20000
set_option maxHeartbeats 4000000
theorem listM_len (a : Arc) : (listM a).length = a.c.toNat := by simp [listM]
theorem listM_get (a : Arc) {i : Nat} (h : i < a.c.toNat) : (listM a).getD i 0 = (a.f + i) % 256 := by
  simp [listM, List.getD_eq_getElem?_getD, h]
theorem listM_mem {a : Arc} (ha : a.ok) (h : Int) : (listM a).any (fun x => x == h % 256) = a.mem h := by
  obtain ⟨a1, a2, a3, a4, a5⟩ := ha
  rw [Bool.eq_iff_iff, List.any_eq_true]
  simp only [beq_iff_eq, Arc.mem, decide_eq_true_eq]
  constructor
  · rintro ⟨x, hx, he⟩
    unfold listM at hx
    obtain ⟨j, hj, rfl⟩ := List.mem_map.1 hx
    have := List.mem_range.1 hj
    omega
  · intro hm
    refine ⟨h % 256, List.mem_map.2 ⟨((h - a.f) % 256).toNat, List.mem_range.2 (by omega), by omega⟩, rfl⟩
def listP (a : Arc) (i : Nat) : List Int := (List.range i).map fun j : Nat => (a.f + j) % 256
theorem listP_succ (a : Arc) (i : Nat) : (listP a (i + 1)).map enI = (listP a i).map enI ++ [[.int .i64 ((a.f + i) % 256)]] := by
  unfold listP; rw [List.range_succ, List.map_append, List.map_append]; rfl
theorem listP_len (a : Arc) (i : Nat) : (listP a i).length = i := by simp [listP]
theorem rlist_pure (a : Arc) (ha : a.ok) : Pure Try.prog 76 [.agg [.int .i64 a.f, .int .i64 a.c]] (.sl ((listM a).map enI)) := by
  obtain ⟨n, hn⟩ : ∃ n : Nat, a.c = n := ⟨a.c.toNat, by have := ha.2.2.1; omega⟩
  obtain ⟨f, c⟩ := a
  simp only at hn
  subst hn
  have hn2 : n ≤ 256 := by have h9 : (n : Int) ≤ 256 := ha.2.2.2.1; omega
  have f0 : 0 ≤ f := ha.1
  have f1 : f < 256 := ha.2.1
  have hall : listP ⟨f, n⟩ n = listM ⟨f, n⟩ := by unfold listP listM; simp
  (refine pure_of_ev tt_ok Try.func76 rfl (by decide +kernel) (Nat.le_of_ble_eq_true rfl) ?_; simp only [Try.f76])
  repeat' first
    | refine ev_seq (fun K hK => ?_)
    | ((first | refine evr tt_ok false ?_ | refine ev_skip ?_ | refine ev_ret ?_ | refine ev_exit ?_ | refine evc (fun X Y hX hY => ?_)); simp only [go_sem, reduceAdd, reduceSub, reduceMul, reduceEqDiff, reduceLeDiff, Nat.reduceBEq, reduceLT, reduceIte, reduceCtorEq, Int.reduceToNat, ha]; try (first | (refine ⟨fun h => hX ?_, fun h => hY ?_⟩; clear hX hY) | (refine hX ?_; clear hX hY) | (refine hY ?_; clear hX hY)))
    | refine ev_block ?_
    | (apply hK; clear hK)
    | apply_assumption -exfalso -symm only [*]
    | (refine And.intro ?_ ?_; first | omega | assumption | (unfold maxLen; omega) | (simp only [decide_eq_true_eq, decide_eq_false_iff_not, Int.not_lt, Int.not_le] at h; omega))
    | ((first | apply callP | apply callPG | apply callP0); (case' hv => (simp only [go_sem, reduceAdd, reduceSub, reduceMul, reduceEqDiff, reduceLeDiff, Nat.reduceBEq, reduceLT, reduceIte, reduceCtorEq, Int.reduceToNat, ha]; try exact rfl)); (case' hp => (first | refine' rvarc_pure ⟨f, n⟩ | (refine' (fun hg => ?_); refine' rvarc_pure ⟨f, n⟩))); (case' h => ((first | refine evOps_fin ?_ | refine And.intro ?_ (evD_fin ?_) | refine evD_fin ?_) <;> simp only [go_sem, reduceAdd, reduceSub, reduceMul, reduceEqDiff, reduceLeDiff, Nat.reduceBEq, reduceLT, reduceIte, reduceCtorEq, Int.reduceToNat, ha])))
    | (refine callX ?_; (first | refine evOps_fin ?_ | refine And.intro ?_ (evD_fin ?_) | refine evD_fin ?_) <;> simp only [go_sem, reduceAdd, reduceSub, reduceMul, reduceEqDiff, reduceLeDiff, Nat.reduceBEq, reduceLT, reduceIte, reduceCtorEq, Int.reduceToNat, ha])
  refine ev_adopt 3 3 1 (by decide) rfl ?_
  refine ev_loop (fun i : Nat => i ≤ n)
    (fun i => ⟨23, [(4, .int .i64 i), (3, .rs 1 i 0 i), (1, .own 0 0 0 0)], [.blk 74 0 2 [[.int .i64 f, .int .i64 n]], .blk 3 i 1 ((listP ⟨f, n⟩ i).map enI)]⟩)
    (fun i => n - i) 0 (Nat.zero_le _) ?_ ?_
  · simp only [go_sem, reduceAdd, reduceSub, reduceMul, reduceEqDiff, reduceLeDiff, Nat.reduceBEq, reduceLT, reduceIte, reduceCtorEq, Int.reduceToNat, fits, fitT, fitOs, fitO, V.under, unders, rowsUnder]
    repeat' first | rfl | exact rowsUnder_lit _ (lit_enI _) | apply And.intro
  · intro i hi
    have hb0 : 0 ≤ (i : Int) := by omega
    have hw : IntKind.i64.wrap ((i : Int) + 1) = ((i + 1 : Nat) : Int) := by rw [w64] <;> omega
    have hlen := listP_len ⟨f, n⟩ i
    by_cases hlt : (i : Int) < n
    · have hwa : IntKind.i64.wrap (f + i) = f + i := w64 (by omega) (by omega)
      have hmod : (f + (i : Int)).tmod 256 = (f + i) % 256 := Int.tmod_eq_emod_of_nonneg (by omega)
      have hq : 1 ≤ maxLen ∧ i + 1 ≤ maxLen ∧ (i + 1) * 8 ≤ 140737488355328 := by
        have : maxLen = 9223372036854775807 := rfl
        omega
      have hr := listP_succ ⟨f, n⟩ i
      repeat' first
        | refine ev_seq (fun K hK => ?_)
        | ((first | refine evr tt_ok false ?_ | refine ev_skip ?_ | refine ev_ret ?_ | refine ev_exit ?_ | refine evc (fun X Y hX hY => ?_)); simp only [go_sem, reduceAdd, reduceSub, reduceMul, reduceEqDiff, reduceLeDiff, Nat.reduceBEq, reduceLT, reduceIte, reduceCtorEq, Int.reduceToNat, hb0, hlt, hw, hwa, hmod, hlen, List.length_map, Nat.zero_add, Nat.le_refl]; try (first | (refine ⟨fun h => hX ?_, fun h => hY ?_⟩; clear hX hY) | (refine hX ?_; clear hX hY) | (refine hY ?_; clear hX hY)))
        | refine ev_block ?_
        | (apply hK; clear hK)
        | apply_assumption -exfalso -symm only [*]
        | (refine And.intro ?_ ?_; first | omega | assumption | (unfold maxLen; omega) | (simp only [decide_eq_true_eq, decide_eq_false_iff_not, Int.not_lt, Int.not_le] at h; omega))
      refine ⟨i + 1, by omega, ?_, by omega⟩
      repeat' first | rfl | exact rowsUnder_lit _ (lit_enI _) | (rw [hr]; done) | apply And.intro
    · obtain rfl : i = n := by omega
      have htk : List.take i ((listP ⟨f, i⟩ i).map enI) = (listP ⟨f, i⟩ i).map enI := List.take_of_length_le (by simp [listP_len])
      repeat' first
        | refine ev_seq (fun K hK => ?_)
        | ((first | refine evr tt_ok false ?_ | refine ev_skip ?_ | refine ev_ret ?_ | refine ev_exit ?_ | refine evc (fun X Y hX hY => ?_)); simp only [go_sem, reduceAdd, reduceSub, reduceMul, reduceEqDiff, reduceLeDiff, Nat.reduceBEq, reduceLT, reduceIte, reduceCtorEq, Int.reduceToNat, hlt, hlen, List.length_map, vrows_lit _ (lit_enI (listP ⟨f, i⟩ i)), Nat.le_refl, Nat.sub_zero, htk]; try (first | (refine ⟨fun h => hX ?_, fun h => hY ?_⟩; clear hX hY) | (refine hX ?_; clear hX hY) | (refine hY ?_; clear hX hY)))
        | refine ev_block ?_
        | (apply hK; clear hK)
        | apply_assumption -exfalso -symm only [*]
        | (refine And.intro ?_ ?_; first | omega | assumption | (unfold maxLen; omega) | (simp only [decide_eq_true_eq, decide_eq_false_iff_not, Int.not_lt, Int.not_le] at h; omega))
      rw [hall]
theorem rlist_bad (a : Arc) (ha : ¬ a.ok) : Pure Try.prog 76 [.agg [.int .i64 a.f, .int .i64 a.c]] (.sl []) := by
  refine Pure.weak (r := .emp) ?_ (fun E v hv => emp_sl hv)
  (refine pure_of_ev tt_ok Try.func76 rfl (by decide +kernel) (Nat.le_of_ble_eq_true rfl) ?_; simp only [Try.f76])
  repeat' first
    | refine ev_seq (fun K hK => ?_)
    | ((first | refine evr tt_ok false ?_ | refine ev_skip ?_ | refine ev_ret ?_ | refine ev_exit ?_ | refine evc (fun X Y hX hY => ?_)); simp only [go_sem, reduceAdd, reduceSub, reduceMul, reduceEqDiff, reduceLeDiff, Nat.reduceBEq, reduceLT, reduceIte, reduceCtorEq, Int.reduceToNat, ha]; try (first | (refine ⟨fun h => hX ?_, fun h => hY ?_⟩; clear hX hY) | (refine hX ?_; clear hX hY) | (refine hY ?_; clear hX hY)))
    | refine ev_block ?_
    | (apply hK; clear hK)
    | apply_assumption -exfalso -symm only [*]
    | (refine And.intro ?_ ?_; first | omega | assumption | (unfold maxLen; omega) | (simp only [decide_eq_true_eq, decide_eq_false_iff_not, Int.not_lt, Int.not_le] at h; omega))
    | ((first | apply callP | apply callPG | apply callP0); (case' hv => (simp only [go_sem, reduceAdd, reduceSub, reduceMul, reduceEqDiff, reduceLeDiff, Nat.reduceBEq, reduceLT, reduceIte, reduceCtorEq, Int.reduceToNat, ha]; try exact rfl)); (case' hp => (first | refine' rvarc_pure a | (refine' (fun hg => ?_); refine' rvarc_pure a))); (case' h => ((first | refine evOps_fin ?_ | refine And.intro ?_ (evD_fin ?_) | refine evD_fin ?_) <;> simp only [go_sem, reduceAdd, reduceSub, reduceMul, reduceEqDiff, reduceLeDiff, Nat.reduceBEq, reduceLT, reduceIte, reduceCtorEq, Int.reduceToNat, ha])))
    | (refine callX ?_; (first | refine evOps_fin ?_ | refine And.intro ?_ (evD_fin ?_) | refine evD_fin ?_) <;> simp only [go_sem, reduceAdd, reduceSub, reduceMul, reduceEqDiff, reduceLeDiff, Nat.reduceBEq, reduceLT, reduceIte, reduceCtorEq, Int.reduceToNat, ha])
theorem rhas_pure (a : Arc) (h : Int) : Pure Try.prog 54 [.agg [.int .i64 a.f, .int .i64 a.c], .int .i64 h] (.bool (decide a.ok && a.mem h)) := by
  by_cases ha : a.ok
  · have hl := rlist_pure a ha
    have hm := listM_mem ha h
    have hlen : (listM a).length ≤ 256 := by rw [listM_len]; have := ha.2.2.2.1; omega
    rw [← hm, decide_eq_true ha, Bool.true_and]
    generalize listM a = L at *
    (refine pure_of_ev tt_ok Try.func54 rfl (by decide +kernel) (Nat.le_of_ble_eq_true rfl) ?_; simp only [Try.f54])
    repeat' first
      | refine ev_seq (fun K hK => ?_)
      | ((first | refine evrd (id := 5) hmix tt_ok false [([], true), ([], true), ([], true), ([], true), ([], false), ([0, 1, 2, 3], false), ([], false)] (by decide +kernel) ?_ | refine evr tt_ok false ?_ | refine ev_skip ?_ | refine ev_ret ?_ | refine ev_exit ?_ | refine evc (fun X Y hX hY => ?_)); simp only [go_sem, reduceAdd, reduceSub, reduceMul, reduceEqDiff, reduceLeDiff, Nat.reduceBEq, reduceLT, reduceIte, reduceCtorEq, Int.reduceToNat, List.length_map]; try (first | (refine ⟨fun h => hX ?_, fun h => hY ?_⟩; clear hX hY) | (refine hX ?_; clear hX hY) | (refine hY ?_; clear hX hY)))
      | refine ev_block ?_
      | (apply hK; clear hK)
      | apply_assumption -exfalso -symm only [*]
      | (refine And.intro ?_ ?_; first | omega | assumption | (unfold maxLen; omega) | (simp only [decide_eq_true_eq, decide_eq_false_iff_not, Int.not_lt, Int.not_le] at h; omega))
      | ((first | apply callP | apply callPG | apply callP0); (case' hv => (simp only [go_sem, reduceAdd, reduceSub, reduceMul, reduceEqDiff, reduceLeDiff, Nat.reduceBEq, reduceLT, reduceIte, reduceCtorEq, Int.reduceToNat, List.length_map]; try exact rfl)); (case' hp => (first | refine' hl | (refine' (fun hg => ?_); refine' hl))); (case' h => ((first | refine evOps_fin ?_ | refine And.intro ?_ (evD_fin ?_) | refine evD_fin ?_) <;> simp only [go_sem, reduceAdd, reduceSub, reduceMul, reduceEqDiff, reduceLeDiff, Nat.reduceBEq, reduceLT, reduceIte, reduceCtorEq, Int.reduceToNat, List.length_map])))
      | (refine callX ?_; (first | refine evOps_fin ?_ | refine And.intro ?_ (evD_fin ?_) | refine evD_fin ?_) <;> simp only [go_sem, reduceAdd, reduceSub, reduceMul, reduceEqDiff, reduceLeDiff, Nat.reduceBEq, reduceLT, reduceIte, reduceCtorEq, Int.reduceToNat, List.length_map])
    refine ev_loop (fun i : Nat => i ≤ L.length ∧ (L.any fun x => x == h % 256) = ((L.drop i).any fun x => x == h % 256))
      (fun i => ⟨22, [(6, .int .i64 i), (5, .sl (L.map enI)), (1, .int .i64 h)], []⟩)
      (fun i => L.length - i) 0 ⟨Nat.zero_le _, rfl⟩ ?_ ?_
    · simp only [go_sem, reduceAdd, reduceSub, reduceMul, reduceEqDiff, reduceLeDiff, Nat.reduceBEq, reduceLT, reduceIte, reduceCtorEq, Int.reduceToNat, fits, fitT, fitOs, fitO, V.under, unders, rowsUnder]
      repeat' first | rfl | apply And.intro
    · rintro i ⟨hi, he⟩
      have hb0 : 0 ≤ (i : Int) := by omega
      have hw : IntKind.i64.wrap ((i : Int) + 1) = ((i + 1 : Nat) : Int) := by rw [w64] <;> omega
      by_cases hlt : (i : Int) < L.length
      · rw [drop_getD (by omega) 0, List.any_cons] at he
        cases hq : L.getD i 0 == h % 256
        · rw [hq, Bool.false_or] at he
          repeat' first
            | refine ev_seq (fun K hK => ?_)
            | ((first | refine evrd (id := 5) hmix tt_ok false [([], true), ([], true), ([], true), ([], true), ([], false), ([0, 1, 2, 3], false), ([], false)] (by decide +kernel) ?_ | refine evr tt_ok false ?_ | refine ev_skip ?_ | refine ev_ret ?_ | refine ev_exit ?_ | refine evc (fun X Y hX hY => ?_)); simp only [go_sem, reduceAdd, reduceSub, reduceMul, reduceEqDiff, reduceLeDiff, Nat.reduceBEq, reduceLT, reduceIte, reduceCtorEq, Int.reduceToNat, List.length_map, hb0, hw, hlt, int_get, Int.toNat_natCast, hq]; try (first | (refine ⟨fun h => hX ?_, fun h => hY ?_⟩; clear hX hY) | (refine hX ?_; clear hX hY) | (refine hY ?_; clear hX hY)))
            | refine ev_block ?_
            | (apply hK; clear hK)
            | apply_assumption -exfalso -symm only [*]
            | (refine And.intro ?_ ?_; first | omega | assumption | (unfold maxLen; omega) | (simp only [decide_eq_true_eq, decide_eq_false_iff_not, Int.not_lt, Int.not_le] at h; omega))
            | ((first | apply callP | apply callPG | apply callP0); (case' hv => (simp only [go_sem, reduceAdd, reduceSub, reduceMul, reduceEqDiff, reduceLeDiff, Nat.reduceBEq, reduceLT, reduceIte, reduceCtorEq, Int.reduceToNat, List.length_map, hb0, hw, hlt, int_get, Int.toNat_natCast, hq]; try exact rfl)); (case' hp => (first | ((first | refine' mod_pure _ _ ?_ ?_ | (refine' (fun hg => ?_); refine' mod_pure _ _ ?_ ?_)); all_goals first | (fail_if_success refine prop_id ?_; skip) | omega | assumption | (simp only [go_sem, reduceAdd, reduceSub, reduceMul, reduceEqDiff, reduceLeDiff, Nat.reduceBEq, reduceLT, reduceIte, reduceCtorEq, Int.reduceToNat, List.length_map, hb0, hw, hlt, int_get, Int.toNat_natCast, hq]; first | done | exact rfl | omega) | (refine' Eq.trans ?_ ?_; (focus (simp only [go_sem, reduceAdd, reduceSub, reduceMul, reduceEqDiff, reduceLeDiff, Nat.reduceBEq, reduceLT, reduceIte, reduceCtorEq, Int.reduceToNat, List.length_map, hb0, hw, hlt, int_get, Int.toNat_natCast, hq]; exact rfl)); exact rfl)))); (case' h => ((first | refine evOps_fin ?_ | refine And.intro ?_ (evD_fin ?_) | refine evD_fin ?_) <;> simp only [go_sem, reduceAdd, reduceSub, reduceMul, reduceEqDiff, reduceLeDiff, Nat.reduceBEq, reduceLT, reduceIte, reduceCtorEq, Int.reduceToNat, List.length_map, hb0, hw, hlt, int_get, Int.toNat_natCast, hq])))
            | (refine callX ?_; (first | refine evOps_fin ?_ | refine And.intro ?_ (evD_fin ?_) | refine evD_fin ?_) <;> simp only [go_sem, reduceAdd, reduceSub, reduceMul, reduceEqDiff, reduceLeDiff, Nat.reduceBEq, reduceLT, reduceIte, reduceCtorEq, Int.reduceToNat, List.length_map, hb0, hw, hlt, int_get, Int.toNat_natCast, hq])
          exact ⟨i + 1, ⟨by omega, he⟩, rfl, by omega⟩
        · rw [hq, Bool.true_or] at he
          repeat' first
            | refine ev_seq (fun K hK => ?_)
            | ((first | refine evrd (id := 5) hmix tt_ok false [([], true), ([], true), ([], true), ([], true), ([], false), ([0, 1, 2, 3], false), ([], false)] (by decide +kernel) ?_ | refine evr tt_ok false ?_ | refine ev_skip ?_ | refine ev_ret ?_ | refine ev_exit ?_ | refine evc (fun X Y hX hY => ?_)); simp only [go_sem, reduceAdd, reduceSub, reduceMul, reduceEqDiff, reduceLeDiff, Nat.reduceBEq, reduceLT, reduceIte, reduceCtorEq, Int.reduceToNat, List.length_map, hb0, hw, hlt, int_get, Int.toNat_natCast, hq]; try (first | (refine ⟨fun h => hX ?_, fun h => hY ?_⟩; clear hX hY) | (refine hX ?_; clear hX hY) | (refine hY ?_; clear hX hY)))
            | refine ev_block ?_
            | (apply hK; clear hK)
            | apply_assumption -exfalso -symm only [*]
            | (refine And.intro ?_ ?_; first | omega | assumption | (unfold maxLen; omega) | (simp only [decide_eq_true_eq, decide_eq_false_iff_not, Int.not_lt, Int.not_le] at h; omega))
            | ((first | apply callP | apply callPG | apply callP0); (case' hv => (simp only [go_sem, reduceAdd, reduceSub, reduceMul, reduceEqDiff, reduceLeDiff, Nat.reduceBEq, reduceLT, reduceIte, reduceCtorEq, Int.reduceToNat, List.length_map, hb0, hw, hlt, int_get, Int.toNat_natCast, hq]; try exact rfl)); (case' hp => (first | ((first | refine' mod_pure _ _ ?_ ?_ | (refine' (fun hg => ?_); refine' mod_pure _ _ ?_ ?_)); all_goals first | (fail_if_success refine prop_id ?_; skip) | omega | assumption | (simp only [go_sem, reduceAdd, reduceSub, reduceMul, reduceEqDiff, reduceLeDiff, Nat.reduceBEq, reduceLT, reduceIte, reduceCtorEq, Int.reduceToNat, List.length_map, hb0, hw, hlt, int_get, Int.toNat_natCast, hq]; first | done | exact rfl | omega) | (refine' Eq.trans ?_ ?_; (focus (simp only [go_sem, reduceAdd, reduceSub, reduceMul, reduceEqDiff, reduceLeDiff, Nat.reduceBEq, reduceLT, reduceIte, reduceCtorEq, Int.reduceToNat, List.length_map, hb0, hw, hlt, int_get, Int.toNat_natCast, hq]; exact rfl)); exact rfl)))); (case' h => ((first | refine evOps_fin ?_ | refine And.intro ?_ (evD_fin ?_) | refine evD_fin ?_) <;> simp only [go_sem, reduceAdd, reduceSub, reduceMul, reduceEqDiff, reduceLeDiff, Nat.reduceBEq, reduceLT, reduceIte, reduceCtorEq, Int.reduceToNat, List.length_map, hb0, hw, hlt, int_get, Int.toNat_natCast, hq])))
            | (refine callX ?_; (first | refine evOps_fin ?_ | refine And.intro ?_ (evD_fin ?_) | refine evD_fin ?_) <;> simp only [go_sem, reduceAdd, reduceSub, reduceMul, reduceEqDiff, reduceLeDiff, Nat.reduceBEq, reduceLT, reduceIte, reduceCtorEq, Int.reduceToNat, List.length_map, hb0, hw, hlt, int_get, Int.toNat_natCast, hq])
          rw [he]
      · obtain rfl : i = L.length := by omega
        repeat' first
          | refine ev_seq (fun K hK => ?_)
          | ((first | refine evrd (id := 5) hmix tt_ok false [([], true), ([], true), ([], true), ([], true), ([], false), ([0, 1, 2, 3], false), ([], false)] (by decide +kernel) ?_ | refine evr tt_ok false ?_ | refine ev_skip ?_ | refine ev_ret ?_ | refine ev_exit ?_ | refine evc (fun X Y hX hY => ?_)); simp only [go_sem, reduceAdd, reduceSub, reduceMul, reduceEqDiff, reduceLeDiff, Nat.reduceBEq, reduceLT, reduceIte, reduceCtorEq, Int.reduceToNat, List.length_map, hb0, hlt]; try (first | (refine ⟨fun h => hX ?_, fun h => hY ?_⟩; clear hX hY) | (refine hX ?_; clear hX hY) | (refine hY ?_; clear hX hY)))
          | refine ev_block ?_
          | (apply hK; clear hK)
          | apply_assumption -exfalso -symm only [*]
          | (refine And.intro ?_ ?_; first | omega | assumption | (unfold maxLen; omega) | (simp only [decide_eq_true_eq, decide_eq_false_iff_not, Int.not_lt, Int.not_le] at h; omega))
        rw [he, List.drop_length]; rfl
  · have hl := rlist_bad a ha
    have hd : (decide a.ok && a.mem h) = false := by simp [ha]
    rw [hd]
    (refine pure_of_ev tt_ok Try.func54 rfl (by decide +kernel) (Nat.le_of_ble_eq_true rfl) ?_; simp only [Try.f54])
    repeat' first
      | refine ev_seq (fun K hK => ?_)
      | ((first | refine evrd (id := 5) hmix tt_ok false [([], true), ([], true), ([], true), ([], true), ([], false), ([0, 1, 2, 3], false), ([], false)] (by decide +kernel) ?_ | refine evr tt_ok false ?_ | refine ev_skip ?_ | refine ev_ret ?_ | refine ev_exit ?_ | refine evc (fun X Y hX hY => ?_)); simp only [go_sem, reduceAdd, reduceSub, reduceMul, reduceEqDiff, reduceLeDiff, Nat.reduceBEq, reduceLT, reduceIte, reduceCtorEq, Int.reduceToNat]; try (first | (refine ⟨fun h => hX ?_, fun h => hY ?_⟩; clear hX hY) | (refine hX ?_; clear hX hY) | (refine hY ?_; clear hX hY)))
      | refine ev_block ?_
      | (apply hK; clear hK)
      | apply_assumption -exfalso -symm only [*]
      | (refine And.intro ?_ ?_; first | omega | assumption | (unfold maxLen; omega) | (simp only [decide_eq_true_eq, decide_eq_false_iff_not, Int.not_lt, Int.not_le] at h; omega))
      | ((first | apply callP | apply callPG | apply callP0); (case' hv => (simp only [go_sem, reduceAdd, reduceSub, reduceMul, reduceEqDiff, reduceLeDiff, Nat.reduceBEq, reduceLT, reduceIte, reduceCtorEq, Int.reduceToNat]; try exact rfl)); (case' hp => (first | refine' hl | (refine' (fun hg => ?_); refine' hl))); (case' h => ((first | refine evOps_fin ?_ | refine And.intro ?_ (evD_fin ?_) | refine evD_fin ?_) <;> simp only [go_sem, reduceAdd, reduceSub, reduceMul, reduceEqDiff, reduceLeDiff, Nat.reduceBEq, reduceLT, reduceIte, reduceCtorEq, Int.reduceToNat])))
      | (refine callX ?_; (first | refine evOps_fin ?_ | refine And.intro ?_ (evD_fin ?_) | refine evD_fin ?_) <;> simp only [go_sem, reduceAdd, reduceSub, reduceMul, reduceEqDiff, reduceLeDiff, Nat.reduceBEq, reduceLT, reduceIte, reduceCtorEq, Int.reduceToNat])
    refine ev_loop (fun i : Nat => i = 0)
      (fun i => ⟨22, [(6, .int .i64 0), (5, .sl [])], []⟩) (fun i => i) 0 rfl ?_ ?_
    · simp only [go_sem, reduceAdd, reduceSub, reduceMul, reduceEqDiff, reduceLeDiff, Nat.reduceBEq, reduceLT, reduceIte, reduceCtorEq, Int.reduceToNat, fits, fitT, fitOs, fitO, V.under, unders, rowsUnder]
      repeat' first | rfl | apply And.intro
    · rintro i rfl
      repeat' first
        | refine ev_seq (fun K hK => ?_)
        | ((first | refine evrd (id := 5) hmix tt_ok false [([], true), ([], true), ([], true), ([], true), ([], false), ([0, 1, 2, 3], false), ([], false)] (by decide +kernel) ?_ | refine evr tt_ok false ?_ | refine ev_skip ?_ | refine ev_ret ?_ | refine ev_exit ?_ | refine evc (fun X Y hX hY => ?_)); simp only [go_sem, reduceAdd, reduceSub, reduceMul, reduceEqDiff, reduceLeDiff, Nat.reduceBEq, reduceLT, reduceIte, reduceCtorEq, Int.reduceToNat, Int.reduceLT, Int.natCast_zero]; try (first | (refine ⟨fun h => hX ?_, fun h => hY ?_⟩; clear hX hY) | (refine hX ?_; clear hX hY) | (refine hY ?_; clear hX hY)))
        | refine ev_block ?_
        | (apply hK; clear hK)
        | apply_assumption -exfalso -symm only [*]
        | (refine And.intro ?_ ?_; first | omega | assumption | (unfold maxLen; omega) | (simp only [decide_eq_true_eq, decide_eq_false_iff_not, Int.not_lt, Int.not_le] at h; omega))
def enB (b : Bool) : List V := [.bool b]
theorem lit_enB (l : List Bool) : litRows (l.map enB) = true := litRows_map (fun _ => rfl) l
def setM (a : Arc) (i : Int) : List Bool := (List.range 256).map fun j : Nat => decide (((j : Int) - a.f) % 256 < i)
theorem setM_len (a : Arc) (i : Int) : (setM a i).length = 256 := by simp [setM]
theorem setM_get (a : Arc) (i : Int) {j : Nat} (h : j < 256) : ((setM a i).map enB).getD j [.bool false] = [.bool (decide (((j : Int) - a.f) % 256 < i))] := by
  simp [setM, List.getD_eq_getElem?_getD, h, enB]
theorem setM_set {a : Arc} (ha : a.ok) {i : Nat} (hi : i < 256) {k : Nat} (hk : (k : Int) = (a.f + i) % 256) : ((setM a i).map enB).set k [.bool true] = (setM a ((i + 1 : Nat) : Int)).map enB := by
  obtain ⟨a1, a2, a3, a4, a5⟩ := ha
  refine List.ext_getElem (by simp [setM]) fun j h1 h2 => ?_
  have hj : j < 256 := by simpa [setM] using h2
  rw [List.getElem_set]
  split
  · rename_i h3; subst h3
    simp only [setM, List.map_map, List.getElem_map, List.getElem_range, Function.comp_apply, enB]
    congr 2
    symm
    rw [decide_eq_true_eq]; omega
  · simp only [setM, List.map_map, List.getElem_map, List.getElem_range, Function.comp_apply, enB]
    congr 2
    rw [decide_eq_decide]; omega
theorem set_pure (a : Arc) (ha : a.ok) : Pure Try.prog 91 [.agg [.int .i64 a.f, .int .i64 a.c]] (.sl ((setM a a.c).map enB)) := by
  have hl := rlist_pure a ha
  have hlen := listM_len a
  have h3 := ha.2.2.1
  have h4 := ha.2.2.2.1
  have hz : List.replicate 256 [V.bool false] = (setM a ((0 : Nat) : Int)).map enB := by
    refine List.ext_getElem (by simp [setM]) fun j h1 h2 => ?_
    simp only [setM, List.map_map, List.getElem_map, List.getElem_range, Function.comp_apply, enB, List.getElem_replicate]
    congr 2
    symm
    rw [decide_eq_false_iff_not]; omega
  have hm : (256 : Int) ≤ ((maxLen : Nat) : Int) := by unfold maxLen; omega
  (refine pure_of_ev tt_ok Try.func91 rfl (by decide +kernel) (Nat.le_of_ble_eq_true rfl) ?_; simp only [Try.f91])
  repeat' first
    | refine ev_seq (fun K hK => ?_)
    | ((first | refine evr tt_ok false ?_ | refine ev_skip ?_ | refine ev_ret ?_ | refine ev_exit ?_ | refine evc (fun X Y hX hY => ?_)); simp only [go_sem, reduceAdd, reduceSub, reduceMul, reduceEqDiff, reduceLeDiff, Nat.reduceBEq, reduceLT, reduceIte, reduceCtorEq, Int.reduceToNat, List.length_map, Int.reduceLE, Int.reduceMul, Int.reduceToNat, hm]; try (first | (refine ⟨fun h => hX ?_, fun h => hY ?_⟩; clear hX hY) | (refine hX ?_; clear hX hY) | (refine hY ?_; clear hX hY)))
    | refine ev_block ?_
    | (apply hK; clear hK)
    | apply_assumption -exfalso -symm only [*]
    | (refine And.intro ?_ ?_; first | omega | assumption | (unfold maxLen; omega) | (simp only [decide_eq_true_eq, decide_eq_false_iff_not, Int.not_lt, Int.not_le] at h; omega))
    | ((first | apply callP | apply callPG | apply callP0); (case' hv => (simp only [go_sem, reduceAdd, reduceSub, reduceMul, reduceEqDiff, reduceLeDiff, Nat.reduceBEq, reduceLT, reduceIte, reduceCtorEq, Int.reduceToNat, List.length_map, Int.reduceLE, Int.reduceMul, Int.reduceToNat, hm]; try exact rfl)); (case' hp => (first | refine' hl | (refine' (fun hg => ?_); refine' hl))); (case' h => ((first | refine evOps_fin ?_ | refine And.intro ?_ (evD_fin ?_) | refine evD_fin ?_) <;> simp only [go_sem, reduceAdd, reduceSub, reduceMul, reduceEqDiff, reduceLeDiff, Nat.reduceBEq, reduceLT, reduceIte, reduceCtorEq, Int.reduceToNat, List.length_map, Int.reduceLE, Int.reduceMul, Int.reduceToNat, hm])))
    | (refine callX ?_; (first | refine evOps_fin ?_ | refine And.intro ?_ (evD_fin ?_) | refine evD_fin ?_) <;> simp only [go_sem, reduceAdd, reduceSub, reduceMul, reduceEqDiff, reduceLeDiff, Nat.reduceBEq, reduceLT, reduceIte, reduceCtorEq, Int.reduceToNat, List.length_map, Int.reduceLE, Int.reduceMul, Int.reduceToNat, hm])
  refine ev_loop (fun i : Nat => i ≤ a.c.toNat)
    (fun i => ⟨22, [(5, .int .i64 i), (4, .sl ((listM a).map enI)), (3, .rs 1 0 0 256)], [.gone, .blk 4 0 1 ((setM a i).map enB)]⟩)
    (fun i => a.c.toNat - i) 0 (Nat.zero_le _) ?_ ?_
  · simp only [go_sem, reduceAdd, reduceSub, reduceMul, reduceEqDiff, reduceLeDiff, Nat.reduceBEq, reduceLT, reduceIte, reduceCtorEq, Int.reduceToNat, fits, fitT, fitOs, fitO, V.under, unders, rowsUnder]
    repeat' first | exact hz.symm | rfl | exact rowsUnder_lit _ (lit_enB _) | apply And.intro
  · intro i hi
    have hb0 : 0 ≤ (i : Int) := by omega
    have hw : IntKind.i64.wrap ((i : Int) + 1) = ((i + 1 : Nat) : Int) := by rw [w64] <;> omega
    by_cases hlt : (i : Int) < a.c.toNat
    · have hlt2 : i < a.c.toNat := by omega
      obtain ⟨k, hk⟩ : ∃ k : Nat, (k : Int) = (a.f + i) % 256 := ⟨((a.f + i) % 256).toNat, by omega⟩
      have hk2 : k < 256 := by omega
      have hg := listM_get a hlt2
      rw [← hk] at hg
      have hset := setM_set ha (i := i) (by omega) hk
      have hk0 : (0 : Int) ≤ (k : Int) := by omega
      have hk3 : (k : Int) < ((256 : Nat) : Int) := by omega
      have hk4 : (k : Int) < 256 := by omega
      repeat' first
        | refine ev_seq (fun K hK => ?_)
        | ((first | refine evr tt_ok false ?_ | refine ev_skip ?_ | refine ev_ret ?_ | refine ev_exit ?_ | refine evc (fun X Y hX hY => ?_)); simp only [go_sem, reduceAdd, reduceSub, reduceMul, reduceEqDiff, reduceLeDiff, Nat.reduceBEq, reduceLT, reduceIte, reduceCtorEq, Int.reduceToNat, hb0, hlt, hw, hlen, hg, hk0, hk2, hk3, hk4, hset, setM_len, setM_get a i hk2, int_get, Int.toNat_natCast, List.length_map, Nat.zero_add, Nat.le_refl]; try (first | (refine ⟨fun h => hX ?_, fun h => hY ?_⟩; clear hX hY) | (refine hX ?_; clear hX hY) | (refine hY ?_; clear hX hY)))
        | refine ev_block ?_
        | (apply hK; clear hK)
        | apply_assumption -exfalso -symm only [*]
        | (refine And.intro ?_ ?_; first | omega | assumption | (unfold maxLen; omega) | (simp only [decide_eq_true_eq, decide_eq_false_iff_not, Int.not_lt, Int.not_le] at h; omega))
      exact ⟨i + 1, by omega, ⟨rfl, rfl, rowsUnder_lit _ (lit_enB _)⟩, by omega⟩
    · obtain rfl : i = a.c.toNat := by omega
      have htk : List.take 256 ((setM a a.c).map enB) = (setM a a.c).map enB := List.take_of_length_le (by simp [setM_len])
      have hcc : ((a.c.toNat : Nat) : Int) = a.c := by omega
      repeat' first
        | refine ev_seq (fun K hK => ?_)
        | ((first | refine evr tt_ok false ?_ | refine ev_skip ?_ | refine ev_ret ?_ | refine ev_exit ?_ | refine evc (fun X Y hX hY => ?_)); simp only [go_sem, reduceAdd, reduceSub, reduceMul, reduceEqDiff, reduceLeDiff, Nat.reduceBEq, reduceLT, reduceIte, reduceCtorEq, Int.reduceToNat, hlt, hlen, hcc, setM_len, List.length_map, vrows_lit _ (lit_enB (setM a a.c)), Nat.le_refl, Nat.sub_zero, htk, int_get, Int.toNat_natCast, Int.reduceLT, Int.lt_irrefl]; try (first | (refine ⟨fun h => hX ?_, fun h => hY ?_⟩; clear hX hY) | (refine hX ?_; clear hX hY) | (refine hY ?_; clear hX hY)))
        | refine ev_block ?_
        | (apply hK; clear hK)
        | apply_assumption -exfalso -symm only [*]
        | (refine And.intro ?_ ?_; first | omega | assumption | (unfold maxLen; omega) | (simp only [decide_eq_true_eq, decide_eq_false_iff_not, Int.not_lt, Int.not_le] at h; omega))
end Go.Proofs.Ytmpmggbcmioipaa
