import Derived.Test.YtbibplkhhdomnaaGreatW33
set_option linter.all false
namespace Go.Proofs.YtbibplkhhdomnaaGreat
open Nat (reduceAdd reduceSub reduceMul reduceEqDiff reduceLeDiff reduceLT)
open Go Go.K
set_option maxRecDepth 20000
set_option maxHeartbeats 8000000
theorem fits0 {m n : Nat} {tm tm' : List (Nat × V)} {F G : List Go.K.Own} (e : F = G) (hm : m ≤ F.length) (hT : fitT F.length tm tm') (hU : allU F.length F) : fits m ⟨n, tm, F⟩ ⟨n, tm', G ++ []⟩ := by
  subst e
  have := fitsU (m := m) (n := n) (N := F.length) (k := []) (l := []) (F := F) (tm := tm) (tm' := tm') (by simp) hm hT hU trivial
  rwa [List.append_nil] at this ⊢
theorem delete_run {ow : List Go.K.Own} {id ver : Nat} {L1 : List Ent} (ho : ow[id]? = some (.blk 95 ver 4 (L1.map encE))) (hl : L1.length ≤ 4194304) :
    RunX Tryz.prog 60 [.rs id ver 0 L1.length, .fn 61 []] ow fun x => ∃ (L2 : List Ent) (m : Nat), L2.length = L1.length ∧ m ≤ L1.length ∧ x = ⟨[id], .rs id ver 0 m, [(id, .blk 95 ver 4 (L2.map encE))]⟩ := by
  have hlt := get_lt ho
  obtain ⟨k, hk, v⟩ := ent_index (fun e => e.h == 0 && e.p == 0) gone_pure L1 (by omega)
  have htk : List.take L1.length (L1.map encE) = L1.map encE := List.take_of_length_le (by simp)
  refine runX_of_ev tt_ok Tryz.func60 rfl (by decide +kernel) (Nat.le_of_ble_eq_true rfl) (fun hU => ?_)
  simp only [Tryz.f60]
  by_cases hm : k = -1
  · have hm1 : (k == -1) = true := by rw [hm]; rfl
    repeat' first
      | refine ev_seq (fun K hK => ?_)
      | ((first | refine evr tt_ok false ?_ | refine ev_skip ?_ | refine ev_ret ?_ | refine ev_exit ?_ | refine evc (fun X Y hX hY => ?_)); simp only [go_sem, reduceAdd, reduceSub, reduceMul, reduceEqDiff, reduceLeDiff, Nat.reduceBEq, reduceLT, reduceIte, reduceCtorEq, Int.reduceToNat, ap_get0, ap_getk, ap_set0, ap_setk, ap_get _ _ hlt, ap_set _ _ hlt, aps_get0, aps_getk, aps_set0, aps_setk, aps_get hlt, aps_set hlt, List.append_assoc, List.length_append, List.length_set, ho, hm1, htk, vrows_lit _ (lit_encE L1), List.length_map, Nat.sub_zero, Nat.le_refl]; try (first | (refine ⟨fun h => hX ?_, fun h => hY ?_⟩; clear hX hY) | (refine hX ?_; clear hX hY) | (refine hY ?_; clear hX hY)))
      | refine ev_block ?_
      | (apply hK; clear hK)
      | apply_assumption -exfalso -symm only [*]
      | (refine And.intro ?_ ?_; first | omega | assumption | (unfold maxLen; omega) | (simp only [decide_eq_true_eq, decide_eq_false_iff_not, Int.not_lt, Int.not_le] at h; omega))
      | ((first | apply callL | apply callLG | apply callL0); (case' hv => (simp only [go_sem, reduceAdd, reduceSub, reduceMul, reduceEqDiff, reduceLeDiff, Nat.reduceBEq, reduceLT, reduceIte, reduceCtorEq, Int.reduceToNat, ap_get0, ap_getk, ap_set0, ap_setk, ap_get _ _ hlt, ap_set _ _ hlt, aps_get0, aps_getk, aps_set0, aps_setk, aps_get hlt, aps_set hlt, List.append_assoc, List.length_append, List.length_set, ho, hm1, htk, vrows_lit _ (lit_encE L1), List.length_map, Nat.sub_zero, Nat.le_refl]; try exact rfl)); (case' hp => (first | refine' v | (refine' (fun hg => ?_); refine' v))); (case' hf => exact rfl); (case' h => ((first | refine evOps_fin ?_ | refine And.intro ?_ (evD_fin ?_) | refine evD_fin ?_) <;> simp only [go_sem, reduceAdd, reduceSub, reduceMul, reduceEqDiff, reduceLeDiff, Nat.reduceBEq, reduceLT, reduceIte, reduceCtorEq, Int.reduceToNat, ap_get0, ap_getk, ap_set0, ap_setk, ap_get _ _ hlt, ap_set _ _ hlt, aps_get0, aps_getk, aps_set0, aps_setk, aps_get hlt, aps_set hlt, List.append_assoc, List.length_append, List.length_set, ho, hm1, htk, vrows_lit _ (lit_encE L1), List.length_map, Nat.sub_zero, Nat.le_refl])))
      | (refine callX ?_; (first | refine evOps_fin ?_ | refine And.intro ?_ (evD_fin ?_) | refine evD_fin ?_) <;> simp only [go_sem, reduceAdd, reduceSub, reduceMul, reduceEqDiff, reduceLeDiff, Nat.reduceBEq, reduceLT, reduceIte, reduceCtorEq, Int.reduceToNat, ap_get0, ap_getk, ap_set0, ap_setk, ap_get _ _ hlt, ap_set _ _ hlt, aps_get0, aps_getk, aps_set0, aps_setk, aps_get hlt, aps_set hlt, List.append_assoc, List.length_append, List.length_set, ho, hm1, htk, vrows_lit _ (lit_encE L1), List.length_map, Nat.sub_zero, Nat.le_refl])
    refine ⟨_, ⟨L1, L1.length, rfl, Nat.le_refl _, rfl⟩, ⟨rowsUnder_lit _ (lit_encE L1), trivial⟩, ?_⟩
    simp only [go_sem, reduceAdd, reduceSub, reduceMul, reduceEqDiff, reduceLeDiff, Nat.reduceBEq, reduceLT, reduceIte, reduceCtorEq, Int.reduceToNat]
    exact ⟨hlt, [], by rw [set_same ho, List.append_nil]⟩
  · have hm1 : (k == -1) = false := by rw [beq_eq_false_iff_ne]; exact hm
    obtain ⟨i0, hi0⟩ : ∃ i0 : Nat, k = (i0 : Int) := ⟨k.toNat, by omega⟩
    subst hi0
    have hw0 : IntKind.i64.wrap ((i0 : Int) + 1) = ((i0 + 1 : Nat) : Int) := by rw [w64] <;> omega
    repeat' first
      | refine ev_seq (fun K hK => ?_)
      | ((first | refine evr tt_ok false ?_ | refine ev_skip ?_ | refine ev_ret ?_ | refine ev_exit ?_ | refine evc (fun X Y hX hY => ?_)); simp only [go_sem, reduceAdd, reduceSub, reduceMul, reduceEqDiff, reduceLeDiff, Nat.reduceBEq, reduceLT, reduceIte, reduceCtorEq, Int.reduceToNat, ap_get0, ap_getk, ap_set0, ap_setk, ap_get _ _ hlt, ap_set _ _ hlt, aps_get0, aps_getk, aps_set0, aps_setk, aps_get hlt, aps_set hlt, List.append_assoc, List.length_append, List.length_set, ho, hm1, hw0, htk, vrows_lit _ (lit_encE L1), List.length_map, Nat.sub_zero, Nat.le_refl]; try (first | (refine ⟨fun h => hX ?_, fun h => hY ?_⟩; clear hX hY) | (refine hX ?_; clear hX hY) | (refine hY ?_; clear hX hY)))
      | refine ev_block ?_
      | (apply hK; clear hK)
      | apply_assumption -exfalso -symm only [*]
      | (refine And.intro ?_ ?_; first | omega | assumption | (unfold maxLen; omega) | (simp only [decide_eq_true_eq, decide_eq_false_iff_not, Int.not_lt, Int.not_le] at h; omega))
      | ((first | apply callL | apply callLG | apply callL0); (case' hv => (simp only [go_sem, reduceAdd, reduceSub, reduceMul, reduceEqDiff, reduceLeDiff, Nat.reduceBEq, reduceLT, reduceIte, reduceCtorEq, Int.reduceToNat, ap_get0, ap_getk, ap_set0, ap_setk, ap_get _ _ hlt, ap_set _ _ hlt, aps_get0, aps_getk, aps_set0, aps_setk, aps_get hlt, aps_set hlt, List.append_assoc, List.length_append, List.length_set, ho, hm1, hw0, htk, vrows_lit _ (lit_encE L1), List.length_map, Nat.sub_zero, Nat.le_refl]; try exact rfl)); (case' hp => (first | refine' v | (refine' (fun hg => ?_); refine' v))); (case' hf => exact rfl); (case' h => ((first | refine evOps_fin ?_ | refine And.intro ?_ (evD_fin ?_) | refine evD_fin ?_) <;> simp only [go_sem, reduceAdd, reduceSub, reduceMul, reduceEqDiff, reduceLeDiff, Nat.reduceBEq, reduceLT, reduceIte, reduceCtorEq, Int.reduceToNat, ap_get0, ap_getk, ap_set0, ap_setk, ap_get _ _ hlt, ap_set _ _ hlt, aps_get0, aps_getk, aps_set0, aps_setk, aps_get hlt, aps_set hlt, List.append_assoc, List.length_append, List.length_set, ho, hm1, hw0, htk, vrows_lit _ (lit_encE L1), List.length_map, Nat.sub_zero, Nat.le_refl])))
      | (refine callX ?_; (first | refine evOps_fin ?_ | refine And.intro ?_ (evD_fin ?_) | refine evD_fin ?_) <;> simp only [go_sem, reduceAdd, reduceSub, reduceMul, reduceEqDiff, reduceLeDiff, Nat.reduceBEq, reduceLT, reduceIte, reduceCtorEq, Int.reduceToNat, ap_get0, ap_getk, ap_set0, ap_setk, ap_get _ _ hlt, ap_set _ _ hlt, aps_get0, aps_getk, aps_set0, aps_setk, aps_get hlt, aps_set hlt, List.append_assoc, List.length_append, List.length_set, ho, hm1, hw0, htk, vrows_lit _ (lit_encE L1), List.length_map, Nat.sub_zero, Nat.le_refl])
    have hset : ∀ L2 : List Ent, allU ow.length (ow.set id (.blk 95 ver 4 (L2.map encE))) := fun L2 => allU_set hU id (rowsUnder_lit _ (lit_encE L2))
    refine ev_loop (fun x : Nat × Nat × List Ent => x.1 < x.2.1 ∧ x.2.1 ≤ L1.length ∧ x.2.2.length = L1.length)
      (fun x => ⟨42, [(6, .int .i64 (x.2.1 : Int)), (5, .int .i64 (x.1 : Int)), (0, .rs id ver 0 L1.length), (1, .fn 61 [])], ow.set id (.blk 95 ver 4 (x.2.2.map encE)) ++ []⟩)
      (fun x => L1.length - x.2.1) (i0, i0 + 1, L1) ⟨by simp, by simp; omega, rfl⟩ ?_ ?_
    · refine fits0 (set_same ho).symm (Nat.le_refl _) ?_ hU
      simp only [go_sem, reduceAdd, reduceSub, reduceMul, reduceEqDiff, reduceLeDiff, Nat.reduceBEq, reduceLT, reduceIte, reduceCtorEq, Int.reduceToNat, fits, fitT, fitOs, fitO, V.under, unders, rowsUnder]
      repeat' first | exact hlt | rfl | apply And.intro
    · rintro ⟨i, j, L2⟩ ⟨hij, hjn, hl2⟩
      simp only at hij hjn hl2
      have hb0 : (0 : Int) ≤ (j : Int) := by omega
      have hb1 : (0 : Int) ≤ (i : Int) := by omega
      have hwj : IntKind.i64.wrap ((j : Int) + 1) = ((j + 1 : Nat) : Int) := by rw [w64] <;> omega
      have hwi : IntKind.i64.wrap ((i : Int) + 1) = ((i + 1 : Nat) : Int) := by rw [w64] <;> omega
      by_cases hjl : (j : Int) < ((L1.length : Nat) : Int)
      · have hil : (i : Int) < ((L1.length : Nat) : Int) := by omega
        have g1 := ent_get L2 j
        have g2 := ent_get L2 i
        have vq := gone_pure (L2.getD j ⟨0, 0, 0, 0⟩)
        have hst : ∀ q : Ent, (L2.map encE).set i [.int .i64 q.x, .int .i64 q.y, .int .i64 q.h, .int .i64 q.p] = (L2.set i q).map encE := fun q => by rw [List.map_set]; rfl
        generalize L2.getD j ⟨0, 0, 0, 0⟩ = q at *
        have hsq := hst q
        clear hst
        simp only [encE] at g1 g2 vq
        cases hz : (q.h == 0 && q.p == 0) with
        | true =>
          rw [hz] at vq
          repeat' first
            | refine ev_seq (fun K hK => ?_)
            | ((first | refine evr tt_ok false ?_ | refine ev_skip ?_ | refine ev_ret ?_ | refine ev_exit ?_ | refine evc (fun X Y hX hY => ?_)); simp only [go_sem, reduceAdd, reduceSub, reduceMul, reduceEqDiff, reduceLeDiff, Nat.reduceBEq, reduceLT, reduceIte, reduceCtorEq, Int.reduceToNat, ap_get0, ap_getk, ap_set0, ap_setk, ap_get _ _ hlt, ap_set _ _ hlt, aps_get0, aps_getk, aps_set0, aps_setk, aps_get hlt, aps_set hlt, List.append_assoc, List.length_append, List.length_set, set_get hlt, List.set_set, hjl, hil, hb0, hb1, hwj, hwi, hl2, g1, g2, hsq, List.length_map, Int.toNat_natCast, Nat.zero_add, Nat.sub_zero, Nat.le_refl]; try (first | (refine ⟨fun h => hX ?_, fun h => hY ?_⟩; clear hX hY) | (refine hX ?_; clear hX hY) | (refine hY ?_; clear hX hY)))
            | refine ev_block ?_
            | (apply hK; clear hK)
            | apply_assumption -exfalso -symm only [*]
            | (refine And.intro ?_ ?_; first | omega | assumption | (unfold maxLen; omega) | (simp only [decide_eq_true_eq, decide_eq_false_iff_not, Int.not_lt, Int.not_le] at h; omega))
            | ((first | apply callP | apply callPG | apply callP0); (case' hv => (simp only [go_sem, reduceAdd, reduceSub, reduceMul, reduceEqDiff, reduceLeDiff, Nat.reduceBEq, reduceLT, reduceIte, reduceCtorEq, Int.reduceToNat, ap_get0, ap_getk, ap_set0, ap_setk, ap_get _ _ hlt, ap_set _ _ hlt, aps_get0, aps_getk, aps_set0, aps_setk, aps_get hlt, aps_set hlt, List.append_assoc, List.length_append, List.length_set, set_get hlt, List.set_set, hjl, hil, hb0, hb1, hwj, hwi, hl2, g1, g2, hsq, List.length_map, Int.toNat_natCast, Nat.zero_add, Nat.sub_zero, Nat.le_refl]; try exact rfl)); (case' hp => (first | refine' vq | (refine' (fun hg => ?_); refine' vq))); (case' h => ((first | refine evOps_fin ?_ | refine And.intro ?_ (evD_fin ?_) | refine evD_fin ?_) <;> simp only [go_sem, reduceAdd, reduceSub, reduceMul, reduceEqDiff, reduceLeDiff, Nat.reduceBEq, reduceLT, reduceIte, reduceCtorEq, Int.reduceToNat, ap_get0, ap_getk, ap_set0, ap_setk, ap_get _ _ hlt, ap_set _ _ hlt, aps_get0, aps_getk, aps_set0, aps_setk, aps_get hlt, aps_set hlt, List.append_assoc, List.length_append, List.length_set, set_get hlt, List.set_set, hjl, hil, hb0, hb1, hwj, hwi, hl2, g1, g2, hsq, List.length_map, Int.toNat_natCast, Nat.zero_add, Nat.sub_zero, Nat.le_refl])))
            | (refine callX ?_; (first | refine evOps_fin ?_ | refine And.intro ?_ (evD_fin ?_) | refine evD_fin ?_) <;> simp only [go_sem, reduceAdd, reduceSub, reduceMul, reduceEqDiff, reduceLeDiff, Nat.reduceBEq, reduceLT, reduceIte, reduceCtorEq, Int.reduceToNat, ap_get0, ap_getk, ap_set0, ap_setk, ap_get _ _ hlt, ap_set _ _ hlt, aps_get0, aps_getk, aps_set0, aps_setk, aps_get hlt, aps_set hlt, List.append_assoc, List.length_append, List.length_set, set_get hlt, List.set_set, hjl, hil, hb0, hb1, hwj, hwi, hl2, g1, g2, hsq, List.length_map, Int.toNat_natCast, Nat.zero_add, Nat.sub_zero, Nat.le_refl])
          exact ⟨(i, j + 1, L2), ⟨by simp only; omega, by simp only; omega, hl2⟩, ⟨⟨rfl, rfl, hlt⟩, fitOs_refl _ (hset L2)⟩, by simp only; omega⟩
        | false =>
          rw [hz] at vq
          repeat' first
            | refine ev_seq (fun K hK => ?_)
            | ((first | refine evr tt_ok false ?_ | refine ev_skip ?_ | refine ev_ret ?_ | refine ev_exit ?_ | refine evc (fun X Y hX hY => ?_)); simp only [go_sem, reduceAdd, reduceSub, reduceMul, reduceEqDiff, reduceLeDiff, Nat.reduceBEq, reduceLT, reduceIte, reduceCtorEq, Int.reduceToNat, ap_get0, ap_getk, ap_set0, ap_setk, ap_get _ _ hlt, ap_set _ _ hlt, aps_get0, aps_getk, aps_set0, aps_setk, aps_get hlt, aps_set hlt, List.append_assoc, List.length_append, List.length_set, set_get hlt, List.set_set, hjl, hil, hb0, hb1, hwj, hwi, hl2, g1, g2, hsq, List.length_map, Int.toNat_natCast, Nat.zero_add, Nat.sub_zero, Nat.le_refl]; try (first | (refine ⟨fun h => hX ?_, fun h => hY ?_⟩; clear hX hY) | (refine hX ?_; clear hX hY) | (refine hY ?_; clear hX hY)))
            | refine ev_block ?_
            | (apply hK; clear hK)
            | apply_assumption -exfalso -symm only [*]
            | (refine And.intro ?_ ?_; first | omega | assumption | (unfold maxLen; omega) | (simp only [decide_eq_true_eq, decide_eq_false_iff_not, Int.not_lt, Int.not_le] at h; omega))
            | ((first | apply callP | apply callPG | apply callP0); (case' hv => (simp only [go_sem, reduceAdd, reduceSub, reduceMul, reduceEqDiff, reduceLeDiff, Nat.reduceBEq, reduceLT, reduceIte, reduceCtorEq, Int.reduceToNat, ap_get0, ap_getk, ap_set0, ap_setk, ap_get _ _ hlt, ap_set _ _ hlt, aps_get0, aps_getk, aps_set0, aps_setk, aps_get hlt, aps_set hlt, List.append_assoc, List.length_append, List.length_set, set_get hlt, List.set_set, hjl, hil, hb0, hb1, hwj, hwi, hl2, g1, g2, hsq, List.length_map, Int.toNat_natCast, Nat.zero_add, Nat.sub_zero, Nat.le_refl]; try exact rfl)); (case' hp => (first | refine' vq | (refine' (fun hg => ?_); refine' vq))); (case' h => ((first | refine evOps_fin ?_ | refine And.intro ?_ (evD_fin ?_) | refine evD_fin ?_) <;> simp only [go_sem, reduceAdd, reduceSub, reduceMul, reduceEqDiff, reduceLeDiff, Nat.reduceBEq, reduceLT, reduceIte, reduceCtorEq, Int.reduceToNat, ap_get0, ap_getk, ap_set0, ap_setk, ap_get _ _ hlt, ap_set _ _ hlt, aps_get0, aps_getk, aps_set0, aps_setk, aps_get hlt, aps_set hlt, List.append_assoc, List.length_append, List.length_set, set_get hlt, List.set_set, hjl, hil, hb0, hb1, hwj, hwi, hl2, g1, g2, hsq, List.length_map, Int.toNat_natCast, Nat.zero_add, Nat.sub_zero, Nat.le_refl])))
            | (refine callX ?_; (first | refine evOps_fin ?_ | refine And.intro ?_ (evD_fin ?_) | refine evD_fin ?_) <;> simp only [go_sem, reduceAdd, reduceSub, reduceMul, reduceEqDiff, reduceLeDiff, Nat.reduceBEq, reduceLT, reduceIte, reduceCtorEq, Int.reduceToNat, ap_get0, ap_getk, ap_set0, ap_setk, ap_get _ _ hlt, ap_set _ _ hlt, aps_get0, aps_getk, aps_set0, aps_setk, aps_get hlt, aps_set hlt, List.append_assoc, List.length_append, List.length_set, set_get hlt, List.set_set, hjl, hil, hb0, hb1, hwj, hwi, hl2, g1, g2, hsq, List.length_map, Int.toNat_natCast, Nat.zero_add, Nat.sub_zero, Nat.le_refl])
          exact ⟨(i + 1, j + 1, L2.set i q), ⟨by simp only; omega, by simp only; omega, by simp only [List.length_set]; exact hl2⟩, ⟨⟨rfl, rfl, hlt⟩, fitOs_refl _ (hset (L2.set i q))⟩, by simp only; omega⟩
      · have hset2 := hset (L2.take i ++ List.replicate (L1.length - i) ent0)
        have hl3 : (L2.take i ++ List.replicate (L1.length - i) ent0).length = L1.length := by simp; omega
        repeat' first
          | refine ev_seq (fun K hK => ?_)
          | refine ev_held (id := 11) ?_
          | ((first | refine evr tt_ok false ?_ | refine ev_skip ?_ | refine ev_ret ?_ | refine ev_exit ?_ | refine evc (fun X Y hX hY => ?_)); simp only [go_sem, reduceAdd, reduceSub, reduceMul, reduceEqDiff, reduceLeDiff, Nat.reduceBEq, reduceLT, reduceIte, reduceCtorEq, Int.reduceToNat, ap_get0, ap_getk, ap_set0, ap_setk, ap_get _ _ hlt, ap_set _ _ hlt, aps_get0, aps_getk, aps_set0, aps_setk, aps_get hlt, aps_set hlt, List.append_assoc, List.length_append, List.length_set, set_get hlt, List.set_set, hjl, hb0, hb1, hwj, hwi, hl2, List.length_map, Int.toNat_natCast, Nat.zero_add, Nat.sub_zero, Nat.le_refl]; try (first | (refine ⟨fun h => hX ?_, fun h => hY ?_⟩; clear hX hY) | (refine hX ?_; clear hX hY) | (refine hY ?_; clear hX hY)))
          | refine ev_block ?_
          | (apply hK; clear hK)
          | apply_assumption -exfalso -symm only [*]
          | (refine And.intro ?_ ?_; first | omega | assumption | (unfold maxLen; omega) | (simp only [decide_eq_true_eq, decide_eq_false_iff_not, Int.not_lt, Int.not_le] at h; omega))
        refine Held.mk ?_
        refine ev_region3 tt_ok false ?_
        simp only [go_sem, reduceAdd, reduceSub, reduceMul, reduceEqDiff, reduceLeDiff, Nat.reduceBEq, reduceLT, reduceIte, reduceCtorEq, Int.reduceToNat, ap_get0, ap_getk, ap_set0, ap_setk, ap_get _ _ hlt, ap_set _ _ hlt, aps_get0, aps_getk, aps_set0, aps_setk, aps_get hlt, aps_set hlt, List.append_assoc, List.length_append, List.length_set]
        iterate 3 (refine ev3_step ?_; simp only [go_sem, reduceAdd, reduceSub, reduceMul, reduceEqDiff, reduceLeDiff, Nat.reduceBEq, reduceLT, reduceIte, reduceCtorEq, Int.reduceToNat, ap_get0, ap_getk, ap_set0, ap_setk, ap_get _ _ hlt, ap_set _ _ hlt, aps_get0, aps_getk, aps_set0, aps_setk, aps_get hlt, aps_set hlt, List.append_assoc, List.length_append, List.length_set, Option.toArray, set_get hlt, hb0, hb1, hl2, List.length_map, Int.toNat_natCast, Nat.zero_add, Nat.sub_zero, Nat.le_refl])
        refine ⟨⟨by omega, Int.le_refl _⟩, ?_⟩
        refine ev3_spec rfl (by simp only [go_sem, reduceAdd, reduceSub, reduceMul, reduceEqDiff, reduceLeDiff, Nat.reduceBEq, reduceLT, reduceIte, reduceCtorEq, Int.reduceToNat]) (spec_clear (id := id) (ver := ver) (lo := i) (L1 := L2) (by simp only [go_sem, reduceAdd, reduceSub, reduceMul, reduceEqDiff, reduceLeDiff, Nat.reduceBEq, reduceLT, reduceIte, reduceCtorEq, Int.reduceToNat, hl2]) (by omega) (by simp only [go_sem, reduceAdd, reduceSub, reduceMul, reduceEqDiff, reduceLeDiff, Nat.reduceBEq, reduceLT, reduceIte, reduceCtorEq, Int.reduceToNat, ap_get0, ap_getk, ap_set0, ap_setk, ap_get _ _ hlt, ap_set _ _ hlt, aps_get0, aps_getk, aps_set0, aps_setk, aps_get hlt, aps_set hlt, List.append_assoc, List.length_append, List.length_set, set_get hlt])) ?_
        rintro z rfl
        refine ev3_nil ?_
        rw [hl2]
        simp only [go_sem, reduceAdd, reduceSub, reduceMul, reduceEqDiff, reduceLeDiff, Nat.reduceBEq, reduceLT, reduceIte, reduceCtorEq, Int.reduceToNat, ap_get0, ap_getk, ap_set0, ap_setk, ap_get _ _ hlt, ap_set _ _ hlt, aps_get0, aps_getk, aps_set0, aps_setk, aps_get hlt, aps_set hlt, List.append_assoc, List.length_append, List.length_set]
        apply hK; clear hK
        have hk0 : (i : Int) ≤ ((L1.length : Nat) : Int) := by omega
        repeat' first
          | refine ev_seq (fun K hK => ?_)
          | ((first | refine evr tt_ok false ?_ | refine ev_skip ?_ | refine ev_ret ?_ | refine ev_exit ?_ | refine evc (fun X Y hX hY => ?_)); simp only [go_sem, reduceAdd, reduceSub, reduceMul, reduceEqDiff, reduceLeDiff, Nat.reduceBEq, reduceLT, reduceIte, reduceCtorEq, Int.reduceToNat, ap_get0, ap_getk, ap_set0, ap_setk, ap_get _ _ hlt, ap_set _ _ hlt, aps_get0, aps_getk, aps_set0, aps_setk, aps_get hlt, aps_set hlt, List.append_assoc, List.length_append, List.length_set, set_get hlt, List.set_set, Option.toArray, hb0, hb1, hk0, hl3, List.length_map, Int.toNat_natCast, Nat.zero_add, Nat.sub_zero, Nat.le_refl, Nat.zero_le]; try (first | (refine ⟨fun h => hX ?_, fun h => hY ?_⟩; clear hX hY) | (refine hX ?_; clear hX hY) | (refine hY ?_; clear hX hY)))
          | refine ev_block ?_
          | (apply hK; clear hK)
          | apply_assumption -exfalso -symm only [*]
          | (refine And.intro ?_ ?_; first | omega | assumption | (unfold maxLen; omega) | (simp only [decide_eq_true_eq, decide_eq_false_iff_not, Int.not_lt, Int.not_le] at h; omega))
        refine ev_ret ?_
        refine ⟨_, ⟨L2.take i ++ List.replicate (L1.length - i) ent0, i, hl3, by omega, rfl⟩, ⟨rowsUnder_lit _ (lit_encE _), trivial⟩, ?_⟩
        simp only [go_sem, reduceAdd, reduceSub, reduceMul, reduceEqDiff, reduceLeDiff, Nat.reduceBEq, reduceLT, reduceIte, reduceCtorEq, Int.reduceToNat]
        exact ⟨hlt, [], by rw [List.append_nil]⟩
end Go.Proofs.YtbibplkhhdomnaaGreat
namespace Go.Proofs.YtbibplkhhdomnaaGreat
open Nat (reduceAdd reduceSub reduceMul reduceEqDiff reduceLeDiff reduceLT)
open Go Go.K
set_option maxRecDepth 20000
set_option maxHeartbeats 8000000
section
open Go.RowKit Go.Shelf
theorem values_calls (w : World) (g : Nat) : Calls Tryz.prog 59 #[.map (some g)] w fun e w' => e = .returned (.func (.func 85) #[] #[.pointer (some ⟨w.heap.size, 0, none⟩)]) ∧ w' = w.alloc (.cells #[.map (some g)] 81) := by
  refine (callsIn_wide (n := 5)).1 (callsIn_of_wp Tryz.func59 rfl trivial ?_ rfl)
  simp only [Tryz.ntmps59, List.size_toArray, List.length_cons, List.length_nil, Nat.reduceAdd, Nat.reduceSub, Array.replicate_succ, Array.replicate_zero, List.push_toArray, List.append_toArray, List.nil_append, List.cons_append]
  gi_wp2
  go_ret
  exact ⟨rfl, rfl⟩
end
section
variable {s : St} {B : Nat} {w0 : World} {E0 E : Ext} {L0 L : List Go.K.Loc} {a : Act} {w : World}
theorem spec_values {q : Operand} {ts : Array TypeId} {k j n : Nat} (hq : s.rd q = .mp j) (hk : s.ow[k]? = some .free) (hj : s.ow[j]? = some (.mp (MapOk n))) :
    SpecS Tryz.prog s (.call ⟨.value (.func 59), #[q], ts⟩) fun x => x = ⟨[k], .fn 85 [.own k 0 0 0], [(k, .blk 81 0 1 [[.mp j]])]⟩ := by
  intro B w0 E0 E L0 L a w o hop R next Q K
  have hx := rd_is R q
  rw [hq] at hx
  obtain ⟨gm, szm, capm, es, clk, hlm, hBm, hEm, hgm, hes⟩ := R.mpAt hj
  have hx := mp_at hx hlm
  have hne : k ≠ j := by rintro rfl; rw [hk] at hj; cases hj
  have hrun : (execOp a.eval o).run Tryz.prog w = (callFunc 59 #[.map (some gm)]).run Tryz.prog w := by
    unfold execOp
    simp only [hop, resolve, Act.eval, Deferred.ofValue, Sem.run_bind, Sem.run_pure, Result.andThen_ok, invoke]
    congr 2
    have hf' : a.eval q = _ := hx
    simp [Act.eval] at hf'
    simp [hf', Act.eval]
  unfold Oper.wp
  rw [hrun, Go.K.enters_of Tryz.func59 rfl (by decide +kernel), Oper.upon_enter]
  refine (values_calls w gm).mono ?_
  rintro e w' ⟨rfl, rfl⟩
  have hl := R.freeLoc hk
  have hlt := get_lt hl
  have R' := R.setOwn (w' := w.alloc (.cells #[.map (some gm)] 81)) (o1 := .blk 81 0 1 [[.mp j]]) (l1 := .lies 0 w.heap.size 1 1) hk hl (below_alloc w _ R.base) trivial (fun g hg _ => Go.RowKit.Below.heap_alloc w _ g hg)
    ⟨rfl, rfl, by omega, R.base, by
      cases hE : E w.heap.size with
      | none => rfl
      | some cs => have := R.inn.lt hE; omega, by unfold maxLen; omega, by simp, by omega, #[.map (some gm)], heap_alloc_new w _, by simp, fun i row hi => ?_⟩
    (fun g hg => by
      simp only [Own.at?, Option.some.injEq] at hg
      exact .inr (by omega))
  · refine K _ _ _ E _ rfl R' ?_
    show (V.fn _ [V.own k 0 0 0]).Is _ _ _
    unfold V.Is
    refine ⟨[_], rfl, ?_⟩
    unfold IsAll
    refine ⟨_, _, rfl, at_ptr (g := w.heap.size) (sz := 1) (cap := 1) (by rw [List.getElem?_set_self hlt]), ?_⟩
    unfold IsAll; rfl
  · cases i with
    | succ i => simp at hi
    | zero =>
      simp only [List.getElem?_cons_zero, Option.some.injEq] at hi
      subst hi
      refine ⟨rfl, fun t c hc => ?_⟩
      cases t with
      | succ t => simp at hc
      | zero =>
        simp only [List.getElem?_cons_zero, Option.some.injEq] at hc
        subst hc
        refine ⟨rfl, _, rfl, ?_⟩
        unfold V.Is
        rw [List.getElem?_set_ne hne, hlm]
        exact .inr ⟨rfl, rfl⟩
end
theorem collect_run {ow : List Go.K.Own} {id k j n : Nat} (hid : ow[id]? = some .free) (hk : ow[k]? = some (.blk 81 0 1 [[.mp j]])) (hj : ow[j]? = some (.mp (MapOk n))) (hn : n ≤ 4194304) :
    RunX Tryz.prog 58 [.fn 85 [.own k 0 0 0]] ow fun x => ∃ L1 : List Ent, L1.length ≤ n ∧ x = ⟨[id], .rs id 0 0 L1.length, [(id, .blk 95 0 4 (L1.map encE))]⟩ := by
  have hlt := get_lt hid
  refine runX_of_ev tt_ok Tryz.func58 rfl (by decide +kernel) (Nat.le_of_ble_eq_true rfl) (fun _ => ?_)
  simp only [Tryz.f58]
  repeat' first
    | refine ev_seq (fun K hK => ?_)
    | refine ev_held (id := 1) ?_
    | ((first | refine evr tt_ok false ?_ | refine ev_skip ?_ | refine ev_ret ?_ | refine ev_exit ?_ | refine evc (fun X Y hX hY => ?_)); simp only [go_sem, reduceAdd, reduceSub, reduceMul, reduceEqDiff, reduceLeDiff, Nat.reduceBEq, reduceLT, reduceIte, reduceCtorEq, Int.reduceToNat, ap_get0, ap_getk, ap_set0, ap_setk, ap_get _ _ hlt, ap_set _ _ hlt, aps_get0, aps_getk, aps_set0, aps_setk, aps_get hlt, aps_set hlt, List.append_assoc, List.length_append, List.length_set]; try (first | (refine ⟨fun h => hX ?_, fun h => hY ?_⟩; clear hX hY) | (refine hX ?_; clear hX hY) | (refine hY ?_; clear hX hY)))
    | refine ev_block ?_
    | (apply hK; clear hK)
    | apply_assumption -exfalso -symm only [*]
    | (refine And.intro ?_ ?_; first | omega | assumption | (unfold maxLen; omega) | (simp only [decide_eq_true_eq, decide_eq_false_iff_not, Int.not_lt, Int.not_le] at h; omega))
  refine Held.mk ?_
  refine ev_region3 tt_ok false ?_
  simp only [go_sem, reduceAdd, reduceSub, reduceMul, reduceEqDiff, reduceLeDiff, Nat.reduceBEq, reduceLT, reduceIte, reduceCtorEq, Int.reduceToNat, ap_get0, ap_getk, ap_set0, ap_setk, ap_get _ _ hlt, ap_set _ _ hlt, aps_get0, aps_getk, aps_set0, aps_setk, aps_get hlt, aps_set hlt, List.append_assoc, List.length_append, List.length_set]
  iterate 1 (refine ev3_step ?_; simp only [go_sem, reduceAdd, reduceSub, reduceMul, reduceEqDiff, reduceLeDiff, Nat.reduceBEq, reduceLT, reduceIte, reduceCtorEq, Int.reduceToNat, ap_get0, ap_getk, ap_set0, ap_setk, ap_get _ _ hlt, ap_set _ _ hlt, aps_get0, aps_getk, aps_set0, aps_setk, aps_get hlt, aps_set hlt, List.append_assoc, List.length_append, List.length_set])
  refine ev3_spec rfl (by simp only [go_sem, reduceAdd, reduceSub, reduceMul, reduceEqDiff, reduceLeDiff, Nat.reduceBEq, reduceLT, reduceIte, reduceCtorEq, Int.reduceToNat]) (spec_appendSeq (id := id) (k := k) (j := j) (n := n) (by simp only [go_sem, reduceAdd, reduceSub, reduceMul, reduceEqDiff, reduceLeDiff, Nat.reduceBEq, reduceLT, reduceIte, reduceCtorEq, Int.reduceToNat]) (by simp only [go_sem, reduceAdd, reduceSub, reduceMul, reduceEqDiff, reduceLeDiff, Nat.reduceBEq, reduceLT, reduceIte, reduceCtorEq, Int.reduceToNat, ap_get0, ap_getk, ap_set0, ap_setk, ap_get _ _ hlt, ap_set _ _ hlt, aps_get0, aps_getk, aps_set0, aps_setk, aps_get hlt, aps_set hlt, List.append_assoc, List.length_append, List.length_set, hid]) (by simp only [go_sem, reduceAdd, reduceSub, reduceMul, reduceEqDiff, reduceLeDiff, Nat.reduceBEq, reduceLT, reduceIte, reduceCtorEq, Int.reduceToNat, ap_get0, ap_getk, ap_set0, ap_setk, ap_get _ _ hlt, ap_set _ _ hlt, aps_get0, aps_getk, aps_set0, aps_setk, aps_get hlt, aps_set hlt, List.append_assoc, List.length_append, List.length_set, hk]) (by simp only [go_sem, reduceAdd, reduceSub, reduceMul, reduceEqDiff, reduceLeDiff, Nat.reduceBEq, reduceLT, reduceIte, reduceCtorEq, Int.reduceToNat, ap_get0, ap_getk, ap_set0, ap_setk, ap_get _ _ hlt, ap_set _ _ hlt, aps_get0, aps_getk, aps_set0, aps_setk, aps_get hlt, aps_set hlt, List.append_assoc, List.length_append, List.length_set, hj]) hn) ?_
  rintro z ⟨L1, hL1, rfl⟩
  iterate 1 (refine ev3_step ?_; simp only [go_sem, reduceAdd, reduceSub, reduceMul, reduceEqDiff, reduceLeDiff, Nat.reduceBEq, reduceLT, reduceIte, reduceCtorEq, Int.reduceToNat, ap_get0, ap_getk, ap_set0, ap_setk, ap_get _ _ hlt, ap_set _ _ hlt, aps_get0, aps_getk, aps_set0, aps_setk, aps_get hlt, aps_set hlt, List.append_assoc, List.length_append, List.length_set])
  refine ev3_nil ?_
  apply hK; clear hK
  refine ev_ret ?_
  refine ⟨_, ⟨L1, hL1, rfl⟩, ⟨rowsUnder_lit _ (lit_encE _), trivial⟩, ?_⟩
  simp only [go_sem, reduceAdd, reduceSub, reduceMul, reduceEqDiff, reduceLeDiff, Nat.reduceBEq, reduceLT, reduceIte, reduceCtorEq, Int.reduceToNat, ap_get0, ap_getk, ap_set0, ap_setk, ap_get _ _ hlt, ap_set _ _ hlt, aps_get0, aps_getk, aps_set0, aps_setk, aps_get hlt, aps_set hlt, List.append_assoc, List.length_append, List.length_set]
  exact ⟨hlt, [], by rw [List.append_nil]⟩
theorem list_run {ow : List Go.K.Own} {id j n : Nat} (hid : ow[id]? = some .free) (hj : ow[j]? = some (.mp (MapOk n))) (hn : n ≤ 4194304) :
    RunX Tryz.prog 31 [.mp j] ow fun x => ∃ (L1 : List Ent) (m : Nat), L1.length ≤ n ∧ m ≤ L1.length ∧ x = ⟨[id], .rs id 0 0 m, [(id, .blk 95 0 4 (L1.map encE))]⟩ := by
  have hlt := get_lt hid
  have hjl := get_lt hj
  have hne : id ≠ j := by rintro rfl; rw [hid] at hj; cases hj
  refine runX_of_ev tt_ok Tryz.func31 rfl (by decide +kernel) (Nat.le_of_ble_eq_true rfl) (fun _ => ?_)
  simp only [Tryz.f31]
  repeat' first
    | refine ev_seq (fun K hK => ?_)
    | refine ev_held (id := 1) ?_
    | ((first | refine evr tt_ok false ?_ | refine ev_skip ?_ | refine ev_ret ?_ | refine ev_exit ?_ | refine evc (fun X Y hX hY => ?_)); simp only [go_sem, reduceAdd, reduceSub, reduceMul, reduceEqDiff, reduceLeDiff, Nat.reduceBEq, reduceLT, reduceIte, reduceCtorEq, Int.reduceToNat, ap_get0, ap_getk, ap_set0, ap_setk, ap_get _ _ hlt, ap_set _ _ hlt, aps_get0, aps_getk, aps_set0, aps_setk, aps_get hlt, aps_set hlt, List.append_assoc, List.length_append, List.length_set]; try (first | (refine ⟨fun h => hX ?_, fun h => hY ?_⟩; clear hX hY) | (refine hX ?_; clear hX hY) | (refine hY ?_; clear hX hY)))
    | refine ev_block ?_
    | (apply hK; clear hK)
    | apply_assumption -exfalso -symm only [*]
    | (refine And.intro ?_ ?_; first | omega | assumption | (unfold maxLen; omega) | (simp only [decide_eq_true_eq, decide_eq_false_iff_not, Int.not_lt, Int.not_le] at h; omega))
  refine Held.mk ?_
  refine ev_region3 tt_ok true ?_
  simp only [go_sem, reduceAdd, reduceSub, reduceMul, reduceEqDiff, reduceLeDiff, Nat.reduceBEq, reduceLT, reduceIte, reduceCtorEq, Int.reduceToNat, ap_get0, ap_getk, ap_set0, ap_setk, ap_get _ _ hlt, ap_set _ _ hlt, aps_get0, aps_getk, aps_set0, aps_setk, aps_get hlt, aps_set hlt, List.append_assoc, List.length_append, List.length_set]
  iterate 1 (refine ev3_step ?_; simp only [go_sem, reduceAdd, reduceSub, reduceMul, reduceEqDiff, reduceLeDiff, Nat.reduceBEq, reduceLT, reduceIte, reduceCtorEq, Int.reduceToNat, ap_get0, ap_getk, ap_set0, ap_setk, ap_get _ _ hlt, ap_set _ _ hlt, aps_get0, aps_getk, aps_set0, aps_setk, aps_get hlt, aps_set hlt, List.append_assoc, List.length_append, List.length_set])
  refine ev3_spec rfl (by simp only [go_sem, reduceAdd, reduceSub, reduceMul, reduceEqDiff, reduceLeDiff, Nat.reduceBEq, reduceLT, reduceIte, reduceCtorEq, Int.reduceToNat]) (spec_values (k := ow.length) (j := j) (n := n) (by simp only [go_sem, reduceAdd, reduceSub, reduceMul, reduceEqDiff, reduceLeDiff, Nat.reduceBEq, reduceLT, reduceIte, reduceCtorEq, Int.reduceToNat]) (by simp only [go_sem, reduceAdd, reduceSub, reduceMul, reduceEqDiff, reduceLeDiff, Nat.reduceBEq, reduceLT, reduceIte, reduceCtorEq, Int.reduceToNat, ap_get0, ap_getk, ap_set0, ap_setk, ap_get _ _ hlt, ap_set _ _ hlt, aps_get0, aps_getk, aps_set0, aps_setk, aps_get hlt, aps_set hlt, List.append_assoc, List.length_append, List.length_set]) (by simp only [go_sem, reduceAdd, reduceSub, reduceMul, reduceEqDiff, reduceLeDiff, Nat.reduceBEq, reduceLT, reduceIte, reduceCtorEq, Int.reduceToNat, ap_get0, ap_getk, ap_set0, ap_setk, ap_get _ _ hlt, ap_set _ _ hlt, aps_get0, aps_getk, aps_set0, aps_setk, aps_get hlt, aps_set hlt, List.append_assoc, List.length_append, List.length_set, ap_get _ _ hjl, hj])) ?_
  rintro z rfl
  refine ev3_spec rfl (by simp only [go_sem, reduceAdd, reduceSub, reduceMul, reduceEqDiff, reduceLeDiff, Nat.reduceBEq, reduceLT, reduceIte, reduceCtorEq, Int.reduceToNat]) (specS_call (collect_run (id := id) (k := ow.length) (j := j) (n := n) (by simp only [go_sem, reduceAdd, reduceSub, reduceMul, reduceEqDiff, reduceLeDiff, Nat.reduceBEq, reduceLT, reduceIte, reduceCtorEq, Int.reduceToNat, ap_get0, ap_getk, ap_set0, ap_setk, ap_get _ _ hlt, ap_set _ _ hlt, aps_get0, aps_getk, aps_set0, aps_setk, aps_get hlt, aps_set hlt, List.append_assoc, List.length_append, List.length_set, hid]) (by simp only [go_sem, reduceAdd, reduceSub, reduceMul, reduceEqDiff, reduceLeDiff, Nat.reduceBEq, reduceLT, reduceIte, reduceCtorEq, Int.reduceToNat, ap_get0, ap_getk, ap_set0, ap_setk, ap_get _ _ hlt, ap_set _ _ hlt, aps_get0, aps_getk, aps_set0, aps_setk, aps_get hlt, aps_set hlt, List.append_assoc, List.length_append, List.length_set]) (by simp only [go_sem, reduceAdd, reduceSub, reduceMul, reduceEqDiff, reduceLeDiff, Nat.reduceBEq, reduceLT, reduceIte, reduceCtorEq, Int.reduceToNat, ap_get0, ap_getk, ap_set0, ap_setk, ap_get _ _ hlt, ap_set _ _ hlt, aps_get0, aps_getk, aps_set0, aps_setk, aps_get hlt, aps_set hlt, List.append_assoc, List.length_append, List.length_set, ap_get _ _ hjl, hj]) hn) (by simp only [go_sem, reduceAdd, reduceSub, reduceMul, reduceEqDiff, reduceLeDiff, Nat.reduceBEq, reduceLT, reduceIte, reduceCtorEq, Int.reduceToNat, ap_get0, ap_getk, ap_set0, ap_setk, ap_get _ _ hlt, ap_set _ _ hlt, aps_get0, aps_getk, aps_set0, aps_setk, aps_get hlt, aps_set hlt, List.append_assoc, List.length_append, List.length_set]) (by simp only [go_sem, reduceAdd, reduceSub, reduceMul, reduceEqDiff, reduceLeDiff, Nat.reduceBEq, reduceLT, reduceIte, reduceCtorEq, Int.reduceToNat, ap_get0, ap_getk, ap_set0, ap_setk, ap_get _ _ hlt, ap_set _ _ hlt, aps_get0, aps_getk, aps_set0, aps_setk, aps_get hlt, aps_set hlt, List.append_assoc, List.length_append, List.length_set])) ?_
  rintro z ⟨L1, hL1, rfl⟩
  simp only [go_sem, reduceAdd, reduceSub, reduceMul, reduceEqDiff, reduceLeDiff, Nat.reduceBEq, reduceLT, reduceIte, reduceCtorEq, Int.reduceToNat, ap_get0, ap_getk, ap_set0, ap_setk, ap_get _ _ hlt, ap_set _ _ hlt, aps_get0, aps_getk, aps_set0, aps_setk, aps_get hlt, aps_set hlt, List.append_assoc, List.length_append, List.length_set]
  iterate 1 (refine ev3_step ?_; simp only [go_sem, reduceAdd, reduceSub, reduceMul, reduceEqDiff, reduceLeDiff, Nat.reduceBEq, reduceLT, reduceIte, reduceCtorEq, Int.reduceToNat, ap_get0, ap_getk, ap_set0, ap_setk, ap_get _ _ hlt, ap_set _ _ hlt, aps_get0, aps_getk, aps_set0, aps_setk, aps_get hlt, aps_set hlt, List.append_assoc, List.length_append, List.length_set])
  refine ev3_nil ?_
  apply hK; clear hK
  repeat' first
    | refine ev_seq (fun K hK => ?_)
    | refine ev_held (id := 2) ?_
    | ((first | refine evr tt_ok false ?_ | refine ev_skip ?_ | refine ev_ret ?_ | refine ev_exit ?_ | refine evc (fun X Y hX hY => ?_)); simp only [go_sem, reduceAdd, reduceSub, reduceMul, reduceEqDiff, reduceLeDiff, Nat.reduceBEq, reduceLT, reduceIte, reduceCtorEq, Int.reduceToNat, ap_get0, ap_getk, ap_set0, ap_setk, ap_get _ _ hlt, ap_set _ _ hlt, aps_get0, aps_getk, aps_set0, aps_setk, aps_get hlt, aps_set hlt, List.append_assoc, List.length_append, List.length_set]; try (first | (refine ⟨fun h => hX ?_, fun h => hY ?_⟩; clear hX hY) | (refine hX ?_; clear hX hY) | (refine hY ?_; clear hX hY)))
    | refine ev_block ?_
    | (apply hK; clear hK)
    | apply_assumption -exfalso -symm only [*]
    | (refine And.intro ?_ ?_; first | omega | assumption | (unfold maxLen; omega) | (simp only [decide_eq_true_eq, decide_eq_false_iff_not, Int.not_lt, Int.not_le] at h; omega))
  refine Held.mk ?_
  refine ev_region3 tt_ok false ?_
  simp only [go_sem, reduceAdd, reduceSub, reduceMul, reduceEqDiff, reduceLeDiff, Nat.reduceBEq, reduceLT, reduceIte, reduceCtorEq, Int.reduceToNat, ap_get0, ap_getk, ap_set0, ap_setk, ap_get _ _ hlt, ap_set _ _ hlt, aps_get0, aps_getk, aps_set0, aps_setk, aps_get hlt, aps_set hlt, List.append_assoc, List.length_append, List.length_set]
  iterate 1 (refine ev3_step ?_; simp only [go_sem, reduceAdd, reduceSub, reduceMul, reduceEqDiff, reduceLeDiff, Nat.reduceBEq, reduceLT, reduceIte, reduceCtorEq, Int.reduceToNat, ap_get0, ap_getk, ap_set0, ap_setk, ap_get _ _ hlt, ap_set _ _ hlt, aps_get0, aps_getk, aps_set0, aps_setk, aps_get hlt, aps_set hlt, List.append_assoc, List.length_append, List.length_set])
  refine ev3_spec rfl (by simp only [go_sem, reduceAdd, reduceSub, reduceMul, reduceEqDiff, reduceLeDiff, Nat.reduceBEq, reduceLT, reduceIte, reduceCtorEq, Int.reduceToNat]) (specS_call (delete_run (id := id) (ver := 0) (L1 := L1) (by simp only [go_sem, reduceAdd, reduceSub, reduceMul, reduceEqDiff, reduceLeDiff, Nat.reduceBEq, reduceLT, reduceIte, reduceCtorEq, Int.reduceToNat, ap_get0, ap_getk, ap_set0, ap_setk, ap_get _ _ hlt, ap_set _ _ hlt, aps_get0, aps_getk, aps_set0, aps_setk, aps_get hlt, aps_set hlt, List.append_assoc, List.length_append, List.length_set, set_get hlt]) (by omega)) (by simp only [go_sem, reduceAdd, reduceSub, reduceMul, reduceEqDiff, reduceLeDiff, Nat.reduceBEq, reduceLT, reduceIte, reduceCtorEq, Int.reduceToNat, ap_get0, ap_getk, ap_set0, ap_setk, ap_get _ _ hlt, ap_set _ _ hlt, aps_get0, aps_getk, aps_set0, aps_setk, aps_get hlt, aps_set hlt, List.append_assoc, List.length_append, List.length_set]) (by simp only [go_sem, reduceAdd, reduceSub, reduceMul, reduceEqDiff, reduceLeDiff, Nat.reduceBEq, reduceLT, reduceIte, reduceCtorEq, Int.reduceToNat, ap_get0, ap_getk, ap_set0, ap_setk, ap_get _ _ hlt, ap_set _ _ hlt, aps_get0, aps_getk, aps_set0, aps_setk, aps_get hlt, aps_set hlt, List.append_assoc, List.length_append, List.length_set])) ?_
  rintro z ⟨L2, m, hL2, hm, rfl⟩
  simp only [go_sem, reduceAdd, reduceSub, reduceMul, reduceEqDiff, reduceLeDiff, Nat.reduceBEq, reduceLT, reduceIte, reduceCtorEq, Int.reduceToNat, ap_get0, ap_getk, ap_set0, ap_setk, ap_get _ _ hlt, ap_set _ _ hlt, aps_get0, aps_getk, aps_set0, aps_setk, aps_get hlt, aps_set hlt, List.append_assoc, List.length_append, List.length_set]
  iterate 1 (refine ev3_step ?_; simp only [go_sem, reduceAdd, reduceSub, reduceMul, reduceEqDiff, reduceLeDiff, Nat.reduceBEq, reduceLT, reduceIte, reduceCtorEq, Int.reduceToNat, ap_get0, ap_getk, ap_set0, ap_setk, ap_get _ _ hlt, ap_set _ _ hlt, aps_get0, aps_getk, aps_set0, aps_setk, aps_get hlt, aps_set hlt, List.append_assoc, List.length_append, List.length_set])
  refine ev3_nil ?_
  apply hK; clear hK
  repeat' first
    | refine ev_seq (fun K hK => ?_)
    | refine ev_held (id := 3) ?_
    | ((first | refine evr tt_ok false ?_ | refine ev_skip ?_ | refine ev_ret ?_ | refine ev_exit ?_ | refine evc (fun X Y hX hY => ?_)); simp only [go_sem, reduceAdd, reduceSub, reduceMul, reduceEqDiff, reduceLeDiff, Nat.reduceBEq, reduceLT, reduceIte, reduceCtorEq, Int.reduceToNat, ap_get0, ap_getk, ap_set0, ap_setk, ap_get _ _ hlt, ap_set _ _ hlt, aps_get0, aps_getk, aps_set0, aps_setk, aps_get hlt, aps_set hlt, List.append_assoc, List.length_append, List.length_set]; try (first | (refine ⟨fun h => hX ?_, fun h => hY ?_⟩; clear hX hY) | (refine hX ?_; clear hX hY) | (refine hY ?_; clear hX hY)))
    | refine ev_block ?_
    | (apply hK; clear hK)
    | apply_assumption -exfalso -symm only [*]
    | (refine And.intro ?_ ?_; first | omega | assumption | (unfold maxLen; omega) | (simp only [decide_eq_true_eq, decide_eq_false_iff_not, Int.not_lt, Int.not_le] at h; omega))
  refine Held.mk ?_
  refine ev_region3 tt_ok false ?_
  simp only [go_sem, reduceAdd, reduceSub, reduceMul, reduceEqDiff, reduceLeDiff, Nat.reduceBEq, reduceLT, reduceIte, reduceCtorEq, Int.reduceToNat, ap_get0, ap_getk, ap_set0, ap_setk, ap_get _ _ hlt, ap_set _ _ hlt, aps_get0, aps_getk, aps_set0, aps_setk, aps_get hlt, aps_set hlt, List.append_assoc, List.length_append, List.length_set]
  iterate 1 (refine ev3_step ?_; simp only [go_sem, reduceAdd, reduceSub, reduceMul, reduceEqDiff, reduceLeDiff, Nat.reduceBEq, reduceLT, reduceIte, reduceCtorEq, Int.reduceToNat, ap_get0, ap_getk, ap_set0, ap_setk, ap_get _ _ hlt, ap_set _ _ hlt, aps_get0, aps_getk, aps_set0, aps_setk, aps_get hlt, aps_set hlt, List.append_assoc, List.length_append, List.length_set])
  refine ev3_spec rfl (by simp only [go_sem, reduceAdd, reduceSub, reduceMul, reduceEqDiff, reduceLeDiff, Nat.reduceBEq, reduceLT, reduceIte, reduceCtorEq, Int.reduceToNat]) (specS_call (sort_run (id := id) (ver := 0) (m := m) (L1 := L2) (by simp only [go_sem, reduceAdd, reduceSub, reduceMul, reduceEqDiff, reduceLeDiff, Nat.reduceBEq, reduceLT, reduceIte, reduceCtorEq, Int.reduceToNat, ap_get0, ap_getk, ap_set0, ap_setk, ap_get _ _ hlt, ap_set _ _ hlt, aps_get0, aps_getk, aps_set0, aps_setk, aps_get hlt, aps_set hlt, List.append_assoc, List.length_append, List.length_set, set_get hlt]) (by omega) (by omega)) (by simp only [go_sem, reduceAdd, reduceSub, reduceMul, reduceEqDiff, reduceLeDiff, Nat.reduceBEq, reduceLT, reduceIte, reduceCtorEq, Int.reduceToNat, ap_get0, ap_getk, ap_set0, ap_setk, ap_get _ _ hlt, ap_set _ _ hlt, aps_get0, aps_getk, aps_set0, aps_setk, aps_get hlt, aps_set hlt, List.append_assoc, List.length_append, List.length_set]) (by simp only [go_sem, reduceAdd, reduceSub, reduceMul, reduceEqDiff, reduceLeDiff, Nat.reduceBEq, reduceLT, reduceIte, reduceCtorEq, Int.reduceToNat, ap_get0, ap_getk, ap_set0, ap_setk, ap_get _ _ hlt, ap_set _ _ hlt, aps_get0, aps_getk, aps_set0, aps_setk, aps_get hlt, aps_set hlt, List.append_assoc, List.length_append, List.length_set])) ?_
  rintro z ⟨L3, hL3, rfl⟩
  simp only [go_sem, reduceAdd, reduceSub, reduceMul, reduceEqDiff, reduceLeDiff, Nat.reduceBEq, reduceLT, reduceIte, reduceCtorEq, Int.reduceToNat, ap_get0, ap_getk, ap_set0, ap_setk, ap_get _ _ hlt, ap_set _ _ hlt, aps_get0, aps_getk, aps_set0, aps_setk, aps_get hlt, aps_set hlt, List.append_assoc, List.length_append, List.length_set]
  refine ev3_nil ?_
  apply hK; clear hK
  repeat' first
    | refine ev_seq (fun K hK => ?_)
    | ((first | refine evr tt_ok false ?_ | refine ev_skip ?_ | refine ev_ret ?_ | refine ev_exit ?_ | refine evc (fun X Y hX hY => ?_)); simp only [go_sem, reduceAdd, reduceSub, reduceMul, reduceEqDiff, reduceLeDiff, Nat.reduceBEq, reduceLT, reduceIte, reduceCtorEq, Int.reduceToNat, ap_get0, ap_getk, ap_set0, ap_setk, ap_get _ _ hlt, ap_set _ _ hlt, aps_get0, aps_getk, aps_set0, aps_setk, aps_get hlt, aps_set hlt, List.append_assoc, List.length_append, List.length_set]; try (first | (refine ⟨fun h => hX ?_, fun h => hY ?_⟩; clear hX hY) | (refine hX ?_; clear hX hY) | (refine hY ?_; clear hX hY)))
    | refine ev_block ?_
    | (apply hK; clear hK)
    | apply_assumption -exfalso -symm only [*]
    | (refine And.intro ?_ ?_; first | omega | assumption | (unfold maxLen; omega) | (simp only [decide_eq_true_eq, decide_eq_false_iff_not, Int.not_lt, Int.not_le] at h; omega))
  try refine ev_ret ?_
  refine ⟨_, ⟨L3, m, by omega, by omega, rfl⟩, ⟨rowsUnder_lit _ (lit_encE _), trivial⟩, ?_⟩
  simp only [go_sem, reduceAdd, reduceSub, reduceMul, reduceEqDiff, reduceLeDiff, Nat.reduceBEq, reduceLT, reduceIte, reduceCtorEq, Int.reduceToNat, ap_get0, ap_getk, ap_set0, ap_setk, ap_get _ _ hlt, ap_set _ _ hlt, aps_get0, aps_getk, aps_set0, aps_setk, aps_get hlt, aps_set hlt, List.append_assoc, List.length_append, List.length_set]
  exact ⟨hlt, [_, _], rfl⟩
end Go.Proofs.YtbibplkhhdomnaaGreat
