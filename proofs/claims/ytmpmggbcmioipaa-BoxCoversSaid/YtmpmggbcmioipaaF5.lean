import Derived.Test.YtmpmggbcmioipaaF2
import Derived.Test.YtmpmggbcmioipaaF4
set_option linter.all false
namespace Go.Proofs.Ytmpmggbcmioipaa
open Nat (reduceAdd reduceSub reduceMul reduceEqDiff reduceLeDiff reduceLT)
open Go Go.K
set_option maxRecDepth 20000
set_option maxHeartbeats 16000000
theorem clone06_pure (L : List Box) (hl : L.length ≤ 256) : Pure Try.prog 35 [.sl (L.map encBox)] (.sl (L.map encBox)) := by
  have hq : L.length ≤ maxLen := by unfold maxLen; omega
  have hq2 : L.length * 48 ≤ 140737488355328 := by omega
  (refine pure_of_ev tt_ok Try.func35 rfl (by decide +kernel) (Nat.le_of_ble_eq_true rfl) ?_; simp only [Try.f35])
  refine ev_seq (fun K hK => ?_)
  refine evr tt_ok false ?_
  simp only [go_sem, reduceAdd, reduceSub, reduceMul, reduceEqDiff, reduceLeDiff, Nat.reduceBEq, reduceLT, reduceIte, reduceCtorEq, Int.reduceToNat]
  apply hK; clear hK
  refine ev_seq (fun K hK => ?_)
  refine ev_seq (fun K2 hK2 => ?_)
  refine ev_region2 tt_ok false ?_
  simp only [go_sem, reduceAdd, reduceSub, reduceMul, reduceEqDiff, reduceLeDiff, Nat.reduceBEq, reduceLT, reduceIte, reduceCtorEq, Int.reduceToNat]
  refine ev2_step ?_
  simp only [go_sem, reduceAdd, reduceSub, reduceMul, reduceEqDiff, reduceLeDiff, Nat.reduceBEq, reduceLT, reduceIte, reduceCtorEq, Int.reduceToNat]
  refine ev2_spec rfl (by simp only [go_sem, reduceAdd, reduceSub, reduceMul, reduceEqDiff, reduceLeDiff, Nat.reduceBEq, reduceLT, reduceIte, reduceCtorEq, Int.reduceToNat]) (Spec.nilcmp (rows := L.map encBox) rfl rfl) ?_
  rintro x ⟨b, rfl, hb⟩
  refine ev2_nil ?_
  apply hK2; clear hK2
  cases b with
  | true =>
    have hL : L = [] := by
      by_cases h : L = []
      · exact h
      · have := hb (by simpa using h); cases this
    subst hL
    repeat' first
      | refine ev_seq (fun K hK => ?_)
      | ((first | refine evr tt_ok false ?_ | refine ev_skip ?_ | refine ev_exit ?_ | refine evc (fun X Y hX hY => ?_)); simp only [go_sem, reduceAdd, reduceSub, reduceMul, reduceEqDiff, reduceLeDiff, Nat.reduceBEq, reduceLT, reduceIte, reduceCtorEq, Int.reduceToNat]; try (first | (refine ⟨fun h => hX ?_, fun h => hY ?_⟩; clear hX hY) | (refine hX ?_; clear hX hY) | (refine hY ?_; clear hX hY)))
      | refine ev_block ?_
      | (apply hK; clear hK)
      | apply_assumption -exfalso -symm only [*]
      | (refine And.intro ?_ ?_; first | omega | assumption | (unfold maxLen; omega) | (simp only [decide_eq_true_eq, decide_eq_false_iff_not, Int.not_lt, Int.not_le] at h; omega))
    refine ev_emp 2 rfl (ev_ret ?_)
    simp only [go_sem, reduceAdd, reduceSub, reduceMul, reduceEqDiff, reduceLeDiff, Nat.reduceBEq, reduceLT, reduceIte, reduceCtorEq, Int.reduceToNat]
  | false =>
    have htk : List.take L.length (L.map encBox) = L.map encBox := List.take_of_length_le (by simp)
    repeat' first
      | refine ev_seq (fun K hK => ?_)
      | ((first | refine evr tt_ok false ?_ | refine ev_skip ?_ | refine ev_ret ?_ | refine ev_exit ?_ | refine evc (fun X Y hX hY => ?_)); simp only [go_sem, reduceAdd, reduceSub, reduceMul, reduceEqDiff, reduceLeDiff, Nat.reduceBEq, reduceLT, reduceIte, reduceCtorEq, Int.reduceToNat, hq, hq2, Nat.mul_one, Nat.zero_add, Nat.sub_zero, List.length_map, box_get, vrows_lit _ (lit_box L), Nat.le_refl, htk]; try (first | (refine ⟨fun h => hX ?_, fun h => hY ?_⟩; clear hX hY) | (refine hX ?_; clear hX hY) | (refine hY ?_; clear hX hY)))
      | refine ev_block ?_
      | (apply hK; clear hK)
      | apply_assumption -exfalso -symm only [*]
      | (refine And.intro ?_ ?_; first | omega | assumption | (unfold maxLen; omega) | (simp only [decide_eq_true_eq, decide_eq_false_iff_not, Int.not_lt, Int.not_le] at h; omega))
theorem delR_len {R : List Box} {k d : Nat} (h : k + d + 1 ≤ R.length) : (delR R k d).length = R.length := by
  unfold delR
  simp only [List.length_set, List.length_append, List.length_take, List.length_drop]
  omega
theorem delR_take {R : List Box} {k d : Nat} (h : k + d + 1 ≤ R.length) : (delR R k d).take (k + d) = (R.take (k + d + 1)).eraseIdx k := by
  have hA : (R.take k ++ (R.drop (k + 1)).take d).length = k + d := by
    simp only [List.length_append, List.length_take, List.length_drop]; omega
  unfold delR
  rw [List.take_set, List.take_left' hA, List.set_eq_of_length_le (by omega), List.eraseIdx_eq_take_drop_succ, List.take_take, List.drop_take]
  rw [show min k (k + d + 1) = k by omega, show k + d + 1 - (k + 1) = d by omega]
def compE (l : List Box) (most : Int) : Int := if most < 1 ∨ 64 < most ∨ 256 < l.length then 2 else if l.any (fun b => !decide b.ok) = true then 1 else 0
def compR (l : List Box) (most : Int) : List Box := if compE l most = 0 then itM (l.length - most.toNat) l else []
theorem compact06_pure (l : List Box) (hl : (l.length : Int) < 4611686018427387904) (most : Int) : Pure Try.prog 9 [.sl (l.map encBox), .int .i64 most] (.tup [.sl ((compR l most).map encBox), .int .i64 (compE l most)]) := by
  have cf := contains0 (fun b => !decide b.ok) (fun b => compact1_pure b) l hl
  by_cases hA : most < 1 ∨ 64 < most ∨ 256 < l.length
  · have hE : compE l most = 2 := if_pos hA
    have hR : compR l most = [] := by unfold compR; rw [hE]; rfl
    rw [hE, hR, List.map_nil]
    refine Pure.weak (r := .tup [.emp, .int .i64 2]) ?_ (fun E v hv => tup_fst hv fun u hu => emp_sl hu)
    by_cases h1 : most < 1
    · (refine pure_of_ev tt_ok Try.func9 rfl (by decide +kernel) (Nat.le_of_ble_eq_true rfl) ?_; simp only [Try.f9])
      repeat' first
        | refine ev_seq (fun K hK => ?_)
        | ((first | refine evr tt_ok false ?_ | refine ev_skip ?_ | refine ev_ret ?_ | refine ev_exit ?_ | refine evc (fun X Y hX hY => ?_)); simp only [go_sem, reduceAdd, reduceSub, reduceMul, reduceEqDiff, reduceLeDiff, Nat.reduceBEq, reduceLT, reduceIte, reduceCtorEq, Int.reduceToNat, h1, List.length_map]; try (first | (refine ⟨fun h => hX ?_, fun h => hY ?_⟩; clear hX hY) | (refine hX ?_; clear hX hY) | (refine hY ?_; clear hX hY)))
        | refine ev_block ?_
        | (apply hK; clear hK)
        | apply_assumption -exfalso -symm only [*]
        | (refine And.intro ?_ ?_; first | omega | assumption | (unfold maxLen; omega) | (simp only [decide_eq_true_eq, decide_eq_false_iff_not, Int.not_lt, Int.not_le] at h; omega))
    · by_cases h2 : 64 < most
      · (refine pure_of_ev tt_ok Try.func9 rfl (by decide +kernel) (Nat.le_of_ble_eq_true rfl) ?_; simp only [Try.f9])
        repeat' first
          | refine ev_seq (fun K hK => ?_)
          | ((first | refine evr tt_ok false ?_ | refine ev_skip ?_ | refine ev_ret ?_ | refine ev_exit ?_ | refine evc (fun X Y hX hY => ?_)); simp only [go_sem, reduceAdd, reduceSub, reduceMul, reduceEqDiff, reduceLeDiff, Nat.reduceBEq, reduceLT, reduceIte, reduceCtorEq, Int.reduceToNat, h1, h2, List.length_map]; try (first | (refine ⟨fun h => hX ?_, fun h => hY ?_⟩; clear hX hY) | (refine hX ?_; clear hX hY) | (refine hY ?_; clear hX hY)))
          | refine ev_block ?_
          | (apply hK; clear hK)
          | apply_assumption -exfalso -symm only [*]
          | (refine And.intro ?_ ?_; first | omega | assumption | (unfold maxLen; omega) | (simp only [decide_eq_true_eq, decide_eq_false_iff_not, Int.not_lt, Int.not_le] at h; omega))
      · have h3 : (256 : Int) < (l.length : Int) := by omega
        (refine pure_of_ev tt_ok Try.func9 rfl (by decide +kernel) (Nat.le_of_ble_eq_true rfl) ?_; simp only [Try.f9])
        repeat' first
          | refine ev_seq (fun K hK => ?_)
          | ((first | refine evr tt_ok false ?_ | refine ev_skip ?_ | refine ev_ret ?_ | refine ev_exit ?_ | refine evc (fun X Y hX hY => ?_)); simp only [go_sem, reduceAdd, reduceSub, reduceMul, reduceEqDiff, reduceLeDiff, Nat.reduceBEq, reduceLT, reduceIte, reduceCtorEq, Int.reduceToNat, h1, h2, h3, List.length_map]; try (first | (refine ⟨fun h => hX ?_, fun h => hY ?_⟩; clear hX hY) | (refine hX ?_; clear hX hY) | (refine hY ?_; clear hX hY)))
          | refine ev_block ?_
          | (apply hK; clear hK)
          | apply_assumption -exfalso -symm only [*]
          | (refine And.intro ?_ ?_; first | omega | assumption | (unfold maxLen; omega) | (simp only [decide_eq_true_eq, decide_eq_false_iff_not, Int.not_lt, Int.not_le] at h; omega))
  · have h1 : ¬ most < 1 := by omega
    have h2 : ¬ (64 : Int) < most := by omega
    have h3 : ¬ (256 : Int) < (l.length : Int) := by omega
    by_cases hBa : l.any (fun b => !decide b.ok) = true
    · have hE : compE l most = 1 := by unfold compE; rw [if_neg hA, if_pos hBa]
      have hR : compR l most = [] := by unfold compR; rw [hE]; rfl
      rw [hE, hR, List.map_nil]
      refine Pure.weak (r := .tup [.emp, .int .i64 1]) ?_ (fun E v hv => tup_fst hv fun u hu => emp_sl hu)
      rw [hBa] at cf
      (refine pure_of_ev tt_ok Try.func9 rfl (by decide +kernel) (Nat.le_of_ble_eq_true rfl) ?_; simp only [Try.f9])
      repeat' first
        | refine ev_seq (fun K hK => ?_)
        | ((first | refine evr tt_ok false ?_ | refine ev_skip ?_ | refine ev_ret ?_ | refine ev_exit ?_ | refine evc (fun X Y hX hY => ?_)); simp only [go_sem, reduceAdd, reduceSub, reduceMul, reduceEqDiff, reduceLeDiff, Nat.reduceBEq, reduceLT, reduceIte, reduceCtorEq, Int.reduceToNat, h1, h2, h3, List.length_map]; try (first | (refine ⟨fun h => hX ?_, fun h => hY ?_⟩; clear hX hY) | (refine hX ?_; clear hX hY) | (refine hY ?_; clear hX hY)))
        | refine ev_block ?_
        | (apply hK; clear hK)
        | apply_assumption -exfalso -symm only [*]
        | (refine And.intro ?_ ?_; first | omega | assumption | (unfold maxLen; omega) | (simp only [decide_eq_true_eq, decide_eq_false_iff_not, Int.not_lt, Int.not_le] at h; omega))
        | ((first | apply callP | apply callPG | apply callP0); (case' hv => (simp only [go_sem, reduceAdd, reduceSub, reduceMul, reduceEqDiff, reduceLeDiff, Nat.reduceBEq, reduceLT, reduceIte, reduceCtorEq, Int.reduceToNat, h1, h2, h3, List.length_map]; try exact rfl)); (case' hp => (first | refine' cf | (refine' (fun hg => ?_); refine' cf))); (case' h => ((first | refine evOps_fin ?_ | refine And.intro ?_ (evD_fin ?_) | refine evD_fin ?_) <;> simp only [go_sem, reduceAdd, reduceSub, reduceMul, reduceEqDiff, reduceLeDiff, Nat.reduceBEq, reduceLT, reduceIte, reduceCtorEq, Int.reduceToNat, h1, h2, h3, List.length_map])))
        | (refine callX ?_; (first | refine evOps_fin ?_ | refine And.intro ?_ (evD_fin ?_) | refine evD_fin ?_) <;> simp only [go_sem, reduceAdd, reduceSub, reduceMul, reduceEqDiff, reduceLeDiff, Nat.reduceBEq, reduceLT, reduceIte, reduceCtorEq, Int.reduceToNat, h1, h2, h3, List.length_map])
    · have hE : compE l most = 0 := by unfold compE; rw [if_neg hA, if_neg hBa]
      have hR : compR l most = itM (l.length - most.toNat) l := by unfold compR; rw [hE]; rfl
      have hok : okAll l := fun b hb => by
        by_cases h : b.ok
        · exact h
        · exact absurd (List.any_eq_true.2 ⟨b, hb, by simpa using h⟩) hBa
      rw [Bool.eq_false_iff.2 hBa] at cf
      rw [hE, hR]
      obtain ⟨n, hn⟩ : ∃ n : Nat, most = n := ⟨most.toNat, by omega⟩
      subst hn
      simp only [Int.toNat_natCast]
      by_cases hne : l = []
      · subst hne
        have cp := clone06_pure [] (by simp)
        have h0 : ¬ ((n : Int) < ((0 : Nat) : Int)) := by omega
        have e0 : itM (([] : List Box).length - n) [] = [] := by simp [itM]
        rw [e0]
        simp only [List.map_nil] at cf cp ⊢
        have h3' : ¬ ((256 : Int) < ((0 : Nat) : Int)) := by omega
        (refine pure_of_ev tt_ok Try.func9 rfl (by decide +kernel) (Nat.le_of_ble_eq_true rfl) ?_; simp only [Try.f9])
        repeat' first
          | refine ev_seq (fun K hK => ?_)
          | ((first | refine evr tt_ok false ?_ | refine ev_skip ?_ | refine ev_ret ?_ | refine ev_exit ?_ | refine evc (fun X Y hX hY => ?_)); simp only [go_sem, reduceAdd, reduceSub, reduceMul, reduceEqDiff, reduceLeDiff, Nat.reduceBEq, reduceLT, reduceIte, reduceCtorEq, Int.reduceToNat, h1, h2, h3', h0, List.length_nil]; try (first | (refine ⟨fun h => hX ?_, fun h => hY ?_⟩; clear hX hY) | (refine hX ?_; clear hX hY) | (refine hY ?_; clear hX hY)))
          | refine ev_block ?_
          | (apply hK; clear hK)
          | apply_assumption -exfalso -symm only [*]
          | (refine And.intro ?_ ?_; first | omega | assumption | (unfold maxLen; omega) | (simp only [decide_eq_true_eq, decide_eq_false_iff_not, Int.not_lt, Int.not_le] at h; omega))
          | ((first | apply callP | apply callPG | apply callP0); (case' hv => (simp only [go_sem, reduceAdd, reduceSub, reduceMul, reduceEqDiff, reduceLeDiff, Nat.reduceBEq, reduceLT, reduceIte, reduceCtorEq, Int.reduceToNat, h1, h2, h3', h0, List.length_nil]; try exact rfl)); (case' hp => (first | refine' cf | (refine' (fun hg => ?_); refine' cf) | refine' cp | (refine' (fun hg => ?_); refine' cp))); (case' h => ((first | refine evOps_fin ?_ | refine And.intro ?_ (evD_fin ?_) | refine evD_fin ?_) <;> simp only [go_sem, reduceAdd, reduceSub, reduceMul, reduceEqDiff, reduceLeDiff, Nat.reduceBEq, reduceLT, reduceIte, reduceCtorEq, Int.reduceToNat, h1, h2, h3', h0, List.length_nil])))
          | (refine callX ?_; (first | refine evOps_fin ?_ | refine And.intro ?_ (evD_fin ?_) | refine evD_fin ?_) <;> simp only [go_sem, reduceAdd, reduceSub, reduceMul, reduceEqDiff, reduceLeDiff, Nat.reduceBEq, reduceLT, reduceIte, reduceCtorEq, Int.reduceToNat, h1, h2, h3', h0, List.length_nil])
        refine ev_loop (fun _ : Unit => True) (fun _ => ⟨45, [(6, .sl []), (1, .int .i64 (n : Int))], []⟩) (fun _ => 0) () trivial ?_ ?_
        · simp only [go_sem, reduceAdd, reduceSub, reduceMul, reduceEqDiff, reduceLeDiff, Nat.reduceBEq, reduceLT, reduceIte, reduceCtorEq, Int.reduceToNat, fits, fitT, fitOs, fitO, V.under, unders, rowsUnder]
          repeat' first | rfl | (simp only [V.under, unders, rowsUnder, Nat.reduceLT]; done) | apply And.intro
        · intro u _
          repeat' first
            | refine ev_seq (fun K hK => ?_)
            | ((first | refine evr tt_ok false ?_ | refine ev_skip ?_ | refine ev_ret ?_ | refine ev_exit ?_ | refine evc (fun X Y hX hY => ?_)); simp only [go_sem, reduceAdd, reduceSub, reduceMul, reduceEqDiff, reduceLeDiff, Nat.reduceBEq, reduceLT, reduceIte, reduceCtorEq, Int.reduceToNat, h0, List.length_nil]; try (first | (refine ⟨fun h => hX ?_, fun h => hY ?_⟩; clear hX hY) | (refine hX ?_; clear hX hY) | (refine hY ?_; clear hX hY)))
            | refine ev_block ?_
            | (apply hK; clear hK)
            | apply_assumption -exfalso -symm only [*]
            | (refine And.intro ?_ ?_; first | omega | assumption | (unfold maxLen; omega) | (simp only [decide_eq_true_eq, decide_eq_false_iff_not, Int.not_lt, Int.not_le] at h; omega))
      · (refine pure_of_ev tt_ok Try.func9 rfl (by decide +kernel) (Nat.le_of_ble_eq_true rfl) ?_; simp only [Try.f9])
        repeat' first
          | refine ev_seq (fun K hK => ?_)
          | ((first | refine evr tt_ok true ?_ | refine ev_skip ?_ | refine ev_ret ?_ | refine ev_exit ?_ | refine evc (fun X Y hX hY => ?_)); simp only [go_sem, reduceAdd, reduceSub, reduceMul, reduceEqDiff, reduceLeDiff, Nat.reduceBEq, reduceLT, reduceIte, reduceCtorEq, Int.reduceToNat, h1, h2, h3, List.length_map]; try (first | (refine ⟨fun h => hX ?_, fun h => hY ?_⟩; clear hX hY) | (refine hX ?_; clear hX hY) | (refine hY ?_; clear hX hY)))
          | refine ev_block ?_
          | (apply hK; clear hK)
          | apply_assumption -exfalso -symm only [*]
          | (refine And.intro ?_ ?_; first | omega | assumption | (unfold maxLen; omega) | (simp only [decide_eq_true_eq, decide_eq_false_iff_not, Int.not_lt, Int.not_le] at h; omega))
          | ((first | apply callP | apply callPG | apply callP0); (case' hv => (simp only [go_sem, reduceAdd, reduceSub, reduceMul, reduceEqDiff, reduceLeDiff, Nat.reduceBEq, reduceLT, reduceIte, reduceCtorEq, Int.reduceToNat, h1, h2, h3, List.length_map]; try exact rfl)); (case' hp => (first | refine' cf | (refine' (fun hg => ?_); refine' cf))); (case' h => ((first | refine evOps_fin ?_ | refine And.intro ?_ (evD_fin ?_) | refine evD_fin ?_) <;> simp only [go_sem, reduceAdd, reduceSub, reduceMul, reduceEqDiff, reduceLeDiff, Nat.reduceBEq, reduceLT, reduceIte, reduceCtorEq, Int.reduceToNat, h1, h2, h3, List.length_map])))
          | ((first | apply callE | apply callEG | apply callE0); (case' hp => (first | ((first | refine' clone06_run (j := 0) ?_ l hne (by omega) | (refine' (fun hg => ?_); refine' clone06_run (j := 0) ?_ l hne (by omega))); all_goals first | (fail_if_success refine prop_id ?_; skip) | omega | assumption | (simp only [go_sem, reduceAdd, reduceSub, reduceMul, reduceEqDiff, reduceLeDiff, Nat.reduceBEq, reduceLT, reduceIte, reduceCtorEq, Int.reduceToNat, h1, h2, h3, List.length_map]; first | done | exact rfl | omega) | (refine' Eq.trans ?_ ?_; (focus (simp only [go_sem, reduceAdd, reduceSub, reduceMul, reduceEqDiff, reduceLeDiff, Nat.reduceBEq, reduceLT, reduceIte, reduceCtorEq, Int.reduceToNat, h1, h2, h3, List.length_map]; exact rfl)); exact rfl)))); (case' h => ((first | refine evOps_fin ?_ | refine And.intro ?_ (evD_fin ?_) | refine evD_fin ?_) <;> simp only [go_sem, reduceAdd, reduceSub, reduceMul, reduceEqDiff, reduceLeDiff, Nat.reduceBEq, reduceLT, reduceIte, reduceCtorEq, Int.reduceToNat, h1, h2, h3, List.length_map])))
          | (refine callX ?_; (first | refine evOps_fin ?_ | refine And.intro ?_ (evD_fin ?_) | refine evD_fin ?_) <;> simp only [go_sem, reduceAdd, reduceSub, reduceMul, reduceEqDiff, reduceLeDiff, Nat.reduceBEq, reduceLT, reduceIte, reduceCtorEq, Int.reduceToNat, h1, h2, h3, List.length_map])
        have hl0 : 1 ≤ l.length := by
          cases l with
          | nil => exact absurd rfl hne
          | cons _ _ => simp
        refine ev_loop (fun x : Nat × List Box => x.2.length = l.length ∧ ∃ m, x.1 + m = l.length ∧ m + 1 ≤ l.length ∧ x.2.take x.1 = itM m l ∧ (m = 0 ∨ n ≤ x.1))
          (fun x => ⟨45, [(6, .rs 0 1 0 x.1), (1, .int .i64 (n : Int))], [.blk 33 1 6 (x.2.map encBox)]⟩) (fun x => x.1) (l.length, l) ⟨rfl, 0, rfl, hl0, List.take_length .., .inl rfl⟩ ?_ ?_
        · simp only [go_sem, reduceAdd, reduceSub, reduceMul, reduceEqDiff, reduceLeDiff, Nat.reduceBEq, reduceLT, reduceIte, reduceCtorEq, Int.reduceToNat, fits, fitT, fitOs, fitO, V.under, unders, rowsUnder]
          repeat' first | rfl | exact rowsUnder_lit _ (lit_box _) | (simp only [V.under, unders, rowsUnder, Nat.reduceLT]; done) | apply And.intro
        · rintro ⟨hi, R⟩ ⟨hR, m, hm, hm1, ht, hor⟩
          simp only at hR hm ht hor ⊢
          obtain ⟨ok1, len1⟩ := itM_all hok m hm1
          by_cases hc : (n : Int) < (hi : Int)
          · obtain ⟨a, b, hp, hab, hbl⟩ := pick_some (l := itM m l) (by omega)
            obtain ⟨d, rfl⟩ : ∃ d, hi = b + d + 1 := ⟨hi - b - 1, by omega⟩
            have ch := cheapest_pure (itM m l) (fun i hi => okAll_at ok1 hi) (by omega)
            have htk : List.take (b + d + 1) (R.map encBox) = (itM m l).map encBox := by rw [← List.map_take, ht]
            have hsz : itM (m + 1) l = ((itM m l).set a (hB (itM m l) a b)).eraseIdx b := by
              show sqz (itM m l) = _
              unfold sqz; rw [hp]
            rw [hp] at ch
            rw [show fO (some (a, b)) = (a : Int) from rfl, show sO (some (a, b)) = (b : Int) from rfl, show hO (itM m l) (some (a, b)) = hB (itM m l) a b from rfl] at ch
            simp only [encBox] at ch
            generalize hB (itM m l) a b = h at ch hsz
            have hw : IntKind.i64.wrap ((b : Int) + 1) = ((b + 1 : Nat) : Int) := by rw [w64] <;> omega
            have ha0 : 0 ≤ (a : Int) := by omega
            have ha1 : (a : Int) < ((b + d + 1 : Nat) : Int) := by omega
            have hset : (R.map encBox).set a [.int .i64 h.x0, .int .i64 h.y0, .int .i64 h.x1, .int .i64 h.y1, .int .i64 h.f, .int .i64 h.c] = (R.set a h).map encBox := by rw [List.map_set]; rfl
            have hal : a < R.length := by omega
            have hga := box_get R a
            have hbl2 : b + d + 1 ≤ l.length := by omega
            have dl := fun ow ho => delete06_run (ow := ow) (j := 0) (ver := 1) (R.set a h) ho b d (by rw [List.length_set]; omega) (by rw [List.length_set]; omega)
            repeat' first
              | refine ev_seq (fun K hK => ?_)
              | ((first | refine evr tt_ok false ?_ | refine ev_skip ?_ | refine ev_ret ?_ | refine ev_exit ?_ | refine evc (fun X Y hX hY => ?_)); simp only [go_sem, reduceAdd, reduceSub, reduceMul, reduceEqDiff, reduceLeDiff, Nat.reduceBEq, reduceLT, reduceIte, reduceCtorEq, Int.reduceToNat, hc, hw, ha0, ha1, hga, hset, htk, hal, hR, hbl2, vrows_lit _ (lit_box (itM m l)), List.length_map, List.length_set, Int.toNat_natCast, Nat.sub_zero, Nat.le_refl]; try (first | (refine ⟨fun h => hX ?_, fun h => hY ?_⟩; clear hX hY) | (refine hX ?_; clear hX hY) | (refine hY ?_; clear hX hY)))
              | refine ev_block ?_
              | (apply hK; clear hK)
              | apply_assumption -exfalso -symm only [*]
              | (refine And.intro ?_ ?_; first | omega | assumption | (unfold maxLen; omega) | (simp only [decide_eq_true_eq, decide_eq_false_iff_not, Int.not_lt, Int.not_le] at h; omega))
              | ((first | apply callL | apply callLG | apply callL0); (case' hv => (simp only [go_sem, reduceAdd, reduceSub, reduceMul, reduceEqDiff, reduceLeDiff, Nat.reduceBEq, reduceLT, reduceIte, reduceCtorEq, Int.reduceToNat, hc, hw, ha0, ha1, hga, hset, htk, hal, hR, hbl2, vrows_lit _ (lit_box (itM m l)), List.length_map, List.length_set, Int.toNat_natCast, Nat.sub_zero, Nat.le_refl]; try exact rfl)); (case' hp => (first | refine' ch | (refine' (fun hg => ?_); refine' ch))); (case' hf => exact rfl); (case' h => ((first | refine evOps_fin ?_ | refine And.intro ?_ (evD_fin ?_) | refine evD_fin ?_) <;> simp only [go_sem, reduceAdd, reduceSub, reduceMul, reduceEqDiff, reduceLeDiff, Nat.reduceBEq, reduceLT, reduceIte, reduceCtorEq, Int.reduceToNat, hc, hw, ha0, ha1, hga, hset, htk, hal, hR, hbl2, vrows_lit _ (lit_box (itM m l)), List.length_map, List.length_set, Int.toNat_natCast, Nat.sub_zero, Nat.le_refl])))
              | ((first | apply callE | apply callEG | apply callE0); (case' hp => (first | ((first | refine' dl _ ?_ | (refine' (fun hg => ?_); refine' dl _ ?_)); all_goals first | (fail_if_success refine prop_id ?_; skip) | omega | assumption | (simp only [go_sem, reduceAdd, reduceSub, reduceMul, reduceEqDiff, reduceLeDiff, Nat.reduceBEq, reduceLT, reduceIte, reduceCtorEq, Int.reduceToNat, hc, hw, ha0, ha1, hga, hset, htk, hal, hR, hbl2, vrows_lit _ (lit_box (itM m l)), List.length_map, List.length_set, Int.toNat_natCast, Nat.sub_zero, Nat.le_refl]; first | done | exact rfl | omega) | (refine' Eq.trans ?_ ?_; (focus (simp only [go_sem, reduceAdd, reduceSub, reduceMul, reduceEqDiff, reduceLeDiff, Nat.reduceBEq, reduceLT, reduceIte, reduceCtorEq, Int.reduceToNat, hc, hw, ha0, ha1, hga, hset, htk, hal, hR, hbl2, vrows_lit _ (lit_box (itM m l)), List.length_map, List.length_set, Int.toNat_natCast, Nat.sub_zero, Nat.le_refl]; exact rfl)); exact rfl)))); (case' h => ((first | refine evOps_fin ?_ | refine And.intro ?_ (evD_fin ?_) | refine evD_fin ?_) <;> simp only [go_sem, reduceAdd, reduceSub, reduceMul, reduceEqDiff, reduceLeDiff, Nat.reduceBEq, reduceLT, reduceIte, reduceCtorEq, Int.reduceToNat, hc, hw, ha0, ha1, hga, hset, htk, hal, hR, hbl2, vrows_lit _ (lit_box (itM m l)), List.length_map, List.length_set, Int.toNat_natCast, Nat.sub_zero, Nat.le_refl])))
              | (refine callX ?_; (first | refine evOps_fin ?_ | refine And.intro ?_ (evD_fin ?_) | refine evD_fin ?_) <;> simp only [go_sem, reduceAdd, reduceSub, reduceMul, reduceEqDiff, reduceLeDiff, Nat.reduceBEq, reduceLT, reduceIte, reduceCtorEq, Int.reduceToNat, hc, hw, ha0, ha1, hga, hset, htk, hal, hR, hbl2, vrows_lit _ (lit_box (itM m l)), List.length_map, List.length_set, Int.toNat_natCast, Nat.sub_zero, Nat.le_refl])
            have hRl : b + d + 1 ≤ (R.set a h).length := by rw [List.length_set]; omega
            exact ⟨(b + d, delR (R.set a h) b d), ⟨by rw [delR_len hRl, List.length_set]; exact hR, m + 1, by simp only; omega, by omega, by rw [delR_take hRl, List.take_set, ht, hsz], .inr (by simp only; omega)⟩, ⟨rfl, rfl, rowsUnder_lit _ (lit_box _)⟩, by simp only; omega⟩
          · have e : l.length - n = m := by omega
            have htk : List.take hi (R.map encBox) = (itM m l).map encBox := by rw [← List.map_take, ht]
            have hhi : hi ≤ l.length := by omega
            repeat' first
              | refine ev_seq (fun K hK => ?_)
              | ((first | refine evr tt_ok false ?_ | refine ev_skip ?_ | refine ev_ret ?_ | refine ev_exit ?_ | refine evc (fun X Y hX hY => ?_)); simp only [go_sem, reduceAdd, reduceSub, reduceMul, reduceEqDiff, reduceLeDiff, Nat.reduceBEq, reduceLT, reduceIte, reduceCtorEq, Int.reduceToNat, hc, hhi, hR, List.length_map, vrows_lit _ (lit_box (itM m l)), Nat.le_refl, Nat.sub_zero, htk]; try (first | (refine ⟨fun h => hX ?_, fun h => hY ?_⟩; clear hX hY) | (refine hX ?_; clear hX hY) | (refine hY ?_; clear hX hY)))
              | refine ev_block ?_
              | (apply hK; clear hK)
              | apply_assumption -exfalso -symm only [*]
              | (refine And.intro ?_ ?_; first | omega | assumption | (unfold maxLen; omega) | (simp only [decide_eq_true_eq, decide_eq_false_iff_not, Int.not_lt, Int.not_le] at h; omega))
            rw [e]
end Go.Proofs.Ytmpmggbcmioipaa
