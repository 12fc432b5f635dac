import Derived.Test.YtbibplkhhdomnaaGreatW38
set_option linter.all false
namespace Go.Proofs.YtbibplkhhdomnaaGreat
open Nat (reduceAdd reduceSub reduceMul reduceEqDiff reduceLeDiff reduceLT)
open Go Go.K
set_option maxRecDepth 20000
set_option maxHeartbeats 32000000
def fieldX (z : V) : Prop := ∃ (f : Fld) (e : Int), bytesL f.v ∧ z = .tup [.agg (encF f), .int .i64 e]
def field0X (z : V) : Prop := (∃ e, z = .tup [.agg [.int .i64 0, .int .i64 0, .int .i64 0, .int .i64 0, .emp], .int .i64 e]) ∨ fieldX z
def Ent.inR (e : Ent) : Prop := -16384 ≤ e.x ∧ e.x ≤ 16384 ∧ -16384 ≤ e.y ∧ e.y ≤ 16384
theorem good_in {e : Ent} (h : goodB e = true) : e.inR := by
  simp only [goodB, inWk, Bool.and_eq_true, decide_eq_true_eq] at h
  exact ⟨h.1.2.1, h.1.2.2, h.2.1, h.2.2⟩
theorem bytes_set {l : List Int} {k : Nat} {b : Int} (h : bytesL l) (hb : 0 ≤ b ∧ b ≤ 255) : bytesL (l.set k b) := fun x hx => by
  rcases List.mem_or_eq_of_mem_set hx with hx | rfl
  · exact h x hx
  · exact hb
theorem fieldOf_x (L : List Ent) (hl : L.length ≤ 1048576) : PureX Tryz.prog 12 [.sl (L.map encE)] field0X := by
  refine pureX_of_ev tt_ok Tryz.func12 rfl (by decide +kernel) (Nat.le_of_ble_eq_true rfl) ?_
  simp only [Tryz.f12]
  repeat' first
    | refine ev_seq (fun K hK => ?_)
    | refine ev_held (id := 1) ?_
    | ((first | refine evrd (id := 12) hmix tt_ok false [([], true), ([], true), ([], true), ([], true), ([], true), ([], true), ([], true), ([], true), ([0, 1, 2, 3, 4, 5, 6, 7], true), ([0, 1, 2, 3, 4, 5, 6, 7, 8], false), ([4, 5, 6, 7], false), ([], false)] (by decide +kernel) ?_ | refine evrd (id := 26) hmix tt_ok false [([], true), ([], true), ([], true), ([], true), ([], true), ([], true), ([], true), ([], true), ([], true), ([], true), ([], true), ([], true), ([], true), ([], true), ([], true), ([], true), ([], true), ([], true), ([], false), ([0, 1, 2, 3, 4, 5, 6, 7, 8, 9, 10, 11, 12, 13, 14, 15, 16, 17], false), ([], false), ([], false)] (by decide +kernel) ?_ | refine evr tt_ok false ?_ | refine ev_skip ?_ | refine ev_ret ?_ | refine ev_exit ?_ | refine evc (fun X Y hX hY => ?_)); simp only [go_sem, reduceAdd, reduceSub, reduceMul, reduceEqDiff, reduceLeDiff, Nat.reduceBEq, reduceLT, reduceIte, reduceCtorEq, Int.reduceToNat]; try (first | (refine ⟨fun h => hX ?_, fun h => hY ?_⟩; clear hX hY) | (refine hX ?_; clear hX hY) | (refine hY ?_; clear hX hY)))
    | refine ev_block ?_
    | (apply hK; clear hK)
    | apply_assumption -exfalso -symm only [*]
    | (refine And.intro ?_ ?_; first | omega | assumption | (unfold maxLen; omega) | (simp only [decide_eq_true_eq, decide_eq_false_iff_not, Int.not_lt, Int.not_le] at h; omega))
  refine Held.mk ?_
  refine ev_region3 tt_ok false ?_
  simp only [go_sem, reduceAdd, reduceSub, reduceMul, reduceEqDiff, reduceLeDiff, Nat.reduceBEq, reduceLT, reduceIte, reduceCtorEq, Int.reduceToNat]
  iterate 1 (refine ev3_step ?_; simp only [go_sem, reduceAdd, reduceSub, reduceMul, reduceEqDiff, reduceLeDiff, Nat.reduceBEq, reduceLT, reduceIte, reduceCtorEq, Int.reduceToNat])
  refine ev3_spec rfl (by simp only [go_sem, reduceAdd, reduceSub, reduceMul, reduceEqDiff, reduceLeDiff, Nat.reduceBEq, reduceLT, reduceIte, reduceCtorEq, Int.reduceToNat]) (specS_pure (valid_s L (by omega)) (by simp only [go_sem, reduceAdd, reduceSub, reduceMul, reduceEqDiff, reduceLeDiff, Nat.reduceBEq, reduceLT, reduceIte, reduceCtorEq, Int.reduceToNat]; rfl) (by simp only [go_sem, reduceAdd, reduceSub, reduceMul, reduceEqDiff, reduceLeDiff, Nat.reduceBEq, reduceLT, reduceIte, reduceCtorEq, Int.reduceToNat]) (by simp only [go_sem, reduceAdd, reduceSub, reduceMul, reduceEqDiff, reduceLeDiff, Nat.reduceBEq, reduceLT, reduceIte, reduceCtorEq, Int.reduceToNat])) ?_
  rintro z ⟨_, ⟨b, rfl, hg⟩, rfl⟩
  simp only [go_sem, reduceAdd, reduceSub, reduceMul, reduceEqDiff, reduceLeDiff, Nat.reduceBEq, reduceLT, reduceIte, reduceCtorEq, Int.reduceToNat]
  iterate 1 (refine ev3_step ?_; simp only [go_sem, reduceAdd, reduceSub, reduceMul, reduceEqDiff, reduceLeDiff, Nat.reduceBEq, reduceLT, reduceIte, reduceCtorEq, Int.reduceToNat])
  refine ev3_nil ?_
  apply hK; clear hK
  repeat' first
    | refine ev_seq (fun K hK => ?_)
    | ((first | refine evrd (id := 12) hmix tt_ok false [([], true), ([], true), ([], true), ([], true), ([], true), ([], true), ([], true), ([], true), ([0, 1, 2, 3, 4, 5, 6, 7], true), ([0, 1, 2, 3, 4, 5, 6, 7, 8], false), ([4, 5, 6, 7], false), ([], false)] (by decide +kernel) ?_ | refine evrd (id := 26) hmix tt_ok false [([], true), ([], true), ([], true), ([], true), ([], true), ([], true), ([], true), ([], true), ([], true), ([], true), ([], true), ([], true), ([], true), ([], true), ([], true), ([], true), ([], true), ([], true), ([], false), ([0, 1, 2, 3, 4, 5, 6, 7, 8, 9, 10, 11, 12, 13, 14, 15, 16, 17], false), ([], false), ([], false)] (by decide +kernel) ?_ | refine evr tt_ok false ?_ | refine ev_skip ?_ | refine ev_ret ?_ | refine ev_exit ?_ | refine evc (fun X Y hX hY => ?_)); simp only [go_sem, reduceAdd, reduceSub, reduceMul, reduceEqDiff, reduceLeDiff, Nat.reduceBEq, reduceLT, reduceIte, reduceCtorEq, Int.reduceToNat, List.length_map]; try (first | (refine ⟨fun h => hX ?_, fun h => hY ?_⟩; clear hX hY) | (refine hX ?_; clear hX hY) | (refine hY ?_; clear hX hY)))
    | refine ev_block ?_
    | (apply hK; clear hK)
    | apply_assumption -exfalso -symm only [*]
    | (refine And.intro ?_ ?_; first | omega | assumption | (unfold maxLen; omega) | (simp only [decide_eq_true_eq, decide_eq_false_iff_not, Int.not_lt, Int.not_le] at h; omega))
  · refine ⟨_, .inl ⟨_, rfl⟩, ?_, rfl⟩
    simp only [go_sem, reduceAdd, reduceSub, reduceMul, reduceEqDiff, reduceLeDiff, Nat.reduceBEq, reduceLT, reduceIte, reduceCtorEq, Int.reduceToNat]
  have hb : b = true := by cases b with | true => rfl | false => simp at h
  have hg := hg hb
  refine ev_adopt 4 95 4 (by decide) rfl ?_
  refine ev_loop (fun z : Nat × List Ent => z.1 ≤ L.length ∧ z.2.length ≤ z.1 ∧ ∀ e ∈ z.2, e.inR)
    (fun z => ⟨139, [(20, .int .i64 ((z.1 : Nat) : Int)), (19, .int .i64 (L.length : Int)), (18, .sl (L.map encE)), (4, .rs 1 z.2.length 0 z.2.length), (2, .own 0 0 0 0)],
      [.blk 35 0 5 [[.int .i64 0, .int .i64 0, .int .i64 0, .int .i64 0, .emp]], .blk 95 z.2.length 4 (z.2.map encE)]⟩)
    (fun z => L.length - z.1) (0, []) ⟨by simp, by simp, by simp⟩ ?_ ?_
  · simp only [go_sem, reduceAdd, reduceSub, reduceMul, reduceEqDiff, reduceLeDiff, Nat.reduceBEq, reduceLT, reduceIte, reduceCtorEq, Int.reduceToNat, fits, fitT, fitOs, fitO, V.under, unders, rowsUnder]
    repeat' first | rfl | exact rowsUnder_lit _ (lit_encE _) | apply And.intro
  · rintro ⟨i, Kc⟩ ⟨hi, hkl, hk⟩
    simp only at hi hkl hk
    have hb0 : 0 ≤ (i : Int) := by omega
    have hw : IntKind.i64.wrap ((i : Int) + 1) = ((i + 1 : Nat) : Int) := by rw [w64] <;> omega
    by_cases hlt : (i : Int) < ((L.length : Nat) : Int)
    · have hgt := ent_get L i
      have hin := good_in (hg i (by omega))
      obtain ⟨vv, _, vp⟩ := value_x (L.getD i ⟨0, 0, 0, 0⟩)
      clear hg
      generalize L.getD i ⟨0, 0, 0, 0⟩ = q at *
      simp only [encE] at hgt vp
      have hq : 1 ≤ maxLen ∧ Kc.length + 1 ≤ maxLen ∧ (Kc.length + 1) * 32 ≤ 140737488355328 := by
        have : maxLen = 9223372036854775807 := rfl
        omega
      repeat' first
        | refine ev_seq (fun K hK => ?_)
        | ((first | refine evrd (id := 12) hmix tt_ok false [([], true), ([], true), ([], true), ([], true), ([], true), ([], true), ([], true), ([], true), ([0, 1, 2, 3, 4, 5, 6, 7], true), ([0, 1, 2, 3, 4, 5, 6, 7, 8], false), ([4, 5, 6, 7], false), ([], false)] (by decide +kernel) ?_ | refine evrd (id := 26) hmix tt_ok false [([], true), ([], true), ([], true), ([], true), ([], true), ([], true), ([], true), ([], true), ([], true), ([], true), ([], true), ([], true), ([], true), ([], true), ([], true), ([], true), ([], true), ([], true), ([], false), ([0, 1, 2, 3, 4, 5, 6, 7, 8, 9, 10, 11, 12, 13, 14, 15, 16, 17], false), ([], false), ([], false)] (by decide +kernel) ?_ | refine evr tt_ok false ?_ | refine ev_skip ?_ | refine ev_ret ?_ | refine ev_exit ?_ | refine evc (fun X Y hX hY => ?_)); simp only [go_sem, reduceAdd, reduceSub, reduceMul, reduceEqDiff, reduceLeDiff, Nat.reduceBEq, reduceLT, reduceIte, reduceCtorEq, Int.reduceToNat, hb0, hlt, hw, hgt, List.length_map, Int.toNat_natCast]; try (first | (refine ⟨fun h => hX ?_, fun h => hY ?_⟩; clear hX hY) | (refine hX ?_; clear hX hY) | (refine hY ?_; clear hX hY)))
        | refine ev_block ?_
        | (apply hK; clear hK)
        | apply_assumption -exfalso -symm only [*]
        | (refine And.intro ?_ ?_; first | omega | assumption | (unfold maxLen; omega) | (simp only [decide_eq_true_eq, decide_eq_false_iff_not, Int.not_lt, Int.not_le] at h; omega))
        | ((first | apply callP | apply callPG | apply callP0); (case' hv => (simp only [go_sem, reduceAdd, reduceSub, reduceMul, reduceEqDiff, reduceLeDiff, Nat.reduceBEq, reduceLT, reduceIte, reduceCtorEq, Int.reduceToNat, hb0, hlt, hw, hgt, List.length_map, Int.toNat_natCast]; try exact rfl)); (case' hp => (first | refine' vp | (refine' (fun hg => ?_); refine' vp))); (case' h => ((first | refine evOps_fin ?_ | refine And.intro ?_ (evD_fin ?_) | refine evD_fin ?_) <;> simp only [go_sem, reduceAdd, reduceSub, reduceMul, reduceEqDiff, reduceLeDiff, Nat.reduceBEq, reduceLT, reduceIte, reduceCtorEq, Int.reduceToNat, hb0, hlt, hw, hgt, List.length_map, Int.toNat_natCast])))
        | (refine callX ?_; (first | refine evOps_fin ?_ | refine And.intro ?_ (evD_fin ?_) | refine evD_fin ?_) <;> simp only [go_sem, reduceAdd, reduceSub, reduceMul, reduceEqDiff, reduceLeDiff, Nat.reduceBEq, reduceLT, reduceIte, reduceCtorEq, Int.reduceToNat, hb0, hlt, hw, hgt, List.length_map, Int.toNat_natCast])
      · refine ⟨(i + 1, Kc ++ [q]), ⟨by simp only; omega, by simp only [List.length_append, List.length_cons, List.length_nil]; omega, fun e he => ?_⟩, ⟨⟨rfl, by simp⟩, by simp, by rw [List.map_append]; rfl, rowsUnder_lit _ (lit_encE _)⟩, by simp only; omega⟩
        rcases List.mem_append.1 he with he | he
        · exact hk e he
        · rw [List.mem_singleton.1 he]; exact hin
      · exact ⟨(i + 1, Kc), ⟨by simp only; omega, by simp only; omega, hk⟩, ⟨⟨rfl, rfl⟩, rfl, rfl, rowsUnder_lit _ (lit_encE _)⟩, by simp only; omega⟩
    · by_cases hz : Kc = []
      · subst hz
        repeat' first
          | refine ev_seq (fun K hK => ?_)
          | ((first | refine evrd (id := 12) hmix tt_ok false [([], true), ([], true), ([], true), ([], true), ([], true), ([], true), ([], true), ([], true), ([0, 1, 2, 3, 4, 5, 6, 7], true), ([0, 1, 2, 3, 4, 5, 6, 7, 8], false), ([4, 5, 6, 7], false), ([], false)] (by decide +kernel) ?_ | refine evrd (id := 26) hmix tt_ok false [([], true), ([], true), ([], true), ([], true), ([], true), ([], true), ([], true), ([], true), ([], true), ([], true), ([], true), ([], true), ([], true), ([], true), ([], true), ([], true), ([], true), ([], true), ([], false), ([0, 1, 2, 3, 4, 5, 6, 7, 8, 9, 10, 11, 12, 13, 14, 15, 16, 17], false), ([], false), ([], false)] (by decide +kernel) ?_ | refine evr tt_ok false ?_ | refine ev_skip ?_ | refine ev_ret ?_ | refine ev_exit ?_ | refine evc (fun X Y hX hY => ?_)); simp only [go_sem, reduceAdd, reduceSub, reduceMul, reduceEqDiff, reduceLeDiff, Nat.reduceBEq, reduceLT, reduceIte, reduceCtorEq, Int.reduceToNat, hlt, List.length_nil, List.map_nil, Int.natCast_zero, Int.reduceBEq]; try (first | (refine ⟨fun h => hX ?_, fun h => hY ?_⟩; clear hX hY) | (refine hX ?_; clear hX hY) | (refine hY ?_; clear hX hY)))
          | refine ev_block ?_
          | (apply hK; clear hK)
          | apply_assumption -exfalso -symm only [*]
          | (refine And.intro ?_ ?_; first | omega | assumption | (unfold maxLen; omega) | (simp only [decide_eq_true_eq, decide_eq_false_iff_not, Int.not_lt, Int.not_le] at h; omega))
        refine ⟨_, .inl ⟨_, rfl⟩, ?_, rfl⟩
        simp only [go_sem, reduceAdd, reduceSub, reduceMul, reduceEqDiff, reduceLeDiff, Nat.reduceBEq, reduceLT, reduceIte, reduceCtorEq, Int.reduceToNat]
      · have hz2 : ((Kc.length : Int) == 0) = false := by simp; exact hz
        have hpos : 0 < Kc.length := by
          rcases Kc with _ | ⟨e, r⟩
          · exact absurd rfl hz
          · simp
        have hpos2 : (0 : Int) < ((Kc.length : Nat) : Int) := by omega
        have hkg : ∀ j, j < Kc.length → (Kc.getD j ⟨0, 0, 0, 0⟩).inR := fun j hj => hk _ (by
          rw [List.getD_eq_getElem?_getD, List.getElem?_eq_getElem hj]; exact List.getElem_mem hj)
        have g0 := ent_get Kc 0
        have k0 := hkg 0 hpos
        generalize Kc.getD 0 ⟨0, 0, 0, 0⟩ = q0 at *
        simp only [encE] at g0
        repeat' first
          | refine ev_seq (fun K hK => ?_)
          | ((first | refine evrd (id := 12) hmix tt_ok false [([], true), ([], true), ([], true), ([], true), ([], true), ([], true), ([], true), ([], true), ([0, 1, 2, 3, 4, 5, 6, 7], true), ([0, 1, 2, 3, 4, 5, 6, 7, 8], false), ([4, 5, 6, 7], false), ([], false)] (by decide +kernel) ?_ | refine evrd (id := 26) hmix tt_ok false [([], true), ([], true), ([], true), ([], true), ([], true), ([], true), ([], true), ([], true), ([], true), ([], true), ([], true), ([], true), ([], true), ([], true), ([], true), ([], true), ([], true), ([], true), ([], false), ([0, 1, 2, 3, 4, 5, 6, 7, 8, 9, 10, 11, 12, 13, 14, 15, 16, 17], false), ([], false), ([], false)] (by decide +kernel) ?_ | refine evr tt_ok false ?_ | refine ev_skip ?_ | refine ev_ret ?_ | refine ev_exit ?_ | refine evc (fun X Y hX hY => ?_)); simp only [go_sem, reduceAdd, reduceSub, reduceMul, reduceEqDiff, reduceLeDiff, Nat.reduceBEq, reduceLT, reduceIte, reduceCtorEq, Int.reduceToNat, hlt, hz2, hpos, hpos2, g0, List.length_map, Int.toNat_zero, Nat.zero_add, Nat.add_zero, Nat.le_refl]; try (first | (refine ⟨fun h => hX ?_, fun h => hY ?_⟩; clear hX hY) | (refine hX ?_; clear hX hY) | (refine hY ?_; clear hX hY)))
          | refine ev_block ?_
          | (apply hK; clear hK)
          | apply_assumption -exfalso -symm only [*]
          | (refine And.intro ?_ ?_; first | omega | assumption | (unfold maxLen; omega) | (simp only [decide_eq_true_eq, decide_eq_false_iff_not, Int.not_lt, Int.not_le] at h; omega))
        refine ev_loop (fun z : Nat × Int × Int × Int × Int => z.1 ≤ Kc.length ∧ (-16384 ≤ z.2.1 ∧ z.2.1 ≤ z.2.2.2.1 ∧ z.2.2.2.1 ≤ 16384) ∧ (-16384 ≤ z.2.2.1 ∧ z.2.2.1 ≤ z.2.2.2.2 ∧ z.2.2.2.2 ≤ 16384) ∧ ∀ j, j < z.1 → (z.2.1 ≤ (Kc.getD j ⟨0, 0, 0, 0⟩).x ∧ (Kc.getD j ⟨0, 0, 0, 0⟩).x ≤ z.2.2.2.1) ∧ (z.2.2.1 ≤ (Kc.getD j ⟨0, 0, 0, 0⟩).y ∧ (Kc.getD j ⟨0, 0, 0, 0⟩).y ≤ z.2.2.2.2))
          (fun z => ⟨139, [(46, .int .i64 ((z.1 : Nat) : Int)), (45, .int .i64 (Kc.length : Int)), (44, .rs 1 Kc.length 0 Kc.length), (4, .rs 1 Kc.length 0 Kc.length), (7, .own 2 0 0 0), (8, .own 3 0 0 0), (2, .own 0 0 0 0)],
            [.blk 35 0 5 [[.int .i64 0, .int .i64 0, .int .i64 0, .int .i64 0, .emp]], .blk 95 Kc.length 4 (Kc.map encE), .blk 88 0 2 [[.int .i64 z.2.1, .int .i64 z.2.2.1]], .blk 88 0 2 [[.int .i64 z.2.2.2.1, .int .i64 z.2.2.2.2]]]⟩)
          (fun z => Kc.length - z.1) (0, q0.x, q0.y, q0.x, q0.y) ⟨by simp, ⟨k0.1, Int.le_refl _, k0.2.1⟩, ⟨k0.2.2.1, Int.le_refl _, k0.2.2.2⟩, fun j hj => absurd hj (by simp)⟩ ?_ ?_
        · simp only [go_sem, reduceAdd, reduceSub, reduceMul, reduceEqDiff, reduceLeDiff, Nat.reduceBEq, reduceLT, reduceIte, reduceCtorEq, Int.reduceToNat, fits, fitT, fitOs, fitO, V.under, unders, rowsUnder]
          repeat' first | rfl | exact rowsUnder_lit _ (lit_encE _) | apply And.intro
        · rintro ⟨i, a, b, c, d⟩ ⟨hi, ha, hb, hj⟩
          simp only at hi ha hb hj
          have hb0 : 0 ≤ (i : Int) := by omega
          have hw : IntKind.i64.wrap ((i : Int) + 1) = ((i + 1 : Nat) : Int) := by rw [w64] <;> omega
          by_cases hlt : (i : Int) < ((Kc.length : Nat) : Int)
          · have hgt := ent_get Kc i
            have hin := hkg i (by omega)
            have hnew : ∀ q : Ent, Kc.getD i ⟨0, 0, 0, 0⟩ = q → ∀ j, j < i + 1 → (min a q.x ≤ (Kc.getD j ⟨0, 0, 0, 0⟩).x ∧ (Kc.getD j ⟨0, 0, 0, 0⟩).x ≤ max c q.x) ∧ (min b q.y ≤ (Kc.getD j ⟨0, 0, 0, 0⟩).y ∧ (Kc.getD j ⟨0, 0, 0, 0⟩).y ≤ max d q.y) := fun q e j hj2 => by
              by_cases e2 : j = i
              · subst e2; rw [e]; omega
              · have := hj j (by omega)
                omega
            have hnew := hnew _ rfl
            obtain ⟨n0, n1, n2, n3⟩ := hin
            clear hkg g0
            generalize hq : Kc.getD i ⟨0, 0, 0, 0⟩ = q at *
            simp only [encE] at hgt
            repeat' first
              | refine ev_seq (fun K hK => ?_)
              | ((first | refine evrd (id := 12) hmix tt_ok false [([], true), ([], true), ([], true), ([], true), ([], true), ([], true), ([], true), ([], true), ([0, 1, 2, 3, 4, 5, 6, 7], true), ([0, 1, 2, 3, 4, 5, 6, 7, 8], false), ([4, 5, 6, 7], false), ([], false)] (by decide +kernel) ?_ | refine evrd (id := 26) hmix tt_ok false [([], true), ([], true), ([], true), ([], true), ([], true), ([], true), ([], true), ([], true), ([], true), ([], true), ([], true), ([], true), ([], true), ([], true), ([], true), ([], true), ([], true), ([], true), ([], false), ([0, 1, 2, 3, 4, 5, 6, 7, 8, 9, 10, 11, 12, 13, 14, 15, 16, 17], false), ([], false), ([], false)] (by decide +kernel) ?_ | refine evr tt_ok false ?_ | refine ev_skip ?_ | refine ev_ret ?_ | refine ev_exit ?_ | refine evc (fun X Y hX hY => ?_)); simp only [go_sem, reduceAdd, reduceSub, reduceMul, reduceEqDiff, reduceLeDiff, Nat.reduceBEq, reduceLT, reduceIte, reduceCtorEq, Int.reduceToNat, hb0, hlt, hw, hgt, List.length_map, Int.toNat_natCast, Nat.zero_add, Nat.le_refl]; try (first | (refine ⟨fun h => hX ?_, fun h => hY ?_⟩; clear hX hY) | (refine hX ?_; clear hX hY) | (refine hY ?_; clear hX hY)))
              | refine ev_block ?_
              | (apply hK; clear hK)
              | apply_assumption -exfalso -symm only [*]
              | (refine And.intro ?_ ?_; first | omega | assumption | (unfold maxLen; omega) | (simp only [decide_eq_true_eq, decide_eq_false_iff_not, Int.not_lt, Int.not_le] at h; omega))
            exact ⟨(i + 1, min a q.x, min b q.y, max c q.x, max d q.y), ⟨by simp only; omega, by simp only; omega, by simp only; omega, hnew⟩, ⟨rfl, rowsUnder_lit _ (lit_encE _), by (repeat' first | rfl | apply And.intro)⟩, by simp only; omega⟩
          · have hia : i = Kc.length := by omega
            subst hia
            have w1 : IntKind.i64.wrap (c - a) = c - a := w64 (by omega) (by omega)
            have w2 : IntKind.i64.wrap (c - a + 1) = c - a + 1 := w64 (by omega) (by omega)
            have w3 : IntKind.i64.wrap (d - b) = d - b := w64 (by omega) (by omega)
            have w4 : IntKind.i64.wrap (d - b + 1) = d - b + 1 := w64 (by omega) (by omega)
            clear hkg g0 hk hg
            repeat' first
              | refine ev_seq (fun K hK => ?_)
              | refine ev_held (id := 22) ?_
              | ((first | refine evrd (id := 12) hmix tt_ok false [([], true), ([], true), ([], true), ([], true), ([], true), ([], true), ([], true), ([], true), ([0, 1, 2, 3, 4, 5, 6, 7], true), ([0, 1, 2, 3, 4, 5, 6, 7, 8], false), ([4, 5, 6, 7], false), ([], false)] (by decide +kernel) ?_ | refine evrd (id := 26) hmix tt_ok false [([], true), ([], true), ([], true), ([], true), ([], true), ([], true), ([], true), ([], true), ([], true), ([], true), ([], true), ([], true), ([], true), ([], true), ([], true), ([], true), ([], true), ([], true), ([], false), ([0, 1, 2, 3, 4, 5, 6, 7, 8, 9, 10, 11, 12, 13, 14, 15, 16, 17], false), ([], false), ([], false)] (by decide +kernel) ?_ | refine evr tt_ok false ?_ | refine ev_skip ?_ | refine ev_ret ?_ | refine ev_exit ?_ | refine evc (fun X Y hX hY => ?_)); simp only [go_sem, reduceAdd, reduceSub, reduceMul, reduceEqDiff, reduceLeDiff, Nat.reduceBEq, reduceLT, reduceIte, reduceCtorEq, Int.reduceToNat, hlt, w1, w2, w3, w4]; try (first | (refine ⟨fun h => hX ?_, fun h => hY ?_⟩; clear hX hY) | (refine hX ?_; clear hX hY) | (refine hY ?_; clear hX hY)))
              | refine ev_block ?_
              | (apply hK; clear hK)
              | apply_assumption -exfalso -symm only [*]
              | (refine And.intro ?_ ?_; first | omega | assumption | (unfold maxLen; omega) | (simp only [decide_eq_true_eq, decide_eq_false_iff_not, Int.not_lt, Int.not_le] at h; omega))
            · refine ⟨_, .inl ⟨_, rfl⟩, ?_, rfl⟩
              simp only [go_sem, reduceAdd, reduceSub, reduceMul, reduceEqDiff, reduceLeDiff, Nat.reduceBEq, reduceLT, reduceIte, reduceCtorEq, Int.reduceToNat]
            have hwh : c - a + 1 ≤ 64 ∧ d - b + 1 ≤ 64 := by
              simp only [Bool.or_eq_false_iff, decide_eq_false_iff_not] at h
              omega
            obtain ⟨m1, m2, m3⟩ := mul_ok (w := c - a + 1) (h := d - b + 1) (by omega) (by omega) (by omega) (by omega)
            obtain ⟨wd, hwd⟩ : ∃ wd, c - a + 1 = wd := ⟨_, rfl⟩
            obtain ⟨ht, hht⟩ : ∃ ht, d - b + 1 = ht := ⟨_, rfl⟩
            rw [hwd, hht] at m1 m2 m3
            obtain ⟨n, hn⟩ : ∃ n : Nat, wd * ht = n := ⟨(wd * ht).toNat, by omega⟩
            rw [hn] at m1 m2 m3
            have hn2 : n ≤ 16384 := by omega
            have h8 : n ≤ 281474976710656 := by omega
            have h0 : (0 : Int) ≤ (n : Int) := by omega
            have hm : n ≤ maxLen := by unfold maxLen; omega
            have hm2 : (n : Int) ≤ ((maxLen : Nat) : Int) := by unfold maxLen; omega
            rw [hwd, hht]
            refine Held.mk ?_
            repeat' first
              | refine ev_seq (fun K hK => ?_)
              | ((first | refine evrd (id := 12) hmix tt_ok false [([], true), ([], true), ([], true), ([], true), ([], true), ([], true), ([], true), ([], true), ([0, 1, 2, 3, 4, 5, 6, 7], true), ([0, 1, 2, 3, 4, 5, 6, 7, 8], false), ([4, 5, 6, 7], false), ([], false)] (by decide +kernel) ?_ | refine evrd (id := 26) hmix tt_ok false [([], true), ([], true), ([], true), ([], true), ([], true), ([], true), ([], true), ([], true), ([], true), ([], true), ([], true), ([], true), ([], true), ([], true), ([], true), ([], true), ([], true), ([], true), ([], false), ([0, 1, 2, 3, 4, 5, 6, 7, 8, 9, 10, 11, 12, 13, 14, 15, 16, 17], false), ([], false), ([], false)] (by decide +kernel) ?_ | refine evr tt_ok false ?_ | refine ev_skip ?_ | refine ev_ret ?_ | refine ev_exit ?_ | refine evc (fun X Y hX hY => ?_)); simp only [go_sem, reduceAdd, reduceSub, reduceMul, reduceEqDiff, reduceLeDiff, Nat.reduceBEq, reduceLT, reduceIte, reduceCtorEq, Int.reduceToNat, hn, m3, h8, h0, hm, hm2, Nat.one_mul, Nat.mul_one, Int.toNat_natCast]; try (first | (refine ⟨fun h => hX ?_, fun h => hY ?_⟩; clear hX hY) | (refine hX ?_; clear hX hY) | (refine hY ?_; clear hX hY)))
              | refine ev_block ?_
              | (apply hK; clear hK)
              | apply_assumption -exfalso -symm only [*]
              | (refine And.intro ?_ ?_; first | omega | assumption | (unfold maxLen; omega) | (simp only [decide_eq_true_eq, decide_eq_false_iff_not, Int.not_lt, Int.not_le] at h; omega))
            rw [rep_enB]
            refine ev_loop (fun z : Nat × List Int => z.1 ≤ Kc.length ∧ z.2.length = n ∧ bytesL z.2)
              (fun z => ⟨139, [(112, .int .i64 ((z.1 : Nat) : Int)), (111, .int .i64 (Kc.length : Int)), (110, .rs 1 Kc.length 0 Kc.length), (11, .own 4 0 0 0), (2, .own 0 0 0 0)],
                [.blk 35 0 5 [[.int .i64 0, .int .i64 0, .int .i64 0, .int .i64 0, .emp]], .blk 95 Kc.length 4 (Kc.map encE), .blk 88 0 2 [[.int .i64 a, .int .i64 b]], .blk 88 0 2 [[.int .i64 c, .int .i64 d]], .blk 35 0 5 [[.int .i64 a, .int .i64 b, .int .i64 wd, .int .i64 ht, .rs 5 0 0 n]], .blk 5 0 1 (z.2.map enB)]⟩)
              (fun z => Kc.length - z.1) (0, List.replicate n 0) ⟨by simp, by simp, fun b hb => by have := List.eq_of_mem_replicate hb; omega⟩ ?_ ?_
            · simp only [go_sem, reduceAdd, reduceSub, reduceMul, reduceEqDiff, reduceLeDiff, Nat.reduceBEq, reduceLT, reduceIte, reduceCtorEq, Int.reduceToNat, fits, fitT, fitOs, fitO, V.under, unders, rowsUnder]
              repeat' first | rfl | exact rowsUnder_lit _ (lit_encE _) | exact rowsUnder_lit _ (lit_enB _) | apply And.intro
            · rintro ⟨i, v⟩ ⟨hi, hv, hbv⟩
              simp only at hi hv hbv
              have hb0 : 0 ≤ (i : Int) := by omega
              have hw : IntKind.i64.wrap ((i : Int) + 1) = ((i + 1 : Nat) : Int) := by rw [w64] <;> omega
              by_cases hlt : (i : Int) < ((Kc.length : Nat) : Int)
              · have hgt := ent_get Kc i
                have hin := hj i (by omega)
                obtain ⟨vv, hvv, vp⟩ := value_x (Kc.getD i ⟨0, 0, 0, 0⟩)
                clear hj
                generalize Kc.getD i ⟨0, 0, 0, 0⟩ = q at *
                simp only [encE] at hgt vp
                have u1 : IntKind.i64.wrap (q.y - b) = q.y - b := w64 (by omega) (by omega)
                obtain ⟨r, hr⟩ : ∃ r, q.y - b = r := ⟨_, rfl⟩
                rw [hr] at u1
                have p1 := Int.mul_nonneg (a := r) (b := wd) (by omega) (by omega)
                have p2 : r * wd ≤ (ht - 1) * wd := Int.mul_le_mul_of_nonneg_right (by omega) (by omega)
                have p3 : (ht - 1) * wd = n - wd := by rw [Int.sub_mul, Int.mul_comm ht wd, hn]; omega
                rw [p3] at p2
                obtain ⟨rw1, hrw⟩ : ∃ t, r * wd = t := ⟨_, rfl⟩
                rw [hrw] at p1 p2
                have u2 : IntKind.i64.wrap (r * wd) = rw1 := by rw [hrw]; exact w64 (by omega) (by omega)
                have u3 : IntKind.i64.wrap (rw1 + q.x) = rw1 + q.x := w64 (by omega) (by omega)
                have u4 : IntKind.i64.wrap (rw1 + q.x - a) = rw1 + q.x - a := w64 (by omega) (by omega)
                obtain ⟨ix, hix⟩ : ∃ ix : Nat, rw1 + q.x - a = (ix : Int) := ⟨(rw1 + q.x - a).toNat, by omega⟩
                rw [hix] at u4
                have hixn : (ix : Int) < (n : Int) := by omega
                have hix0 : 0 ≤ (ix : Int) := by omega
                have hixv : ix < v.length := by omega
                have hset : (v.map enB).set ix [.int .u8 vv] = (v.set ix vv).map enB := by rw [List.map_set]; rfl
                repeat' first
                  | refine ev_seq (fun K hK => ?_)
                  | ((first | refine evrd (id := 12) hmix tt_ok false [([], true), ([], true), ([], true), ([], true), ([], true), ([], true), ([], true), ([], true), ([0, 1, 2, 3, 4, 5, 6, 7], true), ([0, 1, 2, 3, 4, 5, 6, 7, 8], false), ([4, 5, 6, 7], false), ([], false)] (by decide +kernel) ?_ | refine evrd (id := 26) hmix tt_ok false [([], true), ([], true), ([], true), ([], true), ([], true), ([], true), ([], true), ([], true), ([], true), ([], true), ([], true), ([], true), ([], true), ([], true), ([], true), ([], true), ([], true), ([], true), ([], false), ([0, 1, 2, 3, 4, 5, 6, 7, 8, 9, 10, 11, 12, 13, 14, 15, 16, 17], false), ([], false), ([], false)] (by decide +kernel) ?_ | refine evr tt_ok false ?_ | refine ev_skip ?_ | refine ev_ret ?_ | refine ev_exit ?_ | refine evc (fun X Y hX hY => ?_)); simp only [go_sem, reduceAdd, reduceSub, reduceMul, reduceEqDiff, reduceLeDiff, Nat.reduceBEq, reduceLT, reduceIte, reduceCtorEq, Int.reduceToNat, hb0, hlt, hw, hgt, hr, hix, u1, u2, u3, u4, hix0, hixn, hixv, hv, hset, List.length_map, Int.toNat_natCast, Int.natCast_zero, Int.zero_add, Nat.zero_add, Nat.le_refl]; try (first | (refine ⟨fun h => hX ?_, fun h => hY ?_⟩; clear hX hY) | (refine hX ?_; clear hX hY) | (refine hY ?_; clear hX hY)))
                  | refine ev_block ?_
                  | (apply hK; clear hK)
                  | apply_assumption -exfalso -symm only [*]
                  | (refine And.intro ?_ ?_; first | omega | assumption | (unfold maxLen; omega) | (simp only [decide_eq_true_eq, decide_eq_false_iff_not, Int.not_lt, Int.not_le] at h; omega))
                  | ((first | apply callP | apply callPG | apply callP0); (case' hv => (simp only [go_sem, reduceAdd, reduceSub, reduceMul, reduceEqDiff, reduceLeDiff, Nat.reduceBEq, reduceLT, reduceIte, reduceCtorEq, Int.reduceToNat, hb0, hlt, hw, hgt, hr, hix, u1, u2, u3, u4, hix0, hixn, hixv, hv, hset, List.length_map, Int.toNat_natCast, Int.natCast_zero, Int.zero_add, Nat.zero_add, Nat.le_refl]; try exact rfl)); (case' hp => (first | refine' vp | (refine' (fun hg => ?_); refine' vp))); (case' h => ((first | refine evOps_fin ?_ | refine And.intro ?_ (evD_fin ?_) | refine evD_fin ?_) <;> simp only [go_sem, reduceAdd, reduceSub, reduceMul, reduceEqDiff, reduceLeDiff, Nat.reduceBEq, reduceLT, reduceIte, reduceCtorEq, Int.reduceToNat, hb0, hlt, hw, hgt, hr, hix, u1, u2, u3, u4, hix0, hixn, hixv, hv, hset, List.length_map, Int.toNat_natCast, Int.natCast_zero, Int.zero_add, Nat.zero_add, Nat.le_refl])))
                  | (refine callX ?_; (first | refine evOps_fin ?_ | refine And.intro ?_ (evD_fin ?_) | refine evD_fin ?_) <;> simp only [go_sem, reduceAdd, reduceSub, reduceMul, reduceEqDiff, reduceLeDiff, Nat.reduceBEq, reduceLT, reduceIte, reduceCtorEq, Int.reduceToNat, hb0, hlt, hw, hgt, hr, hix, u1, u2, u3, u4, hix0, hixn, hixv, hv, hset, List.length_map, Int.toNat_natCast, Int.natCast_zero, Int.zero_add, Nat.zero_add, Nat.le_refl])
                exact ⟨(i + 1, v.set ix vv), ⟨by simp only; omega, by simp only [List.length_set]; exact hv, bytes_set hbv hvv⟩, ⟨rfl, rowsUnder_lit _ (lit_encE _), by rw [byte_get]; exact hset.symm, rowsUnder_lit _ (lit_enB _)⟩, by simp only; omega⟩
              · repeat' first
                | refine ev_seq (fun K hK => ?_)
                | ((first | refine evrd (id := 12) hmix tt_ok false [([], true), ([], true), ([], true), ([], true), ([], true), ([], true), ([], true), ([], true), ([0, 1, 2, 3, 4, 5, 6, 7], true), ([0, 1, 2, 3, 4, 5, 6, 7, 8], false), ([4, 5, 6, 7], false), ([], false)] (by decide +kernel) ?_ | refine evrd (id := 26) hmix tt_ok false [([], true), ([], true), ([], true), ([], true), ([], true), ([], true), ([], true), ([], true), ([], true), ([], true), ([], true), ([], true), ([], true), ([], true), ([], true), ([], true), ([], true), ([], true), ([], false), ([0, 1, 2, 3, 4, 5, 6, 7, 8, 9, 10, 11, 12, 13, 14, 15, 16, 17], false), ([], false), ([], false)] (by decide +kernel) ?_ | refine evr tt_ok false ?_ | refine ev_skip ?_ | refine ev_ret ?_ | refine ev_exit ?_ | refine evc (fun X Y hX hY => ?_)); simp only [go_sem, reduceAdd, reduceSub, reduceMul, reduceEqDiff, reduceLeDiff, Nat.reduceBEq, reduceLT, reduceIte, reduceCtorEq, Int.reduceToNat, hlt]; try (first | (refine ⟨fun h => hX ?_, fun h => hY ?_⟩; clear hX hY) | (refine hX ?_; clear hX hY) | (refine hY ?_; clear hX hY)))
                | refine ev_block ?_
                | (apply hK; clear hK)
                | apply_assumption -exfalso -symm only [*]
                | (refine And.intro ?_ ?_; first | omega | assumption | (unfold maxLen; omega) | (simp only [decide_eq_true_eq, decide_eq_false_iff_not, Int.not_lt, Int.not_le] at h; omega))
                have htk : List.take n (v.map enB) = v.map enB := List.take_of_length_le (by simp; omega)
                refine ev_ret ?_
                refine ⟨_, .inr ⟨⟨a, b, wd, ht, v⟩, 0, hbv, rfl⟩, ?_⟩
                simp only [go_sem, reduceAdd, reduceSub, reduceMul, reduceEqDiff, reduceLeDiff, Nat.reduceBEq, reduceLT, reduceIte, reduceCtorEq, Int.reduceToNat, encF, List.length_map, htk, vrows_lit _ (lit_enB v), hv, List.drop_zero, Nat.zero_add, Nat.sub_zero, Nat.zero_le, Nat.le_refl]
end Go.Proofs.YtbibplkhhdomnaaGreat
