import Derived.Test.YtbibplkhhdomnaaGreatW39
import Derived.Test.YtbibplkhhdomnaaGreatW14
import Derived.Test.YtbibplkhhdomnaaGreatW18
set_option linter.all false
namespace Go.Proofs.YtbibplkhhdomnaaGreat
open Nat (reduceAdd reduceSub reduceMul reduceEqDiff reduceLeDiff reduceLT)
open Go Go.K
set_option maxRecDepth 20000
set_option maxHeartbeats 32000000
def encS (l : List Bem) : List V := [.sl (l.map enBm)]
theorem scan_get {ss : List (List Bem)} {i : Nat} (h : i < ss.length) : (ss.map encS).getD i [.emp] = [.sl ((ss.getD i []).map enBm)] := by
  rw [List.getD_eq_getElem?_getD, List.getElem?_map, List.getD_eq_getElem?_getD, List.getElem?_eq_getElem h]; rfl
structure Sea where
  s : List Bem
  (cx cy fr ct re : Int)
def encSea (q : Sea) : List V := [.sl (q.s.map enBm), .int .i64 q.cx, .int .i64 q.cy, .int .i64 q.fr, .int .i64 q.ct, .int .i64 q.re]
def lightX (ss : List (List Bem)) (q : Sea) (z : V) : Prop := ∃ b : Bool, z = .bool b ∧ (b = true → (∀ l ∈ ss, l.length ≤ 4) ∧ q.s.length ≤ 4)
theorem light_x (ps : List Cnd) (ss : List (List Bem)) (q : Sea) : PureX Tryz.prog 5 [.sl (ps.map enC), .sl (ss.map encS), .agg (encSea q)] (lightX ss q) := by
  unfold encSea
  refine pureX_of_ev tt_ok Tryz.func5 rfl (by decide +kernel) (Nat.le_of_ble_eq_true rfl) ?_
  simp only [Tryz.f5]
  repeat' first
    | refine ev_seq (fun K hK => ?_)
    | ((first | refine evr tt_ok false ?_ | refine ev_skip ?_ | refine ev_ret ?_ | refine ev_exit ?_ | refine evc (fun X Y hX hY => ?_)); simp only [go_sem, reduceAdd, reduceSub, reduceMul, reduceEqDiff, reduceLeDiff, Nat.reduceBEq, reduceLT, reduceIte, reduceCtorEq, Int.reduceToNat, List.length_map]; try (first | (refine ⟨fun h => hX ?_, fun h => hY ?_⟩; clear hX hY) | (refine hX ?_; clear hX hY) | (refine hY ?_; clear hX hY)))
    | refine ev_block ?_
    | (apply hK; clear hK)
    | apply_assumption -exfalso -symm only [*]
    | (refine And.intro ?_ ?_; first | omega | assumption | (unfold maxLen; omega) | (simp only [decide_eq_true_eq, decide_eq_false_iff_not, Int.not_lt, Int.not_le] at h; omega))
  · refine ⟨_, ⟨false, rfl, fun h => by cases h⟩, ?_, rfl⟩
    simp only [go_sem, reduceAdd, reduceSub, reduceMul, reduceEqDiff, reduceLeDiff, Nat.reduceBEq, reduceLT, reduceIte, reduceCtorEq, Int.reduceToNat]
  have h3 : ss.length ≤ 3 ∧ q.s.length ≤ 4 := by
    simp only [Bool.or_eq_false_iff, decide_eq_false_iff_not] at h
    omega
  refine ev_loop (fun i : Nat => i ≤ ss.length ∧ ∀ j, j < i → (ss.getD j []).length ≤ 4)
    (fun i => ⟨34, [(7, .int .i64 (i : Int)), (1, .sl (ss.map encS))], []⟩)
    (fun i => ss.length - i) 0 ⟨Nat.zero_le _, fun j hj => by omega⟩ ?_ ?_
  · simp only [go_sem, reduceAdd, reduceSub, reduceMul, reduceEqDiff, reduceLeDiff, Nat.reduceBEq, reduceLT, reduceIte, reduceCtorEq, Int.reduceToNat, fits, fitT, fitOs, fitO, V.under, unders, rowsUnder]
    repeat' first | rfl | apply And.intro
  · rintro i ⟨hi, hall⟩
    have hb0 : 0 ≤ (i : Int) := by omega
    have hw : IntKind.i64.wrap ((i : Int) + 1) = ((i + 1 : Nat) : Int) := by rw [w64] <;> omega
    by_cases hlt : (i : Int) < ((ss.length : Nat) : Int)
    · have hgt := scan_get (ss := ss) (i := i) (by omega)
      have hnew : (ss.getD i []).length ≤ 4 → ∀ j, j < i + 1 → (ss.getD j []).length ≤ 4 := fun hg j hj => by
        by_cases e : j = i
        · rw [e]; exact hg
        · exact hall j (by omega)
      clear hall
      generalize ss.getD i [] = l at *
      repeat' first
        | refine ev_seq (fun K hK => ?_)
        | ((first | refine evr tt_ok false ?_ | refine ev_skip ?_ | refine ev_ret ?_ | refine ev_exit ?_ | refine evc (fun X Y hX hY => ?_)); simp only [go_sem, reduceAdd, reduceSub, reduceMul, reduceEqDiff, reduceLeDiff, Nat.reduceBEq, reduceLT, reduceIte, reduceCtorEq, Int.reduceToNat, hb0, hw, hlt, hgt, List.length_map, Int.toNat_natCast]; try (first | (refine ⟨fun h => hX ?_, fun h => hY ?_⟩; clear hX hY) | (refine hX ?_; clear hX hY) | (refine hY ?_; clear hX hY)))
        | refine ev_block ?_
        | (apply hK; clear hK)
        | apply_assumption -exfalso -symm only [*]
        | (refine And.intro ?_ ?_; first | omega | assumption | (unfold maxLen; omega) | (simp only [decide_eq_true_eq, decide_eq_false_iff_not, Int.not_lt, Int.not_le] at h; omega))
      · refine ⟨_, ⟨false, rfl, fun h => by cases h⟩, ?_, rfl⟩
        simp only [go_sem, reduceAdd, reduceSub, reduceMul, reduceEqDiff, reduceLeDiff, Nat.reduceBEq, reduceLT, reduceIte, reduceCtorEq, Int.reduceToNat]
      · refine ⟨i + 1, ⟨by omega, hnew ?_⟩, rfl, by omega⟩
        simp only [decide_eq_false_iff_not] at h
        omega
    · obtain rfl : i = ss.length := by omega
      repeat' first
        | refine ev_seq (fun K hK => ?_)
        | ((first | refine evr tt_ok false ?_ | refine ev_skip ?_ | refine ev_ret ?_ | refine ev_exit ?_ | refine evc (fun X Y hX hY => ?_)); simp only [go_sem, reduceAdd, reduceSub, reduceMul, reduceEqDiff, reduceLeDiff, Nat.reduceBEq, reduceLT, reduceIte, reduceCtorEq, Int.reduceToNat, hlt, List.length_map]; try (first | (refine ⟨fun h => hX ?_, fun h => hY ?_⟩; clear hX hY) | (refine hX ?_; clear hX hY) | (refine hY ?_; clear hX hY)))
        | refine ev_block ?_
        | (apply hK; clear hK)
        | apply_assumption -exfalso -symm only [*]
        | (refine And.intro ?_ ?_; first | omega | assumption | (unfold maxLen; omega) | (simp only [decide_eq_true_eq, decide_eq_false_iff_not, Int.not_lt, Int.not_le] at h; omega))
      refine ev_ret ?_
      refine ⟨_, ⟨true, rfl, fun _ => ⟨fun l hl => ?_, h3.2⟩⟩, ?_, rfl⟩
      · obtain ⟨j, hj, rfl⟩ := List.mem_iff_getElem.1 hl
        have := hall j hj
        rwa [List.getD_eq_getElem?_getD, List.getElem?_eq_getElem hj] at this
      · simp only [go_sem, reduceAdd, reduceSub, reduceMul, reduceEqDiff, reduceLeDiff, Nat.reduceBEq, reduceLT, reduceIte, reduceCtorEq, Int.reduceToNat]
theorem ones_emp {E : Ext} {L : List Go.K.Loc} : ∀ {cs : List V} {vs : List Value}, IsOnes E L (cs ++ [.emp]) vs → IsOnes E L (cs ++ [.sl []]) vs
  | [], vs, h => by
    rw [List.nil_append] at *
    unfold IsOnes at *
    obtain ⟨v, r, e, h1, h2, h3⟩ := h
    exact ⟨v, r, e, rfl, emp_sl h2, h3⟩
  | c :: cs, vs, h => by
    rw [List.cons_append] at *
    unfold IsOnes at *
    obtain ⟨v, r, e, h1, h2, h3⟩ := h
    exact ⟨v, r, e, h1, h2, ones_emp h3⟩
theorem agg_emp {E : Ext} {L : List Go.K.Loc} {cs : List V} {u : Value} (h : (V.agg (cs ++ [.emp])).Is E L u) : (V.agg (cs ++ [.sl []])).Is E L u := by
  unfold V.Is at *
  obtain ⟨vs, e, hv⟩ := h
  exact ⟨vs, e, ones_emp hv⟩
theorem pse_get (L : List Cnd) (i : Nat) : (L.map enC).getD i [.int .i64 0, .int .i64 0, .int .i64 0] = [.int .i64 (L.getD i ⟨0, 0, 0⟩).k, .int .i64 (L.getD i ⟨0, 0, 0⟩).y, .int .i64 (L.getD i ⟨0, 0, 0⟩).x] := getD_map (f := enC) (d := ⟨0, 0, 0⟩) rfl
theorem tup_agg {E : Ext} {cs : List V} {x : V} {v : Value} (h : (V.tup [.agg (cs ++ [.emp]), x]).Is E [] v) : (V.tup [.agg (cs ++ [.sl []]), x]).Is E [] v := tup_fst h fun u hu => agg_emp hu
theorem fld_x (L : List Ent) (hl : L.length ≤ 1048576) : PureX Tryz.prog 12 [.sl (L.map encE)] fieldX := by
  refine PureX.weak (fieldOf_x L hl) ?_
  rintro z (⟨e, rfl⟩ | h)
  · exact ⟨_, ⟨⟨0, 0, 0, 0, []⟩, e, fun b hb => by simp at hb, rfl⟩, fun E v hv => tup_agg (cs := [.int .i64 0, .int .i64 0, .int .i64 0, .int .i64 0]) hv⟩
  · exact ⟨_, h, fun E v hv => hv⟩
def problemX (z : V) : Prop := ∃ (p : Prob) (ok : Bool), bytesL p.f.v ∧ (p.s.length : Int) < 4611686018427387904 ∧ (ok = true → p.ok) ∧ z = .tup [.agg (encP p), .bool ok]
theorem problem_x (ps : List Cnd) (ss : List (List Bem)) (q : Sea) (hps : ps.length ≤ 9223372036854775807) (hss : ∀ l ∈ ss, (l.length : Int) < 4611686018427387904) (hq : (q.s.length : Int) < 4611686018427387904) : PureX Tryz.prog 6 [.sl (ps.map enC), .sl (ss.map encS), .agg (encSea q)] problemX := by
  unfold encSea
  refine pureX_of_ev tt_ok Tryz.func6 rfl (by decide +kernel) (Nat.le_of_ble_eq_true rfl) ?_
  simp only [Tryz.f6]
  repeat' first
    | refine ev_seq (fun K hK => ?_)
    | ((first | refine evrd (id := 5) hmix tt_ok false [([], false), ([], false), ([], false), ([], false), ([], false), ([], false), ([], false), ([], false), ([], false), ([], false), ([], false), ([], false), ([], false), ([], false)] (by decide +kernel) ?_ | refine evrd (id := 9) hmix tt_ok false [([], true), ([], true), ([], true), ([], true), ([], true), ([], true), ([], true), ([], true), ([], true), ([0, 1, 2, 3, 4, 5, 6], true), ([], true), ([0, 1, 2, 3, 4, 5, 6, 7, 8, 9, 10], false), ([], false)] (by decide +kernel) ?_ | refine evrd (id := 10) hmix tt_ok false [([], true), ([], false), ([], false), ([], false), ([], false), ([0], false), ([], false), ([], false), ([], true), ([], true), ([], true), ([], true), ([], true), ([8, 9, 10, 11, 12], false), ([], false)] (by decide +kernel) ?_ | refine evr tt_ok false ?_ | refine ev_skip ?_ | refine ev_ret ?_ | refine ev_exit ?_ | refine evc (fun X Y hX hY => ?_)); simp only [go_sem, reduceAdd, reduceSub, reduceMul, reduceEqDiff, reduceLeDiff, Nat.reduceBEq, reduceLT, reduceIte, reduceCtorEq, Int.reduceToNat, List.length_map]; try (first | (refine ⟨fun h => hX ?_, fun h => hY ?_⟩; clear hX hY) | (refine hX ?_; clear hX hY) | (refine hY ?_; clear hX hY)))
    | refine ev_block ?_
    | (apply hK; clear hK)
    | apply_assumption -exfalso -symm only [*]
    | (refine And.intro ?_ ?_; first | omega | assumption | (unfold maxLen; omega) | (simp only [decide_eq_true_eq, decide_eq_false_iff_not, Int.not_lt, Int.not_le] at h; omega))
  refine ev_like 8 (y := .sl (([] : List Ent).map encE)) (fun E L v hv => emp_sl hv) ?_
  refine ev_loop (fun z : Nat × List Ent => z.1 ≤ ps.length ∧ z.2.length ≤ 1048576)
    (fun z => ⟨76, [(9, .int .i64 ((z.1 : Nat) : Int)), (8, .sl (z.2.map encE)), (0, .sl (ps.map enC)), (1, .sl (ss.map encS)), (5, .own 0 0 0 0), (6, .own 1 0 0 0)],
      [.blk 30 0 6 [encSea q], .blk 37 0 11 [[.int .i64 0, .int .i64 0, .int .i64 0, .int .i64 0, .emp, .emp, .int .i64 0, .int .i64 0, .int .i64 0, .int .i64 0, .int .i64 0]]]⟩)
    (fun z => ps.length - z.1) (0, []) ⟨by simp, by simp⟩ ?_ ?_
  · simp only [go_sem, reduceAdd, reduceSub, reduceMul, reduceEqDiff, reduceLeDiff, Nat.reduceBEq, reduceLT, reduceIte, reduceCtorEq, Int.reduceToNat, fits, fitT, fitOs, fitO, V.under, unders, rowsUnder, encSea]
    repeat' first | rfl | apply And.intro
  · rintro ⟨i, L⟩ ⟨hi, hL⟩
    simp only at hi hL
    have hb0 : 0 ≤ (i : Int) := by omega
    by_cases hlt : (i : Int) < ((ps.length : Nat) : Int) ∧ (i : Int) < ((ss.length : Nat) : Int)
    · obtain ⟨h1, h2⟩ := hlt
      have hw : IntKind.i64.wrap ((i : Int) + 1) = ((i + 1 : Nat) : Int) := by rw [w64] <;> omega
      have hgp := pse_get ps i
      have hgs := scan_get (ss := ss) (i := i) (by omega)
      have hll : ((ss.getD i []).length : Int) < 4611686018427387904 := hss _ (by
        rw [List.getD_eq_getElem?_getD, List.getElem?_eq_getElem (by omega)]; exact List.getElem_mem _)
      generalize ps.getD i ⟨0, 0, 0⟩ = c at *
      generalize ss.getD i [] = l at *
      repeat' first
        | refine ev_seq (fun K hK => ?_)
        | refine ev_held (id := 5) ?_
        | ((first | refine evrd (id := 5) hmix tt_ok false [([], false), ([], false), ([], false), ([], false), ([], false), ([], false), ([], false), ([], false), ([], false), ([], false), ([], false), ([], false), ([], false), ([], false)] (by decide +kernel) ?_ | refine evrd (id := 9) hmix tt_ok false [([], true), ([], true), ([], true), ([], true), ([], true), ([], true), ([], true), ([], true), ([], true), ([0, 1, 2, 3, 4, 5, 6], true), ([], true), ([0, 1, 2, 3, 4, 5, 6, 7, 8, 9, 10], false), ([], false)] (by decide +kernel) ?_ | refine evrd (id := 10) hmix tt_ok false [([], true), ([], false), ([], false), ([], false), ([], false), ([0], false), ([], false), ([], false), ([], true), ([], true), ([], true), ([], true), ([], true), ([8, 9, 10, 11, 12], false), ([], false)] (by decide +kernel) ?_ | refine evr tt_ok false ?_ | refine ev_skip ?_ | refine ev_ret ?_ | refine ev_exit ?_ | refine evc (fun X Y hX hY => ?_)); simp only [go_sem, reduceAdd, reduceSub, reduceMul, reduceEqDiff, reduceLeDiff, Nat.reduceBEq, reduceLT, reduceIte, reduceCtorEq, Int.reduceToNat, hb0, hw, h1, h2, decide_true, Bool.and_true, List.length_map]; try (first | (refine ⟨fun h => hX ?_, fun h => hY ?_⟩; clear hX hY) | (refine hX ?_; clear hX hY) | (refine hY ?_; clear hX hY)))
        | refine ev_block ?_
        | (apply hK; clear hK)
        | apply_assumption -exfalso -symm only [*]
        | (refine And.intro ?_ ?_; first | omega | assumption | (unfold maxLen; omega) | (simp only [decide_eq_true_eq, decide_eq_false_iff_not, Int.not_lt, Int.not_le] at h; omega))
      refine Held.mk ?_
      refine ev_region_mid hmix tt_ok 8 [] [] (by decide +kernel) ?_
      refine evD_fin ?_
      simp only [go_sem, reduceAdd, reduceSub, reduceMul, reduceEqDiff, reduceLeDiff, Nat.reduceBEq, reduceLT, reduceIte, reduceCtorEq, Int.reduceToNat, hb0, h1, h2, hgp, hgs, List.length_map, List.length_cons, List.length_nil, Int.toNat_natCast, List.take_succ_cons, List.take_zero, List.drop_succ_cons, List.drop_zero]
      unfold MidK
      simp only [List.getD_cons_succ, List.getD_cons_zero, List.drop_succ_cons, List.drop_zero]
      refine ⟨_, trivial, by simp only [go_sem, reduceAdd, reduceSub, reduceMul, reduceEqDiff, reduceLeDiff, Nat.reduceBEq, reduceLT, reduceIte, reduceCtorEq, Int.reduceToNat], specS_pure (of_x c.k c.y c.x l hll) (by simp only [go_sem, reduceAdd, reduceSub, reduceMul, reduceEqDiff, reduceLeDiff, Nat.reduceBEq, reduceLT, reduceIte, reduceCtorEq, Int.reduceToNat]; rfl) (by simp only [go_sem, reduceAdd, reduceSub, reduceMul, reduceEqDiff, reduceLeDiff, Nat.reduceBEq, reduceLT, reduceIte, reduceCtorEq, Int.reduceToNat]) (by simp only [go_sem, reduceAdd, reduceSub, reduceMul, reduceEqDiff, reduceLeDiff, Nat.reduceBEq, reduceLT, reduceIte, reduceCtorEq, Int.reduceToNat]), ?_⟩
      rintro z ⟨_, ⟨L2, e, hL2, rfl⟩, rfl⟩
      simp only [go_sem, reduceAdd, reduceSub, reduceMul, reduceEqDiff, reduceLeDiff, Nat.reduceBEq, reduceLT, reduceIte, reduceCtorEq, Int.reduceToNat]
      refine evD_fin ?_
      simp only [go_sem, reduceAdd, reduceSub, reduceMul, reduceEqDiff, reduceLeDiff, Nat.reduceBEq, reduceLT, reduceIte, reduceCtorEq, Int.reduceToNat]
      apply hK; clear hK
      repeat' first
        | refine ev_seq (fun K hK => ?_)
        | refine ev_held (id := 7) ?_
        | ((first | refine evrd (id := 5) hmix tt_ok false [([], false), ([], false), ([], false), ([], false), ([], false), ([], false), ([], false), ([], false), ([], false), ([], false), ([], false), ([], false), ([], false), ([], false)] (by decide +kernel) ?_ | refine evrd (id := 9) hmix tt_ok false [([], true), ([], true), ([], true), ([], true), ([], true), ([], true), ([], true), ([], true), ([], true), ([0, 1, 2, 3, 4, 5, 6], true), ([], true), ([0, 1, 2, 3, 4, 5, 6, 7, 8, 9, 10], false), ([], false)] (by decide +kernel) ?_ | refine evrd (id := 10) hmix tt_ok false [([], true), ([], false), ([], false), ([], false), ([], false), ([0], false), ([], false), ([], false), ([], true), ([], true), ([], true), ([], true), ([], true), ([8, 9, 10, 11, 12], false), ([], false)] (by decide +kernel) ?_ | refine evr tt_ok false ?_ | refine ev_skip ?_ | refine ev_ret ?_ | refine ev_exit ?_ | refine evc (fun X Y hX hY => ?_)); simp only [go_sem, reduceAdd, reduceSub, reduceMul, reduceEqDiff, reduceLeDiff, Nat.reduceBEq, reduceLT, reduceIte, reduceCtorEq, Int.reduceToNat, hw]; try (first | (refine ⟨fun h => hX ?_, fun h => hY ?_⟩; clear hX hY) | (refine hX ?_; clear hX hY) | (refine hY ?_; clear hX hY)))
        | refine ev_block ?_
        | (apply hK; clear hK)
        | apply_assumption -exfalso -symm only [*]
        | (refine And.intro ?_ ?_; first | omega | assumption | (unfold maxLen; omega) | (simp only [decide_eq_true_eq, decide_eq_false_iff_not, Int.not_lt, Int.not_le] at h; omega))
      · exact ⟨(i + 1, L), ⟨by simp only; omega, hL⟩, ⟨⟨rfl, rfl⟩, trivial, trivial, trivial, trivial, trivial, trivial, trivial⟩, by simp only; omega⟩
      · refine Held.mk ?_
        refine ev_region3 tt_ok false ?_
        simp only [go_sem, reduceAdd, reduceSub, reduceMul, reduceEqDiff, reduceLeDiff, Nat.reduceBEq, reduceLT, reduceIte, reduceCtorEq, Int.reduceToNat]
        iterate 2 (refine ev3_step ?_; simp only [go_sem, reduceAdd, reduceSub, reduceMul, reduceEqDiff, reduceLeDiff, Nat.reduceBEq, reduceLT, reduceIte, reduceCtorEq, Int.reduceToNat])
        refine ev3_spec rfl (by simp only [go_sem, reduceAdd, reduceSub, reduceMul, reduceEqDiff, reduceLeDiff, Nat.reduceBEq, reduceLT, reduceIte, reduceCtorEq, Int.reduceToNat]) (specS_pure (eadd_x L L2 (by omega)) (by simp only [go_sem, reduceAdd, reduceSub, reduceMul, reduceEqDiff, reduceLeDiff, Nat.reduceBEq, reduceLT, reduceIte, reduceCtorEq, Int.reduceToNat]; rfl) (by simp only [go_sem, reduceAdd, reduceSub, reduceMul, reduceEqDiff, reduceLeDiff, Nat.reduceBEq, reduceLT, reduceIte, reduceCtorEq, Int.reduceToNat]) (by simp only [go_sem, reduceAdd, reduceSub, reduceMul, reduceEqDiff, reduceLeDiff, Nat.reduceBEq, reduceLT, reduceIte, reduceCtorEq, Int.reduceToNat])) ?_
        rintro z ⟨_, ⟨L3, e3, hL3, rfl⟩, rfl⟩
        simp only [go_sem, reduceAdd, reduceSub, reduceMul, reduceEqDiff, reduceLeDiff, Nat.reduceBEq, reduceLT, reduceIte, reduceCtorEq, Int.reduceToNat]
        iterate 4 (refine ev3_step ?_; simp only [go_sem, reduceAdd, reduceSub, reduceMul, reduceEqDiff, reduceLeDiff, Nat.reduceBEq, reduceLT, reduceIte, reduceCtorEq, Int.reduceToNat])
        refine ev3_nil ?_
        apply hK; clear hK
        repeat' first
          | refine ev_seq (fun K hK => ?_)
          | ((first | refine evrd (id := 5) hmix tt_ok false [([], false), ([], false), ([], false), ([], false), ([], false), ([], false), ([], false), ([], false), ([], false), ([], false), ([], false), ([], false), ([], false), ([], false)] (by decide +kernel) ?_ | refine evrd (id := 9) hmix tt_ok false [([], true), ([], true), ([], true), ([], true), ([], true), ([], true), ([], true), ([], true), ([], true), ([0, 1, 2, 3, 4, 5, 6], true), ([], true), ([0, 1, 2, 3, 4, 5, 6, 7, 8, 9, 10], false), ([], false)] (by decide +kernel) ?_ | refine evrd (id := 10) hmix tt_ok false [([], true), ([], false), ([], false), ([], false), ([], false), ([0], false), ([], false), ([], false), ([], true), ([], true), ([], true), ([], true), ([], true), ([8, 9, 10, 11, 12], false), ([], false)] (by decide +kernel) ?_ | refine evr tt_ok false ?_ | refine ev_skip ?_ | refine ev_ret ?_ | refine ev_exit ?_ | refine evc (fun X Y hX hY => ?_)); simp only [go_sem, reduceAdd, reduceSub, reduceMul, reduceEqDiff, reduceLeDiff, Nat.reduceBEq, reduceLT, reduceIte, reduceCtorEq, Int.reduceToNat, hw]; try (first | (refine ⟨fun h => hX ?_, fun h => hY ?_⟩; clear hX hY) | (refine hX ?_; clear hX hY) | (refine hY ?_; clear hX hY)))
          | refine ev_block ?_
          | (apply hK; clear hK)
          | apply_assumption -exfalso -symm only [*]
          | (refine And.intro ?_ ?_; first | omega | assumption | (unfold maxLen; omega) | (simp only [decide_eq_true_eq, decide_eq_false_iff_not, Int.not_lt, Int.not_le] at h; omega))
        exact ⟨(i + 1, L3), ⟨by simp only; omega, hL3⟩, ⟨⟨rfl, rfl⟩, trivial, trivial, trivial, trivial, trivial, trivial, trivial⟩, by simp only; omega⟩
    · have hc : (decide ((i : Int) < ((ps.length : Nat) : Int)) && decide ((i : Int) < ((ss.length : Nat) : Int))) = false := by
        rw [Bool.eq_false_iff]; simp only [ne_eq, Bool.and_eq_true, decide_eq_true_eq]; exact hlt
      have vm := mod_pure q.re 4 (by omega) (by omega)
      repeat' first
        | refine ev_seq (fun K hK => ?_)
        | refine ev_held (id := 8) ?_
        | ((first | refine evrd (id := 5) hmix tt_ok false [([], false), ([], false), ([], false), ([], false), ([], false), ([], false), ([], false), ([], false), ([], false), ([], false), ([], false), ([], false), ([], false), ([], false)] (by decide +kernel) ?_ | refine evrd (id := 9) hmix tt_ok false [([], true), ([], true), ([], true), ([], true), ([], true), ([], true), ([], true), ([], true), ([], true), ([0, 1, 2, 3, 4, 5, 6], true), ([], true), ([0, 1, 2, 3, 4, 5, 6, 7, 8, 9, 10], false), ([], false)] (by decide +kernel) ?_ | refine evrd (id := 10) hmix tt_ok false [([], true), ([], false), ([], false), ([], false), ([], false), ([0], false), ([], false), ([], false), ([], true), ([], true), ([], true), ([], true), ([], true), ([8, 9, 10, 11, 12], false), ([], false)] (by decide +kernel) ?_ | refine evr tt_ok false ?_ | refine ev_skip ?_ | refine ev_ret ?_ | refine ev_exit ?_ | refine evc (fun X Y hX hY => ?_)); simp only [go_sem, reduceAdd, reduceSub, reduceMul, reduceEqDiff, reduceLeDiff, Nat.reduceBEq, reduceLT, reduceIte, reduceCtorEq, Int.reduceToNat, hb0, hc, List.length_map]; try (first | (refine ⟨fun h => hX ?_, fun h => hY ?_⟩; clear hX hY) | (refine hX ?_; clear hX hY) | (refine hY ?_; clear hX hY)))
        | refine ev_block ?_
        | (apply hK; clear hK)
        | apply_assumption -exfalso -symm only [*]
        | (refine And.intro ?_ ?_; first | omega | assumption | (unfold maxLen; omega) | (simp only [decide_eq_true_eq, decide_eq_false_iff_not, Int.not_lt, Int.not_le] at h; omega))
      refine Held.mk ?_
      refine ev_region3 tt_ok false ?_
      simp only [go_sem, reduceAdd, reduceSub, reduceMul, reduceEqDiff, reduceLeDiff, Nat.reduceBEq, reduceLT, reduceIte, reduceCtorEq, Int.reduceToNat]
      iterate 1 (refine ev3_step ?_; simp only [go_sem, reduceAdd, reduceSub, reduceMul, reduceEqDiff, reduceLeDiff, Nat.reduceBEq, reduceLT, reduceIte, reduceCtorEq, Int.reduceToNat])
      refine ev3_spec rfl (by simp only [go_sem, reduceAdd, reduceSub, reduceMul, reduceEqDiff, reduceLeDiff, Nat.reduceBEq, reduceLT, reduceIte, reduceCtorEq, Int.reduceToNat]) (specS_pure (fld_x L hL) (by simp only [go_sem, reduceAdd, reduceSub, reduceMul, reduceEqDiff, reduceLeDiff, Nat.reduceBEq, reduceLT, reduceIte, reduceCtorEq, Int.reduceToNat]; rfl) (by simp only [go_sem, reduceAdd, reduceSub, reduceMul, reduceEqDiff, reduceLeDiff, Nat.reduceBEq, reduceLT, reduceIte, reduceCtorEq, Int.reduceToNat]) (by simp only [go_sem, reduceAdd, reduceSub, reduceMul, reduceEqDiff, reduceLeDiff, Nat.reduceBEq, reduceLT, reduceIte, reduceCtorEq, Int.reduceToNat])) ?_
      rintro z ⟨_, ⟨f, e, hbf, rfl⟩, rfl⟩
      unfold encF
      simp only [go_sem, reduceAdd, reduceSub, reduceMul, reduceEqDiff, reduceLeDiff, Nat.reduceBEq, reduceLT, reduceIte, reduceCtorEq, Int.reduceToNat]
      iterate 6 (refine ev3_step ?_; simp only [go_sem, reduceAdd, reduceSub, reduceMul, reduceEqDiff, reduceLeDiff, Nat.reduceBEq, reduceLT, reduceIte, reduceCtorEq, Int.reduceToNat])
      refine ev3_nil ?_
      apply hK; clear hK
      have vv := mvalid_pure ⟨f, q.s, q.cx, q.cy, q.fr, q.ct, q.re % 4⟩ hq
      simp only [encP] at vv
      unfold encSea
      repeat' first
        | refine ev_seq (fun K hK => ?_)
        | ((first | refine evrd (id := 5) hmix tt_ok false [([], false), ([], false), ([], false), ([], false), ([], false), ([], false), ([], false), ([], false), ([], false), ([], false), ([], false), ([], false), ([], false), ([], false)] (by decide +kernel) ?_ | refine evrd (id := 9) hmix tt_ok false [([], true), ([], true), ([], true), ([], true), ([], true), ([], true), ([], true), ([], true), ([], true), ([0, 1, 2, 3, 4, 5, 6], true), ([], true), ([0, 1, 2, 3, 4, 5, 6, 7, 8, 9, 10], false), ([], false)] (by decide +kernel) ?_ | refine evrd (id := 10) hmix tt_ok false [([], true), ([], false), ([], false), ([], false), ([], false), ([0], false), ([], false), ([], false), ([], true), ([], true), ([], true), ([], true), ([], true), ([8, 9, 10, 11, 12], false), ([], false)] (by decide +kernel) ?_ | refine evr tt_ok false ?_ | refine ev_skip ?_ | refine ev_ret ?_ | refine ev_exit ?_ | refine evc (fun X Y hX hY => ?_)); simp only [go_sem, reduceAdd, reduceSub, reduceMul, reduceEqDiff, reduceLeDiff, Nat.reduceBEq, reduceLT, reduceIte, reduceCtorEq, Int.reduceToNat]; try (first | (refine ⟨fun h => hX ?_, fun h => hY ?_⟩; clear hX hY) | (refine hX ?_; clear hX hY) | (refine hY ?_; clear hX hY)))
        | refine ev_block ?_
        | (apply hK; clear hK)
        | apply_assumption -exfalso -symm only [*]
        | (refine And.intro ?_ ?_; first | omega | assumption | (unfold maxLen; omega) | (simp only [decide_eq_true_eq, decide_eq_false_iff_not, Int.not_lt, Int.not_le] at h; omega))
        | ((first | apply callP | apply callPG | apply callP0); (case' hv => (simp only [go_sem, reduceAdd, reduceSub, reduceMul, reduceEqDiff, reduceLeDiff, Nat.reduceBEq, reduceLT, reduceIte, reduceCtorEq, Int.reduceToNat]; try exact rfl)); (case' hp => (first | refine' vm | (refine' (fun hg => ?_); refine' vm) | refine' vv | (refine' (fun hg => ?_); refine' vv))); (case' h => ((first | refine evOps_fin ?_ | refine And.intro ?_ (evD_fin ?_) | refine evD_fin ?_) <;> simp only [go_sem, reduceAdd, reduceSub, reduceMul, reduceEqDiff, reduceLeDiff, Nat.reduceBEq, reduceLT, reduceIte, reduceCtorEq, Int.reduceToNat])))
        | (refine callX ?_; (first | refine evOps_fin ?_ | refine And.intro ?_ (evD_fin ?_) | refine evD_fin ?_) <;> simp only [go_sem, reduceAdd, reduceSub, reduceMul, reduceEqDiff, reduceLeDiff, Nat.reduceBEq, reduceLT, reduceIte, reduceCtorEq, Int.reduceToNat])
      refine ev_ret ?_
      refine ⟨_, ⟨⟨f, q.s, q.cx, q.cy, q.fr, q.ct, q.re % 4⟩, _, hbf, hq, fun h => ?_, rfl⟩, ?_, rfl⟩
      · simp only [Bool.and_eq_true, decide_eq_true_eq] at h
        exact h.1.2
      · simp only [go_sem, reduceAdd, reduceSub, reduceMul, reduceEqDiff, reduceLeDiff, Nat.reduceBEq, reduceLT, reduceIte, reduceCtorEq, Int.reduceToNat]
end Go.Proofs.YtbibplkhhdomnaaGreat
