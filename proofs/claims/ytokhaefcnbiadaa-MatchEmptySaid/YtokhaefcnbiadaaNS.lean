import Derived.Test.YtokhaefcnbiadaaNO
set_option linter.all false
namespace Go.Proofs.Ytokhaefcnbiadaa
open Nat (reduceAdd reduceSub reduceMul reduceEqDiff reduceLeDiff reduceLT)
open Go Go.K
set_option maxRecDepth 20000
set_option maxHeartbeats 16000000
/-! ### nothing to see -/
theorem opt_zero {p : Prob} (h : p.ok) (hz : ∀ c, inW p c → boundM p (toB c) = 0) : Opt p 0 ⟨0, -p.re, -p.re⟩ := by
  refine ⟨fun c hc => ?_, inW_first h, (hz _ (inW_first h)).symm⟩
  unfold nbM
  rw [hz c hc]
  obtain ⟨c1, c2, c3, c4, c5, c6⟩ := hc
  unfold betM befM
  simp only
  omega
theorem find_zero {p : Prob} (h : p.ok) (hb : bytesL p.f.v) (hz : ∀ c, inW p c → boundM p (toB c) = 0) : (fndM p).sc = 0 ∧ (fndM p).b = ⟨0, -p.re, -p.re⟩ := by
  have ho : Opt p (fndM p).sc (fndM p).b := opt_of h hb
  exact ho.uniq (opt_zero h hz)
def muteL (s : List Bem) (n : Nat) : List Bem := (s.take n).filter fun b => decide (b.r < 0)
def muteP (p : Prob) : Prob := ⟨p.f, muteL p.s p.s.length, p.cx, p.cy, p.fr, p.ct, p.re⟩
def flatP (p : Prob) : Prob := ⟨⟨p.f.x, p.f.y, p.f.w, p.f.h, List.replicate p.f.v.length 0⟩, p.s, p.cx, p.cy, p.fr, p.ct, p.re⟩
theorem mute_len (s : List Bem) (n : Nat) : (muteL s n).length ≤ n := by
  unfold muteL
  exact Nat.le_trans (List.length_filter_le _ _) (by simp; omega)
theorem mute_yes {s : List Bem} {i : Nat} (hi : i < s.length) (h : (s.getD i ⟨0, 0⟩).r < 0) : muteL s (i + 1) = muteL s i ++ [s.getD i ⟨0, 0⟩] := by
  unfold muteL
  rw [take_getD hi ⟨0, 0⟩, List.filter_append, List.filter_cons, if_pos (by simpa using h)]; rfl
theorem mute_no {s : List Bem} {i : Nat} (hi : i < s.length) (h : ¬ (s.getD i ⟨0, 0⟩).r < 0) : muteL s (i + 1) = muteL s i := by
  unfold muteL
  rw [take_getD hi ⟨0, 0⟩, List.filter_append, List.filter_cons, if_neg (by simpa using h)]; simp
theorem scan_mem {s : List Bem} (h : scanOk s) {b : Bem} (hb : b ∈ s) : b.ok := by
  obtain ⟨i, hi, rfl⟩ := List.getElem_of_mem hb
  have := h.2 i hi
  rwa [List.getD_eq_getElem?_getD, List.getElem?_eq_getElem hi] at this
theorem mute_mem {s : List Bem} {n : Nat} {b : Bem} (hb : b ∈ muteL s n) : b ∈ s ∧ b.r < 0 := by
  unfold muteL at hb
  obtain ⟨h1, h2⟩ := List.mem_filter.1 hb
  exact ⟨List.mem_of_mem_take h1, by simpa using h2⟩
theorem mute_ok {p : Prob} (h : p.ok) : (muteP p).ok := by
  obtain ⟨h1, h2, h3⟩ := h
  refine ⟨h1, ⟨?_, fun i hi => ?_⟩, h3⟩
  · have := mute_len p.s p.s.length
    have := h2.1
    show (muteL p.s p.s.length).length ≤ 32
    omega
  · have hm : (muteP p).s.getD i ⟨0, 0⟩ ∈ (muteP p).s := by
      rw [List.getD_eq_getElem?_getD, List.getElem?_eq_getElem hi]; exact List.getElem_mem hi
    exact scan_mem h2 (mute_mem hm).1
theorem mute_zero {p : Prob} (h : p.ok) (b : Blc) : boundM (muteP p) b = 0 := by
  have e : endsM (muteP p) b.k = [] := by
    unfold endsM endsN
    rw [List.take_length]
    have : (muteP p).s.filter (fun b => b.r != -1) = [] := by
      rw [List.filter_eq_nil_iff]
      intro b hb
      obtain ⟨h1, h2⟩ := mute_mem (show b ∈ muteL p.s p.s.length from hb)
      have := scan_mem h.2.1 h1
      obtain ⟨b1, b2, b3, b4⟩ := this
      have : b.r = -1 := by omega
      simp [this]
    rw [this]; rfl
  unfold boundM
  rw [e]; rfl
theorem flat_ok {p : Prob} (h : p.ok) : (flatP p).ok := by
  obtain ⟨⟨f1, f2, f3, f4, f5, f6, f7⟩, h3⟩ := h
  refine ⟨⟨f1, f2, f3, f4, f5, ?_, f7⟩, h3⟩
  show ((List.replicate p.f.v.length (0 : Int)).length : Int) = _
  rw [List.length_replicate]; exact f6
theorem flat_bytes (p : Prob) : bytesL (flatP p).f.v := by
  intro b hb
  have := List.eq_of_mem_replicate (show b ∈ List.replicate p.f.v.length (0 : Int) from hb)
  omega
theorem flat_at (p : Prob) (x y : Int) : atM (flatP p).f x y = 0 := by
  unfold atM
  split
  · show (List.replicate p.f.v.length (0 : Int)).getD _ 0 = 0
    rw [List.getD_eq_getElem?_getD, List.getElem?_replicate]
    split <;> rfl
  · rfl
theorem flat_zero {p : Prob} (h : p.ok) (c : Cnd) : boundM (flatP p) (toB c) = 0 := by
  unfold boundM boundN
  have : ∀ n, smN (fun j => cellB (flatP p) (toB c) ((endsM (flatP p) (toB c).k).getD j ⟨0, 0⟩)) n = smN (fun _ => 0) n := fun n => smN_congr n fun j _ => by
    unfold cellB
    show maxM (flatP p).f 0 _ _ = 0
    rw [max_zero (flat_ok h).1]
    exact flat_at p _ _
  rw [this]
  exact smN_zero _
theorem mempty_law (p : Prob) (a : Int) (hb : bytesL p.f.v) (ha : 0 ≤ a ∧ a ≤ 255) : Pure Try.prog 17 [.agg (encP p), .int .u8 a] (.bool true) := by
  have aw := awake19_pure
  have fw := few9_pure p
  by_cases hf : few9 p
  · rw [decide_eq_true hf] at fw
    have hl : (p.s.length : Int) < 4611686018427387904 := by have := hf.2.1; omega
    have rv := rprob_pure p hl
    by_cases h : p.ok
    · rw [decide_eq_true h] at rv
      have hm := mute_ok h
      have hfl := flat_ok h
      have hlm := mute_len p.s p.s.length
      have fm := find_pure (muteP p) hb (by show ((muteL p.s p.s.length).length : Int) < _; omega)
      have ff := find_pure (flatP p) (flat_bytes p) hl
      unfold fndR at fm ff
      rw [if_pos hm] at fm
      rw [if_pos hfl] at ff
      obtain ⟨m1, m2⟩ := find_zero hm hb (fun c _ => mute_zero h (toB c))
      obtain ⟨n1, n2⟩ := find_zero hfl (flat_bytes p) (fun c _ => flat_zero h c)
      have vv := rvalue_pure (flatP p).f hfl.1 a 0
      rw [flat_at] at vv
      have r0 := h.2.2.2.2.2.1
      have hre := negre r0
      have wa : IntKind.i64.wrap a = a := w64 (by omega) (by omega)
      have hsl := h.2.1.1
      have hvl : p.f.v.length ≤ 4096 := by have := hf.1; omega
      have my := fun i (hi : i < p.s.length) => @mute_yes p.s i hi
      have mn := fun i (hi : i < p.s.length) => @mute_no p.s i hi
      have ml := mute_len p.s
      have m0 : muteL p.s 0 = [] := rfl
      simp only [encMa, encM, m1, m2] at fm
      simp only [encMa, encM, n1, n2] at ff
      clear m1 m2 n1 n2 h hm hfl hf
      generalize (fndM (muteP p)).l = lm at *
      generalize (fndM (flatP p)).l = lf at *
      generalize (fndM (muteP p)).px = u1 at *
      generalize (fndM (muteP p)).py = u2 at *
      generalize (fndM (muteP p)).ph = u3 at *
      generalize (fndM (flatP p)).px = u4 at *
      generalize (fndM (flatP p)).py = u5 at *
      generalize (fndM (flatP p)).ph = u6 at *
      simp only [encP, muteP, flatP] at *
      have tf : (true == false) = false := rfl
      (refine pure_of_ev tt_ok Try.func17 rfl (by decide +kernel) (Nat.le_of_ble_eq_true rfl) ?_; simp only [Try.f17])
      repeat' first
        | refine ev_seq (fun K hK => ?_)
        | ((first | refine evrd (id := 9) hmix tt_ok false [([], true), ([], true), ([], false), ([], false), ([], false), ([], false), ([], false), ([0, 1], false), ([], false), ([], false), ([], false)] (by decide +kernel) ?_ | refine evrd (id := 14) hmix tt_ok false [([], true), ([], true), ([], true), ([], true), ([], true), ([], true), ([], true), ([], true), ([], true), ([], true), ([], true), ([], true), ([], true), ([], true), ([], true), ([], true), ([0, 1, 2, 3, 4, 5, 6, 7, 8, 9, 10, 11], true), ([], true), ([0, 1, 2, 3, 4, 5, 6, 7, 8, 9, 10, 11, 12, 13, 14, 15, 16, 17], false), ([], false)] (by decide +kernel) ?_ | refine evr tt_ok false ?_ | refine ev_skip ?_ | refine ev_ret ?_ | refine ev_exit ?_ | refine evc (fun X Y hX hY => ?_)); simp only [go_sem, reduceAdd, reduceSub, reduceMul, reduceEqDiff, reduceLeDiff, Nat.reduceBEq, reduceLT, reduceIte, reduceCtorEq, Int.reduceToNat]; try (first | (refine ⟨fun h => hX ?_, fun h => hY ?_⟩; clear hX hY) | (refine hX ?_; clear hX hY) | (refine hY ?_; clear hX hY)))
        | refine ev_block ?_
        | (apply hK; clear hK)
        | apply_assumption -exfalso -symm only [*]
        | (refine And.intro ?_ ?_; first | omega | assumption | (unfold maxLen; omega) | (simp only [decide_eq_true_eq, decide_eq_false_iff_not, Int.not_lt, Int.not_le] at h; omega))
        | ((first | apply callP | apply callPG | apply callP0); (case' hv => (simp only [go_sem, reduceAdd, reduceSub, reduceMul, reduceEqDiff, reduceLeDiff, Nat.reduceBEq, reduceLT, reduceIte, reduceCtorEq, Int.reduceToNat]; try exact rfl)); (case' hp => (first | refine' aw | (refine' (fun hg => ?_); refine' aw) | refine' fw | (refine' (fun hg => ?_); refine' fw) | refine' rv | (refine' (fun hg => ?_); refine' rv))); (case' h => ((first | refine evOps_fin ?_ | refine And.intro ?_ (evD_fin ?_) | refine evD_fin ?_) <;> simp only [go_sem, reduceAdd, reduceSub, reduceMul, reduceEqDiff, reduceLeDiff, Nat.reduceBEq, reduceLT, reduceIte, reduceCtorEq, Int.reduceToNat])))
        | (refine callX ?_; (first | refine evOps_fin ?_ | refine And.intro ?_ (evD_fin ?_) | refine evD_fin ?_) <;> simp only [go_sem, reduceAdd, reduceSub, reduceMul, reduceEqDiff, reduceLeDiff, Nat.reduceBEq, reduceLT, reduceIte, reduceCtorEq, Int.reduceToNat])
      refine ev_adoptC 1 0 5 81 2 (by decide) rfl rfl rfl ?_
      refine ev_loop (fun i : Nat => i ≤ p.s.length)
        (fun i => ⟨126, [(6, .int .i64 (i : Int)), (5, .own 1 0 0 0), (2, .own 0 0 0 0), (1, .int .u8 a)],
          [.blk 31 0 11 [[.int .i64 p.f.x, .int .i64 p.f.y, .int .i64 p.f.w, .int .i64 p.f.h, .sl (p.f.v.map enB), .sl (p.s.map enBm), .int .i64 p.cx, .int .i64 p.cy, .int .i64 p.fr, .int .i64 p.ct, .int .i64 p.re]],
           .blk 31 0 11 [[.int .i64 p.f.x, .int .i64 p.f.y, .int .i64 p.f.w, .int .i64 p.f.h, .sl (p.f.v.map enB), .rs 2 (muteL p.s i).length 0 (muteL p.s i).length, .int .i64 p.cx, .int .i64 p.cy, .int .i64 p.fr, .int .i64 p.ct, .int .i64 p.re]],
           .blk 81 (muteL p.s i).length 2 ((muteL p.s i).map enBm)]⟩)
        (fun i => p.s.length - i) 0 (Nat.zero_le _) ?_ ?_
      · simp only [go_sem, reduceAdd, reduceSub, reduceMul, reduceEqDiff, reduceLeDiff, Nat.reduceBEq, reduceLT, reduceIte, reduceCtorEq, Int.reduceToNat, fits, fitT, fitOs, fitO, V.under, unders, rowsUnder, m0]
        repeat' first | rfl | exact rowsUnder_lit _ (lit_beam _) | (simp only [V.under, unders, rowsUnder, Nat.reduceLT]; done) | apply And.intro
      · intro i hi
        have hb0 : 0 ≤ (i : Int) := by omega
        have hw : IntKind.i64.wrap ((i : Int) + 1) = ((i + 1 : Nat) : Int) := by rw [w64] <;> omega
        by_cases hlt : (i : Int) < p.s.length
        · have hg := beam_get p.s i
          have hy := my i (by omega)
          have hn := mn i (by omega)
          have hli := ml i
          generalize p.s.getD i ⟨0, 0⟩ = b at *
          have hq : 1 ≤ maxLen ∧ (muteL p.s i).length + 1 ≤ maxLen ∧ ((muteL p.s i).length + 1) * 16 ≤ 140737488355328 := by
            have : maxLen = 9223372036854775807 := rfl
            omega
          by_cases hr : b.r < 0
          · have e := hy hr
            repeat' first
              | refine ev_seq (fun K hK => ?_)
              | ((first | refine evrd (id := 9) hmix tt_ok false [([], true), ([], true), ([], false), ([], false), ([], false), ([], false), ([], false), ([0, 1], false), ([], false), ([], false), ([], false)] (by decide +kernel) ?_ | refine evrd (id := 14) hmix tt_ok false [([], true), ([], true), ([], true), ([], true), ([], true), ([], true), ([], true), ([], true), ([], true), ([], true), ([], true), ([], true), ([], true), ([], true), ([], true), ([], true), ([0, 1, 2, 3, 4, 5, 6, 7, 8, 9, 10, 11], true), ([], true), ([0, 1, 2, 3, 4, 5, 6, 7, 8, 9, 10, 11, 12, 13, 14, 15, 16, 17], false), ([], false)] (by decide +kernel) ?_ | refine evr tt_ok false ?_ | refine ev_skip ?_ | refine ev_ret ?_ | refine ev_exit ?_ | refine evc (fun X Y hX hY => ?_)); simp only [go_sem, reduceAdd, reduceSub, reduceMul, reduceEqDiff, reduceLeDiff, Nat.reduceBEq, reduceLT, reduceIte, reduceCtorEq, Int.reduceToNat, hlt, hb0, hw, hg, hr, List.length_map, Int.toNat_natCast, Nat.le_refl]; try (first | (refine ⟨fun h => hX ?_, fun h => hY ?_⟩; clear hX hY) | (refine hX ?_; clear hX hY) | (refine hY ?_; clear hX hY)))
              | refine ev_block ?_
              | (apply hK; clear hK)
              | apply_assumption -exfalso -symm only [*]
              | (refine And.intro ?_ ?_; first | omega | assumption | (unfold maxLen; omega) | (simp only [decide_eq_true_eq, decide_eq_false_iff_not, Int.not_lt, Int.not_le] at h; omega))
            refine ⟨i + 1, by omega, ?_, by omega⟩
            rw [e, List.length_append, List.map_append]
            repeat' first | rfl | exact rowsUnder_lit _ (by rw [← List.map_append]; exact lit_beam _) | (simp only [V.under, unders, rowsUnder, Nat.reduceLT]; done) | apply And.intro
          · have e := hn hr
            repeat' first
              | refine ev_seq (fun K hK => ?_)
              | ((first | refine evrd (id := 9) hmix tt_ok false [([], true), ([], true), ([], false), ([], false), ([], false), ([], false), ([], false), ([0, 1], false), ([], false), ([], false), ([], false)] (by decide +kernel) ?_ | refine evrd (id := 14) hmix tt_ok false [([], true), ([], true), ([], true), ([], true), ([], true), ([], true), ([], true), ([], true), ([], true), ([], true), ([], true), ([], true), ([], true), ([], true), ([], true), ([], true), ([0, 1, 2, 3, 4, 5, 6, 7, 8, 9, 10, 11], true), ([], true), ([0, 1, 2, 3, 4, 5, 6, 7, 8, 9, 10, 11, 12, 13, 14, 15, 16, 17], false), ([], false)] (by decide +kernel) ?_ | refine evr tt_ok false ?_ | refine ev_skip ?_ | refine ev_ret ?_ | refine ev_exit ?_ | refine evc (fun X Y hX hY => ?_)); simp only [go_sem, reduceAdd, reduceSub, reduceMul, reduceEqDiff, reduceLeDiff, Nat.reduceBEq, reduceLT, reduceIte, reduceCtorEq, Int.reduceToNat, hlt, hb0, hw, hg, hr, List.length_map, Int.toNat_natCast]; try (first | (refine ⟨fun h => hX ?_, fun h => hY ?_⟩; clear hX hY) | (refine hX ?_; clear hX hY) | (refine hY ?_; clear hX hY)))
              | refine ev_block ?_
              | (apply hK; clear hK)
              | apply_assumption -exfalso -symm only [*]
              | (refine And.intro ?_ ?_; first | omega | assumption | (unfold maxLen; omega) | (simp only [decide_eq_true_eq, decide_eq_false_iff_not, Int.not_lt, Int.not_le] at h; omega))
            refine ⟨i + 1, by omega, ?_, by omega⟩
            rw [e]
            repeat' first | rfl | exact rowsUnder_lit _ (lit_beam _) | (simp only [V.under, unders, rowsUnder, Nat.reduceLT]; done) | apply And.intro
        · obtain rfl : i = p.s.length := by omega
          have hre2 : IntKind.i64.wrap (0 - p.re) = -p.re := hre
          rw [← rep_enB] at ff vv
          generalize hn : (muteL p.s p.s.length) = ms at *
          have nr1 : ∀ ow : List Own, ow[2]? = some (.blk 81 ms.length 2 (ms.map enBm)) → Run Try.prog 24 [.agg [.int .i64 p.f.x, .int .i64 p.f.y, .int .i64 p.f.w, .int .i64 p.f.h, .sl (p.f.v.map enB), .rs 2 ms.length 0 ms.length, .int .i64 p.cx, .int .i64 p.cy, .int .i64 p.fr, .int .i64 p.ct, .int .i64 p.re]] [2, 2] ow (.tup [.agg [.int .i64 0, .int .i64 (-p.re), .int .i64 (-p.re), .int .i64 u1, .int .i64 u2, .int .i64 u3, .int .i64 0, .sl (lm.map enBl)], .int .i64 0]) [(2, .froz 81 ms.length 2 (ms.map enBm))] := fun ow ho => by
            have htk : List.take ms.length (ms.map enBm) = ms.map enBm := List.take_of_length_le (by simp)
            refine run_fz ho (lit_beam _) ?_ fm
            simp only [go_sem, reduceAdd, reduceSub, reduceMul, reduceEqDiff, reduceLeDiff, Nat.reduceBEq, reduceLT, reduceIte, reduceCtorEq, Int.reduceToNat, List.getElem?_set_self (get_lt ho), Nat.sub_zero, Nat.le_refl, List.length_map, List.drop_zero, htk]
          generalize hvn : p.f.v.length = vn at *
          have hlit : litRows (List.replicate vn [V.int .u8 0]) = true := by rw [rep_enB]; exact lit_enB _
          have htk2 : List.take vn (List.replicate vn [V.int .u8 0]) = List.replicate vn [V.int .u8 0] := List.take_of_length_le (by simp)
          have nr2 : ∀ ow : List Own, ow[5]? = some (.blk 5 0 1 (List.replicate vn [V.int .u8 0])) → Run Try.prog 24 [.agg [.int .i64 p.f.x, .int .i64 p.f.y, .int .i64 p.f.w, .int .i64 p.f.h, .rs 5 0 0 vn, .sl (p.s.map enBm), .int .i64 p.cx, .int .i64 p.cy, .int .i64 p.fr, .int .i64 p.ct, .int .i64 p.re]] [5, 5] ow (.tup [.agg [.int .i64 0, .int .i64 (-p.re), .int .i64 (-p.re), .int .i64 u4, .int .i64 u5, .int .i64 u6, .int .i64 0, .sl (lf.map enBl)], .int .i64 0]) [(5, .froz 5 0 1 (List.replicate vn [V.int .u8 0]))] := fun ow ho => by
            refine run_fz ho hlit ?_ ff
            simp only [go_sem, reduceAdd, reduceSub, reduceMul, reduceEqDiff, reduceLeDiff, Nat.reduceBEq, reduceLT, reduceIte, reduceCtorEq, Int.reduceToNat, List.getElem?_set_self (get_lt ho), Nat.sub_zero, Nat.le_refl, List.length_replicate, List.drop_zero, htk2]
          have v0 : (0 : Int) ≤ (vn : Int) := by omega
          have v1 : (vn : Int) ≤ ((maxLen : Nat) : Int) := by unfold maxLen; omega
          have v2 : 1 * vn ≤ 281474976710656 := by omega
          repeat' first
            | refine ev_seq (fun K hK => ?_)
            | ((first | refine evrd (id := 9) hmix tt_ok false [([], true), ([], true), ([], false), ([], false), ([], false), ([], false), ([], false), ([0, 1], false), ([], false), ([], false), ([], false)] (by decide +kernel) ?_ | refine evrd (id := 14) hmix tt_ok false [([], true), ([], true), ([], true), ([], true), ([], true), ([], true), ([], true), ([], true), ([], true), ([], true), ([], true), ([], true), ([], true), ([], true), ([], true), ([], true), ([0, 1, 2, 3, 4, 5, 6, 7, 8, 9, 10, 11], true), ([], true), ([0, 1, 2, 3, 4, 5, 6, 7, 8, 9, 10, 11, 12, 13, 14, 15, 16, 17], false), ([], false)] (by decide +kernel) ?_ | refine evr tt_ok false ?_ | refine ev_skip ?_ | refine ev_ret ?_ | refine ev_exit ?_ | refine evc (fun X Y hX hY => ?_)); simp only [go_sem, reduceAdd, reduceSub, reduceMul, reduceEqDiff, reduceLeDiff, Nat.reduceBEq, reduceLT, reduceIte, reduceCtorEq, Int.reduceToNat, hlt, hvn, hre2, wa, v0, v1, v2, htk2, List.length_map, List.length_replicate, Int.toNat_natCast, bne, Int.reduceBEq, beq_self_eq_true, Nat.one_mul, Nat.le_refl, Nat.sub_zero, List.drop_zero]; try (first | (refine ⟨fun h => hX ?_, fun h => hY ?_⟩; clear hX hY) | (refine hX ?_; clear hX hY) | (refine hY ?_; clear hX hY)))
            | refine ev_block ?_
            | (apply hK; clear hK)
            | apply_assumption -exfalso -symm only [*]
            | (refine And.intro ?_ ?_; first | omega | assumption | (unfold maxLen; omega) | (simp only [decide_eq_true_eq, decide_eq_false_iff_not, Int.not_lt, Int.not_le] at h; omega))
            | ((first | apply callE | apply callEG | apply callE0); (case' hp => (first | refine' nr1 _ rfl | (refine' (fun hg => ?_); refine' nr1 _ rfl) | refine' nr2 _ rfl | (refine' (fun hg => ?_); refine' nr2 _ rfl))); (case' h => ((first | refine evOps_fin ?_ | refine And.intro ?_ (evD_fin ?_) | refine evD_fin ?_) <;> simp only [go_sem, reduceAdd, reduceSub, reduceMul, reduceEqDiff, reduceLeDiff, Nat.reduceBEq, reduceLT, reduceIte, reduceCtorEq, Int.reduceToNat, hlt, hvn, hre2, wa, v0, v1, v2, htk2, List.length_map, List.length_replicate, Int.toNat_natCast, bne, Int.reduceBEq, beq_self_eq_true, Nat.one_mul, Nat.le_refl, Nat.sub_zero, List.drop_zero])))
            | ((first | apply callP | apply callPG | apply callP0); (case' hv => (simp only [go_sem, reduceAdd, reduceSub, reduceMul, reduceEqDiff, reduceLeDiff, Nat.reduceBEq, reduceLT, reduceIte, reduceCtorEq, Int.reduceToNat, hlt, hvn, hre2, wa, v0, v1, v2, htk2, List.length_map, List.length_replicate, Int.toNat_natCast, bne, Int.reduceBEq, beq_self_eq_true, Nat.one_mul, Nat.le_refl, Nat.sub_zero, List.drop_zero]; try exact rfl)); (case' hp => (first | refine' vv | (refine' (fun hg => ?_); refine' vv))); (case' h => ((first | refine evOps_fin ?_ | refine And.intro ?_ (evD_fin ?_) | refine evD_fin ?_) <;> simp only [go_sem, reduceAdd, reduceSub, reduceMul, reduceEqDiff, reduceLeDiff, Nat.reduceBEq, reduceLT, reduceIte, reduceCtorEq, Int.reduceToNat, hlt, hvn, hre2, wa, v0, v1, v2, htk2, List.length_map, List.length_replicate, Int.toNat_natCast, bne, Int.reduceBEq, beq_self_eq_true, Nat.one_mul, Nat.le_refl, Nat.sub_zero, List.drop_zero])))
            | (refine callX ?_; (first | refine evOps_fin ?_ | refine And.intro ?_ (evD_fin ?_) | refine evD_fin ?_) <;> simp only [go_sem, reduceAdd, reduceSub, reduceMul, reduceEqDiff, reduceLeDiff, Nat.reduceBEq, reduceLT, reduceIte, reduceCtorEq, Int.reduceToNat, hlt, hvn, hre2, wa, v0, v1, v2, htk2, List.length_map, List.length_replicate, Int.toNat_natCast, bne, Int.reduceBEq, beq_self_eq_true, Nat.one_mul, Nat.le_refl, Nat.sub_zero, List.drop_zero])
    · rw [decide_eq_false h] at rv
      simp only [encP] at *
      (refine pure_of_ev tt_ok Try.func17 rfl (by decide +kernel) (Nat.le_of_ble_eq_true rfl) ?_; simp only [Try.f17])
      repeat' first
        | refine ev_seq (fun K hK => ?_)
        | ((first | refine evrd (id := 9) hmix tt_ok false [([], true), ([], true), ([], false), ([], false), ([], false), ([], false), ([], false), ([0, 1], false), ([], false), ([], false), ([], false)] (by decide +kernel) ?_ | refine evrd (id := 14) hmix tt_ok false [([], true), ([], true), ([], true), ([], true), ([], true), ([], true), ([], true), ([], true), ([], true), ([], true), ([], true), ([], true), ([], true), ([], true), ([], true), ([], true), ([0, 1, 2, 3, 4, 5, 6, 7, 8, 9, 10, 11], true), ([], true), ([0, 1, 2, 3, 4, 5, 6, 7, 8, 9, 10, 11, 12, 13, 14, 15, 16, 17], false), ([], false)] (by decide +kernel) ?_ | refine evr tt_ok false ?_ | refine ev_skip ?_ | refine ev_ret ?_ | refine ev_exit ?_ | refine evc (fun X Y hX hY => ?_)); simp only [go_sem, reduceAdd, reduceSub, reduceMul, reduceEqDiff, reduceLeDiff, Nat.reduceBEq, reduceLT, reduceIte, reduceCtorEq, Int.reduceToNat]; try (first | (refine ⟨fun h => hX ?_, fun h => hY ?_⟩; clear hX hY) | (refine hX ?_; clear hX hY) | (refine hY ?_; clear hX hY)))
        | refine ev_block ?_
        | (apply hK; clear hK)
        | apply_assumption -exfalso -symm only [*]
        | (refine And.intro ?_ ?_; first | omega | assumption | (unfold maxLen; omega) | (simp only [decide_eq_true_eq, decide_eq_false_iff_not, Int.not_lt, Int.not_le] at h; omega))
        | ((first | apply callP | apply callPG | apply callP0); (case' hv => (simp only [go_sem, reduceAdd, reduceSub, reduceMul, reduceEqDiff, reduceLeDiff, Nat.reduceBEq, reduceLT, reduceIte, reduceCtorEq, Int.reduceToNat]; try exact rfl)); (case' hp => (first | refine' aw | (refine' (fun hg => ?_); refine' aw) | refine' fw | (refine' (fun hg => ?_); refine' fw) | refine' rv | (refine' (fun hg => ?_); refine' rv) | refine' aw | (refine' (fun hg => ?_); refine' aw))); (case' h => ((first | refine evOps_fin ?_ | refine And.intro ?_ (evD_fin ?_) | refine evD_fin ?_) <;> simp only [go_sem, reduceAdd, reduceSub, reduceMul, reduceEqDiff, reduceLeDiff, Nat.reduceBEq, reduceLT, reduceIte, reduceCtorEq, Int.reduceToNat])))
        | (refine callX ?_; (first | refine evOps_fin ?_ | refine And.intro ?_ (evD_fin ?_) | refine evD_fin ?_) <;> simp only [go_sem, reduceAdd, reduceSub, reduceMul, reduceEqDiff, reduceLeDiff, Nat.reduceBEq, reduceLT, reduceIte, reduceCtorEq, Int.reduceToNat])
  · rw [decide_eq_false hf] at fw
    simp only [encP] at *
    (refine pure_of_ev tt_ok Try.func17 rfl (by decide +kernel) (Nat.le_of_ble_eq_true rfl) ?_; simp only [Try.f17])
    repeat' first
      | refine ev_seq (fun K hK => ?_)
      | ((first | refine evrd (id := 9) hmix tt_ok false [([], true), ([], true), ([], false), ([], false), ([], false), ([], false), ([], false), ([0, 1], false), ([], false), ([], false), ([], false)] (by decide +kernel) ?_ | refine evrd (id := 14) hmix tt_ok false [([], true), ([], true), ([], true), ([], true), ([], true), ([], true), ([], true), ([], true), ([], true), ([], true), ([], true), ([], true), ([], true), ([], true), ([], true), ([], true), ([0, 1, 2, 3, 4, 5, 6, 7, 8, 9, 10, 11], true), ([], true), ([0, 1, 2, 3, 4, 5, 6, 7, 8, 9, 10, 11, 12, 13, 14, 15, 16, 17], false), ([], false)] (by decide +kernel) ?_ | refine evr tt_ok false ?_ | refine ev_skip ?_ | refine ev_ret ?_ | refine ev_exit ?_ | refine evc (fun X Y hX hY => ?_)); simp only [go_sem, reduceAdd, reduceSub, reduceMul, reduceEqDiff, reduceLeDiff, Nat.reduceBEq, reduceLT, reduceIte, reduceCtorEq, Int.reduceToNat]; try (first | (refine ⟨fun h => hX ?_, fun h => hY ?_⟩; clear hX hY) | (refine hX ?_; clear hX hY) | (refine hY ?_; clear hX hY)))
      | refine ev_block ?_
      | (apply hK; clear hK)
      | apply_assumption -exfalso -symm only [*]
      | (refine And.intro ?_ ?_; first | omega | assumption | (unfold maxLen; omega) | (simp only [decide_eq_true_eq, decide_eq_false_iff_not, Int.not_lt, Int.not_le] at h; omega))
      | ((first | apply callP | apply callPG | apply callP0); (case' hv => (simp only [go_sem, reduceAdd, reduceSub, reduceMul, reduceEqDiff, reduceLeDiff, Nat.reduceBEq, reduceLT, reduceIte, reduceCtorEq, Int.reduceToNat]; try exact rfl)); (case' hp => (first | refine' aw | (refine' (fun hg => ?_); refine' aw) | refine' fw | (refine' (fun hg => ?_); refine' fw) | refine' aw | (refine' (fun hg => ?_); refine' aw))); (case' h => ((first | refine evOps_fin ?_ | refine And.intro ?_ (evD_fin ?_) | refine evD_fin ?_) <;> simp only [go_sem, reduceAdd, reduceSub, reduceMul, reduceEqDiff, reduceLeDiff, Nat.reduceBEq, reduceLT, reduceIte, reduceCtorEq, Int.reduceToNat])))
      | (refine callX ?_; (first | refine evOps_fin ?_ | refine And.intro ?_ (evD_fin ?_) | refine evD_fin ?_) <;> simp only [go_sem, reduceAdd, reduceSub, reduceMul, reduceEqDiff, reduceLeDiff, Nat.reduceBEq, reduceLT, reduceIte, reduceCtorEq, Int.reduceToNat])
end Go.Proofs.Ytokhaefcnbiadaa
