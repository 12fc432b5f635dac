import Derived.Test.YtmpmggbcmioipaaF1
set_option linter.all false
namespace Go.Proofs.Ytmpmggbcmioipaa
open Nat (reduceAdd reduceSub reduceMul reduceEqDiff reduceLeDiff reduceLT)
open Go Go.K
set_option maxRecDepth 20000
set_option maxHeartbeats 16000000
/-! ### the pair with the least added volume -/
def hB (l : List Box) (i j : Nat) : Box := hullB (l.getD i Box.zero) (l.getD j Box.zero)
def nB (l : List Box) (i j : Nat) : Int := (hB l i j).vol - (l.getD i Box.zero).vol - (l.getD j Box.zero).vol
def stepP (l : List Box) (s : Option (Nat × Nat)) (i j : Nat) : Option (Nat × Nat) := match s with
  | none => some (i, j)
  | some (a, b) => if nB l i j < nB l a b then some (i, j) else some (a, b)
def pkJ (l : List Box) (i : Nat) (s : Option (Nat × Nat)) : Nat → Option (Nat × Nat)
  | 0 => s
  | m + 1 => stepP l (pkJ l i s m) i (i + 1 + m)
def pkI (l : List Box) : Nat → Option (Nat × Nat)
  | 0 => none
  | i + 1 => pkJ l i (pkI l i) (l.length - (i + 1))
def pick (l : List Box) : Option (Nat × Nat) := pkI l l.length
def fO : Option (Nat × Nat) → Int
  | none => -1
  | some p => p.1
def sO : Option (Nat × Nat) → Int
  | none => -1
  | some p => p.2
def bO (l : List Box) : Option (Nat × Nat) → Int
  | none => 0
  | some p => nB l p.1 p.2
def hO (l : List Box) : Option (Nat × Nat) → Box
  | none => Box.zero
  | some p => hB l p.1 p.2
theorem nB_bound (l : List Box) (i j : Nat) : -2251801961169408 ≤ nB l i j ∧ nB l i j ≤ 1125900980584704 := by
  have h1 := vol_le (b := hB l i j)
  have h2 := vol_le (b := l.getD i Box.zero)
  have h3 := vol_le (b := l.getD j Box.zero)
  unfold nB
  omega
def lowO (n : Nat) (s : Option (Nat × Nat)) : Prop := ∀ p, s = some p → p.1 < p.2 ∧ p.2 < n
theorem stepP_low {l : List Box} {n : Nat} {s : Option (Nat × Nat)} (h : lowO n s) {i j : Nat} (hij : i < j) (hj : j < n) : lowO n (stepP l s i j) := by
  intro p hp
  unfold stepP at hp
  split at hp
  · cases hp; exact ⟨hij, hj⟩
  · rename_i a b
    split at hp
    · cases hp; exact ⟨hij, hj⟩
    · cases hp; exact h _ rfl
theorem pkJ_low {l : List Box} {n : Nat} {s : Option (Nat × Nat)} (h : lowO n s) (i : Nat) : ∀ m, i + 1 + m ≤ n → lowO n (pkJ l i s m)
  | 0, _ => h
  | m + 1, hm => stepP_low (pkJ_low h i m (by omega)) (by omega) (by omega)
theorem pkI_low {l : List Box} : ∀ i, i ≤ l.length → lowO l.length (pkI l i)
  | 0, _ => fun p hp => by cases hp
  | i + 1, hi => pkJ_low (pkI_low i (by omega)) i _ (by omega)
theorem stepP_some {l : List Box} {s : Option (Nat × Nat)} {i j : Nat} : (stepP l s i j).isSome = true := by
  unfold stepP
  split
  · rfl
  · split <;> rfl
theorem pkJ_keeps {l : List Box} {s : Option (Nat × Nat)} (h : s.isSome = true) (i : Nat) : ∀ m, (pkJ l i s m).isSome = true
  | 0 => h
  | m + 1 => stepP_some
theorem pkI_some {l : List Box} (h2 : 2 ≤ l.length) : ∀ i, 1 ≤ i → (pkI l i).isSome = true
  | 0, h => by omega
  | 1, _ => by
    show (pkJ l 0 none (l.length - 1)).isSome = true
    obtain ⟨m, hm⟩ : ∃ m, l.length - 1 = m + 1 := ⟨l.length - 2, by omega⟩
    rw [hm]; exact stepP_some
  | i + 2, _ => pkJ_keeps (pkI_some h2 (i + 1) (by omega)) _ _
theorem pick_some {l : List Box} (h2 : 2 ≤ l.length) : ∃ a b, pick l = some (a, b) ∧ a < b ∧ b < l.length := by
  have h := pkI_some h2 l.length (by omega)
  obtain ⟨⟨a, b⟩, hp⟩ := Option.isSome_iff_exists.1 h
  have := pkI_low (l := l) l.length (Nat.le_refl _) _ hp
  exact ⟨a, b, hp, this⟩
theorem getD_dropB (l : List Box) (i k : Nat) : (l.drop i).getD k Box.zero = l.getD (i + k) Box.zero := by
  rw [List.getD_eq_getElem?_getD, List.getD_eq_getElem?_getD, List.getElem?_drop]
theorem dropB (l : List Box) (i : Nat) : List.take (l.length - i) (List.drop i (l.map encBox)) = (l.drop i).map encBox := by
  rw [← List.map_drop, List.take_of_length_le (by simp)]
theorem cheapest_pure (l : List Box) (hall : ∀ i, i < l.length → (l.getD i Box.zero).ok) (hl : l.length ≤ 256) : Pure Try.prog 36 [.sl (l.map encBox)] (.tup [.int .i64 (fO (pick l)), .int .i64 (sO (pick l)), .agg (encBox (hO l (pick l)))]) := by
  (refine pure_of_ev tt_ok Try.func36 rfl (by decide +kernel) (Nat.le_of_ble_eq_true rfl) ?_; simp only [Try.f36])
  repeat' first
    | refine ev_seq (fun K hK => ?_)
    | ((first | refine evrd (id := 10) hmix tt_ok false [([], false), ([], true), ([1], false), ([], true), ([], true), ([1, 3], false), ([4], false), ([], false), ([], false)] (by decide +kernel) ?_ | refine evrd (id := 12) hmix tt_ok false [([], false), ([], false), ([], false), ([], false), ([], false), ([], false), ([], false), ([], false), ([], false), ([], false), ([], false)] (by decide +kernel) ?_ | refine evrd (id := 15) hmix tt_ok false [([], false), ([], false), ([], false), ([], false), ([], false), ([], false)] (by decide +kernel) ?_ | refine evr tt_ok false ?_ | refine ev_skip ?_ | refine ev_ret ?_ | refine ev_exit ?_ | refine evc (fun X Y hX hY => ?_)); simp only [go_sem, reduceAdd, reduceSub, reduceMul, reduceEqDiff, reduceLeDiff, Nat.reduceBEq, reduceLT, reduceIte, reduceCtorEq, Int.reduceToNat, List.length_map]; try (first | (refine ⟨fun h => hX ?_, fun h => hY ?_⟩; clear hX hY) | (refine hX ?_; clear hX hY) | (refine hY ?_; clear hX hY)))
    | refine ev_block ?_
    | (apply hK; clear hK)
    | apply_assumption -exfalso -symm only [*]
    | (refine And.intro ?_ ?_; first | omega | assumption | (unfold maxLen; omega) | (simp only [decide_eq_true_eq, decide_eq_false_iff_not, Int.not_lt, Int.not_le] at h; omega))
  refine ev_loop (fun i : Nat => i ≤ l.length)
    (fun i => ⟨66, [(18, .int .i64 (i : Int)), (17, .int .i64 l.length), (16, .sl (l.map encBox)), (8, .own 1 0 0 0), (7, .int .i64 (bO l (pkI l i))), (6, .int .i64 (sO (pkI l i))), (5, .int .i64 (fO (pkI l i))), (4, .own 0 0 0 0), (0, .sl (l.map encBox))], [.blk 33 0 6 [[.int .i64 0, .int .i64 0, .int .i64 0, .int .i64 0, .int .i64 0, .int .i64 0]], .blk 33 0 6 [[.int .i64 (hO l (pkI l i)).x0, .int .i64 (hO l (pkI l i)).y0, .int .i64 (hO l (pkI l i)).x1, .int .i64 (hO l (pkI l i)).y1, .int .i64 (hO l (pkI l i)).f, .int .i64 (hO l (pkI l i)).c]]]⟩)
    (fun i => l.length - i) 0 (Nat.zero_le _) ?_ ?_
  · simp only [go_sem, reduceAdd, reduceSub, reduceMul, reduceEqDiff, reduceLeDiff, Nat.reduceBEq, reduceLT, reduceIte, reduceCtorEq, Int.reduceToNat, fits, fitT, fitOs, fitO, V.under, unders, rowsUnder]
    repeat' first | rfl | (simp only [V.under, unders, rowsUnder, Nat.reduceLT]; done) | apply And.intro
  · intro i hi
    have hb0 : 0 ≤ (i : Int) := by omega
    by_cases hlt : (i : Int) < l.length
    · have hw : IntKind.i64.wrap ((i : Int) + 1) = ((i + 1 : Nat) : Int) := by rw [w64] <;> omega
      have hq := hall i (by omega)
      have hg := box_get l i
      have hs0 : (0 : Int) ≤ ((i + 1 : Nat) : Int) := by omega
      have hs1 : ((i + 1 : Nat) : Int) ≤ (l.length : Int) := by omega
      have hls : (l.drop (i + 1)).length = l.length - (i + 1) := List.length_drop ..
      have hs2 : ((l.length : Int) - ((i + 1 : Nat) : Int)).toNat = l.length - (i + 1) := by omega
      have hr6 : ((l.map encBox).getD 0 [.int .i64 0, .int .i64 0, .int .i64 0, .int .i64 0, .int .i64 0, .int .i64 0]).length = 6 := by rw [box_get]; rfl
      obtain ⟨q, hqq⟩ : ∃ q, q = l.getD i Box.zero := ⟨_, rfl⟩
      rw [← hqq] at hg hq
      repeat' first
        | refine ev_seq (fun K hK => ?_)
        | ((first | refine evrd (id := 10) hmix tt_ok false [([], false), ([], true), ([1], false), ([], true), ([], true), ([1, 3], false), ([4], false), ([], false), ([], false)] (by decide +kernel) ?_ | refine evrd (id := 12) hmix tt_ok false [([], false), ([], false), ([], false), ([], false), ([], false), ([], false), ([], false), ([], false), ([], false), ([], false), ([], false)] (by decide +kernel) ?_ | refine evrd (id := 15) hmix tt_ok false [([], false), ([], false), ([], false), ([], false), ([], false), ([], false)] (by decide +kernel) ?_ | refine evr tt_ok false ?_ | refine ev_skip ?_ | refine ev_ret ?_ | refine ev_exit ?_ | refine evc (fun X Y hX hY => ?_)); simp only [go_sem, reduceAdd, reduceSub, reduceMul, reduceEqDiff, reduceLeDiff, Nat.reduceBEq, reduceLT, reduceIte, reduceCtorEq, Int.reduceToNat, Option.toArray, hb0, hw, hs0, hs1, hlt, hg, hr6, hs2, dropB, hls, Nat.le_refl, Int.le_refl, List.length_map, Int.toNat_natCast]; try (first | (refine ⟨fun h => hX ?_, fun h => hY ?_⟩; clear hX hY) | (refine hX ?_; clear hX hY) | (refine hY ?_; clear hX hY)))
        | refine ev_block ?_
        | (apply hK; clear hK)
        | apply_assumption -exfalso -symm only [*]
        | (refine And.intro ?_ ?_; first | omega | assumption | (unfold maxLen; omega) | (simp only [decide_eq_true_eq, decide_eq_false_iff_not, Int.not_lt, Int.not_le] at h; omega))
      refine ev_loop (fun k : Nat => k ≤ l.length - (i + 1))
        (fun k => ⟨66, [(28, .int .i64 (k : Int)), (27, .int .i64 ((l.length - (i + 1) : Nat) : Int)), (26, .sl ((l.drop (i + 1)).map encBox)), (10, .own 2 0 0 0), (9, .int .i64 (i : Int)), (18, .int .i64 (i : Int)), (17, .int .i64 l.length), (16, .sl (l.map encBox)), (8, .own 1 0 0 0), (7, .int .i64 (bO l (pkJ l i (pkI l i) k))), (6, .int .i64 (sO (pkJ l i (pkI l i) k))), (5, .int .i64 (fO (pkJ l i (pkI l i) k))), (4, .own 0 0 0 0), (0, .sl (l.map encBox))], [.blk 33 0 6 [[.int .i64 0, .int .i64 0, .int .i64 0, .int .i64 0, .int .i64 0, .int .i64 0]], .blk 33 0 6 [[.int .i64 (hO l (pkJ l i (pkI l i) k)).x0, .int .i64 (hO l (pkJ l i (pkI l i) k)).y0, .int .i64 (hO l (pkJ l i (pkI l i) k)).x1, .int .i64 (hO l (pkJ l i (pkI l i) k)).y1, .int .i64 (hO l (pkJ l i (pkI l i) k)).f, .int .i64 (hO l (pkJ l i (pkI l i) k)).c]], .blk 33 0 6 [[.int .i64 q.x0, .int .i64 q.y0, .int .i64 q.x1, .int .i64 q.y1, .int .i64 q.f, .int .i64 q.c]]]⟩)
        (fun k => l.length - (i + 1) - k) 0 (Nat.zero_le _) ?_ ?_
      · simp only [go_sem, reduceAdd, reduceSub, reduceMul, reduceEqDiff, reduceLeDiff, Nat.reduceBEq, reduceLT, reduceIte, reduceCtorEq, Int.reduceToNat, fits, fitT, fitOs, fitO, V.under, unders, rowsUnder]
        repeat' first | rfl | (simp only [V.under, unders, rowsUnder, Nat.reduceLT]; done) | apply And.intro
      · intro k hk
        have hk0 : 0 ≤ (k : Int) := by omega
        have hwk : IntKind.i64.wrap ((k : Int) + 1) = ((k + 1 : Nat) : Int) := by rw [w64] <;> omega
        by_cases hlk : (k : Int) < ((l.length - (i + 1) : Nat) : Int)
        · have hr := hall (i + 1 + k) (by omega)
          have hgk := box_get (l.drop (i + 1)) k
          rw [getD_dropB] at hgk
          have hNv : nB l i (i + 1 + k) = (hB l i (i + 1 + k)).vol - (l.getD i Box.zero).vol - (l.getD (i + 1 + k) Box.zero).vol := rfl
          have hHv : hB l i (i + 1 + k) = hullB (l.getD i Box.zero) (l.getD (i + 1 + k) Box.zero) := rfl
          obtain ⟨r, hrr⟩ : ∃ r, r = l.getD (i + 1 + k) Box.zero := ⟨_, rfl⟩
          rw [← hrr] at hgk hr hNv hHv
          rw [← hqq] at hNv hHv
          have hv := bhull_pure q r
          rw [show resHull q r = .tup [.agg (encBox (hullB q r)), .int .i64 0] from if_pos ⟨hq, hr⟩, ← hHv] at hv
          simp only [encBox] at hv
          obtain ⟨h, hh⟩ : ∃ h, h = hB l i (i + 1 + k) := ⟨_, rfl⟩
          rw [← hh] at hv hNv
          have v1 := volume_pure h
          have v2 := volume_pure q
          have v3 := volume_pure r
          have c1 := vol_le (b := h)
          have c2 := vol_le (b := q)
          have c3 := vol_le (b := r)
          have w1 : IntKind.i64.wrap (h.vol - q.vol) = h.vol - q.vol := by rw [w64] <;> omega
          have w2 : IntKind.i64.wrap (h.vol - q.vol - r.vol) = nB l i (i + 1 + k) := by rw [w64, hNv] <;> omega
          have w3 : IntKind.i64.wrap (((i + 1 : Nat) : Int) + (k : Int)) = ((i + 1 + k : Nat) : Int) := by rw [w64] <;> omega
          have hst : pkJ l i (pkI l i) (k + 1) = stepP l (pkJ l i (pkI l i) k) i (i + 1 + k) := rfl
          generalize hS : pkJ l i (pkI l i) k = Sx at *
          clear hall hNv c1 c2 c3 hrr hqq hHv
          cases Sx with
          | none =>
            have hst2 : pkJ l i (pkI l i) (k + 1) = some (i, i + 1 + k) := hst
            have e1 : fO none = -1 := rfl
            have e2 : sO none = -1 := rfl
            have e3 : bO l none = 0 := rfl
            have e4 : hO l none = Box.zero := rfl
            repeat' first
              | refine ev_seq (fun K hK => ?_)
              | ((first | refine evrd (id := 10) hmix tt_ok false [([], false), ([], true), ([1], false), ([], true), ([], true), ([1, 3], false), ([4], false), ([], false), ([], false)] (by decide +kernel) ?_ | refine evrd (id := 12) hmix tt_ok false [([], false), ([], false), ([], false), ([], false), ([], false), ([], false), ([], false), ([], false), ([], false), ([], false), ([], false)] (by decide +kernel) ?_ | refine evrd (id := 15) hmix tt_ok false [([], false), ([], false), ([], false), ([], false), ([], false), ([], false)] (by decide +kernel) ?_ | refine evr tt_ok false ?_ | refine ev_skip ?_ | refine ev_ret ?_ | refine ev_exit ?_ | refine evc (fun X Y hX hY => ?_)); simp only [go_sem, reduceAdd, reduceSub, reduceMul, reduceEqDiff, reduceLeDiff, Nat.reduceBEq, reduceLT, reduceIte, reduceCtorEq, Int.reduceToNat, e1, e2, e3, e4, hb0, hw, hk0, hwk, hlk, hgk, w1, w2, w3, Nat.le_refl, List.length_map, Int.toNat_natCast, Int.reduceNeg, Int.reduceLT, hls]; try (first | (refine ⟨fun h => hX ?_, fun h => hY ?_⟩; clear hX hY) | (refine hX ?_; clear hX hY) | (refine hY ?_; clear hX hY)))
              | refine ev_block ?_
              | (apply hK; clear hK)
              | apply_assumption -exfalso -symm only [*]
              | (refine And.intro ?_ ?_; first | omega | assumption | (unfold maxLen; omega) | (simp only [decide_eq_true_eq, decide_eq_false_iff_not, Int.not_lt, Int.not_le] at h; omega))
              | ((first | apply callP | apply callPG | apply callP0); (case' hv => (simp only [go_sem, reduceAdd, reduceSub, reduceMul, reduceEqDiff, reduceLeDiff, Nat.reduceBEq, reduceLT, reduceIte, reduceCtorEq, Int.reduceToNat, e1, e2, e3, e4, hb0, hw, hk0, hwk, hlk, hgk, w1, w2, w3, Nat.le_refl, List.length_map, Int.toNat_natCast, Int.reduceNeg, Int.reduceLT, hls]; try exact rfl)); (case' hp => (first | refine' hv | (refine' (fun hg => ?_); refine' hv) | refine' v1 | (refine' (fun hg => ?_); refine' v1) | refine' v2 | (refine' (fun hg => ?_); refine' v2) | refine' v3 | (refine' (fun hg => ?_); refine' v3))); (case' h => ((first | refine evOps_fin ?_ | refine And.intro ?_ (evD_fin ?_) | refine evD_fin ?_) <;> simp only [go_sem, reduceAdd, reduceSub, reduceMul, reduceEqDiff, reduceLeDiff, Nat.reduceBEq, reduceLT, reduceIte, reduceCtorEq, Int.reduceToNat, e1, e2, e3, e4, hb0, hw, hk0, hwk, hlk, hgk, w1, w2, w3, Nat.le_refl, List.length_map, Int.toNat_natCast, Int.reduceNeg, Int.reduceLT, hls])))
              | (refine callX ?_; (first | refine evOps_fin ?_ | refine And.intro ?_ (evD_fin ?_) | refine evD_fin ?_) <;> simp only [go_sem, reduceAdd, reduceSub, reduceMul, reduceEqDiff, reduceLeDiff, Nat.reduceBEq, reduceLT, reduceIte, reduceCtorEq, Int.reduceToNat, e1, e2, e3, e4, hb0, hw, hk0, hwk, hlk, hgk, w1, w2, w3, Nat.le_refl, List.length_map, Int.toNat_natCast, Int.reduceNeg, Int.reduceLT, hls])
            refine ⟨k + 1, by omega, ?_, by omega⟩
            rw [hst2]
            subst hh
            repeat' first | rfl | apply And.intro
          | some p =>
            obtain ⟨pa, pb⟩ := p
            have e1 : fO (some (pa, pb)) = (pa : Int) := rfl
            have e2 : sO (some (pa, pb)) = (pb : Int) := rfl
            have e3 : bO l (some (pa, pb)) = nB l pa pb := rfl
            have e4 : hO l (some (pa, pb)) = hB l pa pb := rfl
            have ha0 : ¬ ((pa : Int) < 0) := by omega
            by_cases hn : nB l i (i + 1 + k) < nB l pa pb
            · have hst2 : pkJ l i (pkI l i) (k + 1) = some (i, i + 1 + k) := by rw [hst]; exact if_pos hn
              repeat' first
                | refine ev_seq (fun K hK => ?_)
                | ((first | refine evrd (id := 10) hmix tt_ok false [([], false), ([], true), ([1], false), ([], true), ([], true), ([1, 3], false), ([4], false), ([], false), ([], false)] (by decide +kernel) ?_ | refine evrd (id := 12) hmix tt_ok false [([], false), ([], false), ([], false), ([], false), ([], false), ([], false), ([], false), ([], false), ([], false), ([], false), ([], false)] (by decide +kernel) ?_ | refine evrd (id := 15) hmix tt_ok false [([], false), ([], false), ([], false), ([], false), ([], false), ([], false)] (by decide +kernel) ?_ | refine evr tt_ok false ?_ | refine ev_skip ?_ | refine ev_ret ?_ | refine ev_exit ?_ | refine evc (fun X Y hX hY => ?_)); simp only [go_sem, reduceAdd, reduceSub, reduceMul, reduceEqDiff, reduceLeDiff, Nat.reduceBEq, reduceLT, reduceIte, reduceCtorEq, Int.reduceToNat, ha0, hn, e1, e2, e3, e4, hb0, hw, hk0, hwk, hlk, hgk, w1, w2, w3, Nat.le_refl, List.length_map, Int.toNat_natCast, Int.reduceNeg, Int.reduceLT, hls]; try (first | (refine ⟨fun h => hX ?_, fun h => hY ?_⟩; clear hX hY) | (refine hX ?_; clear hX hY) | (refine hY ?_; clear hX hY)))
                | refine ev_block ?_
                | (apply hK; clear hK)
                | apply_assumption -exfalso -symm only [*]
                | (refine And.intro ?_ ?_; first | omega | assumption | (unfold maxLen; omega) | (simp only [decide_eq_true_eq, decide_eq_false_iff_not, Int.not_lt, Int.not_le] at h; omega))
                | ((first | apply callP | apply callPG | apply callP0); (case' hv => (simp only [go_sem, reduceAdd, reduceSub, reduceMul, reduceEqDiff, reduceLeDiff, Nat.reduceBEq, reduceLT, reduceIte, reduceCtorEq, Int.reduceToNat, ha0, hn, e1, e2, e3, e4, hb0, hw, hk0, hwk, hlk, hgk, w1, w2, w3, Nat.le_refl, List.length_map, Int.toNat_natCast, Int.reduceNeg, Int.reduceLT, hls]; try exact rfl)); (case' hp => (first | refine' hv | (refine' (fun hg => ?_); refine' hv) | refine' v1 | (refine' (fun hg => ?_); refine' v1) | refine' v2 | (refine' (fun hg => ?_); refine' v2) | refine' v3 | (refine' (fun hg => ?_); refine' v3))); (case' h => ((first | refine evOps_fin ?_ | refine And.intro ?_ (evD_fin ?_) | refine evD_fin ?_) <;> simp only [go_sem, reduceAdd, reduceSub, reduceMul, reduceEqDiff, reduceLeDiff, Nat.reduceBEq, reduceLT, reduceIte, reduceCtorEq, Int.reduceToNat, ha0, hn, e1, e2, e3, e4, hb0, hw, hk0, hwk, hlk, hgk, w1, w2, w3, Nat.le_refl, List.length_map, Int.toNat_natCast, Int.reduceNeg, Int.reduceLT, hls])))
                | (refine callX ?_; (first | refine evOps_fin ?_ | refine And.intro ?_ (evD_fin ?_) | refine evD_fin ?_) <;> simp only [go_sem, reduceAdd, reduceSub, reduceMul, reduceEqDiff, reduceLeDiff, Nat.reduceBEq, reduceLT, reduceIte, reduceCtorEq, Int.reduceToNat, ha0, hn, e1, e2, e3, e4, hb0, hw, hk0, hwk, hlk, hgk, w1, w2, w3, Nat.le_refl, List.length_map, Int.toNat_natCast, Int.reduceNeg, Int.reduceLT, hls])
              refine ⟨k + 1, by omega, ?_, by omega⟩
              rw [hst2]
              subst hh
              repeat' first | rfl | apply And.intro
            · have hst2 : pkJ l i (pkI l i) (k + 1) = some (pa, pb) := by rw [hst]; exact if_neg hn
              repeat' first
                | refine ev_seq (fun K hK => ?_)
                | ((first | refine evrd (id := 10) hmix tt_ok false [([], false), ([], true), ([1], false), ([], true), ([], true), ([1, 3], false), ([4], false), ([], false), ([], false)] (by decide +kernel) ?_ | refine evrd (id := 12) hmix tt_ok false [([], false), ([], false), ([], false), ([], false), ([], false), ([], false), ([], false), ([], false), ([], false), ([], false), ([], false)] (by decide +kernel) ?_ | refine evrd (id := 15) hmix tt_ok false [([], false), ([], false), ([], false), ([], false), ([], false), ([], false)] (by decide +kernel) ?_ | refine evr tt_ok false ?_ | refine ev_skip ?_ | refine ev_ret ?_ | refine ev_exit ?_ | refine evc (fun X Y hX hY => ?_)); simp only [go_sem, reduceAdd, reduceSub, reduceMul, reduceEqDiff, reduceLeDiff, Nat.reduceBEq, reduceLT, reduceIte, reduceCtorEq, Int.reduceToNat, ha0, hn, e1, e2, e3, e4, hb0, hw, hk0, hwk, hlk, hgk, w1, w2, w3, Nat.le_refl, List.length_map, Int.toNat_natCast, Int.reduceNeg, Int.reduceLT, hls]; try (first | (refine ⟨fun h => hX ?_, fun h => hY ?_⟩; clear hX hY) | (refine hX ?_; clear hX hY) | (refine hY ?_; clear hX hY)))
                | refine ev_block ?_
                | (apply hK; clear hK)
                | apply_assumption -exfalso -symm only [*]
                | (refine And.intro ?_ ?_; first | omega | assumption | (unfold maxLen; omega) | (simp only [decide_eq_true_eq, decide_eq_false_iff_not, Int.not_lt, Int.not_le] at h; omega))
                | ((first | apply callP | apply callPG | apply callP0); (case' hv => (simp only [go_sem, reduceAdd, reduceSub, reduceMul, reduceEqDiff, reduceLeDiff, Nat.reduceBEq, reduceLT, reduceIte, reduceCtorEq, Int.reduceToNat, ha0, hn, e1, e2, e3, e4, hb0, hw, hk0, hwk, hlk, hgk, w1, w2, w3, Nat.le_refl, List.length_map, Int.toNat_natCast, Int.reduceNeg, Int.reduceLT, hls]; try exact rfl)); (case' hp => (first | refine' hv | (refine' (fun hg => ?_); refine' hv) | refine' v1 | (refine' (fun hg => ?_); refine' v1) | refine' v2 | (refine' (fun hg => ?_); refine' v2) | refine' v3 | (refine' (fun hg => ?_); refine' v3))); (case' h => ((first | refine evOps_fin ?_ | refine And.intro ?_ (evD_fin ?_) | refine evD_fin ?_) <;> simp only [go_sem, reduceAdd, reduceSub, reduceMul, reduceEqDiff, reduceLeDiff, Nat.reduceBEq, reduceLT, reduceIte, reduceCtorEq, Int.reduceToNat, ha0, hn, e1, e2, e3, e4, hb0, hw, hk0, hwk, hlk, hgk, w1, w2, w3, Nat.le_refl, List.length_map, Int.toNat_natCast, Int.reduceNeg, Int.reduceLT, hls])))
                | (refine callX ?_; (first | refine evOps_fin ?_ | refine And.intro ?_ (evD_fin ?_) | refine evD_fin ?_) <;> simp only [go_sem, reduceAdd, reduceSub, reduceMul, reduceEqDiff, reduceLeDiff, Nat.reduceBEq, reduceLT, reduceIte, reduceCtorEq, Int.reduceToNat, ha0, hn, e1, e2, e3, e4, hb0, hw, hk0, hwk, hlk, hgk, w1, w2, w3, Nat.le_refl, List.length_map, Int.toNat_natCast, Int.reduceNeg, Int.reduceLT, hls])
              refine ⟨k + 1, by omega, ?_, by omega⟩
              rw [hst2]
              repeat' first | rfl | apply And.intro
        · obtain rfl : k = l.length - (i + 1) := by omega
          repeat' first
            | refine ev_seq (fun K hK => ?_)
            | ((first | refine evrd (id := 10) hmix tt_ok false [([], false), ([], true), ([1], false), ([], true), ([], true), ([1, 3], false), ([4], false), ([], false), ([], false)] (by decide +kernel) ?_ | refine evrd (id := 12) hmix tt_ok false [([], false), ([], false), ([], false), ([], false), ([], false), ([], false), ([], false), ([], false), ([], false), ([], false), ([], false)] (by decide +kernel) ?_ | refine evrd (id := 15) hmix tt_ok false [([], false), ([], false), ([], false), ([], false), ([], false), ([], false)] (by decide +kernel) ?_ | refine evr tt_ok false ?_ | refine ev_skip ?_ | refine ev_ret ?_ | refine ev_exit ?_ | refine evc (fun X Y hX hY => ?_)); simp only [go_sem, reduceAdd, reduceSub, reduceMul, reduceEqDiff, reduceLeDiff, Nat.reduceBEq, reduceLT, reduceIte, reduceCtorEq, Int.reduceToNat, hw, hlk, hls, List.length_map, Nat.le_refl]; try (first | (refine ⟨fun h => hX ?_, fun h => hY ?_⟩; clear hX hY) | (refine hX ?_; clear hX hY) | (refine hY ?_; clear hX hY)))
            | refine ev_block ?_
            | (apply hK; clear hK)
            | apply_assumption -exfalso -symm only [*]
            | (refine And.intro ?_ ?_; first | omega | assumption | (unfold maxLen; omega) | (simp only [decide_eq_true_eq, decide_eq_false_iff_not, Int.not_lt, Int.not_le] at h; omega))
          exact ⟨i + 1, by omega, by (repeat' first | rfl | apply And.intro), by omega⟩
    · obtain rfl : i = l.length := by omega
      show EV _ _ _ _ _
      unfold pick
      repeat' first
        | refine ev_seq (fun K hK => ?_)
        | ((first | refine evrd (id := 10) hmix tt_ok false [([], false), ([], true), ([1], false), ([], true), ([], true), ([1, 3], false), ([4], false), ([], false), ([], false)] (by decide +kernel) ?_ | refine evrd (id := 12) hmix tt_ok false [([], false), ([], false), ([], false), ([], false), ([], false), ([], false), ([], false), ([], false), ([], false), ([], false), ([], false)] (by decide +kernel) ?_ | refine evrd (id := 15) hmix tt_ok false [([], false), ([], false), ([], false), ([], false), ([], false), ([], false)] (by decide +kernel) ?_ | refine evr tt_ok false ?_ | refine ev_skip ?_ | refine ev_ret ?_ | refine ev_exit ?_ | refine evc (fun X Y hX hY => ?_)); simp only [go_sem, reduceAdd, reduceSub, reduceMul, reduceEqDiff, reduceLeDiff, Nat.reduceBEq, reduceLT, reduceIte, reduceCtorEq, Int.reduceToNat, hlt, List.length_map]; try (first | (refine ⟨fun h => hX ?_, fun h => hY ?_⟩; clear hX hY) | (refine hX ?_; clear hX hY) | (refine hY ?_; clear hX hY)))
        | refine ev_block ?_
        | (apply hK; clear hK)
        | apply_assumption -exfalso -symm only [*]
        | (refine And.intro ?_ ?_; first | omega | assumption | (unfold maxLen; omega) | (simp only [decide_eq_true_eq, decide_eq_false_iff_not, Int.not_lt, Int.not_le] at h; omega))
      rfl
end Go.Proofs.Ytmpmggbcmioipaa
