import Derived.Test.YtbpchamlhblddaaPH
set_option linter.all false
namespace Go.Proofs.Ytbpchamlhblddaa
open Nat (reduceAdd reduceSub reduceMul reduceEqDiff reduceLeDiff reduceLT)
open Go Go.K
set_option maxRecDepth 20000
set_option maxHeartbeats 8000000
/-! ### Max of the reference -/
def inSq (f : Fld) (k x y : Int) (j i : Nat) : Prop := x ≤ f.x + i ∧ f.x + i < x + k ∧ y ≤ f.y + j ∧ f.y + j < y + k
instance decInSq (f : Fld) (k x y : Int) (j i : Nat) : Decidable (inSq f k x y j i) := by unfold inSq; infer_instance
def rowB (f : Fld) (k x y : Int) (j : Nat) (b : Int) : Nat → Int
  | 0 => b
  | i + 1 => if inSq f k x y j i then max (rowB f k x y j b i) (cellV f j i) else rowB f k x y j b i
def allB (f : Fld) (k x y : Int) : Nat → Int
  | 0 => 0
  | j + 1 => rowB f k x y j (allB f k x y j) f.W
structure Top (f : Fld) (k x y : Int) (p : Nat → Nat → Prop) (m : Int) : Prop where
  pos : 0 ≤ m
  all : ∀ j i, p j i → inSq f k x y j i → cellV f j i ≤ m
  att : m = 0 ∨ ∃ j i, p j i ∧ inSq f k x y j i ∧ cellV f j i = m
theorem row_top {f : Fld} (hb : bytesL f.v) {k x y : Int} {j : Nat} {b : Int} (h : Top f k x y (fun j' i' => j' < j ∧ i' < f.W) b) : ∀ i : Nat, i ≤ f.W → Top f k x y (fun j' i' => j' < j ∧ i' < f.W ∨ j' = j ∧ i' < i) (rowB f k x y j b i)
  | 0, _ => ⟨h.pos, fun j' i' hp hs => by
      rcases hp with hp | ⟨_, hp⟩
      · exact h.all j' i' hp hs
      · omega, h.att.imp_right fun ⟨j', i', h1, h2, h3⟩ => ⟨j', i', .inl h1, h2, h3⟩⟩
  | i + 1, hi => by
    have ih := row_top hb h i (by omega)
    have hc := cell_byte hb j i
    unfold rowB
    by_cases hs : inSq f k x y j i
    · rw [if_pos hs]
      refine ⟨by have := ih.pos; omega, fun j' i' hp hs' => ?_, ?_⟩
      · by_cases e : j' = j ∧ i' = i
        · obtain ⟨rfl, rfl⟩ := e; omega
        · have := ih.all j' i' (by omega) hs'; omega
      · by_cases hle : cellV f j i ≤ rowB f k x y j b i
        · rw [show max (rowB f k x y j b i) (cellV f j i) = rowB f k x y j b i by omega]
          exact ih.att.imp_right fun ⟨j', i', h1, h2, h3⟩ => ⟨j', i', by omega, h2, h3⟩
        · exact .inr ⟨j, i, by omega, hs, by omega⟩
    · rw [if_neg hs]
      refine ⟨ih.pos, fun j' i' hp hs' => ?_, ih.att.imp_right fun ⟨j', i', h1, h2, h3⟩ => ⟨j', i', by omega, h2, h3⟩⟩
      by_cases e : j' = j ∧ i' = i
      · obtain ⟨rfl, rfl⟩ := e; exact absurd hs' hs
      · exact ih.all j' i' (by omega) hs'
theorem all_top {f : Fld} (hb : bytesL f.v) (k x y : Int) : ∀ j : Nat, Top f k x y (fun j' i' => j' < j ∧ i' < f.W) (allB f k x y j)
  | 0 => ⟨Int.le_refl 0, fun j' i' hp => by omega, .inl rfl⟩
  | j + 1 => by
    have := row_top hb (all_top hb k x y j) f.W (Nat.le_refl _)
    refine ⟨this.pos, fun j' i' hp hs => this.all j' i' (by omega) hs, this.att.imp_right fun ⟨j', i', h1, h2, h3⟩ => ⟨j', i', by omega, h2, h3⟩⟩
theorem cell_at {f : Fld} (hw : 0 ≤ f.w) (hh : 0 ≤ f.h) {j i : Nat} (hj : j < f.H) (hi : i < f.W) : cellV f j i = atM f (f.x + i) (f.y + j) := by
  have eW : ((f.W : Nat) : Int) = f.w := by unfold Fld.W; omega
  have eH : ((f.H : Nat) : Int) = f.h := by unfold Fld.H; omega
  unfold atM
  rw [if_pos (by unfold inF; omega), show f.x + (i : Int) - f.x = i by omega, show f.y + (j : Int) - f.y = j by omega, ← eW, ← Int.natCast_mul, ← Int.natCast_add, Int.toNat_natCast]
  rfl
theorem at_cell {f : Fld} (hw : 0 ≤ f.w) (hh : 0 ≤ f.h) {x y : Int} (h : inF f x y) : ∃ j i : Nat, j < f.H ∧ i < f.W ∧ x = f.x + i ∧ y = f.y + j ∧ atM f x y = cellV f j i := by
  have h0 := h
  unfold inF at h0
  refine ⟨(y - f.y).toNat, (x - f.x).toNat, by unfold Fld.H; omega, by unfold Fld.W; omega, by omega, by omega, ?_⟩
  rw [cell_at hw hh (by unfold Fld.H; omega) (by unfold Fld.W; omega)]
  congr 1 <;> omega
theorem top_sq {f : Fld} (hw : 0 ≤ f.w) (hh : 0 ≤ f.h) {k x y m : Int} (h : Top f k x y (fun j' i' => j' < f.H ∧ i' < f.W) m) : SqMax f k x y m := by
  refine ⟨h.pos, fun i j i0 i1 j0 j1 => ?_, ?_⟩
  · by_cases hin : inF f (x + i) (y + j)
    · obtain ⟨j', i', h1, h2, h3, h4, h5⟩ := at_cell hw hh hin
      rw [h5]
      exact h.all j' i' ⟨h1, h2⟩ (by unfold inSq; omega)
    · rw [at_out hin]; exact h.pos
  · rcases h.att with h0 | ⟨j, i, ⟨h1, h2⟩, h3, h4⟩
    · exact .inl h0
    · unfold inSq at h3
      refine .inr ⟨f.x + i - x, f.y + j - y, by omega, by omega, by omega, by omega, ?_⟩
      rw [← h4, cell_at hw hh h1 h2]
      congr 1 <;> omega
theorem lvf_max {f : Fld} (h : f.ok) (hb : bytesL f.v) (n : Nat) (x y : Int) : SqMax f (2 ^ n) x y (atM (lvf f n) x y) := by
  have hw := h.1
  have hh := h.2.2.1
  unfold lvf
  by_cases hz : f.w = 0
  · rw [if_pos hz]
    have e : ∀ x y, atM f x y = 0 := fun x y => at_out (by unfold inF; omega)
    have e2 : ∀ x y, atM ⟨0, 0, 0, 0, []⟩ x y = 0 := fun x y => at_out (by unfold inF; simp only; omega)
    rw [e2]
    exact ⟨Int.le_refl _, fun i j _ _ _ _ => by rw [e]; exact Int.le_refl _, .inl rfl⟩
  · rw [if_neg hz]
    exact lev_max hb hw hh n x y
theorem row_byte {f : Fld} (hb : bytesL f.v) {k x y : Int} {j : Nat} {b : Int} (h : 0 ≤ b ∧ b ≤ 255) : ∀ i, 0 ≤ rowB f k x y j b i ∧ rowB f k x y j b i ≤ 255
  | 0 => h
  | i + 1 => by
    have := row_byte hb (k := k) (x := x) (y := y) (j := j) h i
    have := cell_byte hb j i
    unfold rowB; split <;> omega
theorem size_far (n : Int) : Pure Try.prog 32 [.int .i64 n, .int .i64 32768] (.bool (!(farM n))) := by
  have := bsize_pure n 32768 (by omega)
  rw [show (decide (-32768 ≤ n) && decide (n ≤ 32768)) = !(farM n) by
    unfold farM
    rw [Bool.eq_iff_iff]
    simp only [Bool.and_eq_true, Bool.not_eq_true', Bool.or_eq_false_iff, decide_eq_true_eq, decide_eq_false_iff_not]
    omega] at this
  exact this
theorem rmax_pure (f : Fld) (h : f.ok) (hb : bytesL f.v) (l x y : Int) : Pure Try.prog 25 [.agg [.int .i64 f.x, .int .i64 f.y, .int .i64 f.w, .int .i64 f.h, .sl (f.v.map enB)], .int .i64 l, .int .i64 x, .int .i64 y] (.int .u8 (maxM f l x y)) := by
  have sx := size_far x
  have sy := size_far y
  by_cases hc : l < 0 ∨ 6 < l ∨ farM x = true ∨ farM y = true
  · have hc2 : (((decide (l < 0) || decide (6 < l)) || farM x) || farM y) = true := by
      simp only [Bool.or_eq_true, decide_eq_true_eq]
      rcases hc with h | h | h | h
      · exact .inl (.inl (.inl h))
      · exact .inl (.inl (.inr h))
      · exact .inl (.inr h)
      · exact .inr h
    unfold maxM
    rw [if_pos hc]
    (refine pure_of_ev tt_ok Try.func25 rfl (by decide +kernel) (Nat.le_of_ble_eq_true rfl) ?_; simp only [Try.f25])
    repeat' first
      | refine ev_seq (fun K hK => ?_)
      | ((first | refine evr tt_ok false ?_ | refine ev_skip ?_ | refine ev_ret ?_ | refine ev_exit ?_ | refine evc (fun X Y hX hY => ?_)); simp only [go_sem, reduceAdd, reduceSub, reduceMul, reduceEqDiff, reduceLeDiff, Nat.reduceBEq, reduceLT, reduceIte, reduceCtorEq, Int.reduceToNat, hc2, Bool.not_not]; try (first | (refine ⟨fun h => hX ?_, fun h => hY ?_⟩; clear hX hY) | (refine hX ?_; clear hX hY) | (refine hY ?_; clear hX hY)))
      | refine ev_block ?_
      | (apply hK; clear hK)
      | apply_assumption -exfalso -symm only [*]
      | (refine And.intro ?_ ?_; first | omega | assumption | (unfold maxLen; omega) | (simp only [decide_eq_true_eq, decide_eq_false_iff_not, Int.not_lt, Int.not_le] at h; omega))
      | ((first | apply callP | apply callPG | apply callP0); (case' hv => (simp only [go_sem, reduceAdd, reduceSub, reduceMul, reduceEqDiff, reduceLeDiff, Nat.reduceBEq, reduceLT, reduceIte, reduceCtorEq, Int.reduceToNat, hc2, Bool.not_not]; try exact rfl)); (case' hp => (first | refine' sx | (refine' (fun hg => ?_); refine' sx) | refine' sy | (refine' (fun hg => ?_); refine' sy))); (case' h => ((first | refine evOps_fin ?_ | refine And.intro ?_ (evD_fin ?_) | refine evD_fin ?_) <;> simp only [go_sem, reduceAdd, reduceSub, reduceMul, reduceEqDiff, reduceLeDiff, Nat.reduceBEq, reduceLT, reduceIte, reduceCtorEq, Int.reduceToNat, hc2, Bool.not_not])))
      | (refine callX ?_; (first | refine evOps_fin ?_ | refine And.intro ?_ (evD_fin ?_) | refine evD_fin ?_) <;> simp only [go_sem, reduceAdd, reduceSub, reduceMul, reduceEqDiff, reduceLeDiff, Nat.reduceBEq, reduceLT, reduceIte, reduceCtorEq, Int.reduceToNat, hc2, Bool.not_not])
  · have n1 : ¬ l < 0 := fun h => hc (.inl h)
    have n2 : ¬ 6 < l := fun h => hc (.inr (.inl h))
    have n3 : farM x = false := by cases h : farM x with | false => rfl | true => exact absurd (.inr (.inr (.inl h))) hc
    have n4 : farM y = false := by cases h : farM y with | false => rfl | true => exact absurd (.inr (.inr (.inr h))) hc
    rw [n3] at sx
    rw [n4] at sy
    obtain ⟨ln, rfl⟩ := Int.eq_ofNat_of_zero_le (show 0 ≤ l by omega)
    have hln : ln ≤ 6 := by omega
    obtain ⟨p1, p2⟩ := pow_le6 hln
    have hx : -32768 ≤ x ∧ x ≤ 32768 := by simp [farM] at n3; omega
    have hy : -32768 ≤ y ∧ y ≤ 32768 := by simp [farM] at n4; omega
    have hres : maxM f ((ln : Nat) : Int) x y = allB f (2 ^ ln) x y f.H := by
      unfold maxM
      rw [if_neg hc, Int.toNat_natCast]
      exact (lvf_max h hb ln x y).uniq (top_sq h.1 h.2.2.1 (all_top hb _ x y f.H))
    rw [hres]
    have hl0 : (0 : Int) ≤ (ln : Int) := by omega
    have hl1 : (ln : Int) ≤ ((IntKind.i64.bits : Nat) : Int) := by
      have : ((IntKind.i64.bits : Nat) : Int) = 64 := rfl
      omega
    obtain ⟨k, hpow⟩ : ∃ k, (2 : Int) ^ ln = k := ⟨_, rfl⟩
    rw [hpow] at p1 p2 ⊢
    have hk : IntKind.i64.wrap (1 * k) = k := by rw [Int.one_mul]; exact w64 (by omega) (by omega)
    obtain ⟨eW, eH, hW, hH, hn⟩ := ok_W h
    have hns : f.W * f.H ≤ 64 * 64 := Nat.mul_le_mul hW hH
    obtain ⟨h1, h2, h3, h4, h5, h6, h7, h8, h9, h10, h11⟩ := id h
    have wxk : IntKind.i64.wrap (x + k) = x + k := w64 (by omega) (by omega)
    have wyk : IntKind.i64.wrap (y + k) = y + k := w64 (by omega) (by omega)
    (refine pure_of_ev tt_ok Try.func25 rfl (by decide +kernel) (Nat.le_of_ble_eq_true rfl) ?_; simp only [Try.f25])
    repeat' first
      | refine ev_seq (fun K hK => ?_)
      | ((first | refine evr tt_ok false ?_ | refine ev_skip ?_ | refine ev_ret ?_ | refine ev_exit ?_ | refine evc (fun X Y hX hY => ?_)); simp only [go_sem, reduceAdd, reduceSub, reduceMul, reduceEqDiff, reduceLeDiff, Nat.reduceBEq, reduceLT, reduceIte, reduceCtorEq, Int.reduceToNat, n1, n2, hpow, hk, hl0, hl1, Int.toNat_natCast, Int.ofNat_eq_natCast]; try (first | (refine ⟨fun h => hX ?_, fun h => hY ?_⟩; clear hX hY) | (refine hX ?_; clear hX hY) | (refine hY ?_; clear hX hY)))
      | refine ev_block ?_
      | (apply hK; clear hK)
      | apply_assumption -exfalso -symm only [*]
      | (refine And.intro ?_ ?_; first | omega | assumption | (unfold maxLen; omega) | (simp only [decide_eq_true_eq, decide_eq_false_iff_not, Int.not_lt, Int.not_le] at h; omega))
      | ((first | apply callP | apply callPG | apply callP0); (case' hv => (simp only [go_sem, reduceAdd, reduceSub, reduceMul, reduceEqDiff, reduceLeDiff, Nat.reduceBEq, reduceLT, reduceIte, reduceCtorEq, Int.reduceToNat, n1, n2, hpow, hk, hl0, hl1, Int.toNat_natCast, Int.ofNat_eq_natCast]; try exact rfl)); (case' hp => (first | refine' sx | (refine' (fun hg => ?_); refine' sx) | refine' sy | (refine' (fun hg => ?_); refine' sy))); (case' h => ((first | refine evOps_fin ?_ | refine And.intro ?_ (evD_fin ?_) | refine evD_fin ?_) <;> simp only [go_sem, reduceAdd, reduceSub, reduceMul, reduceEqDiff, reduceLeDiff, Nat.reduceBEq, reduceLT, reduceIte, reduceCtorEq, Int.reduceToNat, n1, n2, hpow, hk, hl0, hl1, Int.toNat_natCast, Int.ofNat_eq_natCast])))
      | (refine callX ?_; (first | refine evOps_fin ?_ | refine And.intro ?_ (evD_fin ?_) | refine evD_fin ?_) <;> simp only [go_sem, reduceAdd, reduceSub, reduceMul, reduceEqDiff, reduceLeDiff, Nat.reduceBEq, reduceLT, reduceIte, reduceCtorEq, Int.reduceToNat, n1, n2, hpow, hk, hl0, hl1, Int.toNat_natCast, Int.ofNat_eq_natCast])
    refine ev_loop (fun j : Nat => j ≤ f.H)
      (fun j => ⟨90, [(11, .int .i64 (j : Int)), (10, .int .u8 (allB f k x y j)), (9, .int .i64 k), (4, .own 0 0 0 0), (3, .int .i64 y), (2, .int .i64 x)],
        [.blk 24 0 5 [[.int .i64 f.x, .int .i64 f.y, .int .i64 f.w, .int .i64 f.h, .sl (f.v.map enB)]]]⟩)
      (fun j => f.H - j) 0 (Nat.zero_le _) ?_ ?_
    · simp only [go_sem, reduceAdd, reduceSub, reduceMul, reduceEqDiff, reduceLeDiff, Nat.reduceBEq, reduceLT, reduceIte, reduceCtorEq, Int.reduceToNat, fits, fitT, fitOs, fitO, V.under, unders, rowsUnder]
      repeat' first | rfl | apply And.intro
    · intro j hj
      have hj1 : IntKind.i64.wrap ((j : Int) + 1) = ((j + 1 : Nat) : Int) := by rw [w64] <;> omega
      by_cases hjl : (j : Int) < f.h
      · repeat' first
        | refine ev_seq (fun K hK => ?_)
        | ((first | refine evr tt_ok false ?_ | refine ev_skip ?_ | refine ev_ret ?_ | refine ev_exit ?_ | refine evc (fun X Y hX hY => ?_)); simp only [go_sem, reduceAdd, reduceSub, reduceMul, reduceEqDiff, reduceLeDiff, Nat.reduceBEq, reduceLT, reduceIte, reduceCtorEq, Int.reduceToNat, hjl]; try (first | (refine ⟨fun h => hX ?_, fun h => hY ?_⟩; clear hX hY) | (refine hX ?_; clear hX hY) | (refine hY ?_; clear hX hY)))
        | refine ev_block ?_
        | (apply hK; clear hK)
        | apply_assumption -exfalso -symm only [*]
        | (refine And.intro ?_ ?_; first | omega | assumption | (unfold maxLen; omega) | (simp only [decide_eq_true_eq, decide_eq_false_iff_not, Int.not_lt, Int.not_le] at h; omega))
        refine ev_loop (fun i : Nat => i ≤ f.W)
          (fun i => ⟨90, [(12, .int .i64 (i : Int)), (11, .int .i64 (j : Int)), (10, .int .u8 (rowB f k x y j (allB f k x y j) i)), (9, .int .i64 k), (4, .own 0 0 0 0), (3, .int .i64 y), (2, .int .i64 x)],
            [.blk 24 0 5 [[.int .i64 f.x, .int .i64 f.y, .int .i64 f.w, .int .i64 f.h, .sl (f.v.map enB)]]]⟩)
          (fun i => f.W - i) 0 (Nat.zero_le _) ?_ ?_
        · simp only [go_sem, reduceAdd, reduceSub, reduceMul, reduceEqDiff, reduceLeDiff, Nat.reduceBEq, reduceLT, reduceIte, reduceCtorEq, Int.reduceToNat, fits, fitT, fitOs, fitO, V.under, unders, rowsUnder, rowB]
          repeat' first | rfl | apply And.intro
        · intro i hi
          have hi1 : IntKind.i64.wrap ((i : Int) + 1) = ((i + 1 : Nat) : Int) := by rw [w64] <;> omega
          by_cases hil : (i : Int) < f.w
          · have wx : IntKind.i64.wrap (f.x + (i : Int)) = f.x + (i : Int) := w64 (by omega) (by omega)
            have wy : IntKind.i64.wrap (f.y + (j : Int)) = f.y + (j : Int) := w64 (by omega) (by omega)
            by_cases hin : inSq f k x y j i
            · have hsu : rowB f k x y j (allB f k x y j) (i + 1) = max (rowB f k x y j (allB f k x y j) i) (cellV f j i) := if_pos hin
              have hcc : (((decide (x ≤ f.x + (i : Int)) && decide (f.x + (i : Int) < x + k)) && decide (y ≤ f.y + (j : Int))) && decide (f.y + (j : Int) < y + k)) = true := by
                unfold inSq at hin
                simp only [Bool.and_eq_true, decide_eq_true_eq]
                omega
              have hx := lt_mul (w := f.W) (h := f.H) (r := j) (c := i) (by omega) (by omega)
              have w1 : IntKind.i64.wrap ((j : Int) * f.w) = ((j * f.W : Nat) : Int) := by
                rw [← eW, ← Int.natCast_mul]
                exact w64 (by omega) (by omega)
              have w2 : IntKind.i64.wrap (((j * f.W : Nat) : Int) + (i : Int)) = ((j * f.W + i : Nat) : Int) := by rw [w64] <;> omega
              have p0 : ∀ n : Nat, (0 : Int) ≤ (n : Int) := fun n => Int.natCast_nonneg n
              have pl : ((j * f.W + i : Nat) : Int) < (f.v.length : Int) := by omega
              have gv : f.v.getD (j * f.W + i) 0 = cellV f j i := rfl
              repeat' first
                | refine ev_seq (fun K hK => ?_)
                | ((first | refine evr tt_ok false ?_ | refine ev_skip ?_ | refine ev_ret ?_ | refine ev_exit ?_ | refine evc (fun X Y hX hY => ?_)); simp only [go_sem, reduceAdd, reduceSub, reduceMul, reduceEqDiff, reduceLeDiff, Nat.reduceBEq, reduceLT, reduceIte, reduceCtorEq, Int.reduceToNat, hil, hcc, wx, wy, wxk, wyk, hi1, w1, w2, p0, pl, gv, List.length_map, byte_get, Int.toNat_natCast]; try (first | (refine ⟨fun h => hX ?_, fun h => hY ?_⟩; clear hX hY) | (refine hX ?_; clear hX hY) | (refine hY ?_; clear hX hY)))
                | refine ev_block ?_
                | (apply hK; clear hK)
                | apply_assumption -exfalso -symm only [*]
                | (refine And.intro ?_ ?_; first | omega | assumption | (unfold maxLen; omega) | (simp only [decide_eq_true_eq, decide_eq_false_iff_not, Int.not_lt, Int.not_le] at h; omega))
              refine ⟨i + 1, by omega, ?_, by omega⟩
              rw [hsu]
              repeat' first | rfl | apply And.intro
            · have hsu : rowB f k x y j (allB f k x y j) (i + 1) = rowB f k x y j (allB f k x y j) i := if_neg hin
              have hcc : (((decide (x ≤ f.x + (i : Int)) && decide (f.x + (i : Int) < x + k)) && decide (y ≤ f.y + (j : Int))) && decide (f.y + (j : Int) < y + k)) = false := by
                unfold inSq at hin
                rw [Bool.eq_false_iff]
                simp only [ne_eq, Bool.and_eq_true, decide_eq_true_eq]
                omega
              repeat' first
                | refine ev_seq (fun K hK => ?_)
                | ((first | refine evr tt_ok false ?_ | refine ev_skip ?_ | refine ev_ret ?_ | refine ev_exit ?_ | refine evc (fun X Y hX hY => ?_)); simp only [go_sem, reduceAdd, reduceSub, reduceMul, reduceEqDiff, reduceLeDiff, Nat.reduceBEq, reduceLT, reduceIte, reduceCtorEq, Int.reduceToNat, hil, hcc, wx, wy, wxk, wyk, hi1]; try (first | (refine ⟨fun h => hX ?_, fun h => hY ?_⟩; clear hX hY) | (refine hX ?_; clear hX hY) | (refine hY ?_; clear hX hY)))
                | refine ev_block ?_
                | (apply hK; clear hK)
                | apply_assumption -exfalso -symm only [*]
                | (refine And.intro ?_ ?_; first | omega | assumption | (unfold maxLen; omega) | (simp only [decide_eq_true_eq, decide_eq_false_iff_not, Int.not_lt, Int.not_le] at h; omega))
              refine ⟨i + 1, by omega, ?_, by omega⟩
              rw [hsu]
              repeat' first | rfl | apply And.intro
          · obtain rfl : i = f.W := by omega
            repeat' first
              | refine ev_seq (fun K hK => ?_)
              | ((first | refine evr tt_ok false ?_ | refine ev_skip ?_ | refine ev_ret ?_ | refine ev_exit ?_ | refine evc (fun X Y hX hY => ?_)); simp only [go_sem, reduceAdd, reduceSub, reduceMul, reduceEqDiff, reduceLeDiff, Nat.reduceBEq, reduceLT, reduceIte, reduceCtorEq, Int.reduceToNat, hil, hj1]; try (first | (refine ⟨fun h => hX ?_, fun h => hY ?_⟩; clear hX hY) | (refine hX ?_; clear hX hY) | (refine hY ?_; clear hX hY)))
              | refine ev_block ?_
              | (apply hK; clear hK)
              | apply_assumption -exfalso -symm only [*]
              | (refine And.intro ?_ ?_; first | omega | assumption | (unfold maxLen; omega) | (simp only [decide_eq_true_eq, decide_eq_false_iff_not, Int.not_lt, Int.not_le] at h; omega))
            refine ⟨j + 1, by omega, ?_, by omega⟩
            repeat' first | rfl | apply And.intro
      · obtain rfl : j = f.H := by omega
        repeat' first
          | refine ev_seq (fun K hK => ?_)
          | ((first | refine evr tt_ok false ?_ | refine ev_skip ?_ | refine ev_ret ?_ | refine ev_exit ?_ | refine evc (fun X Y hX hY => ?_)); simp only [go_sem, reduceAdd, reduceSub, reduceMul, reduceEqDiff, reduceLeDiff, Nat.reduceBEq, reduceLT, reduceIte, reduceCtorEq, Int.reduceToNat, hjl]; try (first | (refine ⟨fun h => hX ?_, fun h => hY ?_⟩; clear hX hY) | (refine hX ?_; clear hX hY) | (refine hY ?_; clear hX hY)))
          | refine ev_block ?_
          | (apply hK; clear hK)
          | apply_assumption -exfalso -symm only [*]
          | (refine And.intro ?_ ?_; first | omega | assumption | (unfold maxLen; omega) | (simp only [decide_eq_true_eq, decide_eq_false_iff_not, Int.not_lt, Int.not_le] at h; omega))
/-! ### Peak of the reference -/
def pkF (L : List Int) : Nat → Nat × Int
  | 0 => (0, 0)
  | n + 1 => if (pkF L n).2 < L.getD n 0 then (n, L.getD n 0) else pkF L n
theorem pkF_spec {L : List Int} (hb : bytesL L) : ∀ n : Nat, Pk L n (pkF L n).1 (pkF L n).2 ∧ 0 ≤ (pkF L n).2
  | 0 => ⟨⟨fun j hj => by omega, .inl ⟨rfl, rfl⟩⟩, Int.le_refl _⟩
  | n + 1 => by
    obtain ⟨h1, h2⟩ := pkF_spec hb n
    obtain ⟨s1, s2⟩ := h1.step h2
    unfold pkF
    by_cases h : (pkF L n).2 < L.getD n 0
    · rw [if_pos h]; exact ⟨s1 h, by simp only; omega⟩
    · rw [if_neg h]; exact ⟨s2 h, h2⟩
theorem rpeak_pure (f : Fld) (h : f.ok) (hb : bytesL f.v) : Pure Try.prog 27 [.agg [.int .i64 f.x, .int .i64 f.y, .int .i64 f.w, .int .i64 f.h, .sl (f.v.map enB)]]
    (.tup [.agg [.int .i64 (pkX f (pkF f.v f.v.length).1 (pkF f.v f.v.length).2), .int .i64 (pkY f (pkF f.v f.v.length).1 (pkF f.v f.v.length).2)], .int .u8 (pkF f.v f.v.length).2]) := by
  obtain ⟨eW, eH, hW, hH, hn⟩ := ok_W h
  have hns : f.W * f.H ≤ 64 * 64 := Nat.mul_le_mul hW hH
  obtain ⟨h1, h2, h3, h4, h5, h6, h7, h8, h9, h10, h11⟩ := id h
  rw [hn, Nat.mul_comm f.W f.H]
  (refine pure_of_ev tt_ok Try.func27 rfl (by decide +kernel) (Nat.le_of_ble_eq_true rfl) ?_; simp only [Try.f27])
  repeat' first
    | refine ev_seq (fun K hK => ?_)
    | ((first | refine evr tt_ok false ?_ | refine ev_skip ?_ | refine ev_ret ?_ | refine ev_exit ?_ | refine evc (fun X Y hX hY => ?_)); simp only [go_sem, reduceAdd, reduceSub, reduceMul, reduceEqDiff, reduceLeDiff, Nat.reduceBEq, reduceLT, reduceIte, reduceCtorEq, Int.reduceToNat]; try (first | (refine ⟨fun h => hX ?_, fun h => hY ?_⟩; clear hX hY) | (refine hX ?_; clear hX hY) | (refine hY ?_; clear hX hY)))
    | refine ev_block ?_
    | (apply hK; clear hK)
    | apply_assumption -exfalso -symm only [*]
    | (refine And.intro ?_ ?_; first | omega | assumption | (unfold maxLen; omega) | (simp only [decide_eq_true_eq, decide_eq_false_iff_not, Int.not_lt, Int.not_le] at h; omega))
  refine ev_loop (fun j : Nat => j ≤ f.H)
    (fun j => ⟨53, [(6, .int .i64 (j : Int)), (5, .int .u8 (pkF f.v (j * f.W)).2), (4, .own 2 0 0 0), (2, .own 1 0 0 0), (1, .own 0 0 0 0)],
      [.blk 24 0 5 [[.int .i64 f.x, .int .i64 f.y, .int .i64 f.w, .int .i64 f.h, .sl (f.v.map enB)]], .blk 37 0 2 [[.int .i64 0, .int .i64 0]],
       .blk 37 0 2 [[.int .i64 (pkX f (pkF f.v (j * f.W)).1 (pkF f.v (j * f.W)).2), .int .i64 (pkY f (pkF f.v (j * f.W)).1 (pkF f.v (j * f.W)).2)]]]⟩)
    (fun j => f.H - j) 0 (Nat.zero_le _) ?_ ?_
  · simp only [go_sem, reduceAdd, reduceSub, reduceMul, reduceEqDiff, reduceLeDiff, Nat.reduceBEq, reduceLT, reduceIte, reduceCtorEq, Int.reduceToNat, fits, fitT, fitOs, fitO, V.under, unders, rowsUnder, Nat.zero_mul, pkF, pkX, pkY]
    repeat' first | rfl | exact trivial | apply And.intro
  · intro j hj
    have hj1 : IntKind.i64.wrap ((j : Int) + 1) = ((j + 1 : Nat) : Int) := by rw [w64] <;> omega
    by_cases hjl : (j : Int) < f.h
    · repeat' first
      | refine ev_seq (fun K hK => ?_)
      | ((first | refine evr tt_ok false ?_ | refine ev_skip ?_ | refine ev_ret ?_ | refine ev_exit ?_ | refine evc (fun X Y hX hY => ?_)); simp only [go_sem, reduceAdd, reduceSub, reduceMul, reduceEqDiff, reduceLeDiff, Nat.reduceBEq, reduceLT, reduceIte, reduceCtorEq, Int.reduceToNat, hjl]; try (first | (refine ⟨fun h => hX ?_, fun h => hY ?_⟩; clear hX hY) | (refine hX ?_; clear hX hY) | (refine hY ?_; clear hX hY)))
      | refine ev_block ?_
      | (apply hK; clear hK)
      | apply_assumption -exfalso -symm only [*]
      | (refine And.intro ?_ ?_; first | omega | assumption | (unfold maxLen; omega) | (simp only [decide_eq_true_eq, decide_eq_false_iff_not, Int.not_lt, Int.not_le] at h; omega))
      refine ev_loop (fun i : Nat => i ≤ f.W)
        (fun i => ⟨53, [(7, .int .i64 (i : Int)), (6, .int .i64 (j : Int)), (5, .int .u8 (pkF f.v (j * f.W + i)).2), (4, .own 2 0 0 0), (2, .own 1 0 0 0), (1, .own 0 0 0 0)],
          [.blk 24 0 5 [[.int .i64 f.x, .int .i64 f.y, .int .i64 f.w, .int .i64 f.h, .sl (f.v.map enB)]], .blk 37 0 2 [[.int .i64 0, .int .i64 0]],
           .blk 37 0 2 [[.int .i64 (pkX f (pkF f.v (j * f.W + i)).1 (pkF f.v (j * f.W + i)).2), .int .i64 (pkY f (pkF f.v (j * f.W + i)).1 (pkF f.v (j * f.W + i)).2)]]]⟩)
        (fun i => f.W - i) 0 (Nat.zero_le _) ?_ ?_
      · simp only [go_sem, reduceAdd, reduceSub, reduceMul, reduceEqDiff, reduceLeDiff, Nat.reduceBEq, reduceLT, reduceIte, reduceCtorEq, Int.reduceToNat, fits, fitT, fitOs, fitO, V.under, unders, rowsUnder, Nat.add_zero]
        repeat' first | rfl | exact trivial | apply And.intro
      · intro i hi
        have hi1 : IntKind.i64.wrap ((i : Int) + 1) = ((i + 1 : Nat) : Int) := by rw [w64] <;> omega
        by_cases hil : (i : Int) < f.w
        · have wx : IntKind.i64.wrap (f.x + (i : Int)) = f.x + (i : Int) := w64 (by omega) (by omega)
          have wy : IntKind.i64.wrap (f.y + (j : Int)) = f.y + (j : Int) := w64 (by omega) (by omega)
          have hx := lt_mul (w := f.W) (h := f.H) (r := j) (c := i) (by omega) (by omega)
          have w1 : IntKind.i64.wrap ((j : Int) * f.w) = ((j * f.W : Nat) : Int) := by
            rw [← eW, ← Int.natCast_mul]
            exact w64 (by omega) (by omega)
          have w2 : IntKind.i64.wrap (((j * f.W : Nat) : Int) + (i : Int)) = ((j * f.W + i : Nat) : Int) := by rw [w64] <;> omega
          have p0 : ∀ n : Nat, (0 : Int) ≤ (n : Int) := fun n => Int.natCast_nonneg n
          have pl : ((j * f.W + i : Nat) : Int) < (f.v.length : Int) := by omega
          obtain ⟨d1, d2⟩ := dm (w := f.W) (r := j) (c := i) (by omega)
          have sp := (pkF_spec hb (j * f.W + i)).2
          by_cases hg : (pkF f.v (j * f.W + i)).2 < f.v.getD (j * f.W + i) 0
          · have hs : pkF f.v (j * f.W + i + 1) = (j * f.W + i, f.v.getD (j * f.W + i) 0) := if_pos hg
            have hne : ¬ f.v.getD (j * f.W + i) 0 = 0 := by omega
            repeat' first
              | refine ev_seq (fun K hK => ?_)
              | ((first | refine evr tt_ok false ?_ | refine ev_skip ?_ | refine ev_ret ?_ | refine ev_exit ?_ | refine evc (fun X Y hX hY => ?_)); simp only [go_sem, reduceAdd, reduceSub, reduceMul, reduceEqDiff, reduceLeDiff, Nat.reduceBEq, reduceLT, reduceIte, reduceCtorEq, Int.reduceToNat, hil, hg, wx, wy, hi1, w1, w2, p0, pl, List.length_map, byte_get, Int.toNat_natCast]; try (first | (refine ⟨fun h => hX ?_, fun h => hY ?_⟩; clear hX hY) | (refine hX ?_; clear hX hY) | (refine hY ?_; clear hX hY)))
              | refine ev_block ?_
              | (apply hK; clear hK)
              | apply_assumption -exfalso -symm only [*]
              | (refine And.intro ?_ ?_; first | omega | assumption | (unfold maxLen; omega) | (simp only [decide_eq_true_eq, decide_eq_false_iff_not, Int.not_lt, Int.not_le] at h; omega))
            refine ⟨i + 1, by omega, ?_, by omega⟩
            rw [show j * f.W + (i + 1) = j * f.W + i + 1 from rfl, hs]
            simp only [pkX, pkY, if_neg hne, d1, d2]
            repeat' first | rfl | exact trivial | apply And.intro
          · have hs : pkF f.v (j * f.W + i + 1) = pkF f.v (j * f.W + i) := if_neg hg
            repeat' first
              | refine ev_seq (fun K hK => ?_)
              | ((first | refine evr tt_ok false ?_ | refine ev_skip ?_ | refine ev_ret ?_ | refine ev_exit ?_ | refine evc (fun X Y hX hY => ?_)); simp only [go_sem, reduceAdd, reduceSub, reduceMul, reduceEqDiff, reduceLeDiff, Nat.reduceBEq, reduceLT, reduceIte, reduceCtorEq, Int.reduceToNat, hil, hg, wx, wy, hi1, w1, w2, p0, pl, List.length_map, byte_get, Int.toNat_natCast]; try (first | (refine ⟨fun h => hX ?_, fun h => hY ?_⟩; clear hX hY) | (refine hX ?_; clear hX hY) | (refine hY ?_; clear hX hY)))
              | refine ev_block ?_
              | (apply hK; clear hK)
              | apply_assumption -exfalso -symm only [*]
              | (refine And.intro ?_ ?_; first | omega | assumption | (unfold maxLen; omega) | (simp only [decide_eq_true_eq, decide_eq_false_iff_not, Int.not_lt, Int.not_le] at h; omega))
            refine ⟨i + 1, by omega, ?_, by omega⟩
            rw [show j * f.W + (i + 1) = j * f.W + i + 1 from rfl, hs]
            repeat' first | rfl | exact trivial | apply And.intro
        · obtain rfl : i = f.W := by omega
          have e : j * f.W + f.W = (j + 1) * f.W := (Nat.succ_mul ..).symm
          rw [e]
          repeat' first
            | refine ev_seq (fun K hK => ?_)
            | ((first | refine evr tt_ok false ?_ | refine ev_skip ?_ | refine ev_ret ?_ | refine ev_exit ?_ | refine evc (fun X Y hX hY => ?_)); simp only [go_sem, reduceAdd, reduceSub, reduceMul, reduceEqDiff, reduceLeDiff, Nat.reduceBEq, reduceLT, reduceIte, reduceCtorEq, Int.reduceToNat, hil, hj1]; try (first | (refine ⟨fun h => hX ?_, fun h => hY ?_⟩; clear hX hY) | (refine hX ?_; clear hX hY) | (refine hY ?_; clear hX hY)))
            | refine ev_block ?_
            | (apply hK; clear hK)
            | apply_assumption -exfalso -symm only [*]
            | (refine And.intro ?_ ?_; first | omega | assumption | (unfold maxLen; omega) | (simp only [decide_eq_true_eq, decide_eq_false_iff_not, Int.not_lt, Int.not_le] at h; omega))
          refine ⟨j + 1, by omega, ?_, by omega⟩
          repeat' first | rfl | exact trivial | apply And.intro
    · obtain rfl : j = f.H := by omega
      repeat' first
        | refine ev_seq (fun K hK => ?_)
        | ((first | refine evr tt_ok false ?_ | refine ev_skip ?_ | refine ev_ret ?_ | refine ev_exit ?_ | refine evc (fun X Y hX hY => ?_)); simp only [go_sem, reduceAdd, reduceSub, reduceMul, reduceEqDiff, reduceLeDiff, Nat.reduceBEq, reduceLT, reduceIte, reduceCtorEq, Int.reduceToNat, hjl]; try (first | (refine ⟨fun h => hX ?_, fun h => hY ?_⟩; clear hX hY) | (refine hX ?_; clear hX hY) | (refine hY ?_; clear hX hY)))
        | refine ev_block ?_
        | (apply hK; clear hK)
        | apply_assumption -exfalso -symm only [*]
        | (refine And.intro ?_ ?_; first | omega | assumption | (unfold maxLen; omega) | (simp only [decide_eq_true_eq, decide_eq_false_iff_not, Int.not_lt, Int.not_le] at h; omega))
      all_goals rfl
end Go.Proofs.Ytbpchamlhblddaa
