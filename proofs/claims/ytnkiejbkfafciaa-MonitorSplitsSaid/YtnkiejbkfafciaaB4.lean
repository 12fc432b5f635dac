import Derived.Test.YtnkiejbkfafciaaB3
set_option linter.all false
namespace Go.Proofs.Ytnkiejbkfafciaa
open Go Go.K
set_option maxRecDepth 20000
set_option maxHeartbeats 4000000
def lastR (L : List Sig) : Nat → Nat
  | 0 => 0
  | i + 1 => if (sig L i).reset then i else lastR L i
theorem lastR_le (L : List Sig) : ∀ i, lastR L i ≤ i
  | 0 => Nat.le_refl _
  | i + 1 => by
    unfold lastR; split
    · omega
    · have := lastR_le L i; omega
theorem lastR_lt (L : List Sig) : ∀ i, 0 < i → lastR L i < i
  | 0, h => by omega
  | i + 1, _ => by
    unfold lastR; split
    · omega
    · have := lastR_le L i; omega
theorem lastR_no {L : List Sig} {j : Nat} : ∀ i, lastR L i < j → j < i → (sig L j).reset = false
  | 0, _, h => by omega
  | i + 1, h1, h2 => by
    unfold lastR at h1
    split at h1
    · omega
    · rename_i hr
      rcases Nat.lt_or_ge j i with h | h
      · exact lastR_no i h1 h
      · obtain rfl : j = i := by omega
        simpa using hr
theorem lastR_at (L : List Sig) : ∀ i, lastR L i = 0 ∨ (sig L (lastR L i)).reset = true
  | 0 => .inl rfl
  | i + 1 => by
    unfold lastR; split
    · rename_i h; exact .inr h
    · exact lastR_at L i
def fl2 (l : Int) (L : List Sig) (i : Nat) : Fl := if i ≤ lastR L L.length then Fl.none else (st l L i).1
theorem fl2_step {l : Int} {L : List Sig} {i : Nat} (h1 : lastR L L.length ≤ i) (h2 : i < L.length) :
    fl2 l L (i + 1) = ⟨(fl2 l L i).stop || (sig L i).stop, (fl2 l L i).lost || (sig L i).lost, (fl2 l L i).bump || (sig L i).bump, (fl2 l L i).late || decide (l < (st l L (i + 1)).2)⟩ := by
  have e : fl2 l L (i + 1) = nextFl l (sig L i) (st l L i).1 (st l L i).2 := by unfold fl2; rw [if_neg (by omega)]; rfl
  rw [e]
  have ha : (st l L (i + 1)).2 = nextAge (sig L i) (st l L i).2 := rfl
  rw [ha]
  rcases Nat.lt_or_ge (lastR L L.length) i with h | h
  · have hr := lastR_no L.length h h2
    have : fl2 l L i = (st l L i).1 := by unfold fl2; rw [if_neg (by omega)]
    rw [this]
    simp [nextFl, hr]
  · obtain rfl : i = lastR L L.length := by omega
    have : fl2 l L (lastR L L.length) = Fl.none := by unfold fl2; rw [if_pos (Nat.le_refl _)]
    rw [this]
    rcases lastR_at L L.length with h0 | hr
    · rw [h0]
      simp only [nextFl, st]
      split <;> rfl
    · simp [nextFl, hr]
theorem fl2_start (l : Int) (L : List Sig) : fl2 l L (lastR L L.length) = Fl.none := by unfold fl2; rw [if_pos (Nat.le_refl _)]
theorem fl2_end (l : Int) (L : List Sig) : fl2 l L L.length = (st l L L.length).1 := by
  unfold fl2; split
  · rename_i h
    rcases Nat.eq_zero_or_pos L.length with h0 | h0
    · rw [h0]; rfl
    · have := lastR_lt L L.length h0; omega
  · rfl
theorem rfaults_pure (l : Int) (L : List Sig) (h60 : (L.length : Int) ≤ 60) : Pure Try.prog 20 [.agg [.int .i64 l, .sl (L.map encSig)]] (.int .i64 (flI (st l L L.length).1)) := by
  (refine pure_of_ev tt_ok Try.func20 rfl (by decide +kernel) (Nat.le_of_ble_eq_true rfl) ?_; simp only [Try.f20])
  repeat' first
    | refine ev_seq (fun K hK => ?_)
    | (refine evrd (id := 14) hmix tt_ok true [([], false), ([], false), ([], false), ([], false), ([], false), ([], true), ([5], false), ([5], false), ([], false), ([], false), ([], false)] (by decide +kernel) ?_; simp only [go_sem, Nat.reduceAdd, Nat.reduceSub, Nat.reduceMul, Nat.reduceEqDiff, Nat.reduceLeDiff, Nat.reduceBEq, Nat.reduceLT, reduceIte, reduceCtorEq, Int.toNat_zero, Int.toNat_one, Int.reduceToNat, Nat.zero_add, Nat.add_zero, Nat.sub_zero, Nat.zero_mul, List.length_map])
    | (refine evr tt_ok true ?_; simp only [go_sem, Nat.reduceAdd, Nat.reduceSub, Nat.reduceMul, Nat.reduceEqDiff, Nat.reduceLeDiff, Nat.reduceBEq, Nat.reduceLT, reduceIte, reduceCtorEq, Int.toNat_zero, Int.toNat_one, Int.reduceToNat, Nat.zero_add, Nat.add_zero, Nat.sub_zero, Nat.zero_mul, List.length_map])
    | (refine evc (fun X Y hX hY => ?_); simp only [go_sem, Nat.reduceAdd, Nat.reduceSub, Nat.reduceMul, Nat.reduceEqDiff, Nat.reduceLeDiff, Nat.reduceBEq, Nat.reduceLT, reduceIte, reduceCtorEq, Int.toNat_zero, Int.toNat_one, Int.reduceToNat, Nat.zero_add, Nat.add_zero, Nat.sub_zero, Nat.zero_mul, List.length_map]; first | (refine ⟨fun h => hX ?_, fun h => hY ?_⟩; clear hX hY) | (refine hX ?_; clear hX hY) | (refine hY ?_; clear hX hY))
    | (refine ev_skip ?_; simp only [go_sem, Nat.reduceAdd, Nat.reduceSub, Nat.reduceMul, Nat.reduceEqDiff, Nat.reduceLeDiff, Nat.reduceBEq, Nat.reduceLT, reduceIte, reduceCtorEq, Int.toNat_zero, Int.toNat_one, Int.reduceToNat, Nat.zero_add, Nat.add_zero, Nat.sub_zero, Nat.zero_mul, List.length_map])
    | (refine ev_ret ?_; simp only [go_sem, Nat.reduceAdd, Nat.reduceSub, Nat.reduceMul, Nat.reduceEqDiff, Nat.reduceLeDiff, Nat.reduceBEq, Nat.reduceLT, reduceIte, reduceCtorEq, Int.toNat_zero, Int.toNat_one, Int.reduceToNat, Nat.zero_add, Nat.add_zero, Nat.sub_zero, Nat.zero_mul, List.length_map])
    | refine ev_block ?_
    | (refine ev_exit ?_; simp only [go_sem, Nat.reduceAdd, Nat.reduceSub, Nat.reduceMul, Nat.reduceEqDiff, Nat.reduceLeDiff, Nat.reduceBEq, Nat.reduceLT, reduceIte, reduceCtorEq, Int.toNat_zero, Int.toNat_one, Int.reduceToNat, Nat.zero_add, Nat.add_zero, Nat.sub_zero, Nat.zero_mul, List.length_map])
    | (apply hK; clear hK)
    | apply_assumption -exfalso -symm only [*]
    | (refine And.intro ?_ ?_; first | omega | assumption | (simp only [decide_eq_true_eq, decide_eq_false_iff_not, Int.not_lt, Int.not_le] at h; omega))
  refine ev_loop (fun i : Nat => i ≤ L.length)
    (fun i => ⟨83, [(4, .int .i64 i), (3, .int .i64 (lastR L i)), (1, .own 0 0 0 0)], [.blk 43 0 2 [[.int .i64 l, .sl (L.map encSig)]]]⟩)
    (fun i => L.length - i) 0 (Nat.zero_le _) ?_ ?_
  · simp only [go_sem, Nat.reduceAdd, Nat.reduceSub, Nat.reduceMul, Nat.reduceEqDiff, Nat.reduceLeDiff, Nat.reduceBEq, Nat.reduceLT, reduceIte, reduceCtorEq, Int.toNat_zero, Int.toNat_one, Int.reduceToNat, Nat.zero_add, Nat.add_zero, Nat.sub_zero, Nat.zero_mul, fits, fitT, fitOs, fitO, V.under, unders, rowsUnder]
    repeat' first | rfl | apply And.intro
  · intro i hi
    have hb0 : 0 ≤ (i : Int) := by omega
    have hw : IntKind.i64.wrap ((i : Int) + 1) = ((i + 1 : Nat) : Int) := by rw [w64] <;> omega
    by_cases hlt : (i : Int) < L.length
    · cases hr : (sig L i).reset
      · repeat' first
        | refine ev_seq (fun K hK => ?_)
        | (refine evrd (id := 14) hmix tt_ok true [([], false), ([], false), ([], false), ([], false), ([], false), ([], true), ([5], false), ([5], false), ([], false), ([], false), ([], false)] (by decide +kernel) ?_; simp only [go_sem, Nat.reduceAdd, Nat.reduceSub, Nat.reduceMul, Nat.reduceEqDiff, Nat.reduceLeDiff, Nat.reduceBEq, Nat.reduceLT, reduceIte, reduceCtorEq, Int.toNat_zero, Int.toNat_one, Int.reduceToNat, Nat.zero_add, Nat.add_zero, Nat.sub_zero, Nat.zero_mul, List.length_map, hb0, hw, hlt, sig_get, Int.toNat_natCast, hr])
        | (refine evr tt_ok true ?_; simp only [go_sem, Nat.reduceAdd, Nat.reduceSub, Nat.reduceMul, Nat.reduceEqDiff, Nat.reduceLeDiff, Nat.reduceBEq, Nat.reduceLT, reduceIte, reduceCtorEq, Int.toNat_zero, Int.toNat_one, Int.reduceToNat, Nat.zero_add, Nat.add_zero, Nat.sub_zero, Nat.zero_mul, List.length_map, hb0, hw, hlt, sig_get, Int.toNat_natCast, hr])
        | (refine evc (fun X Y hX hY => ?_); simp only [go_sem, Nat.reduceAdd, Nat.reduceSub, Nat.reduceMul, Nat.reduceEqDiff, Nat.reduceLeDiff, Nat.reduceBEq, Nat.reduceLT, reduceIte, reduceCtorEq, Int.toNat_zero, Int.toNat_one, Int.reduceToNat, Nat.zero_add, Nat.add_zero, Nat.sub_zero, Nat.zero_mul, List.length_map, hb0, hw, hlt, sig_get, Int.toNat_natCast, hr]; first | (refine ⟨fun h => hX ?_, fun h => hY ?_⟩; clear hX hY) | (refine hX ?_; clear hX hY) | (refine hY ?_; clear hX hY))
        | (refine ev_skip ?_; simp only [go_sem, Nat.reduceAdd, Nat.reduceSub, Nat.reduceMul, Nat.reduceEqDiff, Nat.reduceLeDiff, Nat.reduceBEq, Nat.reduceLT, reduceIte, reduceCtorEq, Int.toNat_zero, Int.toNat_one, Int.reduceToNat, Nat.zero_add, Nat.add_zero, Nat.sub_zero, Nat.zero_mul, List.length_map, hb0, hw, hlt, sig_get, Int.toNat_natCast, hr])
        | (refine ev_ret ?_; simp only [go_sem, Nat.reduceAdd, Nat.reduceSub, Nat.reduceMul, Nat.reduceEqDiff, Nat.reduceLeDiff, Nat.reduceBEq, Nat.reduceLT, reduceIte, reduceCtorEq, Int.toNat_zero, Int.toNat_one, Int.reduceToNat, Nat.zero_add, Nat.add_zero, Nat.sub_zero, Nat.zero_mul, List.length_map, hb0, hw, hlt, sig_get, Int.toNat_natCast, hr])
        | refine ev_block ?_
        | (refine ev_exit ?_; simp only [go_sem, Nat.reduceAdd, Nat.reduceSub, Nat.reduceMul, Nat.reduceEqDiff, Nat.reduceLeDiff, Nat.reduceBEq, Nat.reduceLT, reduceIte, reduceCtorEq, Int.toNat_zero, Int.toNat_one, Int.reduceToNat, Nat.zero_add, Nat.add_zero, Nat.sub_zero, Nat.zero_mul, List.length_map, hb0, hw, hlt, sig_get, Int.toNat_natCast, hr])
        | (apply hK; clear hK)
        | apply_assumption -exfalso -symm only [*]
        | (refine And.intro ?_ ?_; first | omega | assumption | (simp only [decide_eq_true_eq, decide_eq_false_iff_not, Int.not_lt, Int.not_le] at h; omega))
        all_goals exact ⟨i + 1, by omega, ⟨rfl, by simp [lastR, hr]⟩, by omega⟩
      · repeat' first
        | refine ev_seq (fun K hK => ?_)
        | (refine evrd (id := 14) hmix tt_ok true [([], false), ([], false), ([], false), ([], false), ([], false), ([], true), ([5], false), ([5], false), ([], false), ([], false), ([], false)] (by decide +kernel) ?_; simp only [go_sem, Nat.reduceAdd, Nat.reduceSub, Nat.reduceMul, Nat.reduceEqDiff, Nat.reduceLeDiff, Nat.reduceBEq, Nat.reduceLT, reduceIte, reduceCtorEq, Int.toNat_zero, Int.toNat_one, Int.reduceToNat, Nat.zero_add, Nat.add_zero, Nat.sub_zero, Nat.zero_mul, List.length_map, hb0, hw, hlt, sig_get, Int.toNat_natCast, hr])
        | (refine evr tt_ok true ?_; simp only [go_sem, Nat.reduceAdd, Nat.reduceSub, Nat.reduceMul, Nat.reduceEqDiff, Nat.reduceLeDiff, Nat.reduceBEq, Nat.reduceLT, reduceIte, reduceCtorEq, Int.toNat_zero, Int.toNat_one, Int.reduceToNat, Nat.zero_add, Nat.add_zero, Nat.sub_zero, Nat.zero_mul, List.length_map, hb0, hw, hlt, sig_get, Int.toNat_natCast, hr])
        | (refine evc (fun X Y hX hY => ?_); simp only [go_sem, Nat.reduceAdd, Nat.reduceSub, Nat.reduceMul, Nat.reduceEqDiff, Nat.reduceLeDiff, Nat.reduceBEq, Nat.reduceLT, reduceIte, reduceCtorEq, Int.toNat_zero, Int.toNat_one, Int.reduceToNat, Nat.zero_add, Nat.add_zero, Nat.sub_zero, Nat.zero_mul, List.length_map, hb0, hw, hlt, sig_get, Int.toNat_natCast, hr]; first | (refine ⟨fun h => hX ?_, fun h => hY ?_⟩; clear hX hY) | (refine hX ?_; clear hX hY) | (refine hY ?_; clear hX hY))
        | (refine ev_skip ?_; simp only [go_sem, Nat.reduceAdd, Nat.reduceSub, Nat.reduceMul, Nat.reduceEqDiff, Nat.reduceLeDiff, Nat.reduceBEq, Nat.reduceLT, reduceIte, reduceCtorEq, Int.toNat_zero, Int.toNat_one, Int.reduceToNat, Nat.zero_add, Nat.add_zero, Nat.sub_zero, Nat.zero_mul, List.length_map, hb0, hw, hlt, sig_get, Int.toNat_natCast, hr])
        | (refine ev_ret ?_; simp only [go_sem, Nat.reduceAdd, Nat.reduceSub, Nat.reduceMul, Nat.reduceEqDiff, Nat.reduceLeDiff, Nat.reduceBEq, Nat.reduceLT, reduceIte, reduceCtorEq, Int.toNat_zero, Int.toNat_one, Int.reduceToNat, Nat.zero_add, Nat.add_zero, Nat.sub_zero, Nat.zero_mul, List.length_map, hb0, hw, hlt, sig_get, Int.toNat_natCast, hr])
        | refine ev_block ?_
        | (refine ev_exit ?_; simp only [go_sem, Nat.reduceAdd, Nat.reduceSub, Nat.reduceMul, Nat.reduceEqDiff, Nat.reduceLeDiff, Nat.reduceBEq, Nat.reduceLT, reduceIte, reduceCtorEq, Int.toNat_zero, Int.toNat_one, Int.reduceToNat, Nat.zero_add, Nat.add_zero, Nat.sub_zero, Nat.zero_mul, List.length_map, hb0, hw, hlt, sig_get, Int.toNat_natCast, hr])
        | (apply hK; clear hK)
        | apply_assumption -exfalso -symm only [*]
        | (refine And.intro ?_ ?_; first | omega | assumption | (simp only [decide_eq_true_eq, decide_eq_false_iff_not, Int.not_lt, Int.not_le] at h; omega))
        all_goals exact ⟨i + 1, by omega, ⟨rfl, by simp [lastR, hr]⟩, by omega⟩
    · obtain rfl : i = L.length := by omega
      repeat' first
        | refine ev_seq (fun K hK => ?_)
        | (refine evrd (id := 14) hmix tt_ok true [([], false), ([], false), ([], false), ([], false), ([], false), ([], true), ([5], false), ([5], false), ([], false), ([], false), ([], false)] (by decide +kernel) ?_; simp only [go_sem, Nat.reduceAdd, Nat.reduceSub, Nat.reduceMul, Nat.reduceEqDiff, Nat.reduceLeDiff, Nat.reduceBEq, Nat.reduceLT, reduceIte, reduceCtorEq, Int.toNat_zero, Int.toNat_one, Int.reduceToNat, Nat.zero_add, Nat.add_zero, Nat.sub_zero, Nat.zero_mul, List.length_map, hb0, hw, hlt, sig_get, Int.toNat_natCast])
        | (refine evr tt_ok true ?_; simp only [go_sem, Nat.reduceAdd, Nat.reduceSub, Nat.reduceMul, Nat.reduceEqDiff, Nat.reduceLeDiff, Nat.reduceBEq, Nat.reduceLT, reduceIte, reduceCtorEq, Int.toNat_zero, Int.toNat_one, Int.reduceToNat, Nat.zero_add, Nat.add_zero, Nat.sub_zero, Nat.zero_mul, List.length_map, hb0, hw, hlt, sig_get, Int.toNat_natCast])
        | (refine evc (fun X Y hX hY => ?_); simp only [go_sem, Nat.reduceAdd, Nat.reduceSub, Nat.reduceMul, Nat.reduceEqDiff, Nat.reduceLeDiff, Nat.reduceBEq, Nat.reduceLT, reduceIte, reduceCtorEq, Int.toNat_zero, Int.toNat_one, Int.reduceToNat, Nat.zero_add, Nat.add_zero, Nat.sub_zero, Nat.zero_mul, List.length_map, hb0, hw, hlt, sig_get, Int.toNat_natCast]; first | (refine ⟨fun h => hX ?_, fun h => hY ?_⟩; clear hX hY) | (refine hX ?_; clear hX hY) | (refine hY ?_; clear hX hY))
        | (refine ev_skip ?_; simp only [go_sem, Nat.reduceAdd, Nat.reduceSub, Nat.reduceMul, Nat.reduceEqDiff, Nat.reduceLeDiff, Nat.reduceBEq, Nat.reduceLT, reduceIte, reduceCtorEq, Int.toNat_zero, Int.toNat_one, Int.reduceToNat, Nat.zero_add, Nat.add_zero, Nat.sub_zero, Nat.zero_mul, List.length_map, hb0, hw, hlt, sig_get, Int.toNat_natCast])
        | (refine ev_ret ?_; simp only [go_sem, Nat.reduceAdd, Nat.reduceSub, Nat.reduceMul, Nat.reduceEqDiff, Nat.reduceLeDiff, Nat.reduceBEq, Nat.reduceLT, reduceIte, reduceCtorEq, Int.toNat_zero, Int.toNat_one, Int.reduceToNat, Nat.zero_add, Nat.add_zero, Nat.sub_zero, Nat.zero_mul, List.length_map, hb0, hw, hlt, sig_get, Int.toNat_natCast])
        | refine ev_block ?_
        | (refine ev_exit ?_; simp only [go_sem, Nat.reduceAdd, Nat.reduceSub, Nat.reduceMul, Nat.reduceEqDiff, Nat.reduceLeDiff, Nat.reduceBEq, Nat.reduceLT, reduceIte, reduceCtorEq, Int.toNat_zero, Int.toNat_one, Int.reduceToNat, Nat.zero_add, Nat.add_zero, Nat.sub_zero, Nat.zero_mul, List.length_map, hb0, hw, hlt, sig_get, Int.toNat_natCast])
        | (apply hK; clear hK)
        | apply_assumption -exfalso -symm only [*]
        | (refine And.intro ?_ ?_; first | omega | assumption | (simp only [decide_eq_true_eq, decide_eq_false_iff_not, Int.not_lt, Int.not_le] at h; omega))
      refine ev_loop (fun i : Nat => lastR L L.length ≤ i ∧ i ≤ L.length)
        (fun i => ⟨83, [(9, .int .i64 i), (8, .bool (fl2 l L i).late), (7, .bool (fl2 l L i).bump), (6, .bool (fl2 l L i).lost), (5, .bool (fl2 l L i).stop), (1, .own 0 0 0 0)], [.blk 43 0 2 [[.int .i64 l, .sl (L.map encSig)]]]⟩)
        (fun i => L.length - i) (lastR L L.length) ⟨Nat.le_refl _, lastR_le _ _⟩ ?_ ?_
      · simp only [go_sem, Nat.reduceAdd, Nat.reduceSub, Nat.reduceMul, Nat.reduceEqDiff, Nat.reduceLeDiff, Nat.reduceBEq, Nat.reduceLT, reduceIte, reduceCtorEq, Int.toNat_zero, Int.toNat_one, Int.reduceToNat, Nat.zero_add, Nat.add_zero, Nat.sub_zero, Nat.zero_mul, fits, fitT, fitOs, fitO, V.under, unders, rowsUnder, fl2_start]
        repeat' first | rfl | apply And.intro
      · rintro i ⟨hi, hi2⟩
        have hb0 : 0 ≤ (i : Int) := by omega
        have hw : IntKind.i64.wrap ((i : Int) + 1) = ((i + 1 : Nat) : Int) := by rw [w64] <;> omega
        by_cases hlt : (i : Int) < L.length
        · have hst := fl2_step (l := l) hi (show i < L.length by omega)
          repeat' first
            | refine ev_seq (fun K hK => ?_)
            | (refine evrd (id := 14) hmix tt_ok true [([], false), ([], false), ([], false), ([], false), ([], false), ([], true), ([5], false), ([5], false), ([], false), ([], false), ([], false)] (by decide +kernel) ?_; simp only [go_sem, Nat.reduceAdd, Nat.reduceSub, Nat.reduceMul, Nat.reduceEqDiff, Nat.reduceLeDiff, Nat.reduceBEq, Nat.reduceLT, reduceIte, reduceCtorEq, Int.toNat_zero, Int.toNat_one, Int.reduceToNat, Nat.zero_add, Nat.add_zero, Nat.sub_zero, Nat.zero_mul, List.length_map, hb0, hw, hlt, sig_get, Int.toNat_natCast])
            | (refine evr tt_ok true ?_; simp only [go_sem, Nat.reduceAdd, Nat.reduceSub, Nat.reduceMul, Nat.reduceEqDiff, Nat.reduceLeDiff, Nat.reduceBEq, Nat.reduceLT, reduceIte, reduceCtorEq, Int.toNat_zero, Int.toNat_one, Int.reduceToNat, Nat.zero_add, Nat.add_zero, Nat.sub_zero, Nat.zero_mul, List.length_map, hb0, hw, hlt, sig_get, Int.toNat_natCast])
            | (refine evc (fun X Y hX hY => ?_); simp only [go_sem, Nat.reduceAdd, Nat.reduceSub, Nat.reduceMul, Nat.reduceEqDiff, Nat.reduceLeDiff, Nat.reduceBEq, Nat.reduceLT, reduceIte, reduceCtorEq, Int.toNat_zero, Int.toNat_one, Int.reduceToNat, Nat.zero_add, Nat.add_zero, Nat.sub_zero, Nat.zero_mul, List.length_map, hb0, hw, hlt, sig_get, Int.toNat_natCast]; first | (refine ⟨fun h => hX ?_, fun h => hY ?_⟩; clear hX hY) | (refine hX ?_; clear hX hY) | (refine hY ?_; clear hX hY))
            | (refine ev_skip ?_; simp only [go_sem, Nat.reduceAdd, Nat.reduceSub, Nat.reduceMul, Nat.reduceEqDiff, Nat.reduceLeDiff, Nat.reduceBEq, Nat.reduceLT, reduceIte, reduceCtorEq, Int.toNat_zero, Int.toNat_one, Int.reduceToNat, Nat.zero_add, Nat.add_zero, Nat.sub_zero, Nat.zero_mul, List.length_map, hb0, hw, hlt, sig_get, Int.toNat_natCast])
            | (refine ev_ret ?_; simp only [go_sem, Nat.reduceAdd, Nat.reduceSub, Nat.reduceMul, Nat.reduceEqDiff, Nat.reduceLeDiff, Nat.reduceBEq, Nat.reduceLT, reduceIte, reduceCtorEq, Int.toNat_zero, Int.toNat_one, Int.reduceToNat, Nat.zero_add, Nat.add_zero, Nat.sub_zero, Nat.zero_mul, List.length_map, hb0, hw, hlt, sig_get, Int.toNat_natCast])
            | refine ev_block ?_
            | (refine ev_exit ?_; simp only [go_sem, Nat.reduceAdd, Nat.reduceSub, Nat.reduceMul, Nat.reduceEqDiff, Nat.reduceLeDiff, Nat.reduceBEq, Nat.reduceLT, reduceIte, reduceCtorEq, Int.toNat_zero, Int.toNat_one, Int.reduceToNat, Nat.zero_add, Nat.add_zero, Nat.sub_zero, Nat.zero_mul, List.length_map, hb0, hw, hlt, sig_get, Int.toNat_natCast])
            | (apply hK; clear hK)
            | apply_assumption -exfalso -symm only [*]
            | (refine And.intro ?_ ?_; first | omega | assumption | (simp only [decide_eq_true_eq, decide_eq_false_iff_not, Int.not_lt, Int.not_le] at h; omega))
            | (apply callLG; (case' hv => (simp only [go_sem, Nat.reduceAdd, Nat.reduceSub, Nat.reduceMul, Nat.reduceEqDiff, Nat.reduceLeDiff, Nat.reduceBEq, Nat.reduceLT, reduceIte, reduceCtorEq, Int.toNat_zero, Int.toNat_one, Int.reduceToNat, Nat.zero_add, Nat.add_zero, Nat.sub_zero, Nat.zero_mul, List.length_map, hb0, hw, hlt, sig_get, Int.toNat_natCast]; try exact rfl)); (case' hp => (refine' (fun hg => ?_); refine' rage_pure l l L (i + 1) ?_ ?_; all_goals first | (fail_if_success refine prop_id ?_; skip) | omega | assumption | (refine' Eq.trans ?_ ?_; (focus (simp only [go_sem, Nat.reduceAdd, Nat.reduceSub, Nat.reduceMul, Nat.reduceEqDiff, Nat.reduceLeDiff, Nat.reduceBEq, Nat.reduceLT, reduceIte, reduceCtorEq, Int.toNat_zero, Int.toNat_one, Int.reduceToNat, Nat.zero_add, Nat.add_zero, Nat.sub_zero, Nat.zero_mul, List.length_map, hb0, hw, hlt, sig_get, Int.toNat_natCast]; exact rfl)); exact rfl) | (simp only [go_sem, Nat.reduceAdd, Nat.reduceSub, Nat.reduceMul, Nat.reduceEqDiff, Nat.reduceLeDiff, Nat.reduceBEq, Nat.reduceLT, reduceIte, reduceCtorEq, Int.toNat_zero, Int.toNat_one, Int.reduceToNat, Nat.zero_add, Nat.add_zero, Nat.sub_zero, Nat.zero_mul, List.length_map, hb0, hw, hlt, sig_get, Int.toNat_natCast]; done) | (simp only [go_sem, Nat.reduceAdd, Nat.reduceSub, Nat.reduceMul, Nat.reduceEqDiff, Nat.reduceLeDiff, Nat.reduceBEq, Nat.reduceLT, reduceIte, reduceCtorEq, Int.toNat_zero, Int.toNat_one, Int.reduceToNat, Nat.zero_add, Nat.add_zero, Nat.sub_zero, Nat.zero_mul, List.length_map, hb0, hw, hlt, sig_get, Int.toNat_natCast]; exact rfl) | (simp only [go_sem, Nat.reduceAdd, Nat.reduceSub, Nat.reduceMul, Nat.reduceEqDiff, Nat.reduceLeDiff, Nat.reduceBEq, Nat.reduceLT, reduceIte, reduceCtorEq, Int.toNat_zero, Int.toNat_one, Int.reduceToNat, Nat.zero_add, Nat.add_zero, Nat.sub_zero, Nat.zero_mul, List.length_map, hb0, hw, hlt, sig_get, Int.toNat_natCast]; omega))); (case' hf => exact rfl); (case' h => (first | (refine evOps_fin ?_; simp only [go_sem, Nat.reduceAdd, Nat.reduceSub, Nat.reduceMul, Nat.reduceEqDiff, Nat.reduceLeDiff, Nat.reduceBEq, Nat.reduceLT, reduceIte, reduceCtorEq, Int.toNat_zero, Int.toNat_one, Int.reduceToNat, Nat.zero_add, Nat.add_zero, Nat.sub_zero, Nat.zero_mul, List.length_map, hb0, hw, hlt, sig_get, Int.toNat_natCast]) | (refine And.intro ?_ (evD_fin ?_); (focus (simp only [go_sem, Nat.reduceAdd, Nat.reduceSub, Nat.reduceMul, Nat.reduceEqDiff, Nat.reduceLeDiff, Nat.reduceBEq, Nat.reduceLT, reduceIte, reduceCtorEq, Int.toNat_zero, Int.toNat_one, Int.reduceToNat, Nat.zero_add, Nat.add_zero, Nat.sub_zero, Nat.zero_mul, List.length_map, hb0, hw, hlt, sig_get, Int.toNat_natCast]; done)); simp only [go_sem, Nat.reduceAdd, Nat.reduceSub, Nat.reduceMul, Nat.reduceEqDiff, Nat.reduceLeDiff, Nat.reduceBEq, Nat.reduceLT, reduceIte, reduceCtorEq, Int.toNat_zero, Int.toNat_one, Int.reduceToNat, Nat.zero_add, Nat.add_zero, Nat.sub_zero, Nat.zero_mul, List.length_map, hb0, hw, hlt, sig_get, Int.toNat_natCast]) | (refine evD_fin ?_; simp only [go_sem, Nat.reduceAdd, Nat.reduceSub, Nat.reduceMul, Nat.reduceEqDiff, Nat.reduceLeDiff, Nat.reduceBEq, Nat.reduceLT, reduceIte, reduceCtorEq, Int.toNat_zero, Int.toNat_one, Int.reduceToNat, Nat.zero_add, Nat.add_zero, Nat.sub_zero, Nat.zero_mul, List.length_map, hb0, hw, hlt, sig_get, Int.toNat_natCast]))))
            | (apply callL0; (case' hv => (simp only [go_sem, Nat.reduceAdd, Nat.reduceSub, Nat.reduceMul, Nat.reduceEqDiff, Nat.reduceLeDiff, Nat.reduceBEq, Nat.reduceLT, reduceIte, reduceCtorEq, Int.toNat_zero, Int.toNat_one, Int.reduceToNat, Nat.zero_add, Nat.add_zero, Nat.sub_zero, Nat.zero_mul, List.length_map, hb0, hw, hlt, sig_get, Int.toNat_natCast]; try exact rfl)); (case' hp => (refine' rage_pure l l L (i + 1) ?_ ?_; all_goals first | (fail_if_success refine prop_id ?_; skip) | omega | assumption | (refine' Eq.trans ?_ ?_; (focus (simp only [go_sem, Nat.reduceAdd, Nat.reduceSub, Nat.reduceMul, Nat.reduceEqDiff, Nat.reduceLeDiff, Nat.reduceBEq, Nat.reduceLT, reduceIte, reduceCtorEq, Int.toNat_zero, Int.toNat_one, Int.reduceToNat, Nat.zero_add, Nat.add_zero, Nat.sub_zero, Nat.zero_mul, List.length_map, hb0, hw, hlt, sig_get, Int.toNat_natCast]; exact rfl)); exact rfl) | (simp only [go_sem, Nat.reduceAdd, Nat.reduceSub, Nat.reduceMul, Nat.reduceEqDiff, Nat.reduceLeDiff, Nat.reduceBEq, Nat.reduceLT, reduceIte, reduceCtorEq, Int.toNat_zero, Int.toNat_one, Int.reduceToNat, Nat.zero_add, Nat.add_zero, Nat.sub_zero, Nat.zero_mul, List.length_map, hb0, hw, hlt, sig_get, Int.toNat_natCast]; done) | (simp only [go_sem, Nat.reduceAdd, Nat.reduceSub, Nat.reduceMul, Nat.reduceEqDiff, Nat.reduceLeDiff, Nat.reduceBEq, Nat.reduceLT, reduceIte, reduceCtorEq, Int.toNat_zero, Int.toNat_one, Int.reduceToNat, Nat.zero_add, Nat.add_zero, Nat.sub_zero, Nat.zero_mul, List.length_map, hb0, hw, hlt, sig_get, Int.toNat_natCast]; exact rfl) | (simp only [go_sem, Nat.reduceAdd, Nat.reduceSub, Nat.reduceMul, Nat.reduceEqDiff, Nat.reduceLeDiff, Nat.reduceBEq, Nat.reduceLT, reduceIte, reduceCtorEq, Int.toNat_zero, Int.toNat_one, Int.reduceToNat, Nat.zero_add, Nat.add_zero, Nat.sub_zero, Nat.zero_mul, List.length_map, hb0, hw, hlt, sig_get, Int.toNat_natCast]; omega))); (case' hf => exact rfl); (case' h => (first | (refine evOps_fin ?_; simp only [go_sem, Nat.reduceAdd, Nat.reduceSub, Nat.reduceMul, Nat.reduceEqDiff, Nat.reduceLeDiff, Nat.reduceBEq, Nat.reduceLT, reduceIte, reduceCtorEq, Int.toNat_zero, Int.toNat_one, Int.reduceToNat, Nat.zero_add, Nat.add_zero, Nat.sub_zero, Nat.zero_mul, List.length_map, hb0, hw, hlt, sig_get, Int.toNat_natCast]) | (refine And.intro ?_ (evD_fin ?_); (focus (simp only [go_sem, Nat.reduceAdd, Nat.reduceSub, Nat.reduceMul, Nat.reduceEqDiff, Nat.reduceLeDiff, Nat.reduceBEq, Nat.reduceLT, reduceIte, reduceCtorEq, Int.toNat_zero, Int.toNat_one, Int.reduceToNat, Nat.zero_add, Nat.add_zero, Nat.sub_zero, Nat.zero_mul, List.length_map, hb0, hw, hlt, sig_get, Int.toNat_natCast]; done)); simp only [go_sem, Nat.reduceAdd, Nat.reduceSub, Nat.reduceMul, Nat.reduceEqDiff, Nat.reduceLeDiff, Nat.reduceBEq, Nat.reduceLT, reduceIte, reduceCtorEq, Int.toNat_zero, Int.toNat_one, Int.reduceToNat, Nat.zero_add, Nat.add_zero, Nat.sub_zero, Nat.zero_mul, List.length_map, hb0, hw, hlt, sig_get, Int.toNat_natCast]) | (refine evD_fin ?_; simp only [go_sem, Nat.reduceAdd, Nat.reduceSub, Nat.reduceMul, Nat.reduceEqDiff, Nat.reduceLeDiff, Nat.reduceBEq, Nat.reduceLT, reduceIte, reduceCtorEq, Int.toNat_zero, Int.toNat_one, Int.reduceToNat, Nat.zero_add, Nat.add_zero, Nat.sub_zero, Nat.zero_mul, List.length_map, hb0, hw, hlt, sig_get, Int.toNat_natCast]))))
          all_goals exact ⟨i + 1, ⟨by omega, by omega⟩, ⟨rfl, by rw [hst], by rw [hst], by rw [hst], by rw [hst]⟩, by omega⟩
        · obtain rfl : i = L.length := by omega
          have hen := fl2_end l L
          generalize fl2 l L L.length = G at *
          obtain ⟨b1, b2, b3, b4⟩ := G
          cases b1 <;> cases b2 <;> cases b3 <;> cases b4
          all_goals
            repeat' first
              | refine ev_seq (fun K hK => ?_)
              | (refine evrd (id := 14) hmix tt_ok true [([], false), ([], false), ([], false), ([], false), ([], false), ([], true), ([5], false), ([5], false), ([], false), ([], false), ([], false)] (by decide +kernel) ?_; simp only [go_sem, Nat.reduceAdd, Nat.reduceSub, Nat.reduceMul, Nat.reduceEqDiff, Nat.reduceLeDiff, Nat.reduceBEq, Nat.reduceLT, reduceIte, reduceCtorEq, Int.toNat_zero, Int.toNat_one, Int.reduceToNat, Nat.zero_add, Nat.add_zero, Nat.sub_zero, Nat.zero_mul, List.length_map, hb0, hw, hlt, sig_get, Int.toNat_natCast])
              | (refine evr tt_ok true ?_; simp only [go_sem, Nat.reduceAdd, Nat.reduceSub, Nat.reduceMul, Nat.reduceEqDiff, Nat.reduceLeDiff, Nat.reduceBEq, Nat.reduceLT, reduceIte, reduceCtorEq, Int.toNat_zero, Int.toNat_one, Int.reduceToNat, Nat.zero_add, Nat.add_zero, Nat.sub_zero, Nat.zero_mul, List.length_map, hb0, hw, hlt, sig_get, Int.toNat_natCast])
              | (refine evc (fun X Y hX hY => ?_); simp only [go_sem, Nat.reduceAdd, Nat.reduceSub, Nat.reduceMul, Nat.reduceEqDiff, Nat.reduceLeDiff, Nat.reduceBEq, Nat.reduceLT, reduceIte, reduceCtorEq, Int.toNat_zero, Int.toNat_one, Int.reduceToNat, Nat.zero_add, Nat.add_zero, Nat.sub_zero, Nat.zero_mul, List.length_map, hb0, hw, hlt, sig_get, Int.toNat_natCast]; first | (refine ⟨fun h => hX ?_, fun h => hY ?_⟩; clear hX hY) | (refine hX ?_; clear hX hY) | (refine hY ?_; clear hX hY))
              | (refine ev_skip ?_; simp only [go_sem, Nat.reduceAdd, Nat.reduceSub, Nat.reduceMul, Nat.reduceEqDiff, Nat.reduceLeDiff, Nat.reduceBEq, Nat.reduceLT, reduceIte, reduceCtorEq, Int.toNat_zero, Int.toNat_one, Int.reduceToNat, Nat.zero_add, Nat.add_zero, Nat.sub_zero, Nat.zero_mul, List.length_map, hb0, hw, hlt, sig_get, Int.toNat_natCast])
              | (refine ev_ret ?_; simp only [go_sem, Nat.reduceAdd, Nat.reduceSub, Nat.reduceMul, Nat.reduceEqDiff, Nat.reduceLeDiff, Nat.reduceBEq, Nat.reduceLT, reduceIte, reduceCtorEq, Int.toNat_zero, Int.toNat_one, Int.reduceToNat, Nat.zero_add, Nat.add_zero, Nat.sub_zero, Nat.zero_mul, List.length_map, hb0, hw, hlt, sig_get, Int.toNat_natCast])
              | refine ev_block ?_
              | (refine ev_exit ?_; simp only [go_sem, Nat.reduceAdd, Nat.reduceSub, Nat.reduceMul, Nat.reduceEqDiff, Nat.reduceLeDiff, Nat.reduceBEq, Nat.reduceLT, reduceIte, reduceCtorEq, Int.toNat_zero, Int.toNat_one, Int.reduceToNat, Nat.zero_add, Nat.add_zero, Nat.sub_zero, Nat.zero_mul, List.length_map, hb0, hw, hlt, sig_get, Int.toNat_natCast])
              | (apply hK; clear hK)
              | apply_assumption -exfalso -symm only [*]
              | (refine And.intro ?_ ?_; first | omega | assumption | (simp only [decide_eq_true_eq, decide_eq_false_iff_not, Int.not_lt, Int.not_le] at h; omega))
          all_goals
            rw [← hen]
            exact congrArg (V.int .i64) (by decide +kernel)
theorem rgate_pure (l : Int) (L : List Sig) (h60 : (L.length : Int) ≤ 60) (c : Cmd) (safe : Bool) : Pure Try.prog 24 [.agg [.int .i64 l, .sl (L.map encSig)], .agg [.int .i64 c.t, .int .i64 c.f], .bool safe] (.agg [.int .i64 (gateR (flI (st l L L.length).1) c safe).t, .int .i64 (gateR (flI (st l L L.length).1) c safe).f]) := by
  (refine pure_of_ev tt_ok Try.func24 rfl (by decide +kernel) (Nat.le_of_ble_eq_true rfl) ?_; simp only [Try.f24])
  repeat' first
    | refine ev_seq (fun K hK => ?_)
    | (refine evr tt_ok true ?_; simp only [go_sem, Nat.reduceAdd, Nat.reduceSub, Nat.reduceMul, Nat.reduceEqDiff, Nat.reduceLeDiff, Nat.reduceBEq, Nat.reduceLT, reduceIte, reduceCtorEq, Int.toNat_zero, Int.toNat_one, Int.reduceToNat, Nat.zero_add, Nat.add_zero, Nat.sub_zero, Nat.zero_mul, List.length_map])
    | (refine evc (fun X Y hX hY => ?_); simp only [go_sem, Nat.reduceAdd, Nat.reduceSub, Nat.reduceMul, Nat.reduceEqDiff, Nat.reduceLeDiff, Nat.reduceBEq, Nat.reduceLT, reduceIte, reduceCtorEq, Int.toNat_zero, Int.toNat_one, Int.reduceToNat, Nat.zero_add, Nat.add_zero, Nat.sub_zero, Nat.zero_mul, List.length_map]; first | (refine ⟨fun h => hX ?_, fun h => hY ?_⟩; clear hX hY) | (refine hX ?_; clear hX hY) | (refine hY ?_; clear hX hY))
    | (refine ev_skip ?_; simp only [go_sem, Nat.reduceAdd, Nat.reduceSub, Nat.reduceMul, Nat.reduceEqDiff, Nat.reduceLeDiff, Nat.reduceBEq, Nat.reduceLT, reduceIte, reduceCtorEq, Int.toNat_zero, Int.toNat_one, Int.reduceToNat, Nat.zero_add, Nat.add_zero, Nat.sub_zero, Nat.zero_mul, List.length_map])
    | (refine ev_ret ?_; simp only [go_sem, Nat.reduceAdd, Nat.reduceSub, Nat.reduceMul, Nat.reduceEqDiff, Nat.reduceLeDiff, Nat.reduceBEq, Nat.reduceLT, reduceIte, reduceCtorEq, Int.toNat_zero, Int.toNat_one, Int.reduceToNat, Nat.zero_add, Nat.add_zero, Nat.sub_zero, Nat.zero_mul, List.length_map])
    | refine ev_block ?_
    | (refine ev_exit ?_; simp only [go_sem, Nat.reduceAdd, Nat.reduceSub, Nat.reduceMul, Nat.reduceEqDiff, Nat.reduceLeDiff, Nat.reduceBEq, Nat.reduceLT, reduceIte, reduceCtorEq, Int.toNat_zero, Int.toNat_one, Int.reduceToNat, Nat.zero_add, Nat.add_zero, Nat.sub_zero, Nat.zero_mul, List.length_map])
    | (apply hK; clear hK)
    | apply_assumption -exfalso -symm only [*]
    | (refine And.intro ?_ ?_; first | omega | assumption | (simp only [decide_eq_true_eq, decide_eq_false_iff_not, Int.not_lt, Int.not_le] at h; omega))
    | (apply callL; (case' hv => (simp only [go_sem, Nat.reduceAdd, Nat.reduceSub, Nat.reduceMul, Nat.reduceEqDiff, Nat.reduceLeDiff, Nat.reduceBEq, Nat.reduceLT, reduceIte, reduceCtorEq, Int.toNat_zero, Int.toNat_one, Int.reduceToNat, Nat.zero_add, Nat.add_zero, Nat.sub_zero, Nat.zero_mul, List.length_map]; try exact rfl)); (case' hp => (refine' rfaults_pure l L h60; all_goals first | (fail_if_success refine prop_id ?_; skip) | omega | assumption | (refine' Eq.trans ?_ ?_; (focus (simp only [go_sem, Nat.reduceAdd, Nat.reduceSub, Nat.reduceMul, Nat.reduceEqDiff, Nat.reduceLeDiff, Nat.reduceBEq, Nat.reduceLT, reduceIte, reduceCtorEq, Int.toNat_zero, Int.toNat_one, Int.reduceToNat, Nat.zero_add, Nat.add_zero, Nat.sub_zero, Nat.zero_mul, List.length_map]; exact rfl)); exact rfl) | (simp only [go_sem, Nat.reduceAdd, Nat.reduceSub, Nat.reduceMul, Nat.reduceEqDiff, Nat.reduceLeDiff, Nat.reduceBEq, Nat.reduceLT, reduceIte, reduceCtorEq, Int.toNat_zero, Int.toNat_one, Int.reduceToNat, Nat.zero_add, Nat.add_zero, Nat.sub_zero, Nat.zero_mul, List.length_map]; done) | (simp only [go_sem, Nat.reduceAdd, Nat.reduceSub, Nat.reduceMul, Nat.reduceEqDiff, Nat.reduceLeDiff, Nat.reduceBEq, Nat.reduceLT, reduceIte, reduceCtorEq, Int.toNat_zero, Int.toNat_one, Int.reduceToNat, Nat.zero_add, Nat.add_zero, Nat.sub_zero, Nat.zero_mul, List.length_map]; exact rfl) | (simp only [go_sem, Nat.reduceAdd, Nat.reduceSub, Nat.reduceMul, Nat.reduceEqDiff, Nat.reduceLeDiff, Nat.reduceBEq, Nat.reduceLT, reduceIte, reduceCtorEq, Int.toNat_zero, Int.toNat_one, Int.reduceToNat, Nat.zero_add, Nat.add_zero, Nat.sub_zero, Nat.zero_mul, List.length_map]; omega))); (case' hf => exact rfl); (case' h => (first | (refine evOps_fin ?_; simp only [go_sem, Nat.reduceAdd, Nat.reduceSub, Nat.reduceMul, Nat.reduceEqDiff, Nat.reduceLeDiff, Nat.reduceBEq, Nat.reduceLT, reduceIte, reduceCtorEq, Int.toNat_zero, Int.toNat_one, Int.reduceToNat, Nat.zero_add, Nat.add_zero, Nat.sub_zero, Nat.zero_mul, List.length_map]) | (refine And.intro ?_ (evD_fin ?_); (focus (simp only [go_sem, Nat.reduceAdd, Nat.reduceSub, Nat.reduceMul, Nat.reduceEqDiff, Nat.reduceLeDiff, Nat.reduceBEq, Nat.reduceLT, reduceIte, reduceCtorEq, Int.toNat_zero, Int.toNat_one, Int.reduceToNat, Nat.zero_add, Nat.add_zero, Nat.sub_zero, Nat.zero_mul, List.length_map]; done)); simp only [go_sem, Nat.reduceAdd, Nat.reduceSub, Nat.reduceMul, Nat.reduceEqDiff, Nat.reduceLeDiff, Nat.reduceBEq, Nat.reduceLT, reduceIte, reduceCtorEq, Int.toNat_zero, Int.toNat_one, Int.reduceToNat, Nat.zero_add, Nat.add_zero, Nat.sub_zero, Nat.zero_mul, List.length_map]) | (refine evD_fin ?_; simp only [go_sem, Nat.reduceAdd, Nat.reduceSub, Nat.reduceMul, Nat.reduceEqDiff, Nat.reduceLeDiff, Nat.reduceBEq, Nat.reduceLT, reduceIte, reduceCtorEq, Int.toNat_zero, Int.toNat_one, Int.reduceToNat, Nat.zero_add, Nat.add_zero, Nat.sub_zero, Nat.zero_mul, List.length_map]))))
    | (apply callPG; (case' hv => (simp only [go_sem, Nat.reduceAdd, Nat.reduceSub, Nat.reduceMul, Nat.reduceEqDiff, Nat.reduceLeDiff, Nat.reduceBEq, Nat.reduceLT, reduceIte, reduceCtorEq, Int.toNat_zero, Int.toNat_one, Int.reduceToNat, Nat.zero_add, Nat.add_zero, Nat.sub_zero, Nat.zero_mul, List.length_map]; try exact rfl)); (case' hp => (refine' (fun hg => ?_); refine' command_pure c; all_goals first | (fail_if_success refine prop_id ?_; skip) | omega | assumption | (refine' Eq.trans ?_ ?_; (focus (simp only [go_sem, Nat.reduceAdd, Nat.reduceSub, Nat.reduceMul, Nat.reduceEqDiff, Nat.reduceLeDiff, Nat.reduceBEq, Nat.reduceLT, reduceIte, reduceCtorEq, Int.toNat_zero, Int.toNat_one, Int.reduceToNat, Nat.zero_add, Nat.add_zero, Nat.sub_zero, Nat.zero_mul, List.length_map]; exact rfl)); exact rfl) | (simp only [go_sem, Nat.reduceAdd, Nat.reduceSub, Nat.reduceMul, Nat.reduceEqDiff, Nat.reduceLeDiff, Nat.reduceBEq, Nat.reduceLT, reduceIte, reduceCtorEq, Int.toNat_zero, Int.toNat_one, Int.reduceToNat, Nat.zero_add, Nat.add_zero, Nat.sub_zero, Nat.zero_mul, List.length_map]; done) | (simp only [go_sem, Nat.reduceAdd, Nat.reduceSub, Nat.reduceMul, Nat.reduceEqDiff, Nat.reduceLeDiff, Nat.reduceBEq, Nat.reduceLT, reduceIte, reduceCtorEq, Int.toNat_zero, Int.toNat_one, Int.reduceToNat, Nat.zero_add, Nat.add_zero, Nat.sub_zero, Nat.zero_mul, List.length_map]; exact rfl) | (simp only [go_sem, Nat.reduceAdd, Nat.reduceSub, Nat.reduceMul, Nat.reduceEqDiff, Nat.reduceLeDiff, Nat.reduceBEq, Nat.reduceLT, reduceIte, reduceCtorEq, Int.toNat_zero, Int.toNat_one, Int.reduceToNat, Nat.zero_add, Nat.add_zero, Nat.sub_zero, Nat.zero_mul, List.length_map]; omega))); (case' h => (first | (refine evOps_fin ?_; simp only [go_sem, Nat.reduceAdd, Nat.reduceSub, Nat.reduceMul, Nat.reduceEqDiff, Nat.reduceLeDiff, Nat.reduceBEq, Nat.reduceLT, reduceIte, reduceCtorEq, Int.toNat_zero, Int.toNat_one, Int.reduceToNat, Nat.zero_add, Nat.add_zero, Nat.sub_zero, Nat.zero_mul, List.length_map]) | (refine And.intro ?_ (evD_fin ?_); (focus (simp only [go_sem, Nat.reduceAdd, Nat.reduceSub, Nat.reduceMul, Nat.reduceEqDiff, Nat.reduceLeDiff, Nat.reduceBEq, Nat.reduceLT, reduceIte, reduceCtorEq, Int.toNat_zero, Int.toNat_one, Int.reduceToNat, Nat.zero_add, Nat.add_zero, Nat.sub_zero, Nat.zero_mul, List.length_map]; done)); simp only [go_sem, Nat.reduceAdd, Nat.reduceSub, Nat.reduceMul, Nat.reduceEqDiff, Nat.reduceLeDiff, Nat.reduceBEq, Nat.reduceLT, reduceIte, reduceCtorEq, Int.toNat_zero, Int.toNat_one, Int.reduceToNat, Nat.zero_add, Nat.add_zero, Nat.sub_zero, Nat.zero_mul, List.length_map]) | (refine evD_fin ?_; simp only [go_sem, Nat.reduceAdd, Nat.reduceSub, Nat.reduceMul, Nat.reduceEqDiff, Nat.reduceLeDiff, Nat.reduceBEq, Nat.reduceLT, reduceIte, reduceCtorEq, Int.toNat_zero, Int.toNat_one, Int.reduceToNat, Nat.zero_add, Nat.add_zero, Nat.sub_zero, Nat.zero_mul, List.length_map]))))
    | (apply callP0; (case' hv => (simp only [go_sem, Nat.reduceAdd, Nat.reduceSub, Nat.reduceMul, Nat.reduceEqDiff, Nat.reduceLeDiff, Nat.reduceBEq, Nat.reduceLT, reduceIte, reduceCtorEq, Int.toNat_zero, Int.toNat_one, Int.reduceToNat, Nat.zero_add, Nat.add_zero, Nat.sub_zero, Nat.zero_mul, List.length_map]; try exact rfl)); (case' hp => (refine' command_pure c; all_goals first | (fail_if_success refine prop_id ?_; skip) | omega | assumption | (refine' Eq.trans ?_ ?_; (focus (simp only [go_sem, Nat.reduceAdd, Nat.reduceSub, Nat.reduceMul, Nat.reduceEqDiff, Nat.reduceLeDiff, Nat.reduceBEq, Nat.reduceLT, reduceIte, reduceCtorEq, Int.toNat_zero, Int.toNat_one, Int.reduceToNat, Nat.zero_add, Nat.add_zero, Nat.sub_zero, Nat.zero_mul, List.length_map]; exact rfl)); exact rfl) | (simp only [go_sem, Nat.reduceAdd, Nat.reduceSub, Nat.reduceMul, Nat.reduceEqDiff, Nat.reduceLeDiff, Nat.reduceBEq, Nat.reduceLT, reduceIte, reduceCtorEq, Int.toNat_zero, Int.toNat_one, Int.reduceToNat, Nat.zero_add, Nat.add_zero, Nat.sub_zero, Nat.zero_mul, List.length_map]; done) | (simp only [go_sem, Nat.reduceAdd, Nat.reduceSub, Nat.reduceMul, Nat.reduceEqDiff, Nat.reduceLeDiff, Nat.reduceBEq, Nat.reduceLT, reduceIte, reduceCtorEq, Int.toNat_zero, Int.toNat_one, Int.reduceToNat, Nat.zero_add, Nat.add_zero, Nat.sub_zero, Nat.zero_mul, List.length_map]; exact rfl) | (simp only [go_sem, Nat.reduceAdd, Nat.reduceSub, Nat.reduceMul, Nat.reduceEqDiff, Nat.reduceLeDiff, Nat.reduceBEq, Nat.reduceLT, reduceIte, reduceCtorEq, Int.toNat_zero, Int.toNat_one, Int.reduceToNat, Nat.zero_add, Nat.add_zero, Nat.sub_zero, Nat.zero_mul, List.length_map]; omega))); (case' h => (first | (refine evOps_fin ?_; simp only [go_sem, Nat.reduceAdd, Nat.reduceSub, Nat.reduceMul, Nat.reduceEqDiff, Nat.reduceLeDiff, Nat.reduceBEq, Nat.reduceLT, reduceIte, reduceCtorEq, Int.toNat_zero, Int.toNat_one, Int.reduceToNat, Nat.zero_add, Nat.add_zero, Nat.sub_zero, Nat.zero_mul, List.length_map]) | (refine And.intro ?_ (evD_fin ?_); (focus (simp only [go_sem, Nat.reduceAdd, Nat.reduceSub, Nat.reduceMul, Nat.reduceEqDiff, Nat.reduceLeDiff, Nat.reduceBEq, Nat.reduceLT, reduceIte, reduceCtorEq, Int.toNat_zero, Int.toNat_one, Int.reduceToNat, Nat.zero_add, Nat.add_zero, Nat.sub_zero, Nat.zero_mul, List.length_map]; done)); simp only [go_sem, Nat.reduceAdd, Nat.reduceSub, Nat.reduceMul, Nat.reduceEqDiff, Nat.reduceLeDiff, Nat.reduceBEq, Nat.reduceLT, reduceIte, reduceCtorEq, Int.toNat_zero, Int.toNat_one, Int.reduceToNat, Nat.zero_add, Nat.add_zero, Nat.sub_zero, Nat.zero_mul, List.length_map]) | (refine evD_fin ?_; simp only [go_sem, Nat.reduceAdd, Nat.reduceSub, Nat.reduceMul, Nat.reduceEqDiff, Nat.reduceLeDiff, Nat.reduceBEq, Nat.reduceLT, reduceIte, reduceCtorEq, Int.toNat_zero, Int.toNat_one, Int.reduceToNat, Nat.zero_add, Nat.add_zero, Nat.sub_zero, Nat.zero_mul, List.length_map]))))
  · have hc : gateR (flI (st l L L.length).1) c safe = ⟨0, 0⟩ := by
      unfold gateR
      rw [if_pos]
      simp only [Bool.or_eq_true, bne_iff_ne, Bool.not_eq_true'] at h
      rcases h with (h | h) | h
      · exact .inl h
      · exact .inr (.inl h)
      · exact .inr (.inr h)
    rw [hc]
  · have hc : gateR (flI (st l L L.length).1) c safe = c := by
      unfold gateR
      rw [if_neg]
      simp only [Bool.or_eq_false_iff, bne_eq_false_iff_eq, Bool.not_eq_false'] at h
      simp [h.1.1, h.1.2, h.2]
    rw [hc]
end Go.Proofs.Ytnkiejbkfafciaa
