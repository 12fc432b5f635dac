import Derived.Test.YtokhaefcnbiadaaNJ
import Derived.Test.YtokhaefcnbiadaaNB
set_option linter.all false
namespace Go.Proofs.Ytokhaefcnbiadaa
open Nat (reduceAdd reduceSub reduceMul reduceEqDiff reduceLeDiff reduceLT)
open Go Go.K
set_option maxRecDepth 20000
set_option maxHeartbeats 16000000
/-! ### the whole certificate -/
def proT : Prob := ⟨⟨2, 0, 1, 1, [9]⟩, [⟨0, 64⟩], 32, 32, 0, 1, 1⟩
theorem proT_ok : proT.ok := by decide +kernel
theorem bytesT : bytesL proT.f.v := by
  intro b hb
  simp [proT] at hb
  omega
theorem optT : Opt proT 9 ⟨0, 0, 1⟩ := by
  refine ⟨fun c hc => ?_, by decide +kernel, by decide +kernel⟩
  obtain ⟨j, hj, rfl⟩ := in_cnd proT_ok hc
  have e : proT.N = 9 := by decide +kernel
  rw [e] at hj
  have key : ∀ j, j < 9 → ¬ betM (boundM proT (toB (cndAt proT j))) (cndAt proT j) 9 ⟨0, 0, 1⟩ := by decide +kernel
  exact key j hj
theorem awakeT_pure : Pure Try.prog 19 [] (.bool true) := by
  have o : Opt proT (fndM proT).sc (fndM proT).b := opt_of proT_ok bytesT
  obtain ⟨u1, u2⟩ := o.uniq optT
  have hl : (proT.s.length : Int) < 4611686018427387904 := by decide
  have fp := find_pure proT bytesT hl
  unfold fndR at fp
  rw [if_pos proT_ok] at fp
  have c1 := check_pure proT bytesT hl (fndM proT)
  rw [fnd_check proT_ok bytesT] at c1
  clear o
  generalize fndM proT = m at *
  simp only [encMa, encM, encP, u1, u2, proT, List.map_cons, List.map_nil, enB, enBm] at fp c1
  (refine pure_of_ev tt_ok Try.func19 rfl (by decide +kernel) (Nat.le_of_ble_eq_true rfl) ?_; simp only [Try.f19])
  refine ev_seq (fun K hK => ?_)
  refine evr tt_ok false ?_
  simp only [go_sem, reduceAdd, reduceSub, reduceMul, reduceEqDiff, reduceLeDiff, Nat.reduceBEq, reduceLT, reduceIte, reduceCtorEq, Int.reduceToNat]
  apply hK; clear hK
  refine ev_seq (fun K hK => ?_)
  refine evr tt_ok false ?_
  simp only [go_sem, reduceAdd, reduceSub, reduceMul, reduceEqDiff, reduceLeDiff, Nat.reduceBEq, reduceLT, reduceIte, reduceCtorEq, Int.reduceToNat]
  refine And.intro (by unfold maxLen; omega) ?_
  apply hK; clear hK
  refine ev_freeze 0 rfl rfl ?_
  refine ev_freeze 1 rfl rfl ?_
  repeat' first
    | refine ev_seq (fun K hK => ?_)
    | ((first | refine evr tt_ok false ?_ | refine ev_skip ?_ | refine ev_ret ?_ | refine ev_exit ?_ | refine evc (fun X Y hX hY => ?_)); simp only [go_sem, reduceAdd, reduceSub, reduceMul, reduceEqDiff, reduceLeDiff, Nat.reduceBEq, reduceLT, reduceIte, reduceCtorEq, Int.reduceToNat, Int.reduceBEq, beq_self_eq_true, bne]; try (first | (refine ⟨fun h => hX ?_, fun h => hY ?_⟩; clear hX hY) | (refine hX ?_; clear hX hY) | (refine hY ?_; clear hX hY)))
    | refine ev_block ?_
    | (apply hK; clear hK)
    | apply_assumption -exfalso -symm only [*]
    | (refine And.intro ?_ ?_; first | omega | assumption | (unfold maxLen; omega) | (simp only [decide_eq_true_eq, decide_eq_false_iff_not, Int.not_lt, Int.not_le] at h; omega))
    | ((first | apply callP | apply callPG | apply callP0); (case' hv => (simp only [go_sem, reduceAdd, reduceSub, reduceMul, reduceEqDiff, reduceLeDiff, Nat.reduceBEq, reduceLT, reduceIte, reduceCtorEq, Int.reduceToNat, Int.reduceBEq, beq_self_eq_true, bne]; try exact rfl)); (case' hp => (first | refine' fp | (refine' (fun hg => ?_); refine' fp))); (case' h => ((first | refine evOps_fin ?_ | refine And.intro ?_ (evD_fin ?_) | refine evD_fin ?_) <;> simp only [go_sem, reduceAdd, reduceSub, reduceMul, reduceEqDiff, reduceLeDiff, Nat.reduceBEq, reduceLT, reduceIte, reduceCtorEq, Int.reduceToNat, Int.reduceBEq, beq_self_eq_true, bne])))
    | ((first | apply callL | apply callLG | apply callL0); (case' hv => (simp only [go_sem, reduceAdd, reduceSub, reduceMul, reduceEqDiff, reduceLeDiff, Nat.reduceBEq, reduceLT, reduceIte, reduceCtorEq, Int.reduceToNat, Int.reduceBEq, beq_self_eq_true, bne]; try exact rfl)); (case' hp => (first | refine' c1 | (refine' (fun hg => ?_); refine' c1))); (case' hf => exact rfl); (case' h => ((first | refine evOps_fin ?_ | refine And.intro ?_ (evD_fin ?_) | refine evD_fin ?_) <;> simp only [go_sem, reduceAdd, reduceSub, reduceMul, reduceEqDiff, reduceLeDiff, Nat.reduceBEq, reduceLT, reduceIte, reduceCtorEq, Int.reduceToNat, Int.reduceBEq, beq_self_eq_true, bne])))
    | (refine callX ?_; (first | refine evOps_fin ?_ | refine And.intro ?_ (evD_fin ?_) | refine evD_fin ?_) <;> simp only [go_sem, reduceAdd, reduceSub, reduceMul, reduceEqDiff, reduceLeDiff, Nat.reduceBEq, reduceLT, reduceIte, reduceCtorEq, Int.reduceToNat, Int.reduceBEq, beq_self_eq_true, bne])
  all_goals rfl
structure Clm where
  b : Cnd
  s : Int
  hn : Bool
  l : List Blc
def encClm (c : Clm) : List V := [.int .i64 c.b.k, .int .i64 c.b.y, .int .i64 c.b.x, .int .i64 c.s, .bool c.hn, .sl (c.l.map enBl)]
theorem higher_9 {p : Prob} {m : Mat} (hz : checkM p m = 0) : checkM p ⟨m.b, m.px, m.py, m.ph, m.sc + 1, m.l⟩ = 9 := by
  obtain ⟨h1, h2, h3, h4, h5⟩ := check_zero.1 hz
  unfold checkM
  rw [if_pos h1, if_pos h2]
  unfold check1
  rw [if_neg]
  rintro ⟨_, e⟩
  have := h3.2
  have e2 : m.sc + 1 = boundM p (toB m.b) := e
  omega
theorem cnd_ne {a b : Cnd} (hn : a ≠ b) : (((a.k == b.k) && (a.y == b.y)) && (a.x == b.x)) = false := by
  rw [Bool.eq_false_iff]
  simp only [ne_eq, Bool.and_eq_true, beq_iff_eq]
  rintro ⟨⟨e1, e2⟩, e3⟩
  refine hn ?_
  cases a; cases b
  simp only at e1 e2 e3
  subst e1 e2 e3
  rfl
theorem cnd_ne2 {a b : Cnd} (hn : a ≠ b) : ((a.k == b.k) && ((a.y == b.y) && (a.x == b.x))) = false := by rw [← Bool.and_assoc]; exact cnd_ne hn
/-- The facts of the last part. -/
structure Tail (p : Prob) (F : Mat) (lie : Int) (k : Nat) : Prop where
  kl : k < F.l.length
  ek : lie % (F.l.length : Int) = (k : Int)
  c2 : Pure Try.prog 23 [.agg (encP p), .agg (encM ⟨F.b, F.px, F.py, F.ph, F.sc, F.l.take k ++ F.l.drop (k + 1)⟩)] (.int .i64 11)
  c3 : Pure Try.prog 23 [.agg (encP p), .agg (encM ⟨F.b, F.px, F.py, F.ph, F.sc + 1, F.l⟩)] (.int .i64 9)
  c4 : Pure Try.prog 23 [.agg (encP p), .agg (encM F)] (.int .i64 0)
  vm : Pure Try.prog 26 [.int .i64 lie, .int .i64 (F.l.length : Int)] (.int .i64 (k : Int))
  hmx : max (F.l.length : Int) 1 = (F.l.length : Int)
  len : F.l.length ≤ 16384
  sc : -9000 ≤ F.sc ∧ F.sc ≤ 9000
theorem tail_of {p : Prob} (h : p.ok) (hb : bytesL p.f.v) (hl : (p.s.length : Int) < 4611686018427387904) (lie : Int) : ∃ k, Tail p (fndM p) lie k := by
  have hz := fnd_check h hb
  obtain ⟨_, _, h3, h4, h5⟩ := check_zero.1 hz
  have hlen := good_len h h5
  have hN := (winOk h).n
  have hpos : (fndM p).l ≠ [] := part_pos h h5.pa
  have hp1 : 1 ≤ (fndM p).l.length := by
    have : (fndM p).l.length ≠ 0 := fun e => hpos (List.eq_nil_of_length_eq_zero e)
    omega
  have q1 := Int.emod_nonneg lie (b := ((fndM p).l.length : Int)) (by omega)
  have q2 := Int.emod_lt_of_pos lie (b := ((fndM p).l.length : Int)) (by omega)
  obtain ⟨k, ek⟩ : ∃ k : Nat, lie % ((fndM p).l.length : Int) = (k : Int) := ⟨(lie % ((fndM p).l.length : Int)).toNat, by omega⟩
  have kl : k < (fndM p).l.length := by omega
  have c2 := check_pure p hb hl ⟨(fndM p).b, (fndM p).px, (fndM p).py, (fndM p).ph, (fndM p).sc, (fndM p).l.take k ++ (fndM p).l.drop (k + 1)⟩
  rw [less_11 hz kl] at c2
  have c3 := check_pure p hb hl ⟨(fndM p).b, (fndM p).px, (fndM p).py, (fndM p).ph, (fndM p).sc + 1, (fndM p).l⟩
  rw [higher_9 hz] at c3
  have c4 := check_pure p hb hl (fndM p)
  rw [hz] at c4
  have vm := mod_pure lie ((fndM p).l.length : Int) (by omega) (by omega)
  rw [ek] at vm
  have hs := score_in h hb (toB (fndM p).b)
  exact ⟨k, kl, ek, c2, c3, c4, vm, by omega, by omega, by rw [h3.2]; omega⟩
set_option maxRecDepth 20000
set_option maxHeartbeats 16000000
theorem whole_law (p : Prob) (c : Clm) (lie : Int) (hb : bytesL p.f.v) : Pure Try.prog 3 [.agg (encP p), .agg (encClm c), .int .i64 lie] (.bool true) := by
  have aw := awakeT_pure
  by_cases h1 : (400 : Int) < p.f.v.length
  · simp only [encP, encClm] at *
    (refine pure_of_ev tt_ok Try.func3 rfl (by decide +kernel) (Nat.le_of_ble_eq_true rfl) ?_; simp only [Try.f3])
    repeat' first
      | refine ev_seq (fun K hK => ?_)
      | ((first | refine evrd (id := 15) hmix tt_ok false [([], false), ([], false), ([], false), ([], false), ([], false), ([], true), ([], false), ([5], false), ([5], false), ([5], false), ([5], false), ([5], false), ([], false), ([], false)] (by decide +kernel) ?_ | refine evrd (id := 21) hmix tt_ok false [([], true), ([0], false), ([0], false), ([0], false), ([0], false), ([], true), ([0, 5], false), ([0, 5], false), ([0, 5], false), ([0, 5], false), ([0, 5], false), ([], false), ([], false), ([], false)] (by decide +kernel) ?_ | refine evr tt_ok false ?_ | refine ev_skip ?_ | refine ev_ret ?_ | refine ev_exit ?_ | refine evc (fun X Y hX hY => ?_)); simp only [go_sem, reduceAdd, reduceSub, reduceMul, reduceEqDiff, reduceLeDiff, Nat.reduceBEq, reduceLT, reduceIte, reduceCtorEq, Int.reduceToNat, h1, List.length_map]; try (first | (refine ⟨fun h => hX ?_, fun h => hY ?_⟩; clear hX hY) | (refine hX ?_; clear hX hY) | (refine hY ?_; clear hX hY)))
      | refine ev_block ?_
      | (apply hK; clear hK)
      | apply_assumption -exfalso -symm only [*]
      | (refine And.intro ?_ ?_; first | omega | assumption | (unfold maxLen; omega) | (simp only [decide_eq_true_eq, decide_eq_false_iff_not, Int.not_lt, Int.not_le] at h; omega))
      | ((first | apply callP | apply callPG | apply callP0); (case' hv => (simp only [go_sem, reduceAdd, reduceSub, reduceMul, reduceEqDiff, reduceLeDiff, Nat.reduceBEq, reduceLT, reduceIte, reduceCtorEq, Int.reduceToNat, h1, List.length_map]; try exact rfl)); (case' hp => (first | refine' aw | (refine' (fun hg => ?_); refine' aw) | refine' aw | (refine' (fun hg => ?_); refine' aw))); (case' h => ((first | refine evOps_fin ?_ | refine And.intro ?_ (evD_fin ?_) | refine evD_fin ?_) <;> simp only [go_sem, reduceAdd, reduceSub, reduceMul, reduceEqDiff, reduceLeDiff, Nat.reduceBEq, reduceLT, reduceIte, reduceCtorEq, Int.reduceToNat, h1, List.length_map])))
      | (refine callX ?_; (first | refine evOps_fin ?_ | refine And.intro ?_ (evD_fin ?_) | refine evD_fin ?_) <;> simp only [go_sem, reduceAdd, reduceSub, reduceMul, reduceEqDiff, reduceLeDiff, Nat.reduceBEq, reduceLT, reduceIte, reduceCtorEq, Int.reduceToNat, h1, List.length_map])
  by_cases h2 : (4 : Int) < p.s.length
  · simp only [encP, encClm] at *
    (refine pure_of_ev tt_ok Try.func3 rfl (by decide +kernel) (Nat.le_of_ble_eq_true rfl) ?_; simp only [Try.f3])
    repeat' first
      | refine ev_seq (fun K hK => ?_)
      | ((first | refine evrd (id := 15) hmix tt_ok false [([], false), ([], false), ([], false), ([], false), ([], false), ([], true), ([], false), ([5], false), ([5], false), ([5], false), ([5], false), ([5], false), ([], false), ([], false)] (by decide +kernel) ?_ | refine evrd (id := 21) hmix tt_ok false [([], true), ([0], false), ([0], false), ([0], false), ([0], false), ([], true), ([0, 5], false), ([0, 5], false), ([0, 5], false), ([0, 5], false), ([0, 5], false), ([], false), ([], false), ([], false)] (by decide +kernel) ?_ | refine evr tt_ok false ?_ | refine ev_skip ?_ | refine ev_ret ?_ | refine ev_exit ?_ | refine evc (fun X Y hX hY => ?_)); simp only [go_sem, reduceAdd, reduceSub, reduceMul, reduceEqDiff, reduceLeDiff, Nat.reduceBEq, reduceLT, reduceIte, reduceCtorEq, Int.reduceToNat, h1, h2, List.length_map]; try (first | (refine ⟨fun h => hX ?_, fun h => hY ?_⟩; clear hX hY) | (refine hX ?_; clear hX hY) | (refine hY ?_; clear hX hY)))
      | refine ev_block ?_
      | (apply hK; clear hK)
      | apply_assumption -exfalso -symm only [*]
      | (refine And.intro ?_ ?_; first | omega | assumption | (unfold maxLen; omega) | (simp only [decide_eq_true_eq, decide_eq_false_iff_not, Int.not_lt, Int.not_le] at h; omega))
      | ((first | apply callP | apply callPG | apply callP0); (case' hv => (simp only [go_sem, reduceAdd, reduceSub, reduceMul, reduceEqDiff, reduceLeDiff, Nat.reduceBEq, reduceLT, reduceIte, reduceCtorEq, Int.reduceToNat, h1, h2, List.length_map]; try exact rfl)); (case' hp => (first | refine' aw | (refine' (fun hg => ?_); refine' aw) | refine' aw | (refine' (fun hg => ?_); refine' aw))); (case' h => ((first | refine evOps_fin ?_ | refine And.intro ?_ (evD_fin ?_) | refine evD_fin ?_) <;> simp only [go_sem, reduceAdd, reduceSub, reduceMul, reduceEqDiff, reduceLeDiff, Nat.reduceBEq, reduceLT, reduceIte, reduceCtorEq, Int.reduceToNat, h1, h2, List.length_map])))
      | (refine callX ?_; (first | refine evOps_fin ?_ | refine And.intro ?_ (evD_fin ?_) | refine evD_fin ?_) <;> simp only [go_sem, reduceAdd, reduceSub, reduceMul, reduceEqDiff, reduceLeDiff, Nat.reduceBEq, reduceLT, reduceIte, reduceCtorEq, Int.reduceToNat, h1, h2, List.length_map])
  by_cases h3 : (400 : Int) < c.l.length
  · simp only [encP, encClm] at *
    (refine pure_of_ev tt_ok Try.func3 rfl (by decide +kernel) (Nat.le_of_ble_eq_true rfl) ?_; simp only [Try.f3])
    repeat' first
      | refine ev_seq (fun K hK => ?_)
      | ((first | refine evrd (id := 15) hmix tt_ok false [([], false), ([], false), ([], false), ([], false), ([], false), ([], true), ([], false), ([5], false), ([5], false), ([5], false), ([5], false), ([5], false), ([], false), ([], false)] (by decide +kernel) ?_ | refine evrd (id := 21) hmix tt_ok false [([], true), ([0], false), ([0], false), ([0], false), ([0], false), ([], true), ([0, 5], false), ([0, 5], false), ([0, 5], false), ([0, 5], false), ([0, 5], false), ([], false), ([], false), ([], false)] (by decide +kernel) ?_ | refine evr tt_ok false ?_ | refine ev_skip ?_ | refine ev_ret ?_ | refine ev_exit ?_ | refine evc (fun X Y hX hY => ?_)); simp only [go_sem, reduceAdd, reduceSub, reduceMul, reduceEqDiff, reduceLeDiff, Nat.reduceBEq, reduceLT, reduceIte, reduceCtorEq, Int.reduceToNat, h1, h2, h3, List.length_map]; try (first | (refine ⟨fun h => hX ?_, fun h => hY ?_⟩; clear hX hY) | (refine hX ?_; clear hX hY) | (refine hY ?_; clear hX hY)))
      | refine ev_block ?_
      | (apply hK; clear hK)
      | apply_assumption -exfalso -symm only [*]
      | (refine And.intro ?_ ?_; first | omega | assumption | (unfold maxLen; omega) | (simp only [decide_eq_true_eq, decide_eq_false_iff_not, Int.not_lt, Int.not_le] at h; omega))
      | ((first | apply callP | apply callPG | apply callP0); (case' hv => (simp only [go_sem, reduceAdd, reduceSub, reduceMul, reduceEqDiff, reduceLeDiff, Nat.reduceBEq, reduceLT, reduceIte, reduceCtorEq, Int.reduceToNat, h1, h2, h3, List.length_map]; try exact rfl)); (case' hp => (first | refine' aw | (refine' (fun hg => ?_); refine' aw) | refine' aw | (refine' (fun hg => ?_); refine' aw))); (case' h => ((first | refine evOps_fin ?_ | refine And.intro ?_ (evD_fin ?_) | refine evD_fin ?_) <;> simp only [go_sem, reduceAdd, reduceSub, reduceMul, reduceEqDiff, reduceLeDiff, Nat.reduceBEq, reduceLT, reduceIte, reduceCtorEq, Int.reduceToNat, h1, h2, h3, List.length_map])))
      | (refine callX ?_; (first | refine evOps_fin ?_ | refine And.intro ?_ (evD_fin ?_) | refine evD_fin ?_) <;> simp only [go_sem, reduceAdd, reduceSub, reduceMul, reduceEqDiff, reduceLeDiff, Nat.reduceBEq, reduceLT, reduceIte, reduceCtorEq, Int.reduceToNat, h1, h2, h3, List.length_map])
  have hl : (p.s.length : Int) < 4611686018427387904 := by omega
  have vp := mpose_pure p hl c.b
  have vs := Score_pure p hb hl c.b
  have vv := mvalid_pure p hl
  obtain ⟨sc, hsc⟩ : ∃ sc, sc = if c.hn = true then (boundR p ⟨c.b.k, c.b.y, c.b.x, 0⟩).n else c.s := ⟨_, rfl⟩
  have hsc2 : (c.hn = true ∧ (boundR p ⟨c.b.k, c.b.y, c.b.x, 0⟩).n = sc) ∨ (c.hn = false ∧ c.s = sc) := by
    by_cases e : c.hn = true
    · rw [if_pos e] at hsc; exact .inl ⟨e, hsc.symm⟩
    · rw [if_neg e] at hsc; exact .inr ⟨by simpa using e, hsc.symm⟩
  have c1 := check_pure p hb hl ⟨c.b, (poseM p c.b).x, (poseM p c.b).y, (poseM p c.b).h, sc, c.l⟩
  generalize boundR p ⟨c.b.k, c.b.y, c.b.x, 0⟩ = R at *
  clear hsc
  by_cases h : p.ok
  · rw [decide_eq_true h] at vv
    by_cases h4 : (4 : Int) < p.ct
    · generalize checkM p ⟨c.b, (poseM p c.b).x, (poseM p c.b).y, (poseM p c.b).h, sc, c.l⟩ = cv at *
      generalize poseM p c.b = Q at *
      rcases hsc2 with ⟨e1, e2⟩ | ⟨e1, e2⟩
      all_goals
        simp only [encP, encClm, encM, enC, encPo, encNu, e1, e2] at *
        (refine pure_of_ev tt_ok Try.func3 rfl (by decide +kernel) (Nat.le_of_ble_eq_true rfl) ?_; simp only [Try.f3])
        repeat' first
          | refine ev_seq (fun K hK => ?_)
          | ((first | refine evrd (id := 15) hmix tt_ok false [([], false), ([], false), ([], false), ([], false), ([], false), ([], true), ([], false), ([5], false), ([5], false), ([5], false), ([5], false), ([5], false), ([], false), ([], false)] (by decide +kernel) ?_ | refine evrd (id := 21) hmix tt_ok false [([], true), ([0], false), ([0], false), ([0], false), ([0], false), ([], true), ([0, 5], false), ([0, 5], false), ([0, 5], false), ([0, 5], false), ([0, 5], false), ([], false), ([], false), ([], false)] (by decide +kernel) ?_ | refine evr tt_ok false ?_ | refine ev_skip ?_ | refine ev_ret ?_ | refine ev_exit ?_ | refine evc (fun X Y hX hY => ?_)); simp only [go_sem, reduceAdd, reduceSub, reduceMul, reduceEqDiff, reduceLeDiff, Nat.reduceBEq, reduceLT, reduceIte, reduceCtorEq, Int.reduceToNat, h1, h2, h3, h4, List.length_map]; try (first | (refine ⟨fun h => hX ?_, fun h => hY ?_⟩; clear hX hY) | (refine hX ?_; clear hX hY) | (refine hY ?_; clear hX hY)))
          | refine ev_block ?_
          | (apply hK; clear hK)
          | apply_assumption -exfalso -symm only [*]
          | (refine And.intro ?_ ?_; first | omega | assumption | (unfold maxLen; omega) | (simp only [decide_eq_true_eq, decide_eq_false_iff_not, Int.not_lt, Int.not_le] at h; omega))
          | ((first | apply callP | apply callPG | apply callP0); (case' hv => (simp only [go_sem, reduceAdd, reduceSub, reduceMul, reduceEqDiff, reduceLeDiff, Nat.reduceBEq, reduceLT, reduceIte, reduceCtorEq, Int.reduceToNat, h1, h2, h3, h4, List.length_map]; try exact rfl)); (case' hp => (first | refine' aw | (refine' (fun hg => ?_); refine' aw) | refine' vp | (refine' (fun hg => ?_); refine' vp) | refine' vs | (refine' (fun hg => ?_); refine' vs) | refine' vv | (refine' (fun hg => ?_); refine' vv))); (case' h => ((first | refine evOps_fin ?_ | refine And.intro ?_ (evD_fin ?_) | refine evD_fin ?_) <;> simp only [go_sem, reduceAdd, reduceSub, reduceMul, reduceEqDiff, reduceLeDiff, Nat.reduceBEq, reduceLT, reduceIte, reduceCtorEq, Int.reduceToNat, h1, h2, h3, h4, List.length_map])))
          | ((first | apply callL | apply callLG | apply callL0); (case' hv => (simp only [go_sem, reduceAdd, reduceSub, reduceMul, reduceEqDiff, reduceLeDiff, Nat.reduceBEq, reduceLT, reduceIte, reduceCtorEq, Int.reduceToNat, h1, h2, h3, h4, List.length_map]; try exact rfl)); (case' hp => (first | refine' c1 | (refine' (fun hg => ?_); refine' c1))); (case' hf => exact rfl); (case' h => ((first | refine evOps_fin ?_ | refine And.intro ?_ (evD_fin ?_) | refine evD_fin ?_) <;> simp only [go_sem, reduceAdd, reduceSub, reduceMul, reduceEqDiff, reduceLeDiff, Nat.reduceBEq, reduceLT, reduceIte, reduceCtorEq, Int.reduceToNat, h1, h2, h3, h4, List.length_map])))
          | (refine callX ?_; (first | refine evOps_fin ?_ | refine And.intro ?_ (evD_fin ?_) | refine evD_fin ?_) <;> simp only [go_sem, reduceAdd, reduceSub, reduceMul, reduceEqDiff, reduceLeDiff, Nat.reduceBEq, reduceLT, reduceIte, reduceCtorEq, Int.reduceToNat, h1, h2, h3, h4, List.length_map])
    by_cases h5 : (3 : Int) < p.re
    · generalize checkM p ⟨c.b, (poseM p c.b).x, (poseM p c.b).y, (poseM p c.b).h, sc, c.l⟩ = cv at *
      generalize poseM p c.b = Q at *
      rcases hsc2 with ⟨e1, e2⟩ | ⟨e1, e2⟩
      all_goals
        simp only [encP, encClm, encM, enC, encPo, encNu, e1, e2] at *
        (refine pure_of_ev tt_ok Try.func3 rfl (by decide +kernel) (Nat.le_of_ble_eq_true rfl) ?_; simp only [Try.f3])
        repeat' first
          | refine ev_seq (fun K hK => ?_)
          | ((first | refine evrd (id := 15) hmix tt_ok false [([], false), ([], false), ([], false), ([], false), ([], false), ([], true), ([], false), ([5], false), ([5], false), ([5], false), ([5], false), ([5], false), ([], false), ([], false)] (by decide +kernel) ?_ | refine evrd (id := 21) hmix tt_ok false [([], true), ([0], false), ([0], false), ([0], false), ([0], false), ([], true), ([0, 5], false), ([0, 5], false), ([0, 5], false), ([0, 5], false), ([0, 5], false), ([], false), ([], false), ([], false)] (by decide +kernel) ?_ | refine evr tt_ok false ?_ | refine ev_skip ?_ | refine ev_ret ?_ | refine ev_exit ?_ | refine evc (fun X Y hX hY => ?_)); simp only [go_sem, reduceAdd, reduceSub, reduceMul, reduceEqDiff, reduceLeDiff, Nat.reduceBEq, reduceLT, reduceIte, reduceCtorEq, Int.reduceToNat, h1, h2, h3, h4, h5, List.length_map]; try (first | (refine ⟨fun h => hX ?_, fun h => hY ?_⟩; clear hX hY) | (refine hX ?_; clear hX hY) | (refine hY ?_; clear hX hY)))
          | refine ev_block ?_
          | (apply hK; clear hK)
          | apply_assumption -exfalso -symm only [*]
          | (refine And.intro ?_ ?_; first | omega | assumption | (unfold maxLen; omega) | (simp only [decide_eq_true_eq, decide_eq_false_iff_not, Int.not_lt, Int.not_le] at h; omega))
          | ((first | apply callP | apply callPG | apply callP0); (case' hv => (simp only [go_sem, reduceAdd, reduceSub, reduceMul, reduceEqDiff, reduceLeDiff, Nat.reduceBEq, reduceLT, reduceIte, reduceCtorEq, Int.reduceToNat, h1, h2, h3, h4, h5, List.length_map]; try exact rfl)); (case' hp => (first | refine' aw | (refine' (fun hg => ?_); refine' aw) | refine' vp | (refine' (fun hg => ?_); refine' vp) | refine' vs | (refine' (fun hg => ?_); refine' vs) | refine' vv | (refine' (fun hg => ?_); refine' vv))); (case' h => ((first | refine evOps_fin ?_ | refine And.intro ?_ (evD_fin ?_) | refine evD_fin ?_) <;> simp only [go_sem, reduceAdd, reduceSub, reduceMul, reduceEqDiff, reduceLeDiff, Nat.reduceBEq, reduceLT, reduceIte, reduceCtorEq, Int.reduceToNat, h1, h2, h3, h4, h5, List.length_map])))
          | ((first | apply callL | apply callLG | apply callL0); (case' hv => (simp only [go_sem, reduceAdd, reduceSub, reduceMul, reduceEqDiff, reduceLeDiff, Nat.reduceBEq, reduceLT, reduceIte, reduceCtorEq, Int.reduceToNat, h1, h2, h3, h4, h5, List.length_map]; try exact rfl)); (case' hp => (first | refine' c1 | (refine' (fun hg => ?_); refine' c1))); (case' hf => exact rfl); (case' h => ((first | refine evOps_fin ?_ | refine And.intro ?_ (evD_fin ?_) | refine evD_fin ?_) <;> simp only [go_sem, reduceAdd, reduceSub, reduceMul, reduceEqDiff, reduceLeDiff, Nat.reduceBEq, reduceLT, reduceIte, reduceCtorEq, Int.reduceToNat, h1, h2, h3, h4, h5, List.length_map])))
          | (refine callX ?_; (first | refine evOps_fin ?_ | refine And.intro ?_ (evD_fin ?_) | refine evD_fin ?_) <;> simp only [go_sem, reduceAdd, reduceSub, reduceMul, reduceEqDiff, reduceLeDiff, Nat.reduceBEq, reduceLT, reduceIte, reduceCtorEq, Int.reduceToNat, h1, h2, h3, h4, h5, List.length_map])
    have fp := find_pure p hb hl
    unfold fndR at fp
    rw [if_pos h] at fp
    obtain ⟨k, kl, ek, c2, c3, c4, vm, hmx, hlen, hsr⟩ := tail_of h hb hl lie
    have t1 := triv_pure p hb hl c.b
    have c5 := check_pure p hb hl (trivM p c.b).m
    have ho : Opt p (fndM p).sc (fndM p).b := opt_of h hb
    -- what is claimed, if it is accepted, is what is found
    have hacc : checkM p ⟨c.b, (poseM p c.b).x, (poseM p c.b).y, (poseM p c.b).h, sc, c.l⟩ = 0 → c.b = (fndM p).b ∧ sc = (fndM p).sc ∧ (poseM p c.b).x = (fndM p).px ∧ (poseM p c.b).y = (fndM p).py ∧ (poseM p c.b).h = (fndM p).ph := fun hz => by
      have g := (good_opt hb hz).uniq ho
      have hin : inW p c.b := (check_zero.1 hz).2.1
      have e : c.b = (fndM p).b := g.2
      have ep : poseM p c.b = ⟨p.cx + 64 * c.b.x, p.cy + 64 * c.b.y, (p.fr + c.b.k) % 256, 0⟩ := by
        unfold poseM
        rw [if_pos h, if_pos hin]
      refine ⟨e, g.1, ?_, ?_, ?_⟩
      · rw [ep, e]; rfl
      · rw [ep, e]; rfl
      · rw [ep, e]; rfl
    have hT : (inW p c.b ∧ (trivM p c.b).e = 0 ∧ (checkM p (trivM p c.b).m = 0 ↔ c.b = (fndM p).b)) ∨ (c.b ≠ (fndM p).b ∧ (trivM p c.b).e = 2) := by
      by_cases hc : inW p c.b
      · refine .inl ⟨hc, ?_, triv_iff h hb hc⟩
        unfold trivM
        rw [if_pos h, if_pos hc]
      · refine .inr ⟨fun e => hc (by rw [e]; exact ho.in'), ?_⟩
        unfold trivM
        rw [if_pos h, if_neg hc]
    clear ho
    generalize trivM p c.b = T at *
    generalize fndM p = F at *
    generalize checkM p ⟨c.b, (poseM p c.b).x, (poseM p c.b).y, (poseM p c.b).h, sc, c.l⟩ = cv at *
    generalize checkM p T.m = tv at *
    generalize poseM p c.b = Q at *
    have hl0 : ((F.l.length : Int) == 0) = false := by rw [beq_eq_false_iff_ne]; omega
    have wk1 : IntKind.i64.wrap ((k : Int) + 1) = ((k + 1 : Nat) : Int) := by rw [w64] <;> omega
    have ws1 : IntKind.i64.wrap (F.sc + 1) = F.sc + 1 := w64 (by omega) (by omega)
    have k0 : (0 : Int) ≤ (k : Int) := by omega
    have kl2 : (k : Int) ≤ (F.l.length : Int) := by omega
    have kl3 : (((k + 1 : Nat)) : Int) ≤ (F.l.length : Int) := by omega
    have k00 : (0 : Int) ≤ ((k + 1 : Nat) : Int) := by omega
    have g0 := fun q : List Blc => blc_get q 0
    have eA : List.take k (List.map enBl F.l) = List.map enBl (F.l.take k) := by rw [List.map_take]
    have eB : List.take ((F.l.length : Int) - ((k + 1 : Nat) : Int)).toNat (List.drop (k + 1) (List.map enBl F.l)) = List.map enBl (F.l.drop (k + 1)) := by
      rw [List.map_drop, List.take_of_length_le]
      rw [List.length_drop, List.length_map]
      omega
    have lA : (F.l.take k).length = k := by rw [List.length_take]; omega
    have lB : (F.l.drop (k + 1)).length = F.l.length - (k + 1) := List.length_drop ..
    have hlitA : litRows (List.map enBl (F.l.take k) ++ List.map enBl (F.l.drop (k + 1))) = true := by rw [← List.map_append]; exact lit_enBl _
    have tA : List.take (k + (F.l.length - (k + 1))) (List.map enBl (F.l.take k) ++ List.map enBl (F.l.drop (k + 1))) = List.map enBl (F.l.take k) ++ List.map enBl (F.l.drop (k + 1)) := List.take_of_length_le (by rw [List.length_append, List.length_map, List.length_map, lA, lB]; exact Nat.le_refl _)
    have hq1 : F.l.length + 1 ≤ maxLen ∧ (F.l.length + 1) * 32 ≤ 140737488355328 := by
      have : maxLen = 9223372036854775807 := rfl
      omega
    have tf : (true == false) = false := rfl
    have ft : (false == true) = false := rfl
    clear ek
    by_cases hcv : cv = 0
    · obtain ⟨a1, a2, a3, a4, a5⟩ := hacc hcv
      obtain ⟨_, b1, b2⟩ := hT.resolve_right (fun hh => hh.1 a1)
      have b3 := b2.2 a1
      rw [hcv] at c1
      rw [b3] at c5
      clear hacc hT b2 h
      rcases hsc2 with ⟨e1, e2⟩ | ⟨e1, e2⟩
      all_goals
        simp only [encP, encClm, encMa, encM, enC, encPo, encNu, e1, e2, b1, a1, a2, a3, a4, a5, List.map_append] at *
        (refine pure_of_ev tt_ok Try.func3 rfl (by decide +kernel) (Nat.le_of_ble_eq_true rfl) ?_; simp only [Try.f3])
        repeat' first
          | refine ev_seq (fun K hK => ?_)
          | ((first | refine evrd (id := 15) hmix tt_ok false [([], false), ([], false), ([], false), ([], false), ([], false), ([], true), ([], false), ([5], false), ([5], false), ([5], false), ([5], false), ([5], false), ([], false), ([], false)] (by decide +kernel) ?_ | refine evrd (id := 21) hmix tt_ok false [([], true), ([0], false), ([0], false), ([0], false), ([0], false), ([], true), ([0, 5], false), ([0, 5], false), ([0, 5], false), ([0, 5], false), ([0, 5], false), ([], false), ([], false), ([], false)] (by decide +kernel) ?_ | refine evr tt_ok false ?_ | refine ev_skip ?_ | refine ev_ret ?_ | refine ev_exit ?_ | refine evc (fun X Y hX hY => ?_)); simp only [go_sem, reduceAdd, reduceSub, reduceMul, reduceEqDiff, reduceLeDiff, Nat.reduceBEq, reduceLT, reduceIte, reduceCtorEq, Int.reduceToNat, Option.toArray, h1, h2, h3, h4, h5, hl0, hmx, wk1, ws1, k0, kl2, kl3, k00, g0, eA, eB, lA, lB, tA, tf, ft, bne, Int.reduceBEq, beq_self_eq_true, List.length_map, Int.toNat_natCast, Int.sub_zero, List.drop_zero, Nat.le_refl, Nat.sub_zero, vrows_lit _ hlitA]; try (first | (refine ⟨fun h => hX ?_, fun h => hY ?_⟩; clear hX hY) | (refine hX ?_; clear hX hY) | (refine hY ?_; clear hX hY)))
          | refine ev_block ?_
          | (apply hK; clear hK)
          | apply_assumption -exfalso -symm only [*]
          | (refine And.intro ?_ ?_; first | omega | assumption | (unfold maxLen; omega) | (simp only [decide_eq_true_eq, decide_eq_false_iff_not, Int.not_lt, Int.not_le] at h; omega))
          | ((first | apply callP | apply callPG | apply callP0); (case' hv => (simp only [go_sem, reduceAdd, reduceSub, reduceMul, reduceEqDiff, reduceLeDiff, Nat.reduceBEq, reduceLT, reduceIte, reduceCtorEq, Int.reduceToNat, Option.toArray, h1, h2, h3, h4, h5, hl0, hmx, wk1, ws1, k0, kl2, kl3, k00, g0, eA, eB, lA, lB, tA, tf, ft, bne, Int.reduceBEq, beq_self_eq_true, List.length_map, Int.toNat_natCast, Int.sub_zero, List.drop_zero, Nat.le_refl, Nat.sub_zero, vrows_lit _ hlitA]; try exact rfl)); (case' hp => (first | refine' aw | (refine' (fun hg => ?_); refine' aw) | refine' vp | (refine' (fun hg => ?_); refine' vp) | refine' vs | (refine' (fun hg => ?_); refine' vs) | refine' vv | (refine' (fun hg => ?_); refine' vv) | refine' fp | (refine' (fun hg => ?_); refine' fp) | refine' t1 | (refine' (fun hg => ?_); refine' t1) | refine' vm | (refine' (fun hg => ?_); refine' vm))); (case' h => ((first | refine evOps_fin ?_ | refine And.intro ?_ (evD_fin ?_) | refine evD_fin ?_) <;> simp only [go_sem, reduceAdd, reduceSub, reduceMul, reduceEqDiff, reduceLeDiff, Nat.reduceBEq, reduceLT, reduceIte, reduceCtorEq, Int.reduceToNat, Option.toArray, h1, h2, h3, h4, h5, hl0, hmx, wk1, ws1, k0, kl2, kl3, k00, g0, eA, eB, lA, lB, tA, tf, ft, bne, Int.reduceBEq, beq_self_eq_true, List.length_map, Int.toNat_natCast, Int.sub_zero, List.drop_zero, Nat.le_refl, Nat.sub_zero, vrows_lit _ hlitA])))
          | ((first | apply callL | apply callLG | apply callL0); (case' hv => (simp only [go_sem, reduceAdd, reduceSub, reduceMul, reduceEqDiff, reduceLeDiff, Nat.reduceBEq, reduceLT, reduceIte, reduceCtorEq, Int.reduceToNat, Option.toArray, h1, h2, h3, h4, h5, hl0, hmx, wk1, ws1, k0, kl2, kl3, k00, g0, eA, eB, lA, lB, tA, tf, ft, bne, Int.reduceBEq, beq_self_eq_true, List.length_map, Int.toNat_natCast, Int.sub_zero, List.drop_zero, Nat.le_refl, Nat.sub_zero, vrows_lit _ hlitA]; try exact rfl)); (case' hp => (first | refine' c1 | (refine' (fun hg => ?_); refine' c1) | refine' c5 | (refine' (fun hg => ?_); refine' c5) | refine' c2 | (refine' (fun hg => ?_); refine' c2) | refine' c3 | (refine' (fun hg => ?_); refine' c3) | refine' c4 | (refine' (fun hg => ?_); refine' c4))); (case' hf => exact rfl); (case' h => ((first | refine evOps_fin ?_ | refine And.intro ?_ (evD_fin ?_) | refine evD_fin ?_) <;> simp only [go_sem, reduceAdd, reduceSub, reduceMul, reduceEqDiff, reduceLeDiff, Nat.reduceBEq, reduceLT, reduceIte, reduceCtorEq, Int.reduceToNat, Option.toArray, h1, h2, h3, h4, h5, hl0, hmx, wk1, ws1, k0, kl2, kl3, k00, g0, eA, eB, lA, lB, tA, tf, ft, bne, Int.reduceBEq, beq_self_eq_true, List.length_map, Int.toNat_natCast, Int.sub_zero, List.drop_zero, Nat.le_refl, Nat.sub_zero, vrows_lit _ hlitA])))
          | (refine callX ?_; (first | refine evOps_fin ?_ | refine And.intro ?_ (evD_fin ?_) | refine evD_fin ?_) <;> simp only [go_sem, reduceAdd, reduceSub, reduceMul, reduceEqDiff, reduceLeDiff, Nat.reduceBEq, reduceLT, reduceIte, reduceCtorEq, Int.reduceToNat, Option.toArray, h1, h2, h3, h4, h5, hl0, hmx, wk1, ws1, k0, kl2, kl3, k00, g0, eA, eB, lA, lB, tA, tf, ft, bne, Int.reduceBEq, beq_self_eq_true, List.length_map, Int.toNat_natCast, Int.sub_zero, List.drop_zero, Nat.le_refl, Nat.sub_zero, vrows_lit _ hlitA])
    · have hcv2 : (cv == 0) = false := by rw [beq_eq_false_iff_ne]; exact hcv
      rcases hT with ⟨_, b1, b2⟩ | ⟨b2, b1⟩
      · by_cases hcb : c.b = F.b
        · have b3 := b2.2 hcb
          rw [b3] at c5
          clear hacc b2 h
          rcases hsc2 with ⟨e1, e2⟩ | ⟨e1, e2⟩
          all_goals
            simp only [encP, encClm, encMa, encM, enC, encPo, encNu, e1, e2, b1, hcb, List.map_append] at *
            (refine pure_of_ev tt_ok Try.func3 rfl (by decide +kernel) (Nat.le_of_ble_eq_true rfl) ?_; simp only [Try.f3])
            repeat' first
              | refine ev_seq (fun K hK => ?_)
              | ((first | refine evrd (id := 15) hmix tt_ok false [([], false), ([], false), ([], false), ([], false), ([], false), ([], true), ([], false), ([5], false), ([5], false), ([5], false), ([5], false), ([5], false), ([], false), ([], false)] (by decide +kernel) ?_ | refine evrd (id := 21) hmix tt_ok false [([], true), ([0], false), ([0], false), ([0], false), ([0], false), ([], true), ([0, 5], false), ([0, 5], false), ([0, 5], false), ([0, 5], false), ([0, 5], false), ([], false), ([], false), ([], false)] (by decide +kernel) ?_ | refine evr tt_ok false ?_ | refine ev_skip ?_ | refine ev_ret ?_ | refine ev_exit ?_ | refine evc (fun X Y hX hY => ?_)); simp only [go_sem, reduceAdd, reduceSub, reduceMul, reduceEqDiff, reduceLeDiff, Nat.reduceBEq, reduceLT, reduceIte, reduceCtorEq, Int.reduceToNat, Option.toArray, hcv2, h1, h2, h3, h4, h5, hl0, hmx, wk1, ws1, k0, kl2, kl3, k00, g0, eA, eB, lA, lB, tA, tf, ft, bne, Int.reduceBEq, beq_self_eq_true, List.length_map, Int.toNat_natCast, Int.sub_zero, List.drop_zero, Nat.le_refl, Nat.sub_zero, vrows_lit _ hlitA]; try (first | (refine ⟨fun h => hX ?_, fun h => hY ?_⟩; clear hX hY) | (refine hX ?_; clear hX hY) | (refine hY ?_; clear hX hY)))
              | refine ev_block ?_
              | (apply hK; clear hK)
              | apply_assumption -exfalso -symm only [*]
              | (refine And.intro ?_ ?_; first | omega | assumption | (unfold maxLen; omega) | (simp only [decide_eq_true_eq, decide_eq_false_iff_not, Int.not_lt, Int.not_le] at h; omega))
              | ((first | apply callP | apply callPG | apply callP0); (case' hv => (simp only [go_sem, reduceAdd, reduceSub, reduceMul, reduceEqDiff, reduceLeDiff, Nat.reduceBEq, reduceLT, reduceIte, reduceCtorEq, Int.reduceToNat, Option.toArray, hcv2, h1, h2, h3, h4, h5, hl0, hmx, wk1, ws1, k0, kl2, kl3, k00, g0, eA, eB, lA, lB, tA, tf, ft, bne, Int.reduceBEq, beq_self_eq_true, List.length_map, Int.toNat_natCast, Int.sub_zero, List.drop_zero, Nat.le_refl, Nat.sub_zero, vrows_lit _ hlitA]; try exact rfl)); (case' hp => (first | refine' aw | (refine' (fun hg => ?_); refine' aw) | refine' vp | (refine' (fun hg => ?_); refine' vp) | refine' vs | (refine' (fun hg => ?_); refine' vs) | refine' vv | (refine' (fun hg => ?_); refine' vv) | refine' fp | (refine' (fun hg => ?_); refine' fp) | refine' t1 | (refine' (fun hg => ?_); refine' t1) | refine' vm | (refine' (fun hg => ?_); refine' vm))); (case' h => ((first | refine evOps_fin ?_ | refine And.intro ?_ (evD_fin ?_) | refine evD_fin ?_) <;> simp only [go_sem, reduceAdd, reduceSub, reduceMul, reduceEqDiff, reduceLeDiff, Nat.reduceBEq, reduceLT, reduceIte, reduceCtorEq, Int.reduceToNat, Option.toArray, hcv2, h1, h2, h3, h4, h5, hl0, hmx, wk1, ws1, k0, kl2, kl3, k00, g0, eA, eB, lA, lB, tA, tf, ft, bne, Int.reduceBEq, beq_self_eq_true, List.length_map, Int.toNat_natCast, Int.sub_zero, List.drop_zero, Nat.le_refl, Nat.sub_zero, vrows_lit _ hlitA])))
              | ((first | apply callL | apply callLG | apply callL0); (case' hv => (simp only [go_sem, reduceAdd, reduceSub, reduceMul, reduceEqDiff, reduceLeDiff, Nat.reduceBEq, reduceLT, reduceIte, reduceCtorEq, Int.reduceToNat, Option.toArray, hcv2, h1, h2, h3, h4, h5, hl0, hmx, wk1, ws1, k0, kl2, kl3, k00, g0, eA, eB, lA, lB, tA, tf, ft, bne, Int.reduceBEq, beq_self_eq_true, List.length_map, Int.toNat_natCast, Int.sub_zero, List.drop_zero, Nat.le_refl, Nat.sub_zero, vrows_lit _ hlitA]; try exact rfl)); (case' hp => (first | refine' c1 | (refine' (fun hg => ?_); refine' c1) | refine' c5 | (refine' (fun hg => ?_); refine' c5) | refine' c2 | (refine' (fun hg => ?_); refine' c2) | refine' c3 | (refine' (fun hg => ?_); refine' c3) | refine' c4 | (refine' (fun hg => ?_); refine' c4))); (case' hf => exact rfl); (case' h => ((first | refine evOps_fin ?_ | refine And.intro ?_ (evD_fin ?_) | refine evD_fin ?_) <;> simp only [go_sem, reduceAdd, reduceSub, reduceMul, reduceEqDiff, reduceLeDiff, Nat.reduceBEq, reduceLT, reduceIte, reduceCtorEq, Int.reduceToNat, Option.toArray, hcv2, h1, h2, h3, h4, h5, hl0, hmx, wk1, ws1, k0, kl2, kl3, k00, g0, eA, eB, lA, lB, tA, tf, ft, bne, Int.reduceBEq, beq_self_eq_true, List.length_map, Int.toNat_natCast, Int.sub_zero, List.drop_zero, Nat.le_refl, Nat.sub_zero, vrows_lit _ hlitA])))
              | (refine callX ?_; (first | refine evOps_fin ?_ | refine And.intro ?_ (evD_fin ?_) | refine evD_fin ?_) <;> simp only [go_sem, reduceAdd, reduceSub, reduceMul, reduceEqDiff, reduceLeDiff, Nat.reduceBEq, reduceLT, reduceIte, reduceCtorEq, Int.reduceToNat, Option.toArray, hcv2, h1, h2, h3, h4, h5, hl0, hmx, wk1, ws1, k0, kl2, kl3, k00, g0, eA, eB, lA, lB, tA, tf, ft, bne, Int.reduceBEq, beq_self_eq_true, List.length_map, Int.toNat_natCast, Int.sub_zero, List.drop_zero, Nat.le_refl, Nat.sub_zero, vrows_lit _ hlitA])
        · have b3 : (tv == 0) = false := by rw [beq_eq_false_iff_ne]; exact fun e => hcb (b2.1 e)
          have n1 := cnd_ne hcb
          have n2 := cnd_ne2 hcb
          clear hacc b2 h
          rcases hsc2 with ⟨e1, e2⟩ | ⟨e1, e2⟩
          all_goals
            simp only [encP, encClm, encMa, encM, enC, encPo, encNu, e1, e2, b1, List.map_append] at *
            (refine pure_of_ev tt_ok Try.func3 rfl (by decide +kernel) (Nat.le_of_ble_eq_true rfl) ?_; simp only [Try.f3])
            repeat' first
              | refine ev_seq (fun K hK => ?_)
              | ((first | refine evrd (id := 15) hmix tt_ok false [([], false), ([], false), ([], false), ([], false), ([], false), ([], true), ([], false), ([5], false), ([5], false), ([5], false), ([5], false), ([5], false), ([], false), ([], false)] (by decide +kernel) ?_ | refine evrd (id := 21) hmix tt_ok false [([], true), ([0], false), ([0], false), ([0], false), ([0], false), ([], true), ([0, 5], false), ([0, 5], false), ([0, 5], false), ([0, 5], false), ([0, 5], false), ([], false), ([], false), ([], false)] (by decide +kernel) ?_ | refine evr tt_ok false ?_ | refine ev_skip ?_ | refine ev_ret ?_ | refine ev_exit ?_ | refine evc (fun X Y hX hY => ?_)); simp only [go_sem, reduceAdd, reduceSub, reduceMul, reduceEqDiff, reduceLeDiff, Nat.reduceBEq, reduceLT, reduceIte, reduceCtorEq, Int.reduceToNat, Option.toArray, hcv2, b3, n1, n2, h1, h2, h3, h4, h5, hl0, hmx, wk1, ws1, k0, kl2, kl3, k00, g0, eA, eB, lA, lB, tA, tf, ft, bne, Int.reduceBEq, beq_self_eq_true, List.length_map, Int.toNat_natCast, Int.sub_zero, List.drop_zero, Nat.le_refl, Nat.sub_zero, vrows_lit _ hlitA]; try (first | (refine ⟨fun h => hX ?_, fun h => hY ?_⟩; clear hX hY) | (refine hX ?_; clear hX hY) | (refine hY ?_; clear hX hY)))
              | refine ev_block ?_
              | (apply hK; clear hK)
              | apply_assumption -exfalso -symm only [*]
              | (refine And.intro ?_ ?_; first | omega | assumption | (unfold maxLen; omega) | (simp only [decide_eq_true_eq, decide_eq_false_iff_not, Int.not_lt, Int.not_le] at h; omega))
              | ((first | apply callP | apply callPG | apply callP0); (case' hv => (simp only [go_sem, reduceAdd, reduceSub, reduceMul, reduceEqDiff, reduceLeDiff, Nat.reduceBEq, reduceLT, reduceIte, reduceCtorEq, Int.reduceToNat, Option.toArray, hcv2, b3, n1, n2, h1, h2, h3, h4, h5, hl0, hmx, wk1, ws1, k0, kl2, kl3, k00, g0, eA, eB, lA, lB, tA, tf, ft, bne, Int.reduceBEq, beq_self_eq_true, List.length_map, Int.toNat_natCast, Int.sub_zero, List.drop_zero, Nat.le_refl, Nat.sub_zero, vrows_lit _ hlitA]; try exact rfl)); (case' hp => (first | refine' aw | (refine' (fun hg => ?_); refine' aw) | refine' vp | (refine' (fun hg => ?_); refine' vp) | refine' vs | (refine' (fun hg => ?_); refine' vs) | refine' vv | (refine' (fun hg => ?_); refine' vv) | refine' fp | (refine' (fun hg => ?_); refine' fp) | refine' t1 | (refine' (fun hg => ?_); refine' t1) | refine' vm | (refine' (fun hg => ?_); refine' vm))); (case' h => ((first | refine evOps_fin ?_ | refine And.intro ?_ (evD_fin ?_) | refine evD_fin ?_) <;> simp only [go_sem, reduceAdd, reduceSub, reduceMul, reduceEqDiff, reduceLeDiff, Nat.reduceBEq, reduceLT, reduceIte, reduceCtorEq, Int.reduceToNat, Option.toArray, hcv2, b3, n1, n2, h1, h2, h3, h4, h5, hl0, hmx, wk1, ws1, k0, kl2, kl3, k00, g0, eA, eB, lA, lB, tA, tf, ft, bne, Int.reduceBEq, beq_self_eq_true, List.length_map, Int.toNat_natCast, Int.sub_zero, List.drop_zero, Nat.le_refl, Nat.sub_zero, vrows_lit _ hlitA])))
              | ((first | apply callL | apply callLG | apply callL0); (case' hv => (simp only [go_sem, reduceAdd, reduceSub, reduceMul, reduceEqDiff, reduceLeDiff, Nat.reduceBEq, reduceLT, reduceIte, reduceCtorEq, Int.reduceToNat, Option.toArray, hcv2, b3, n1, n2, h1, h2, h3, h4, h5, hl0, hmx, wk1, ws1, k0, kl2, kl3, k00, g0, eA, eB, lA, lB, tA, tf, ft, bne, Int.reduceBEq, beq_self_eq_true, List.length_map, Int.toNat_natCast, Int.sub_zero, List.drop_zero, Nat.le_refl, Nat.sub_zero, vrows_lit _ hlitA]; try exact rfl)); (case' hp => (first | refine' c1 | (refine' (fun hg => ?_); refine' c1) | refine' c5 | (refine' (fun hg => ?_); refine' c5) | refine' c2 | (refine' (fun hg => ?_); refine' c2) | refine' c3 | (refine' (fun hg => ?_); refine' c3) | refine' c4 | (refine' (fun hg => ?_); refine' c4))); (case' hf => exact rfl); (case' h => ((first | refine evOps_fin ?_ | refine And.intro ?_ (evD_fin ?_) | refine evD_fin ?_) <;> simp only [go_sem, reduceAdd, reduceSub, reduceMul, reduceEqDiff, reduceLeDiff, Nat.reduceBEq, reduceLT, reduceIte, reduceCtorEq, Int.reduceToNat, Option.toArray, hcv2, b3, n1, n2, h1, h2, h3, h4, h5, hl0, hmx, wk1, ws1, k0, kl2, kl3, k00, g0, eA, eB, lA, lB, tA, tf, ft, bne, Int.reduceBEq, beq_self_eq_true, List.length_map, Int.toNat_natCast, Int.sub_zero, List.drop_zero, Nat.le_refl, Nat.sub_zero, vrows_lit _ hlitA])))
              | (refine callX ?_; (first | refine evOps_fin ?_ | refine And.intro ?_ (evD_fin ?_) | refine evD_fin ?_) <;> simp only [go_sem, reduceAdd, reduceSub, reduceMul, reduceEqDiff, reduceLeDiff, Nat.reduceBEq, reduceLT, reduceIte, reduceCtorEq, Int.reduceToNat, Option.toArray, hcv2, b3, n1, n2, h1, h2, h3, h4, h5, hl0, hmx, wk1, ws1, k0, kl2, kl3, k00, g0, eA, eB, lA, lB, tA, tf, ft, bne, Int.reduceBEq, beq_self_eq_true, List.length_map, Int.toNat_natCast, Int.sub_zero, List.drop_zero, Nat.le_refl, Nat.sub_zero, vrows_lit _ hlitA])
      · have n1 := cnd_ne b2
        have n2 := cnd_ne2 b2
        clear hacc h
        rcases hsc2 with ⟨e1, e2⟩ | ⟨e1, e2⟩
        all_goals
          simp only [encP, encClm, encMa, encM, enC, encPo, encNu, e1, e2, b1, List.map_append] at *
          (refine pure_of_ev tt_ok Try.func3 rfl (by decide +kernel) (Nat.le_of_ble_eq_true rfl) ?_; simp only [Try.f3])
          repeat' first
            | refine ev_seq (fun K hK => ?_)
            | ((first | refine evrd (id := 15) hmix tt_ok false [([], false), ([], false), ([], false), ([], false), ([], false), ([], true), ([], false), ([5], false), ([5], false), ([5], false), ([5], false), ([5], false), ([], false), ([], false)] (by decide +kernel) ?_ | refine evrd (id := 21) hmix tt_ok false [([], true), ([0], false), ([0], false), ([0], false), ([0], false), ([], true), ([0, 5], false), ([0, 5], false), ([0, 5], false), ([0, 5], false), ([0, 5], false), ([], false), ([], false), ([], false)] (by decide +kernel) ?_ | refine evr tt_ok false ?_ | refine ev_skip ?_ | refine ev_ret ?_ | refine ev_exit ?_ | refine evc (fun X Y hX hY => ?_)); simp only [go_sem, reduceAdd, reduceSub, reduceMul, reduceEqDiff, reduceLeDiff, Nat.reduceBEq, reduceLT, reduceIte, reduceCtorEq, Int.reduceToNat, Option.toArray, hcv2, n1, n2, h1, h2, h3, h4, h5, hl0, hmx, wk1, ws1, k0, kl2, kl3, k00, g0, eA, eB, lA, lB, tA, tf, ft, bne, Int.reduceBEq, beq_self_eq_true, List.length_map, Int.toNat_natCast, Int.sub_zero, List.drop_zero, Nat.le_refl, Nat.sub_zero, vrows_lit _ hlitA]; try (first | (refine ⟨fun h => hX ?_, fun h => hY ?_⟩; clear hX hY) | (refine hX ?_; clear hX hY) | (refine hY ?_; clear hX hY)))
            | refine ev_block ?_
            | (apply hK; clear hK)
            | apply_assumption -exfalso -symm only [*]
            | (refine And.intro ?_ ?_; first | omega | assumption | (unfold maxLen; omega) | (simp only [decide_eq_true_eq, decide_eq_false_iff_not, Int.not_lt, Int.not_le] at h; omega))
            | ((first | apply callP | apply callPG | apply callP0); (case' hv => (simp only [go_sem, reduceAdd, reduceSub, reduceMul, reduceEqDiff, reduceLeDiff, Nat.reduceBEq, reduceLT, reduceIte, reduceCtorEq, Int.reduceToNat, Option.toArray, hcv2, n1, n2, h1, h2, h3, h4, h5, hl0, hmx, wk1, ws1, k0, kl2, kl3, k00, g0, eA, eB, lA, lB, tA, tf, ft, bne, Int.reduceBEq, beq_self_eq_true, List.length_map, Int.toNat_natCast, Int.sub_zero, List.drop_zero, Nat.le_refl, Nat.sub_zero, vrows_lit _ hlitA]; try exact rfl)); (case' hp => (first | refine' aw | (refine' (fun hg => ?_); refine' aw) | refine' vp | (refine' (fun hg => ?_); refine' vp) | refine' vs | (refine' (fun hg => ?_); refine' vs) | refine' vv | (refine' (fun hg => ?_); refine' vv) | refine' fp | (refine' (fun hg => ?_); refine' fp) | refine' t1 | (refine' (fun hg => ?_); refine' t1) | refine' vm | (refine' (fun hg => ?_); refine' vm))); (case' h => ((first | refine evOps_fin ?_ | refine And.intro ?_ (evD_fin ?_) | refine evD_fin ?_) <;> simp only [go_sem, reduceAdd, reduceSub, reduceMul, reduceEqDiff, reduceLeDiff, Nat.reduceBEq, reduceLT, reduceIte, reduceCtorEq, Int.reduceToNat, Option.toArray, hcv2, n1, n2, h1, h2, h3, h4, h5, hl0, hmx, wk1, ws1, k0, kl2, kl3, k00, g0, eA, eB, lA, lB, tA, tf, ft, bne, Int.reduceBEq, beq_self_eq_true, List.length_map, Int.toNat_natCast, Int.sub_zero, List.drop_zero, Nat.le_refl, Nat.sub_zero, vrows_lit _ hlitA])))
            | ((first | apply callL | apply callLG | apply callL0); (case' hv => (simp only [go_sem, reduceAdd, reduceSub, reduceMul, reduceEqDiff, reduceLeDiff, Nat.reduceBEq, reduceLT, reduceIte, reduceCtorEq, Int.reduceToNat, Option.toArray, hcv2, n1, n2, h1, h2, h3, h4, h5, hl0, hmx, wk1, ws1, k0, kl2, kl3, k00, g0, eA, eB, lA, lB, tA, tf, ft, bne, Int.reduceBEq, beq_self_eq_true, List.length_map, Int.toNat_natCast, Int.sub_zero, List.drop_zero, Nat.le_refl, Nat.sub_zero, vrows_lit _ hlitA]; try exact rfl)); (case' hp => (first | refine' c1 | (refine' (fun hg => ?_); refine' c1) | refine' c5 | (refine' (fun hg => ?_); refine' c5) | refine' c2 | (refine' (fun hg => ?_); refine' c2) | refine' c3 | (refine' (fun hg => ?_); refine' c3) | refine' c4 | (refine' (fun hg => ?_); refine' c4))); (case' hf => exact rfl); (case' h => ((first | refine evOps_fin ?_ | refine And.intro ?_ (evD_fin ?_) | refine evD_fin ?_) <;> simp only [go_sem, reduceAdd, reduceSub, reduceMul, reduceEqDiff, reduceLeDiff, Nat.reduceBEq, reduceLT, reduceIte, reduceCtorEq, Int.reduceToNat, Option.toArray, hcv2, n1, n2, h1, h2, h3, h4, h5, hl0, hmx, wk1, ws1, k0, kl2, kl3, k00, g0, eA, eB, lA, lB, tA, tf, ft, bne, Int.reduceBEq, beq_self_eq_true, List.length_map, Int.toNat_natCast, Int.sub_zero, List.drop_zero, Nat.le_refl, Nat.sub_zero, vrows_lit _ hlitA])))
            | (refine callX ?_; (first | refine evOps_fin ?_ | refine And.intro ?_ (evD_fin ?_) | refine evD_fin ?_) <;> simp only [go_sem, reduceAdd, reduceSub, reduceMul, reduceEqDiff, reduceLeDiff, Nat.reduceBEq, reduceLT, reduceIte, reduceCtorEq, Int.reduceToNat, Option.toArray, hcv2, n1, n2, h1, h2, h3, h4, h5, hl0, hmx, wk1, ws1, k0, kl2, kl3, k00, g0, eA, eB, lA, lB, tA, tf, ft, bne, Int.reduceBEq, beq_self_eq_true, List.length_map, Int.toNat_natCast, Int.sub_zero, List.drop_zero, Nat.le_refl, Nat.sub_zero, vrows_lit _ hlitA])
  · rw [decide_eq_false h] at vv
    have e : checkM p ⟨c.b, (poseM p c.b).x, (poseM p c.b).y, (poseM p c.b).h, sc, c.l⟩ = 1 := if_neg h
    rw [e] at c1
    generalize poseM p c.b = Q at *
    rcases hsc2 with ⟨e1, e2⟩ | ⟨e1, e2⟩
    all_goals
      simp only [encP, encClm, encM, enC, encPo, encNu, e1, e2] at *
      (refine pure_of_ev tt_ok Try.func3 rfl (by decide +kernel) (Nat.le_of_ble_eq_true rfl) ?_; simp only [Try.f3])
      repeat' first
        | refine ev_seq (fun K hK => ?_)
        | ((first | refine evrd (id := 15) hmix tt_ok false [([], false), ([], false), ([], false), ([], false), ([], false), ([], true), ([], false), ([5], false), ([5], false), ([5], false), ([5], false), ([5], false), ([], false), ([], false)] (by decide +kernel) ?_ | refine evrd (id := 21) hmix tt_ok false [([], true), ([0], false), ([0], false), ([0], false), ([0], false), ([], true), ([0, 5], false), ([0, 5], false), ([0, 5], false), ([0, 5], false), ([0, 5], false), ([], false), ([], false), ([], false)] (by decide +kernel) ?_ | refine evr tt_ok false ?_ | refine ev_skip ?_ | refine ev_ret ?_ | refine ev_exit ?_ | refine evc (fun X Y hX hY => ?_)); simp only [go_sem, reduceAdd, reduceSub, reduceMul, reduceEqDiff, reduceLeDiff, Nat.reduceBEq, reduceLT, reduceIte, reduceCtorEq, Int.reduceToNat, h1, h2, h3, Int.reduceBEq, List.length_map]; try (first | (refine ⟨fun h => hX ?_, fun h => hY ?_⟩; clear hX hY) | (refine hX ?_; clear hX hY) | (refine hY ?_; clear hX hY)))
        | refine ev_block ?_
        | (apply hK; clear hK)
        | apply_assumption -exfalso -symm only [*]
        | (refine And.intro ?_ ?_; first | omega | assumption | (unfold maxLen; omega) | (simp only [decide_eq_true_eq, decide_eq_false_iff_not, Int.not_lt, Int.not_le] at h; omega))
        | ((first | apply callP | apply callPG | apply callP0); (case' hv => (simp only [go_sem, reduceAdd, reduceSub, reduceMul, reduceEqDiff, reduceLeDiff, Nat.reduceBEq, reduceLT, reduceIte, reduceCtorEq, Int.reduceToNat, h1, h2, h3, Int.reduceBEq, List.length_map]; try exact rfl)); (case' hp => (first | refine' aw | (refine' (fun hg => ?_); refine' aw) | refine' vp | (refine' (fun hg => ?_); refine' vp) | refine' vs | (refine' (fun hg => ?_); refine' vs) | refine' vv | (refine' (fun hg => ?_); refine' vv) | refine' vv | (refine' (fun hg => ?_); refine' vv))); (case' h => ((first | refine evOps_fin ?_ | refine And.intro ?_ (evD_fin ?_) | refine evD_fin ?_) <;> simp only [go_sem, reduceAdd, reduceSub, reduceMul, reduceEqDiff, reduceLeDiff, Nat.reduceBEq, reduceLT, reduceIte, reduceCtorEq, Int.reduceToNat, h1, h2, h3, Int.reduceBEq, List.length_map])))
        | ((first | apply callL | apply callLG | apply callL0); (case' hv => (simp only [go_sem, reduceAdd, reduceSub, reduceMul, reduceEqDiff, reduceLeDiff, Nat.reduceBEq, reduceLT, reduceIte, reduceCtorEq, Int.reduceToNat, h1, h2, h3, Int.reduceBEq, List.length_map]; try exact rfl)); (case' hp => (first | refine' c1 | (refine' (fun hg => ?_); refine' c1))); (case' hf => exact rfl); (case' h => ((first | refine evOps_fin ?_ | refine And.intro ?_ (evD_fin ?_) | refine evD_fin ?_) <;> simp only [go_sem, reduceAdd, reduceSub, reduceMul, reduceEqDiff, reduceLeDiff, Nat.reduceBEq, reduceLT, reduceIte, reduceCtorEq, Int.reduceToNat, h1, h2, h3, Int.reduceBEq, List.length_map])))
        | (refine callX ?_; (first | refine evOps_fin ?_ | refine And.intro ?_ (evD_fin ?_) | refine evD_fin ?_) <;> simp only [go_sem, reduceAdd, reduceSub, reduceMul, reduceEqDiff, reduceLeDiff, Nat.reduceBEq, reduceLT, reduceIte, reduceCtorEq, Int.reduceToNat, h1, h2, h3, Int.reduceBEq, List.length_map])
end Go.Proofs.Ytokhaefcnbiadaa
