import Derived.Test.YtbpchamlhblddaaPI
set_option linter.all false
namespace Go.Proofs.Ytbpchamlhblddaa
open Nat (reduceAdd reduceSub reduceMul reduceEqDiff reduceLeDiff reduceLT)
open Go Go.K
set_option maxRecDepth 20000
set_option maxHeartbeats 8000000
def encRc (r : Rc) : List V := [.int .i64 r.x0, .int .i64 r.y0, .int .i64 r.x1, .int .i64 r.y1]
def fld18 : Fld := ⟨2, 1, 3, 2, [1, 0, 7, 4, 7, 0]⟩
theorem awake18_pure : Pure Try.prog 11 [] (.bool true) := by
  have hok : fld18.ok := by decide
  have hb : bytesL fld18.v := by
    intro b hb
    simp [fld18] at hb
    omega
  have np : Pure Try.prog 13 [.agg [.int .i64 2, .int .i64 1, .int .i64 3, .int .i64 2, .sl [[.int .u8 1], [.int .u8 0], [.int .u8 7], [.int .u8 4], [.int .u8 7], [.int .u8 0]]]] (.tup [.pi (pyrV fld18) 0, .int .i64 0]) := new_pure fld18 hok hb
  have pk := ppeak_pure fld18 hok hb (pkF_spec hb 6).1
  have e1 : pkF fld18.v 6 = (2, 7) := by decide +kernel
  rw [e1] at pk
  have e2 : pkX fld18 2 7 = 4 := by decide +kernel
  have e3 : pkY fld18 2 7 = 1 := by decide +kernel
  simp only [e2, e3] at pk
  have pm := pmax_pure fld18 hok hb 1 1 1 (by unfold inI; omega) (by unfold inI; omega)
  have e4 : maxM fld18 1 1 1 = 4 := by decide +kernel
  rw [e4] at pm
  have ps := psum_pure fld18 hok hb ⟨2, 1, 3, 2⟩
  have e5 : sumM fld18 ⟨2, 1, 3, 2⟩ = 12 := by decide +kernel
  rw [e5] at ps
  simp only at ps
  generalize pyrV fld18 = C at *
  (refine pure_of_ev tt_ok Try.func11 rfl (by decide +kernel) (Nat.le_of_ble_eq_true rfl) ?_; simp only [Try.f11])
  repeat' first
    | refine ev_seq (fun K hK => ?_)
    | ((first | refine evr tt_ok false ?_ | refine ev_skip ?_ | refine ev_ret ?_ | refine ev_exit ?_ | refine evc (fun X Y hX hY => ?_)); simp only [go_sem, reduceAdd, reduceSub, reduceMul, reduceEqDiff, reduceLeDiff, Nat.reduceBEq, reduceLT, reduceIte, reduceCtorEq, Int.reduceToNat, Int.reduceBEq, bne_self_eq_false]; try (first | (refine ⟨fun h => hX ?_, fun h => hY ?_⟩; clear hX hY) | (refine hX ?_; clear hX hY) | (refine hY ?_; clear hX hY)))
    | refine ev_block ?_
    | (apply hK; clear hK)
    | apply_assumption -exfalso -symm only [*]
    | (refine And.intro ?_ ?_; first | omega | assumption | (unfold maxLen; omega) | (simp only [decide_eq_true_eq, decide_eq_false_iff_not, Int.not_lt, Int.not_le] at h; omega))
    | ((first | apply callE | apply callEG | apply callE0); (case' hp => (first | ((first | refine' run_fz (id := 0) ?_ ?_ ?_ np | (refine' (fun hg => ?_); refine' run_fz (id := 0) ?_ ?_ ?_ np)); all_goals first | (fail_if_success refine prop_id ?_; skip) | omega | assumption | (simp only [go_sem, reduceAdd, reduceSub, reduceMul, reduceEqDiff, reduceLeDiff, Nat.reduceBEq, reduceLT, reduceIte, reduceCtorEq, Int.reduceToNat, Int.reduceBEq, bne_self_eq_false]; first | done | exact rfl | omega) | (refine' Eq.trans ?_ ?_; (focus (simp only [go_sem, reduceAdd, reduceSub, reduceMul, reduceEqDiff, reduceLeDiff, Nat.reduceBEq, reduceLT, reduceIte, reduceCtorEq, Int.reduceToNat, Int.reduceBEq, bne_self_eq_false]; exact rfl)); exact rfl)))); (case' h => ((first | refine evOps_fin ?_ | refine And.intro ?_ (evD_fin ?_) | refine evD_fin ?_) <;> simp only [go_sem, reduceAdd, reduceSub, reduceMul, reduceEqDiff, reduceLeDiff, Nat.reduceBEq, reduceLT, reduceIte, reduceCtorEq, Int.reduceToNat, Int.reduceBEq, bne_self_eq_false])))
    | ((first | apply callP | apply callPG | apply callP0); (case' hv => (simp only [go_sem, reduceAdd, reduceSub, reduceMul, reduceEqDiff, reduceLeDiff, Nat.reduceBEq, reduceLT, reduceIte, reduceCtorEq, Int.reduceToNat, Int.reduceBEq, bne_self_eq_false]; try exact rfl)); (case' hp => (first | refine' pk | (refine' (fun hg => ?_); refine' pk) | refine' pm | (refine' (fun hg => ?_); refine' pm) | refine' ps | (refine' (fun hg => ?_); refine' ps))); (case' h => ((first | refine evOps_fin ?_ | refine And.intro ?_ (evD_fin ?_) | refine evD_fin ?_) <;> simp only [go_sem, reduceAdd, reduceSub, reduceMul, reduceEqDiff, reduceLeDiff, Nat.reduceBEq, reduceLT, reduceIte, reduceCtorEq, Int.reduceToNat, Int.reduceBEq, bne_self_eq_false])))
    | (refine callX ?_; (first | refine evOps_fin ?_ | refine And.intro ?_ (evD_fin ?_) | refine evD_fin ?_) <;> simp only [go_sem, reduceAdd, reduceSub, reduceMul, reduceEqDiff, reduceLeDiff, Nat.reduceBEq, reduceLT, reduceIte, reduceCtorEq, Int.reduceToNat, Int.reduceBEq, bne_self_eq_false])
theorem few18_pure (f : Fld) : Pure Try.prog 12 [.agg [.int .i64 f.x, .int .i64 f.y, .int .i64 f.w, .int .i64 f.h, .sl (f.v.map enB)]] (.bool (decide ((f.v.length : Int) ≤ 4096))) := by
  (refine pure_of_ev tt_ok Try.func12 rfl (by decide +kernel) (Nat.le_of_ble_eq_true rfl) ?_; simp only [Try.f12])
  repeat' first
    | refine ev_seq (fun K hK => ?_)
    | ((first | refine evr tt_ok false ?_ | refine ev_skip ?_ | refine ev_ret ?_ | refine ev_exit ?_ | refine evc (fun X Y hX hY => ?_)); simp only [go_sem, reduceAdd, reduceSub, reduceMul, reduceEqDiff, reduceLeDiff, Nat.reduceBEq, reduceLT, reduceIte, reduceCtorEq, Int.reduceToNat, List.length_map]; try (first | (refine ⟨fun h => hX ?_, fun h => hY ?_⟩; clear hX hY) | (refine hX ?_; clear hX hY) | (refine hY ?_; clear hX hY)))
    | refine ev_block ?_
    | (apply hK; clear hK)
    | apply_assumption -exfalso -symm only [*]
    | (refine And.intro ?_ ?_; first | omega | assumption | (unfold maxLen; omega) | (simp only [decide_eq_true_eq, decide_eq_false_iff_not, Int.not_lt, Int.not_le] at h; omega))
theorem sums_pure (f : Fld) (r : Rc) (hb : bytesL f.v) : Pure Try.prog 3 [.agg (encF f), .agg (encRc r)] (.bool true) := by
  have fw := few18_pure f
  simp only [encF, encRc]
  by_cases hf : (f.v.length : Int) ≤ 4096
  · rw [decide_eq_true hf] at fw
    have rv := rvfield_pure f
    by_cases h : f.ok
    · rw [decide_eq_true h] at rv
      have np := new_pure f h hb
      have ps := psum_pure f h hb r
      have rs := rsum_pure f h hb r
      generalize pyrV f = C at *
      (refine pure_of_ev tt_ok Try.func3 rfl (by decide +kernel) (Nat.le_of_ble_eq_true rfl) ?_; simp only [Try.f3])
      repeat' first
        | refine ev_seq (fun K hK => ?_)
        | ((first | refine evrd (id := 6) hmix tt_ok false [([], false), ([], false), ([], false), ([], false), ([], false), ([], true), ([5], false), ([5], false), ([], false), ([], false), ([], false), ([], false)] (by decide +kernel) ?_ | refine evr tt_ok false ?_ | refine ev_skip ?_ | refine ev_ret ?_ | refine ev_exit ?_ | refine evc (fun X Y hX hY => ?_)); simp only [go_sem, reduceAdd, reduceSub, reduceMul, reduceEqDiff, reduceLeDiff, Nat.reduceBEq, reduceLT, reduceIte, reduceCtorEq, Int.reduceToNat, Int.reduceBEq, beq_self_eq_true]; try (first | (refine ⟨fun h => hX ?_, fun h => hY ?_⟩; clear hX hY) | (refine hX ?_; clear hX hY) | (refine hY ?_; clear hX hY)))
        | refine ev_block ?_
        | (apply hK; clear hK)
        | apply_assumption -exfalso -symm only [*]
        | (refine And.intro ?_ ?_; first | omega | assumption | (unfold maxLen; omega) | (simp only [decide_eq_true_eq, decide_eq_false_iff_not, Int.not_lt, Int.not_le] at h; omega))
        | ((first | apply callP | apply callPG | apply callP0); (case' hv => (simp only [go_sem, reduceAdd, reduceSub, reduceMul, reduceEqDiff, reduceLeDiff, Nat.reduceBEq, reduceLT, reduceIte, reduceCtorEq, Int.reduceToNat, Int.reduceBEq, beq_self_eq_true]; try exact rfl)); (case' hp => (first | refine' awake18_pure | (refine' (fun hg => ?_); refine' awake18_pure) | refine' fw | (refine' (fun hg => ?_); refine' fw) | refine' np | (refine' (fun hg => ?_); refine' np) | refine' rv | (refine' (fun hg => ?_); refine' rv) | refine' ps | (refine' (fun hg => ?_); refine' ps) | refine' rs | (refine' (fun hg => ?_); refine' rs))); (case' h => ((first | refine evOps_fin ?_ | refine And.intro ?_ (evD_fin ?_) | refine evD_fin ?_) <;> simp only [go_sem, reduceAdd, reduceSub, reduceMul, reduceEqDiff, reduceLeDiff, Nat.reduceBEq, reduceLT, reduceIte, reduceCtorEq, Int.reduceToNat, Int.reduceBEq, beq_self_eq_true])))
        | (refine callX ?_; (first | refine evOps_fin ?_ | refine And.intro ?_ (evD_fin ?_) | refine evD_fin ?_) <;> simp only [go_sem, reduceAdd, reduceSub, reduceMul, reduceEqDiff, reduceLeDiff, Nat.reduceBEq, reduceLT, reduceIte, reduceCtorEq, Int.reduceToNat, Int.reduceBEq, beq_self_eq_true])
    · rw [decide_eq_false h] at rv
      have np := new_bad f h
      (refine pure_of_ev tt_ok Try.func3 rfl (by decide +kernel) (Nat.le_of_ble_eq_true rfl) ?_; simp only [Try.f3])
      repeat' first
        | refine ev_seq (fun K hK => ?_)
        | ((first | refine evrd (id := 6) hmix tt_ok false [([], false), ([], false), ([], false), ([], false), ([], false), ([], true), ([5], false), ([5], false), ([], false), ([], false), ([], false), ([], false)] (by decide +kernel) ?_ | refine evr tt_ok false ?_ | refine ev_skip ?_ | refine ev_ret ?_ | refine ev_exit ?_ | refine evc (fun X Y hX hY => ?_)); simp only [go_sem, reduceAdd, reduceSub, reduceMul, reduceEqDiff, reduceLeDiff, Nat.reduceBEq, reduceLT, reduceIte, reduceCtorEq, Int.reduceToNat, Int.reduceBEq, beq_self_eq_true]; try (first | (refine ⟨fun h => hX ?_, fun h => hY ?_⟩; clear hX hY) | (refine hX ?_; clear hX hY) | (refine hY ?_; clear hX hY)))
        | refine ev_block ?_
        | (apply hK; clear hK)
        | apply_assumption -exfalso -symm only [*]
        | (refine And.intro ?_ ?_; first | omega | assumption | (unfold maxLen; omega) | (simp only [decide_eq_true_eq, decide_eq_false_iff_not, Int.not_lt, Int.not_le] at h; omega))
        | ((first | apply callP | apply callPG | apply callP0); (case' hv => (simp only [go_sem, reduceAdd, reduceSub, reduceMul, reduceEqDiff, reduceLeDiff, Nat.reduceBEq, reduceLT, reduceIte, reduceCtorEq, Int.reduceToNat, Int.reduceBEq, beq_self_eq_true]; try exact rfl)); (case' hp => (first | refine' awake18_pure | (refine' (fun hg => ?_); refine' awake18_pure) | refine' fw | (refine' (fun hg => ?_); refine' fw) | refine' np | (refine' (fun hg => ?_); refine' np) | refine' rv | (refine' (fun hg => ?_); refine' rv) | refine' sum_nil r | (refine' (fun hg => ?_); refine' sum_nil r))); (case' h => ((first | refine evOps_fin ?_ | refine And.intro ?_ (evD_fin ?_) | refine evD_fin ?_) <;> simp only [go_sem, reduceAdd, reduceSub, reduceMul, reduceEqDiff, reduceLeDiff, Nat.reduceBEq, reduceLT, reduceIte, reduceCtorEq, Int.reduceToNat, Int.reduceBEq, beq_self_eq_true])))
        | (refine callX ?_; (first | refine evOps_fin ?_ | refine And.intro ?_ (evD_fin ?_) | refine evD_fin ?_) <;> simp only [go_sem, reduceAdd, reduceSub, reduceMul, reduceEqDiff, reduceLeDiff, Nat.reduceBEq, reduceLT, reduceIte, reduceCtorEq, Int.reduceToNat, Int.reduceBEq, beq_self_eq_true])
  · rw [decide_eq_false hf] at fw
    (refine pure_of_ev tt_ok Try.func3 rfl (by decide +kernel) (Nat.le_of_ble_eq_true rfl) ?_; simp only [Try.f3])
    repeat' first
      | refine ev_seq (fun K hK => ?_)
      | ((first | refine evrd (id := 6) hmix tt_ok false [([], false), ([], false), ([], false), ([], false), ([], false), ([], true), ([5], false), ([5], false), ([], false), ([], false), ([], false), ([], false)] (by decide +kernel) ?_ | refine evr tt_ok false ?_ | refine ev_skip ?_ | refine ev_ret ?_ | refine ev_exit ?_ | refine evc (fun X Y hX hY => ?_)); simp only [go_sem, reduceAdd, reduceSub, reduceMul, reduceEqDiff, reduceLeDiff, Nat.reduceBEq, reduceLT, reduceIte, reduceCtorEq, Int.reduceToNat]; try (first | (refine ⟨fun h => hX ?_, fun h => hY ?_⟩; clear hX hY) | (refine hX ?_; clear hX hY) | (refine hY ?_; clear hX hY)))
      | refine ev_block ?_
      | (apply hK; clear hK)
      | apply_assumption -exfalso -symm only [*]
      | (refine And.intro ?_ ?_; first | omega | assumption | (unfold maxLen; omega) | (simp only [decide_eq_true_eq, decide_eq_false_iff_not, Int.not_lt, Int.not_le] at h; omega))
      | ((first | apply callP | apply callPG | apply callP0); (case' hv => (simp only [go_sem, reduceAdd, reduceSub, reduceMul, reduceEqDiff, reduceLeDiff, Nat.reduceBEq, reduceLT, reduceIte, reduceCtorEq, Int.reduceToNat]; try exact rfl)); (case' hp => (first | refine' awake18_pure | (refine' (fun hg => ?_); refine' awake18_pure) | refine' fw | (refine' (fun hg => ?_); refine' fw))); (case' h => ((first | refine evOps_fin ?_ | refine And.intro ?_ (evD_fin ?_) | refine evD_fin ?_) <;> simp only [go_sem, reduceAdd, reduceSub, reduceMul, reduceEqDiff, reduceLeDiff, Nat.reduceBEq, reduceLT, reduceIte, reduceCtorEq, Int.reduceToNat])))
      | (refine callX ?_; (first | refine evOps_fin ?_ | refine And.intro ?_ (evD_fin ?_) | refine evD_fin ?_) <;> simp only [go_sem, reduceAdd, reduceSub, reduceMul, reduceEqDiff, reduceLeDiff, Nat.reduceBEq, reduceLT, reduceIte, reduceCtorEq, Int.reduceToNat])
theorem peaks_pure (f : Fld) (v : Int) (hb : bytesL f.v) : Pure Try.prog 9 [.agg (encF f), .int .u8 v] (.bool true) := by
  have fw := few18_pure f
  simp only [encF]
  by_cases hf : (f.v.length : Int) ≤ 4096
  · rw [decide_eq_true hf] at fw
    have rv := rvfield_pure f
    by_cases h : f.ok
    · rw [decide_eq_true h] at rv
      have np := new_pure f h hb
      have pk := ppeak_pure f h hb (pkF_spec hb f.v.length).1
      have rp := rpeak_pure f h hb
      have pa := above_pure f (by omega) v
      have ra := rabove_pure f (by omega) v
      generalize pyrV f = C at *
      generalize pkX f (pkF f.v f.v.length).1 (pkF f.v f.v.length).2 = X at *
      generalize pkY f (pkF f.v f.v.length).1 (pkF f.v f.v.length).2 = Y at *
      generalize (pkF f.v f.v.length).2 = B at *
      (refine pure_of_ev tt_ok Try.func9 rfl (by decide +kernel) (Nat.le_of_ble_eq_true rfl) ?_; simp only [Try.f9])
      repeat' first
        | refine ev_seq (fun K hK => ?_)
        | ((first | refine evrd (id := 8) hmix tt_ok false [([], false), ([], false), ([], false), ([], false), ([], false), ([], false), ([], false), ([], false), ([], false), ([], false), ([], false), ([], false), ([], false), ([], false), ([], false), ([], true), ([15], false), ([15], false), ([], false), ([], false), ([], false), ([], false)] (by decide +kernel) ?_ | refine evr tt_ok false ?_ | refine ev_skip ?_ | refine ev_ret ?_ | refine ev_exit ?_ | refine evc (fun X Y hX hY => ?_)); simp only [go_sem, reduceAdd, reduceSub, reduceMul, reduceEqDiff, reduceLeDiff, Nat.reduceBEq, reduceLT, reduceIte, reduceCtorEq, Int.reduceToNat, Int.reduceBEq, beq_self_eq_true]; try (first | (refine ⟨fun h => hX ?_, fun h => hY ?_⟩; clear hX hY) | (refine hX ?_; clear hX hY) | (refine hY ?_; clear hX hY)))
        | refine ev_block ?_
        | (apply hK; clear hK)
        | apply_assumption -exfalso -symm only [*]
        | (refine And.intro ?_ ?_; first | omega | assumption | (unfold maxLen; omega) | (simp only [decide_eq_true_eq, decide_eq_false_iff_not, Int.not_lt, Int.not_le] at h; omega))
        | ((first | apply callP | apply callPG | apply callP0); (case' hv => (simp only [go_sem, reduceAdd, reduceSub, reduceMul, reduceEqDiff, reduceLeDiff, Nat.reduceBEq, reduceLT, reduceIte, reduceCtorEq, Int.reduceToNat, Int.reduceBEq, beq_self_eq_true]; try exact rfl)); (case' hp => (first | refine' awake18_pure | (refine' (fun hg => ?_); refine' awake18_pure) | refine' fw | (refine' (fun hg => ?_); refine' fw) | refine' np | (refine' (fun hg => ?_); refine' np) | refine' pk | (refine' (fun hg => ?_); refine' pk) | refine' rv | (refine' (fun hg => ?_); refine' rv) | refine' rp | (refine' (fun hg => ?_); refine' rp) | refine' pa | (refine' (fun hg => ?_); refine' pa) | refine' ra | (refine' (fun hg => ?_); refine' ra))); (case' h => ((first | refine evOps_fin ?_ | refine And.intro ?_ (evD_fin ?_) | refine evD_fin ?_) <;> simp only [go_sem, reduceAdd, reduceSub, reduceMul, reduceEqDiff, reduceLeDiff, Nat.reduceBEq, reduceLT, reduceIte, reduceCtorEq, Int.reduceToNat, Int.reduceBEq, beq_self_eq_true])))
        | (refine callX ?_; (first | refine evOps_fin ?_ | refine And.intro ?_ (evD_fin ?_) | refine evD_fin ?_) <;> simp only [go_sem, reduceAdd, reduceSub, reduceMul, reduceEqDiff, reduceLeDiff, Nat.reduceBEq, reduceLT, reduceIte, reduceCtorEq, Int.reduceToNat, Int.reduceBEq, beq_self_eq_true])
    · rw [decide_eq_false h] at rv
      have np := new_bad f h
      (refine pure_of_ev tt_ok Try.func9 rfl (by decide +kernel) (Nat.le_of_ble_eq_true rfl) ?_; simp only [Try.f9])
      repeat' first
        | refine ev_seq (fun K hK => ?_)
        | ((first | refine evrd (id := 8) hmix tt_ok false [([], false), ([], false), ([], false), ([], false), ([], false), ([], false), ([], false), ([], false), ([], false), ([], false), ([], false), ([], false), ([], false), ([], false), ([], false), ([], true), ([15], false), ([15], false), ([], false), ([], false), ([], false), ([], false)] (by decide +kernel) ?_ | refine evr tt_ok false ?_ | refine ev_skip ?_ | refine ev_ret ?_ | refine ev_exit ?_ | refine evc (fun X Y hX hY => ?_)); simp only [go_sem, reduceAdd, reduceSub, reduceMul, reduceEqDiff, reduceLeDiff, Nat.reduceBEq, reduceLT, reduceIte, reduceCtorEq, Int.reduceToNat, Int.reduceBEq, beq_self_eq_true]; try (first | (refine ⟨fun h => hX ?_, fun h => hY ?_⟩; clear hX hY) | (refine hX ?_; clear hX hY) | (refine hY ?_; clear hX hY)))
        | refine ev_block ?_
        | (apply hK; clear hK)
        | apply_assumption -exfalso -symm only [*]
        | (refine And.intro ?_ ?_; first | omega | assumption | (unfold maxLen; omega) | (simp only [decide_eq_true_eq, decide_eq_false_iff_not, Int.not_lt, Int.not_le] at h; omega))
        | ((first | apply callP | apply callPG | apply callP0); (case' hv => (simp only [go_sem, reduceAdd, reduceSub, reduceMul, reduceEqDiff, reduceLeDiff, Nat.reduceBEq, reduceLT, reduceIte, reduceCtorEq, Int.reduceToNat, Int.reduceBEq, beq_self_eq_true]; try exact rfl)); (case' hp => (first | refine' awake18_pure | (refine' (fun hg => ?_); refine' awake18_pure) | refine' fw | (refine' (fun hg => ?_); refine' fw) | refine' np | (refine' (fun hg => ?_); refine' np) | refine' peak_nil | (refine' (fun hg => ?_); refine' peak_nil) | refine' rv | (refine' (fun hg => ?_); refine' rv) | refine' above_nil v | (refine' (fun hg => ?_); refine' above_nil v))); (case' h => ((first | refine evOps_fin ?_ | refine And.intro ?_ (evD_fin ?_) | refine evD_fin ?_) <;> simp only [go_sem, reduceAdd, reduceSub, reduceMul, reduceEqDiff, reduceLeDiff, Nat.reduceBEq, reduceLT, reduceIte, reduceCtorEq, Int.reduceToNat, Int.reduceBEq, beq_self_eq_true])))
        | (refine callX ?_; (first | refine evOps_fin ?_ | refine And.intro ?_ (evD_fin ?_) | refine evD_fin ?_) <;> simp only [go_sem, reduceAdd, reduceSub, reduceMul, reduceEqDiff, reduceLeDiff, Nat.reduceBEq, reduceLT, reduceIte, reduceCtorEq, Int.reduceToNat, Int.reduceBEq, beq_self_eq_true])
  · rw [decide_eq_false hf] at fw
    (refine pure_of_ev tt_ok Try.func9 rfl (by decide +kernel) (Nat.le_of_ble_eq_true rfl) ?_; simp only [Try.f9])
    repeat' first
      | refine ev_seq (fun K hK => ?_)
      | ((first | refine evrd (id := 8) hmix tt_ok false [([], false), ([], false), ([], false), ([], false), ([], false), ([], false), ([], false), ([], false), ([], false), ([], false), ([], false), ([], false), ([], false), ([], false), ([], false), ([], true), ([15], false), ([15], false), ([], false), ([], false), ([], false), ([], false)] (by decide +kernel) ?_ | refine evr tt_ok false ?_ | refine ev_skip ?_ | refine ev_ret ?_ | refine ev_exit ?_ | refine evc (fun X Y hX hY => ?_)); simp only [go_sem, reduceAdd, reduceSub, reduceMul, reduceEqDiff, reduceLeDiff, Nat.reduceBEq, reduceLT, reduceIte, reduceCtorEq, Int.reduceToNat]; try (first | (refine ⟨fun h => hX ?_, fun h => hY ?_⟩; clear hX hY) | (refine hX ?_; clear hX hY) | (refine hY ?_; clear hX hY)))
      | refine ev_block ?_
      | (apply hK; clear hK)
      | apply_assumption -exfalso -symm only [*]
      | (refine And.intro ?_ ?_; first | omega | assumption | (unfold maxLen; omega) | (simp only [decide_eq_true_eq, decide_eq_false_iff_not, Int.not_lt, Int.not_le] at h; omega))
      | ((first | apply callP | apply callPG | apply callP0); (case' hv => (simp only [go_sem, reduceAdd, reduceSub, reduceMul, reduceEqDiff, reduceLeDiff, Nat.reduceBEq, reduceLT, reduceIte, reduceCtorEq, Int.reduceToNat]; try exact rfl)); (case' hp => (first | refine' awake18_pure | (refine' (fun hg => ?_); refine' awake18_pure) | refine' fw | (refine' (fun hg => ?_); refine' fw))); (case' h => ((first | refine evOps_fin ?_ | refine And.intro ?_ (evD_fin ?_) | refine evD_fin ?_) <;> simp only [go_sem, reduceAdd, reduceSub, reduceMul, reduceEqDiff, reduceLeDiff, Nat.reduceBEq, reduceLT, reduceIte, reduceCtorEq, Int.reduceToNat])))
      | (refine callX ?_; (first | refine evOps_fin ?_ | refine And.intro ?_ (evD_fin ?_) | refine evD_fin ?_) <;> simp only [go_sem, reduceAdd, reduceSub, reduceMul, reduceEqDiff, reduceLeDiff, Nat.reduceBEq, reduceLT, reduceIte, reduceCtorEq, Int.reduceToNat])
/-! ### quarters -/
theorem at_lvf {f : Fld} (h : f.ok) (j : Nat) (x y : Int) : atM (lvf f (j + 1)) x y = m4 (lvf f j) (2 ^ j) x y := by
  unfold lvf
  by_cases hz : f.w = 0
  · have e2 : ∀ x y, atM ⟨0, 0, 0, 0, []⟩ x y = 0 := fun x y => at_out (by unfold inF; simp only; omega)
    rw [if_pos hz, if_pos hz]
    unfold m4
    simp only [e2]
    decide
  · rw [if_neg hz, if_neg hz]
    exact at_lev h.1 h.2.2.1 j x y
theorem maxM_in {f : Fld} {l x y : Int} (h0 : 0 ≤ l) (h6 : l ≤ 6) (hx : -32768 ≤ x ∧ x ≤ 32768) (hy : -32768 ≤ y ∧ y ≤ 32768) : maxM f l x y = atM (lvf f l.toNat) x y := by
  unfold maxM farM
  rw [if_neg]
  simp only [Bool.or_eq_true, decide_eq_true_eq]
  omega
theorem quarters_pure (f : Fld) (l : Int) (cx cy : Int) (hb : bytesL f.v) : Pure Try.prog 4 [.agg (encF f), .int .i64 l, .agg [.int .i64 cx, .int .i64 cy]] (.bool true) := by
  have fw := few18_pure f
  simp only [encF]
  by_cases hf : (f.v.length : Int) ≤ 4096
  · rw [decide_eq_true hf] at fw
    by_cases h : f.ok
    · have np := new_pure f h hb
      have md := mod_pure l 6 (by omega) (by omega)
      have c1 := clip_pure cx (-30000) 30000
      have c2 := clip_pure cy (-30000) 30000
      obtain ⟨x, hx⟩ : ∃ x, max (-30000) (min cx 30000) = x := ⟨_, rfl⟩
      obtain ⟨y, hy⟩ : ∃ y, max (-30000) (min cy 30000) = y := ⟨_, rfl⟩
      rw [hx] at c1
      rw [hy] at c2
      have bx : -30000 ≤ x ∧ x ≤ 30000 := by omega
      have by' : -30000 ≤ y ∧ y ≤ 30000 := by omega
      obtain ⟨n, hn⟩ : ∃ n : Nat, l % 6 = (n : Int) := ⟨(l % 6).toNat, by omega⟩
      rw [hn] at md
      have hn5 : n ≤ 5 := by omega
      obtain ⟨k, hpow⟩ : ∃ k, (2 : Int) ^ n = k := ⟨_, rfl⟩
      obtain ⟨p1, p2⟩ := pow_le6 (n := n) (by omega)
      rw [hpow] at p1 p2
      have hk : IntKind.i64.wrap (1 * k) = k := by rw [Int.one_mul]; exact w64 (by omega) (by omega)
      have hl0 : (0 : Int) ≤ (n : Int) := by omega
      have hl1 : (n : Int) ≤ ((IntKind.i64.bits : Nat) : Int) := by
        have : ((IntKind.i64.bits : Nat) : Int) = 64 := rfl
        omega
      have w1 : IntKind.i64.wrap ((n : Int) + 1) = ((n + 1 : Nat) : Int) := by rw [w64] <;> omega
      have w2 : IntKind.i64.wrap (x + k) = x + k := w64 (by omega) (by omega)
      have w3 : IntKind.i64.wrap (y + k) = y + k := w64 (by omega) (by omega)
      have b0 := pmax_pure f h hb ((n + 1 : Nat) : Int) x y (by unfold inI; omega) (by unfold inI; omega)
      have b1 := pmax_pure f h hb (n : Int) x y (by unfold inI; omega) (by unfold inI; omega)
      have b2 := pmax_pure f h hb (n : Int) (x + k) y (by unfold inI; omega) (by unfold inI; omega)
      have b3 := pmax_pure f h hb (n : Int) x (y + k) (by unfold inI; omega) (by unfold inI; omega)
      have b4 := pmax_pure f h hb (n : Int) (x + k) (y + k) (by unfold inI; omega) (by unfold inI; omega)
      have e0 : maxM f ((n + 1 : Nat) : Int) x y = max (max (max (maxM f (n : Int) x y) (maxM f (n : Int) (x + k) y)) (maxM f (n : Int) x (y + k))) (maxM f (n : Int) (x + k) (y + k)) := by
        rw [maxM_in (by omega) (by omega) (by omega) (by omega), maxM_in (by omega) (by omega) (by omega) (by omega), maxM_in (by omega) (by omega) (by omega) (by omega), maxM_in (by omega) (by omega) (by omega) (by omega), maxM_in (by omega) (by omega) (by omega) (by omega)]
        simp only [Int.toNat_natCast]
        rw [at_lvf h, hpow]
        rfl
      rw [e0] at b0
      generalize pyrV f = C at *
      (refine pure_of_ev tt_ok Try.func4 rfl (by decide +kernel) (Nat.le_of_ble_eq_true rfl) ?_; simp only [Try.f4])
      repeat' first
        | refine ev_seq (fun K hK => ?_)
        | ((first | refine evrd (id := 7) hmix tt_ok false [([], false), ([], false), ([], true), ([2], false), ([2], false), ([], false), ([], false), ([], false)] (by decide +kernel) ?_ | refine evr tt_ok false ?_ | refine ev_skip ?_ | refine ev_ret ?_ | refine ev_exit ?_ | refine evc (fun X Y hX hY => ?_)); simp only [go_sem, reduceAdd, reduceSub, reduceMul, reduceEqDiff, reduceLeDiff, Nat.reduceBEq, reduceLT, reduceIte, reduceCtorEq, Int.reduceToNat, Int.reduceBEq, Int.reduceBNe, bne_self_eq_false, beq_self_eq_true, hpow, hk, hl0, hl1, w1, w2, w3, Int.toNat_natCast]; try (first | (refine ⟨fun h => hX ?_, fun h => hY ?_⟩; clear hX hY) | (refine hX ?_; clear hX hY) | (refine hY ?_; clear hX hY)))
        | refine ev_block ?_
        | (apply hK; clear hK)
        | apply_assumption -exfalso -symm only [*]
        | (refine And.intro ?_ ?_; first | omega | assumption | (unfold maxLen; omega) | (simp only [decide_eq_true_eq, decide_eq_false_iff_not, Int.not_lt, Int.not_le] at h; omega))
        | ((first | apply callP | apply callPG | apply callP0); (case' hv => (simp only [go_sem, reduceAdd, reduceSub, reduceMul, reduceEqDiff, reduceLeDiff, Nat.reduceBEq, reduceLT, reduceIte, reduceCtorEq, Int.reduceToNat, Int.reduceBEq, Int.reduceBNe, bne_self_eq_false, beq_self_eq_true, hpow, hk, hl0, hl1, w1, w2, w3, Int.toNat_natCast]; try exact rfl)); (case' hp => (first | refine' awake18_pure | (refine' (fun hg => ?_); refine' awake18_pure) | refine' fw | (refine' (fun hg => ?_); refine' fw) | refine' np | (refine' (fun hg => ?_); refine' np) | refine' md | (refine' (fun hg => ?_); refine' md) | refine' c1 | (refine' (fun hg => ?_); refine' c1) | refine' c2 | (refine' (fun hg => ?_); refine' c2) | refine' b0 | (refine' (fun hg => ?_); refine' b0) | refine' b1 | (refine' (fun hg => ?_); refine' b1) | refine' b2 | (refine' (fun hg => ?_); refine' b2) | refine' b3 | (refine' (fun hg => ?_); refine' b3) | refine' b4 | (refine' (fun hg => ?_); refine' b4))); (case' h => ((first | refine evOps_fin ?_ | refine And.intro ?_ (evD_fin ?_) | refine evD_fin ?_) <;> simp only [go_sem, reduceAdd, reduceSub, reduceMul, reduceEqDiff, reduceLeDiff, Nat.reduceBEq, reduceLT, reduceIte, reduceCtorEq, Int.reduceToNat, Int.reduceBEq, Int.reduceBNe, bne_self_eq_false, beq_self_eq_true, hpow, hk, hl0, hl1, w1, w2, w3, Int.toNat_natCast])))
        | (refine callX ?_; (first | refine evOps_fin ?_ | refine And.intro ?_ (evD_fin ?_) | refine evD_fin ?_) <;> simp only [go_sem, reduceAdd, reduceSub, reduceMul, reduceEqDiff, reduceLeDiff, Nat.reduceBEq, reduceLT, reduceIte, reduceCtorEq, Int.reduceToNat, Int.reduceBEq, Int.reduceBNe, bne_self_eq_false, beq_self_eq_true, hpow, hk, hl0, hl1, w1, w2, w3, Int.toNat_natCast])
    · have np := new_bad f h
      (refine pure_of_ev tt_ok Try.func4 rfl (by decide +kernel) (Nat.le_of_ble_eq_true rfl) ?_; simp only [Try.f4])
      repeat' first
        | refine ev_seq (fun K hK => ?_)
        | ((first | refine evrd (id := 7) hmix tt_ok false [([], false), ([], false), ([], true), ([2], false), ([2], false), ([], false), ([], false), ([], false)] (by decide +kernel) ?_ | refine evr tt_ok false ?_ | refine ev_skip ?_ | refine ev_ret ?_ | refine ev_exit ?_ | refine evc (fun X Y hX hY => ?_)); simp only [go_sem, reduceAdd, reduceSub, reduceMul, reduceEqDiff, reduceLeDiff, Nat.reduceBEq, reduceLT, reduceIte, reduceCtorEq, Int.reduceToNat, Int.reduceBEq, Int.reduceBNe]; try (first | (refine ⟨fun h => hX ?_, fun h => hY ?_⟩; clear hX hY) | (refine hX ?_; clear hX hY) | (refine hY ?_; clear hX hY)))
        | refine ev_block ?_
        | (apply hK; clear hK)
        | apply_assumption -exfalso -symm only [*]
        | (refine And.intro ?_ ?_; first | omega | assumption | (unfold maxLen; omega) | (simp only [decide_eq_true_eq, decide_eq_false_iff_not, Int.not_lt, Int.not_le] at h; omega))
        | ((first | apply callP | apply callPG | apply callP0); (case' hv => (simp only [go_sem, reduceAdd, reduceSub, reduceMul, reduceEqDiff, reduceLeDiff, Nat.reduceBEq, reduceLT, reduceIte, reduceCtorEq, Int.reduceToNat, Int.reduceBEq, Int.reduceBNe]; try exact rfl)); (case' hp => (first | refine' awake18_pure | (refine' (fun hg => ?_); refine' awake18_pure) | refine' fw | (refine' (fun hg => ?_); refine' fw) | refine' np | (refine' (fun hg => ?_); refine' np))); (case' h => ((first | refine evOps_fin ?_ | refine And.intro ?_ (evD_fin ?_) | refine evD_fin ?_) <;> simp only [go_sem, reduceAdd, reduceSub, reduceMul, reduceEqDiff, reduceLeDiff, Nat.reduceBEq, reduceLT, reduceIte, reduceCtorEq, Int.reduceToNat, Int.reduceBEq, Int.reduceBNe])))
        | (refine callX ?_; (first | refine evOps_fin ?_ | refine And.intro ?_ (evD_fin ?_) | refine evD_fin ?_) <;> simp only [go_sem, reduceAdd, reduceSub, reduceMul, reduceEqDiff, reduceLeDiff, Nat.reduceBEq, reduceLT, reduceIte, reduceCtorEq, Int.reduceToNat, Int.reduceBEq, Int.reduceBNe])
  · rw [decide_eq_false hf] at fw
    (refine pure_of_ev tt_ok Try.func4 rfl (by decide +kernel) (Nat.le_of_ble_eq_true rfl) ?_; simp only [Try.f4])
    repeat' first
      | refine ev_seq (fun K hK => ?_)
      | ((first | refine evrd (id := 7) hmix tt_ok false [([], false), ([], false), ([], true), ([2], false), ([2], false), ([], false), ([], false), ([], false)] (by decide +kernel) ?_ | refine evr tt_ok false ?_ | refine ev_skip ?_ | refine ev_ret ?_ | refine ev_exit ?_ | refine evc (fun X Y hX hY => ?_)); simp only [go_sem, reduceAdd, reduceSub, reduceMul, reduceEqDiff, reduceLeDiff, Nat.reduceBEq, reduceLT, reduceIte, reduceCtorEq, Int.reduceToNat]; try (first | (refine ⟨fun h => hX ?_, fun h => hY ?_⟩; clear hX hY) | (refine hX ?_; clear hX hY) | (refine hY ?_; clear hX hY)))
      | refine ev_block ?_
      | (apply hK; clear hK)
      | apply_assumption -exfalso -symm only [*]
      | (refine And.intro ?_ ?_; first | omega | assumption | (unfold maxLen; omega) | (simp only [decide_eq_true_eq, decide_eq_false_iff_not, Int.not_lt, Int.not_le] at h; omega))
      | ((first | apply callP | apply callPG | apply callP0); (case' hv => (simp only [go_sem, reduceAdd, reduceSub, reduceMul, reduceEqDiff, reduceLeDiff, Nat.reduceBEq, reduceLT, reduceIte, reduceCtorEq, Int.reduceToNat]; try exact rfl)); (case' hp => (first | refine' awake18_pure | (refine' (fun hg => ?_); refine' awake18_pure) | refine' fw | (refine' (fun hg => ?_); refine' fw))); (case' h => ((first | refine evOps_fin ?_ | refine And.intro ?_ (evD_fin ?_) | refine evD_fin ?_) <;> simp only [go_sem, reduceAdd, reduceSub, reduceMul, reduceEqDiff, reduceLeDiff, Nat.reduceBEq, reduceLT, reduceIte, reduceCtorEq, Int.reduceToNat])))
      | (refine callX ?_; (first | refine evOps_fin ?_ | refine And.intro ?_ (evD_fin ?_) | refine evD_fin ?_) <;> simp only [go_sem, reduceAdd, reduceSub, reduceMul, reduceEqDiff, reduceLeDiff, Nat.reduceBEq, reduceLT, reduceIte, reduceCtorEq, Int.reduceToNat])
end Go.Proofs.Ytbpchamlhblddaa
