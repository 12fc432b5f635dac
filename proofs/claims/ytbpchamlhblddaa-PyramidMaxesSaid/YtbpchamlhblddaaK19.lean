/-
  A SECOND ENGINE, PART 19: bodies over a caller's things that are all known to be under; loops over them; sets of two things.
-/
import Derived.Test.YtbpchamlhblddaaK18
set_option linter.all false
namespace Go.K
open Go Go.RowKit
mutual
theorem under_mono {n k : Nat} (hk : n ≤ k) : ∀ {x : V}, x.under n → x.under k
  | .own _ _ _ _, h => by unfold V.under at *; omega
  | .rs _ _ _ _, h => by unfold V.under at *; omega
  | .fn _ _, h => by unfold V.under at *; exact unders_mono hk h
  | .agg _, h => by unfold V.under at *; exact unders_mono hk h
  | .tup _, h => by unfold V.under at *; exact unders_mono hk h
  | .cnd _ _, h => by unfold V.under at *; exact fun e => under_mono hk (h e)
  | .bool _, _ => by unfold V.under; trivial
  | .int _ _, _ => by unfold V.under; trivial
  | .str _, _ => by unfold V.under; trivial
  | .nilp, _ => by unfold V.under; trivial
  | .nilf, _ => by unfold V.under; trivial
  | .emp, _ => by unfold V.under; trivial
  | .sl _, _ => by unfold V.under; trivial
  | .pi _ _, _ => by unfold V.under; trivial
  | .un, _ => by unfold V.under; trivial
theorem unders_mono {n k : Nat} (hk : n ≤ k) : ∀ {xs : List V}, unders n xs → unders k xs
  | [], _ => by unfold unders; trivial
  | _ :: _, h => by unfold unders at *; exact ⟨under_mono hk h.1, unders_mono hk h.2⟩
end
theorem ownUnder_mono {n k : Nat} (hk : n ≤ k) {o : Own} (h : ownUnder n o) : ownUnder k o := by
  cases o with
  | blk ty v sz rows => exact rowsUnder_iff.2 fun r hr => unders_mono hk (rowsUnder_iff.1 h r hr)
  | free => trivial
  | gone => trivial
  | froz _ _ _ _ => trivial
def allU (n : Nat) (F : List Own) : Prop := ∀ o ∈ F, ownUnder n o
theorem allU_mono {n k : Nat} (hk : n ≤ k) {F : List Own} (h : allU n F) : allU k F := fun o ho => ownUnder_mono hk (h o ho)
theorem allU_set {n : Nat} {F : List Own} (h : allU n F) (i : Nat) {o : Own} (ho : ownUnder n o) : allU n (F.set i o) := fun x hx => by
  rcases List.mem_or_eq_of_mem_set hx with hx | rfl
  · exact h x hx
  · exact ho
theorem fitOs_pre {n : Nat} {k l : List Own} (h : fitOs n k l) : ∀ {F : List Own}, allU n F → fitOs n (F ++ k) (F ++ l)
  | [], _ => h
  | x :: xs, hF => by
    rw [List.cons_append, List.cons_append]
    unfold fitOs
    exact ⟨fitO_refl (hF x (List.mem_cons_self ..)), fitOs_pre h fun o ho => hF o (List.mem_cons_of_mem _ ho)⟩
theorem run_of_evU {P : Program} {tt : TT} (ht : tt.Ok P) {f : FuncId} {fn : Func} {c : Code} (hf : P.funcs[f]? = some fn) (hb : fn.body = some c) (hn : (fn.name == "runtime.NumGoroutine") = false) {args : List V} {fp : List Nat} {ow : List Own} {r : V} {upd : List (Nat × Own)}
    (hl : args.length ≤ fn.ntmps) (hk : ∀ p ∈ upd, p.1 ∈ fp) (h : ∀ F, agree fp ow F → allU F.length F → upds F.length upd ∧ EV P F.length c (bodyR tt fn.results.toList F.length r (app F upd)) ⟨fn.ntmps, number 0 args, F⟩) : Run P f args fp ow r upd := by
  refine ⟨enters_of hf hb hn, hk, fun F hF B w0 E0 E L0 L n tm a w vs R hargs => ?_⟩
  have hlen : L.length = F.length := R.len
  have hU : allU F.length F := fun o ho => by
    obtain ⟨k, hk, rfl⟩ := List.mem_iff_getElem.1 ho
    obtain ⟨l, hl⟩ := R.loc (List.getElem?_eq_getElem hk)
    rw [← hlen]
    exact own_under (R.owns k _ l (List.getElem?_eq_getElem hk) hl)
  refine (run_of_ev (fp := List.range (F.length + 1) ++ fp) (ow := F) ht hf hb hn hl (fun p hp => List.mem_append_right _ (hk p hp)) fun G hG => ?_).run F (fun _ _ => rfl) B w0 E0 E L0 L n tm a w vs R hargs
  have e : G = F := by
    have hall : ∀ k, k ≤ F.length → F[k]? = G[k]? := fun k hk' => hG k (List.mem_append_left _ (List.mem_range.2 (by omega)))
    have hle : G.length ≤ F.length := by
      have := hall F.length (Nat.le_refl _)
      rw [List.getElem?_eq_none (Nat.le_refl _)] at this
      exact List.getElem?_eq_none_iff.1 this.symm
    refine List.ext_getElem? fun k => ?_
    by_cases hk' : k ≤ F.length
    · exact (hall k hk').symm
    · rw [List.getElem?_eq_none (by omega), List.getElem?_eq_none (by omega)]
  subst e
  exact h G hF hU
theorem set_same {F : List Own} {i : Nat} {o : Own} (h : F[i]? = some o) : F.set i o = F := by
  refine List.ext_getElem? fun k => ?_
  by_cases e : i = k
  · subst e; rw [List.getElem?_set_self (get_lt h), h]
  · rw [List.getElem?_set_ne e]
/-- Two things set. -/
def set2 (F : List Own) (i : Nat) (a : Own) (j : Nat) (b : Own) : List Own := (F.set i a).set j b
theorem set2_len (F : List Own) (i : Nat) (a : Own) (j : Nat) (b : Own) : (set2 F i a j b).length = F.length := by simp [set2]
theorem set2_i {F : List Own} {i j : Nat} {a b : Own} (hij : i ≠ j) (hi : i < F.length) : (set2 F i a j b)[i]? = some a := by
  unfold set2
  rw [List.getElem?_set_ne (Ne.symm hij), List.getElem?_set_self hi]
theorem set2_j {F : List Own} {i j : Nat} {a b : Own} (hj : j < F.length) : (set2 F i a j b)[j]? = some b := by
  unfold set2
  rw [List.getElem?_set_self (by simpa using hj)]
theorem set2_k {F : List Own} {i j k : Nat} {a b : Own} (hi : i ≠ k) (hj : j ≠ k) : (set2 F i a j b)[k]? = F[k]? := by
  unfold set2
  rw [List.getElem?_set_ne hj, List.getElem?_set_ne hi]
theorem set2_same {F : List Own} {i j : Nat} {a b : Own} (hi : F[i]? = some a) (hj : F[j]? = some b) : set2 F i a j b = F := by
  unfold set2
  rw [set_same hi, set_same hj]
theorem set2_set2 {F : List Own} {i j : Nat} (hij : i ≠ j) (a b c d : Own) : ((set2 F i a j b).set i c).set j d = set2 F i c j d := by
  unfold set2
  rw [List.set_comm (i := j) (j := i) _ _ (Ne.symm hij), List.set_set, List.set_set]
theorem set2_app {F l : List Own} {i j : Nat} (hi : i < F.length) (hj : j < F.length) (a b : Own) : ((F ++ l).set i a).set j b = set2 F i a j b ++ l := by
  unfold set2
  rw [List.set_append_left _ _ hi, List.set_append_left _ _ (by simpa using hj)]
theorem set2_under {n : Nat} {F : List Own} (h : allU n F) {i j : Nat} {a b : Own} (ha : ownUnder n a) (hb : ownUnder n b) : allU n (set2 F i a j b) := allU_set (allU_set h i ha) j hb
end Go.K
