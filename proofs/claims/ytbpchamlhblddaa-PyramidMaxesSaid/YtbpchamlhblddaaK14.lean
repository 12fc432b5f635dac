/-
  A SECOND ENGINE, PART 14: the rules of the walk, and what an evaluation opens.
-/
import Derived.Test.YtbpchamlhblddaaK13
set_option linter.all false
namespace Go.K
open Go Go.RowKit

def fin (P : Program) (tt : TT) (ds : List (Option Tmp)) (K : St → Prop) : Prop × St × List (Nat × Oper) → Prop
  | (p, s, r) => p ∧ rest P tt ds s K r
def finD (P : Program) (tt : TT) (ds : List (Option Tmp)) (K : St → Prop) : Prop × St × Log × List It → Prop
  | (p, s, log, r) => p ∧ restD P tt ds s log K r
section
variable {P : Program} {m : Nat} {s : St} {tt : TT} {ds : List (Option Tmp)} {K : St → Prop}
theorem prop_id {p : Prop} (h : p) : p := h
theorem evOps_fin {l : List (Nat × Oper)} (h : fin P tt ds K (go tt ds l True s)) : evOps P tt ds l s K := evOps_go h
theorem evD_fin {l : List It} {log : Log} (h : finD P tt ds K (goD tt ds l log True s)) : evD P tt ds l log s K := evD_go h

theorem evr (ht : tt.Ok P) (nw : Bool) {id : Nat} {l : List Oper} {Q : Exit → St → Prop} (h : fin P tt (dsts l) (fun s' => Q .normal s') (go tt (dsts l) (tag nw l s.ow.length) True ⟨s.n, s.tm, s.ow ++ frees nw l⟩)) :
    EV P m (.region id l.toArray false) Q s := ev_region ht nw (evOps_fin h)
theorem evrd (hm : P.follows .mixedOrders = true) (ht : tt.Ok P) (nw : Bool) {id : Nat} {l : List Oper} (ann : List (List Nat × Bool)) (hok : okD nw l ann = true) {Q : Exit → St → Prop} (h : finD P tt (dsts l) (fun s' => Q .normal s') (goD tt (dsts l) (its nw l 0 s.ow.length ann) [] True ⟨s.n, s.tm, s.ow ++ frees nw l⟩)) :
    EV P m (.region id l.toArray true) Q s := ev_region_draw hm ht nw ann hok (evD_fin h)
theorem evc {c : Operand} {x y : Code} {Q : Exit → St → Prop} (h : ∀ X Y : Prop, (EV P m x Q s → X) → (EV P m y Q s → Y) → condQ (s.rd c) X Y) : EV P m (.cond c x y) Q s :=
  ev_cond (h _ _ (fun h => h) (fun h => h))
theorem evb {id : Nat} {c : Code} {Q : Exit → St → Prop} (h : ∀ Q', Q' = blockQ id Q → EV P m c Q' s) : EV P m (.block id c) Q s := ev_block (h _ rfl)
end
theorem run_exists {P : Program} {f : FuncId} {args : List V} {ow : List Own} {Q : List Nat → V → List (Nat × Own) → Prop} (h : ∃ fp v upd, Run P f args fp ow v upd ∧ Q fp v upd) : ∃ fp v upd, Run P f args fp ow v upd ∧ Q fp v upd := h

theorem callX {Q : List Nat → V → Prop} (h : Q [] .un) : ∃ fp v, Q fp v := ⟨_, _, h⟩
theorem getD_map {α : Type} {f : α → List V} {l : List α} {k : Nat} {z : List V} {d : α} (h : z = f d) : (l.map f).getD k z = f (l.getD k d) := by
  subst h; simp only [List.getD_eq_getElem?_getD, List.getElem?_map]; cases l[k]? <;> rfl
theorem set_map {α : Type} {f : α → List V} {l : List α} {k : Nat} {x : α} : (l.map f).set k (f x) = (l.set k x).map f := (List.map_set ..).symm

/-! ### the caller's things, a variable list, with things of the callee's behind them -/
theorem ap_get0 (F l : List Own) : (F ++ l)[F.length]? = l[0]? := by rw [List.getElem?_append_right (Nat.le_refl _)]; simp
theorem ap_getk (F l : List Own) (k : Nat) : (F ++ l)[F.length + k]? = l[k]? := by rw [List.getElem?_append_right (by omega)]; simp
theorem ap_get (F l : List Own) {i : Nat} (h : i < F.length) : (F ++ l)[i]? = F[i]? := List.getElem?_append_left h
theorem ap_set0 (F l : List Own) (o : Own) : (F ++ l).set F.length o = F ++ l.set 0 o := by rw [List.set_append_right _ _ (Nat.le_refl _)]; simp
theorem ap_setk (F l : List Own) (k : Nat) (o : Own) : (F ++ l).set (F.length + k) o = F ++ l.set k o := by rw [List.set_append_right _ _ (by omega)]; simp
theorem ap_set (F l : List Own) {i : Nat} (h : i < F.length) (o : Own) : (F ++ l).set i o = F.set i o ++ l := List.set_append_left _ _ h
theorem aps_get0 (F l : List Own) (i : Nat) (p : Own) : (F.set i p ++ l)[F.length]? = l[0]? := by have := ap_get0 (F.set i p) l; rwa [List.length_set] at this
theorem aps_getk (F l : List Own) (i k : Nat) (p : Own) : (F.set i p ++ l)[F.length + k]? = l[k]? := by have := ap_getk (F.set i p) l k; rwa [List.length_set] at this
theorem aps_set0 (F l : List Own) (i : Nat) (p o : Own) : (F.set i p ++ l).set F.length o = F.set i p ++ l.set 0 o := by have := ap_set0 (F.set i p) l o; rwa [List.length_set] at this
theorem aps_setk (F l : List Own) (i k : Nat) (p o : Own) : (F.set i p ++ l).set (F.length + k) o = F.set i p ++ l.set k o := by have := ap_setk (F.set i p) l k o; rwa [List.length_set] at this
theorem aps_get {F l : List Own} {i : Nat} (h : i < F.length) (p : Own) : (F.set i p ++ l)[i]? = some p := by rw [List.getElem?_append_left (by simpa using h), List.getElem?_set_self h]
theorem aps_set {F l : List Own} {i : Nat} (h : i < F.length) (p o : Own) : (F.set i p ++ l).set i o = F.set i o ++ l := by rw [List.set_append_left _ _ (by simpa using h), List.set_set]
theorem set_get {F : List Own} {i : Nat} (h : i < F.length) (p : Own) : (F.set i p)[i]? = some p := List.getElem?_set_self h
theorem w64 {x : Int} (h1 : -9223372036854775808 ≤ x) (h2 : x ≤ 9223372036854775807) : IntKind.i64.wrap x = x := by rw [IntKind.wrap_i64]; omega

theorem cond_and (c b : Bool) : (bif c then b else false) = (c && b) := by cases c <;> rfl
theorem cond_or (c b : Bool) : (bif c then true else b) = (c || b) := by cases c <;> rfl
theorem tmod_neg {a b : Int} (hb : 0 < b) (h : a.tmod b < 0) : a.tmod b + b = a % b := by
  have e := Int.tmod_eq_emod (a := a) (b := b)
  have h1 := Int.emod_nonneg a (Int.ne_of_gt hb)
  have h2 := Int.emod_lt_of_pos a hb
  split at e <;> omega
theorem tmod_nonneg {a b : Int} (hb : 0 < b) (h : ¬ a.tmod b < 0) : a.tmod b = a % b := by
  have e := Int.tmod_eq_emod (a := a) (b := b)
  have h1 := Int.emod_nonneg a (Int.ne_of_gt hb)
  have h2 := Int.emod_lt_of_pos a hb
  split at e <;> omega

attribute [go_sem] cond_and cond_or ge_iff_le gt_iff_lt fin finD go goD rest restD callU callG callUD callGD stepF stepU stepG pickV offV resU resG callOf gdOf gOf St.gv St.rd St.put St.app rds unc uncs unc1 uncP lk dlt dsts tag frees news its app
  sem semNew semLoad semStore semNil semField semFieldV semIndex semIndexV fills okFlds semBuild repl chunk semBuildSlice semExtract semUn cellsEq sameKinds okv okp semPtrNil semBin semConv semLen minmax V.sl? semAppend semMake boundOf semSlice semNoRoom semBuiltin
  V.mk V.cells? setCells TI.isAgg V.of1 V.of1s V.ones V.one V.ofConst
  logAdd confQ confs memN dis keys condQ thenQ blockQ bodyQ bodyR resOne resPre resAll resTup number
  vmap vmaps vrows dv fv V.flat flats flatRows V.lit lits litRows V.ids idss dvI rowsOf V.under unders rowsUnder ownUnder upds app fitO fitOs fitT fits
  Op.operands Call.operands
  List.getD_cons_zero List.getD_cons_succ List.getD_nil List.getElem?_cons_zero List.getElem?_cons_succ List.getElem?_nil
  List.set_cons_zero List.set_cons_succ List.set_nil List.drop_succ_cons List.drop_zero List.take_succ_cons List.take_zero List.drop_nil List.take_nil
  List.cons_append List.nil_append List.append_nil List.length_cons List.length_nil List.zip_cons_cons List.zip_nil_left List.zip_nil_right
  List.map_cons List.map_nil List.all_cons List.all_nil List.append_toArray List.replicate_succ List.replicate_zero List.flatMap_cons List.flatMap_nil List.toList_toArray
  Option.map_some Option.map_none Option.some.injEq Prod.mk.injEq
  true_and and_true if_true if_false Bool.false_eq_true and_self true_imp_iff not_false_eq_true ne_eq
  Bool.not_true Bool.not_false false_imp_iff true_or or_true false_or or_false beq_self_eq_true Bool.and_true Bool.true_and decide_true decide_false
  Bool.cond_true Bool.cond_false Bool.true_eq_false Bool.or_self Bool.or_false Bool.false_or Bool.or_true Bool.true_or Bool.and_self Bool.and_false Bool.false_and List.set_set imp_self implies_true
  List.length_map List.take_length List.length_append
  Int.toNat_zero Int.toNat_one Nat.zero_add Nat.add_zero Nat.sub_zero Nat.zero_mul
end Go.K
