/-
  A SECOND ENGINE, PART 23: regions with operations given by what they do (each a property of its own); a conversion of bytes to a string.
-/
import Derived.Test.YtbpchamlhblddaaK17
import Derived.Laws.BytesArg
set_option linter.all false
namespace Go.K
open Go Go.RowKit
section
variable {P : Program} {B : Nat} {w0 : World} {E0 E : Ext} {L0 L : List Loc} {s : St} {a : Act} {w : World} {o : Oper} {m : Nat}
/-- An operation, given by what it may leave. -/
def SpecS (P : Program) (s : St) (op : Op) (X : Out → Prop) : Prop :=
  ∀ (B : Nat) (w0 : World) (E0 E : Ext) (L0 L : List Loc) (a : Act) (w : World) (o : Oper), o.op = op → RepE B w0 E0 E L0 L s a w →
    ∀ (next : Act → World → Prop) (Q : Exit → Act → World → Prop),
      (∀ x v w' E' L', X x → RepE B w0 E0 E' L0 L' ⟨s.n, s.tm, app s.ow x.upd⟩ a w' → x.r.Is E' L' v → next (a.put o.dst v) w') → o.wp P a w next Q
theorem specS_of {tt : TT} (ht : tt.Ok P) {op : Op} {X : Out → Prop} (h : Spec tt s op X) : SpecS P s op X := by
  intro B w0 E0 E L0 L a w o ho R next Q k
  subst ho
  obtain ⟨x, hx, hst⟩ := spec_sound ht R h
  exact hst next Q fun v w' E' L' R' hi => k x v w' E' L' hx R' hi
def evOps3 (P : Program) (tt : TT) (ds : List (Option Tmp)) : List (Nat × Oper) → St → (St → Prop) → Prop
  | [], s, K => K s
  | io :: r, s, K => (∃ x, Step P tt ds io.1 io.2 s x ∧ evOps3 P tt ds r (s.app io.2.dst x) K) ∨
      (∃ X, io.2.guard = none ∧ dlt s.n io.2.dst ∧ SpecS P s io.2.op X ∧ ∀ x, X x → evOps3 P tt ds r (s.app io.2.dst x) K)
theorem evOps3_sound {tt : TT} (ht : tt.Ok P) {ops : Array Oper} {ds : List (Option Tmp)} (hds : ds = ops.toList.map (·.dst)) {K : St → Prop} {Q : Exit → Act → World → Prop}
    (hK : ∀ s' a' w' E' L', K s' → RepE B w0 E0 E' L0 L' s' a' w' → Q .normal a' w') (tg : Nat → Nat) :
    ∀ (l : List Nat) (s : St) (a : Act) (w : World) (E : Ext) (L : List Loc), (∀ i ∈ l, i < ops.size) → RepE B w0 E0 E L0 L s a w → evOps3 P tt ds (l.map fun i => (tg i, ops.getD i default)) s K → wpOps P ops Q l a w
  | [], s, a, w, E, L, _, R, h => hK s a w E L h R
  | i :: l, s, a, w, E, L, hL, R, h => by
    have hi : i < ops.size := hL i (List.mem_cons_self ..)
    have hget : ops[i]? = some (ops.getD i default) := by simp [hi]
    simp only [wpOps, hget]
    rcases h with ⟨x, hx, h⟩ | ⟨X, hg, hd, hsp, h⟩
    · have := step_sound (o := ops.getD i default) ht R hds hx (Q := Q) (next := wpOps P ops Q l) (ops := ops) fun a' w' E' L' R' =>
        evOps3_sound ht hds hK tg l _ a' w' E' L' (fun j hj => hL j (List.mem_cons_of_mem _ hj)) R' h
      by_cases hw : Region.wanted (ops.getD i default) (yielded ops a.tmps) = true
      · rw [if_pos hw] at this ⊢
        exact .inl this
      · rw [if_neg hw] at this ⊢
        exact this
    · have hg' : (ops.getD i default).guard = none := hg
      rw [if_pos (by unfold Region.wanted; rw [hg'])]
      refine .inl (hsp B w0 E0 E L0 L a w (ops.getD i default) rfl R (wpOps P ops Q l) Q fun x v w' E' L' hx R' hi' => ?_)
      exact evOps3_sound ht hds hK tg l _ _ w' E' L' (fun j hj => hL j (List.mem_cons_of_mem _ hj)) (R'.put hd hi') (h x hx)
theorem ev_region3 {tt : TT} (ht : tt.Ok P) (nw : Bool) {id : Nat} {l : List Oper} {Q : Exit → St → Prop} (h : evOps3 P tt (dsts l) (tag nw l s.ow.length) ⟨s.n, s.tm, s.ow ++ frees nw l⟩ fun s' => Q .normal s') :
    EV P m (.region id l.toArray false) Q s := by
  rintro B w0 E0 L0 a w _ ⟨E, L, R⟩
  refine wp_region ?_
  have hsz : l.toArray.size = l.length := by simp
  rw [hsz]
  refine evOps3_sound (ds := dsts l) ht (by rw [dsts_eq]) (fun s' a' w' E' L' hk R' => ⟨s', hk, E', L', R'⟩) (tagAt nw l s.ow.length) (List.range l.length) _ a w E _ (by simp) (R.free (frees_free nw l)) ?_
  rw [tag_eq] at h
  have : (fun i => (tagAt nw l s.ow.length i, l.toArray.getD i default)) = fun i => (tagAt nw l s.ow.length i, l.getD i default) := by
    funext i; simp [List.getD_eq_getElem?_getD, Array.getD_eq_getD_getElem?]
  rw [this]; exact h
theorem ev3_step {tt : TT} {ds : List (Option Tmp)} {io : Nat × Oper} {r : List (Nat × Oper)} {K : St → Prop} (h : okF (fun x => evOps3 P tt ds r (s.app io.2.dst x) K) (stepF tt ds io.1 io.2 s)) : evOps3 P tt ds (io :: r) s K := by
  unfold okF at h
  split at h
  · rename_i p x hs
    exact .inl ⟨x, .inl (by unfold Main; rw [hs]; exact ⟨h.1, rfl⟩), h.2⟩
  · exact h.elim
theorem ev3_spec {tt : TT} {ds : List (Option Tmp)} {io : Nat × Oper} {r : List (Nat × Oper)} {K : St → Prop} {X : Out → Prop} (hg : io.2.guard = none) (hd : dlt s.n io.2.dst) (hs : SpecS P s io.2.op X) (h : ∀ x, X x → evOps3 P tt ds r (s.app io.2.dst x) K) : evOps3 P tt ds (io :: r) s K :=
  .inr ⟨X, hg, hd, hs, h⟩
theorem ev3_nil {tt : TT} {ds : List (Option Tmp)} {K : St → Prop} (h : K s) : evOps3 P tt ds [] s K := h
/-! ### bytes to a string -/
theorem spec_str {tt : TT} (ht : tt.Ok P) {t u : TypeId} {q : Operand} {L : List Int} (hq : s.rd q = .sl (L.map fun n => [V.int .u8 n])) (h1 : (tt t).kind = 3) (h2 : (tt (tt t).el).int = some .u8) (h3 : (tt u).kind = 7) :
    SpecS P s (.convert t u q) fun x => x = ⟨[], .str (strOfNums L), []⟩ := by
  intro B w0 E0 E L0 Lc a w o ho R next Q k
  have F1 := ht.facts t (by rw [h1]; decide)
  have F2 := ht.facts (tt t).el ((ht.own _).int (by rw [h2]; simp))
  have F3 := ht.facts u (by rw [h3]; decide)
  have hs := und_slice F1 h1
  have he := und_int F2 h2
  have hd := und_string F3 h3
  have hx := rd_is R q
  rw [hq] at hx
  unfold V.Is at hx
  obtain ⟨A, cap, hv, _, hr⟩ := hx
  rw [List.length_map] at hv
  have hrun : (convert t u (a.eval q)).run P w = .ok (.string (strOfNums L)) w := by
    rw [hv]
    rcases hr with hr | ⟨b, o', sz, rfl, hrows⟩
    · have : L = [] := List.map_eq_nil_iff.1 hr
      subst this
      cases A with
      | none => exact run_convert_bytes_nil w t _ hs he _ _ u hd
      | some A =>
        rw [run_convert_bytes_string w t u _ _ _ _ hs he hd, run_bytesToString w A _ cap [] (by simp [loadCells, loadCellsFrom])]
        rfl
    · refine run_convert_bytes_arg w t _ hs he b o' L.length cap L rfl (fun i hi => ?_) u hd
      have hg : (L.map fun n => [V.int .u8 n])[i]? = some [V.int .u8 (L.getD i 0)] := by
        rw [List.getElem?_map, List.getElem?_eq_getElem hi]; simp [List.getD_eq_getElem?_getD, hi]
      obtain ⟨hl, hc⟩ := rowsAt_get hrows hg
      simp only [List.length_singleton] at hl
      subst hl
      obtain ⟨_, x, e1, e2⟩ := cellsAt_get (j := 0) hc rfl
      unfold V.Is at e2
      subst e2
      have := R.inn.cell e1
      simpa using this
  refine wp_of_run (v := .string (strOfNums L)) (w' := w) ?_ (k _ _ w E Lc rfl R (by unfold V.Is; rfl))
  have : execOp a.eval o = (do pure (.value (← convert t u (a.eval q))) : Sem Next) := by simp [execOp, ho]
  rw [this, Sem.run_bind, hrun]; rfl
end
end Go.K
