import Derived.Test.YtbpchamlhblddaaK14
import Derived.WalkKit
import Derived.ProofKit
import Derived.OpenShut
set_option linter.all false
/- THE BRIDGE: what an argument's reading says of its value, and what a pure law's call says of the row's answer. -/
namespace Go.K
open Go Go.ChangeShapes Go.WideShapes Go.ChangeAt Go.RowKit
set_option linter.unusedVariables false
/-- All that lies in a world, as a thing that does not change. -/
def worldE (w : World) : Ext := fun b => match w.heap[b]? with | some (.cells cs _ _) => some cs | _ => none
theorem worldE_in (w : World) : (worldE w).In w := by
  intro b cs h
  unfold worldE at h
  split at h
  · rename_i c t fr e
    injection h with h
    subst h
    exact ⟨t, fr, e⟩
  · cases h
theorem worldE_cell {w : World} {a : Addr} {x : Value} (h : w.cell? a = some x) : a.spot = none ∧ (worldE w).cell a.block a.off = some x := by
  unfold World.cell? at h
  unfold Ext.cell worldE
  split at h
  · rename_i c t fr e
    rw [e]
    split at h
    · cases h
    · rename_i hs
      exact ⟨by cases hq : a.spot <;> simp_all, h⟩
  · cases h
theorem calls_true {P : Program} {f : FuncId} {args : List V} {vs : List Value} {W : World} (h : Pure P f args (.bool true)) (hv : IsAll (worldE W) [] args vs) :
    Calls P f vs.toArray W fun e w' => e = .returned (.bool true) ∧ Below W.heap.size W w' := by
  refine (h.run W (worldE W) vs (worldE_in W) hv).mono fun e w' hq => ?_
  obtain ⟨v, E', rfl, hb, _, _, _, hr⟩ := hq
  unfold V.Is at hr
  exact ⟨by rw [hr], hb⟩

section
variable {H : Type} {enc : TypeId × Value → H} {P : Program}
theorem trodAll_kept (hl : laidOutB P = true) {W W' : World} (hb : Below W.heap.size W W') : ∀ {ts : List TypeId} {vs : List Value} {ds : List (DataW H)} {ps : List MemPlace},
    (∀ t ∈ ts, P.readableRec t = true ∧ t < P.types.size) → (∀ x ∈ ps, x.block < W.heap.size) → DataW.TrodAll enc P W 0 (fun _ => true) true ts vs ds ps → DataW.TrodAll enc P W' 0 (fun b => decide (b < W.heap.size)) true ts vs ds ps
  | [], [], [], ps, _, _, h => h
  | t :: ts, v :: vs, d :: ds, ps, hr, hlt, h => by
    obtain ⟨p, q, h1, h2, rfl⟩ := h
    exact ⟨p, q, Below.trod hl (hr t (List.mem_cons_self ..)).1 (hr t (List.mem_cons_self ..)).2 h1 hb (fun x hx => hlt x (List.mem_append_left _ hx)),
      trodAll_kept hl hb (fun t ht => hr t (List.mem_cons_of_mem _ ht)) (fun x hx => hlt x (List.mem_append_right _ hx)) h2, rfl⟩
  | [], [], _ :: _, _, _, _, h => by simp [DataW.TrodAll] at h
  | [], _ :: _, _, _, _, _, h => by simp [DataW.TrodAll] at h
  | _ :: _, [], _, _, _, _, h => by simp [DataW.TrodAll] at h
  | _ :: _, _ :: _, [], _, _, _, h => by simp [DataW.TrodAll] at h
theorem post_law {f : Func} {s : ChangeSpec} {apart fresh handsOn : Bool} {W W' : World} {args : Array Value} {ds gs : List (DataW H)} {before : List MemPlace} {t : TypeId}
    (hl : laidOutB P = true) (hp0 : (f.params.toList.all fun t => P.readableRec t && decide (t < P.types.size)) = true) (hs : s.vars = [])
    (hW : DataW.Whole enc P f.params.toList s.vars apart W args.toList ds gs before) (hb : Below W.heap.size W W')
    (hr : f.resultTypes = #[t]) (ht : P.underlying t = some .bool) (he : s.fn H (ds ++ gs) = { results := [.lit (.bool true)], args := ds }) :
    s.post enc P f apart fresh handsOn false W args (.bool true) W' := by
  have hp : ∀ t ∈ f.params.toList, P.readableRec t = true ∧ t < P.types.size := fun t ht => by simpa using List.all_eq_true.1 hp0 t ht
  have hlt := hW.lt
  have hW' := hW
  obtain ⟨p, q, hA, hV, rfl, _, _⟩ := hW
  have hV' : q = [] ∧ gs = [] := by
    rw [hs] at hV
    cases gs with
    | nil => exact ⟨hV, rfl⟩
    | cons g r => simp [DataW.TrodVars] at hV
  obtain ⟨rfl, rfl⟩ := hV'
  refine ⟨ds, [], _, [], p, [], hW', ?_, ?_, ?_, World.keptBut_mono (fun x hx => hx.elim) (hb.frame fun _ => False), fun h => by cases h⟩
  · rw [he, hr]
    exact ⟨[], [], shut_bool ht true, rfl, rfl⟩
  · rw [he]
    exact trodAll_kept hl hb hp (fun x hx => hlt x (List.mem_append_left _ hx)) hA
  · rw [he, hs]
    rfl
end

theorem Pure.weak {P : Program} {f : FuncId} {args : List V} {r r' : V} (h : Pure P f args r) (hr : ∀ (E : Ext) (v : Value), r.Is E [] v → r'.Is E [] v) : Pure P f args r' :=
  ⟨h.enters, fun w E vs hi ha => (h.run w E vs hi ha).mono fun e w' hq => by
    obtain ⟨v, E', h1, h2, h3, h4, h5, h6⟩ := hq
    exact ⟨v, E', h1, h2, h3, h4, h5, hr _ _ h6⟩⟩
theorem emp_sl {E : Ext} {L : List Loc} {v : Value} (h : V.emp.Is E L v) : (V.sl []).Is E L v := by
  unfold V.Is at *
  obtain ⟨A, rfl⟩ := h
  exact ⟨A, 0, rfl, Nat.le_refl _, .inl rfl⟩
theorem tup_fst {E : Ext} {x x' : V} {xs : List V} {v : Value} (h : (V.tup (x :: xs)).Is E [] v) (hx : ∀ u, x.Is E [] u → x'.Is E [] u) : (V.tup (x' :: xs)).Is E [] v := by
  rw [V.Is] at h ⊢
  obtain ⟨vs, rfl, h⟩ := h
  rw [IsAll] at h
  obtain ⟨u, r, rfl, hu, hr⟩ := h
  refine ⟨_, rfl, ?_⟩
  rw [IsAll]
  exact ⟨u, r, rfl, hx u hu, hr⟩

/-! ### readers -/
/-- Cells of type t that read are those of some a. -/
structure Rd (P : Program) (t : TypeId) {α : Type} (e : α → List V) (ok : α → Prop) : Prop where
  rd : ∀ {H : Type} (enc : TypeId × Value → H) (w : World) (held : Bool) (fuel : Nat) (cs : List Value) (x : DataW H × List MemPlace),
    DataW.trod enc P w 0 (fun _ => true) held fuel t cs = some x → ∃ a, ok a ∧ IsOnes (worldE w) [] (e a) cs
theorem isOnes_mk {E : Ext} {x : V} {v : Value} (h1 : x.one = true) (h : x.Is E [] v) : IsOnes E [] [x] [v] := by
  unfold IsOnes IsOnes
  exact ⟨v, [], rfl, h1, h, rfl⟩
theorem rd_bool {P : Program} {t : TypeId} (ht : P.underlying t = some .bool) : Rd P t (fun b : Bool => [.bool b]) (fun _ => True) := by
  refine ⟨?_⟩
  intro H enc w held fuel cs x h
  obtain ⟨b, rfl, _⟩ := DataW.trod_bool ht h
  exact ⟨b, trivial, isOnes_mk rfl (by unfold V.Is; rfl)⟩
def inKind (k : IntKind) (n : Int) : Prop := k.min ≤ n ∧ n ≤ k.max
theorem rd_int {P : Program} {t : TypeId} {k : IntKind} (ht : P.underlying t = some (.int k)) : Rd P t (fun n : Int => [.int k n]) (inKind k) := by
  refine ⟨?_⟩
  intro H enc w held fuel cs x h
  obtain ⟨n, rfl, _, hw⟩ := DataW.trod_int ht h
  refine ⟨n, ?_, isOnes_mk rfl (by unfold V.Is; rfl)⟩
  simpa [Lit.wf, inKind] using hw
theorem rd_str {P : Program} {t : TypeId} (ht : P.underlying t = some .string) : Rd P t (fun s : ByteArray => [.str s]) (fun s => s.size ≤ maxLen) := by
  refine ⟨?_⟩
  intro H enc w held fuel cs x h
  obtain ⟨s, rfl, _, hw⟩ := DataW.trod_string ht h
  exact ⟨s, hw, isOnes_mk rfl (by unfold V.Is; rfl)⟩
theorem isOnes_count {E : Ext} {L : List Loc} : ∀ {xs : List V} {vs : List Value}, IsOnes E L xs vs → vs.length = xs.length
  | [], vs, h => by unfold IsOnes at h; subst h; rfl
  | x :: xs, vs, h => by
    unfold IsOnes at h
    obtain ⟨v, r, rfl, _, _, h⟩ := h
    simp [isOnes_count h]
theorem cellsAt_mk {E : Ext} {b : Nat} : ∀ {o : Nat} {xs : List V} {vs : List Value}, IsOnes E [] xs vs → (∀ i, i < vs.length → E.cell b (o + i) = vs[i]?) → CellsAt E b o xs
  | _, [], _, _, _ => by unfold CellsAt; trivial
  | o, x :: xs, vs, h, hc => by
    unfold IsOnes at h
    obtain ⟨v, r, rfl, h1, hv, h⟩ := h
    unfold CellsAt
    refine ⟨h1, ⟨v, by simpa using hc 0 (by simp), hv⟩, cellsAt_mk h fun i hi => ?_⟩
    have := hc (i + 1) (by simpa using hi)
    rw [show o + 1 + i = o + (i + 1) by omega, this]
    rfl
theorem add_off (a : Addr) (n : Nat) : (a.add n).block = a.block ∧ (a.add n).off = a.off + n := by
  unfold Addr.add
  split <;> simp_all
theorem rowsAt_mk {E : Ext} {b sz : Nat} : ∀ {o : Nat} {rows : List (List V)}, (∀ i r, rows[i]? = some r → r.length = sz ∧ CellsAt E b (o + i * sz) r) → RowsAt E b sz o rows
  | _, [], _ => by unfold RowsAt; trivial
  | o, r :: rs, h => by
    unfold RowsAt
    obtain ⟨h1, h2⟩ := h 0 r rfl
    refine ⟨h1, by simpa using h2, rowsAt_mk fun i x hx => ?_⟩
    have := h (i + 1) x hx
    rw [show o + sz + i * sz = o + (i + 1) * sz by rw [Nat.add_mul]; omega]
    exact this
theorem choose_list {α β : Type} {p : Nat → α → Prop} : ∀ (n : Nat), (∀ i, i < n → ∃ a, p i a) → ∃ l : List α, l.length = n ∧ ∀ i a, l[i]? = some a → p i a
  | 0, _ => ⟨[], rfl, fun i a h => by simp at h⟩
  | n + 1, h => by
    obtain ⟨l, h1, h2⟩ := choose_list (β := β) n (fun i hi => h i (by omega))
    obtain ⟨a, ha⟩ := h n (by omega)
    refine ⟨l ++ [a], by simp [h1], fun i x hx => ?_⟩
    rcases Nat.lt_or_ge i n with hi | hi
    · rw [List.getElem?_append_left (by omega)] at hx
      exact h2 i x hx
    · rw [List.getElem?_append_right (by omega)] at hx
      have : i = n := by
        have := (List.getElem?_eq_some_iff.1 hx).1
        simp at this
        omega
      subst this
      simp [h1] at hx
      subst hx
      exact ha
theorem rd_slice {P : Program} {t u : TypeId} {α : Type} {e : α → List V} {ok : α → Prop} (ht : P.underlying t = some (.slice u)) (he : Rd P u e ok) (hn : ∀ a, (e a).length = P.cellsOf u) (hz : 0 < P.cellsOf u) :
    Rd P t (fun l : List α => [.sl (l.map e)]) (fun l => l.length ≤ maxLen ∧ ∀ a ∈ l, ok a) := by
  refine ⟨?_⟩
  intro H enc w held fuel cs x h
  rcases DataW.trod_slice ht h with ⟨rfl, _⟩ | ⟨a, len, cap, elems, rest, n, _, rfl, _, _, hl, hm, hlen, hel, _⟩
  · refine ⟨[], ⟨Nat.zero_le _, fun a h => by cases h⟩, isOnes_mk rfl ?_⟩
    unfold V.Is
    exact ⟨none, 0, rfl, Nat.le_refl _, .inl rfl⟩
  · have each : ∀ i, i < len → ∃ z, ok z ∧ CellsAt (worldE w) a.block (a.off + i * P.cellsOf u) (e z) ∧ (0 < len → a.spot = none) := by
      intro i hi
      have hq := hel i hi
      have hi2 : i < elems.length := by omega
      rw [List.getElem?_eq_getElem hi2] at hq
      cases hc : w.cells? 0 (a.add (i * P.cellsOf u)) (P.cellsOf u) with
      | none => rw [hc] at hq; cases hq
      | some cs =>
        rw [hc] at hq
        obtain ⟨z, hz1, hz2⟩ := he.rd enc w held n cs _ hq
        obtain ⟨_, hcl, hcc⟩ := World.cells?_some hc
        refine ⟨z, hz1, cellsAt_mk hz2 fun j hj => ?_, fun _ => ?_⟩
        · have h1 := hcc j (by omega)
          have h2 : cs[j]? = some cs[j] := List.getElem?_eq_getElem hj
          rw [h2] at h1 ⊢
          have h3 := (worldE_cell h1).2
          rw [(add_off _ _).1, (add_off _ _).1, (add_off _ _).2, (add_off _ _).2] at h3
          exact h3
        · have h0 := hel 0 (by omega)
          rw [List.getElem?_eq_getElem (show 0 < elems.length by omega)] at h0
          cases hc0 : w.cells? 0 (a.add (0 * P.cellsOf u)) (P.cellsOf u) with
          | none => rw [hc0] at h0; cases h0
          | some cs0 =>
            obtain ⟨_, hcl0, hcc0⟩ := World.cells?_some hc0
            have h1 := hcc0 0 hz
            have h2 : cs0[0]? = some cs0[0] := List.getElem?_eq_getElem (by omega)
            rw [h2] at h1
            have h3 := (worldE_cell h1).1
            simpa [Addr.add] using h3
    obtain ⟨l, hll, hlp⟩ := choose_list (β := Unit) len each
    refine ⟨l, ⟨by omega, fun a ha => ?_⟩, isOnes_mk rfl ?_⟩
    · obtain ⟨i, hi⟩ := List.getElem?_of_mem ha
      exact (hlp i a hi).1
    · unfold V.Is
      refine ⟨some a, cap, by simp [hll], by simp [hll, hl], ?_⟩
      cases l with
      | nil => exact .inl rfl
      | cons z r =>
        right
        have hs := (hlp 0 z rfl).2.2 (by simp at hll; omega)
        refine ⟨a.block, a.off, P.cellsOf u, by cases a; simp_all, rowsAt_mk fun i row hr => ?_⟩
        rw [List.getElem?_map] at hr
        cases hq : (z :: r)[i]? with
        | none => rw [hq] at hr; cases hr
        | some y =>
          rw [hq] at hr
          injection hr with hr
          subst hr
          exact ⟨hn y, (hlp i y hq).2.1⟩

/-- The fields from a place on. -/
structure RdF (P : Program) (off : Nat) (fs : List Field) {α : Type} (e : α → List V) (ok : α → Prop) (n : Nat) : Prop where
  rd : ∀ {H : Type} (enc : TypeId × Value → H) (w : World) (held : Bool) (fuel : Nat) (cs : List Value), cs.length = off + n →
    (∀ f ∈ fs, ∃ x, DataW.trod enc P w 0 (fun _ => true) held fuel f.type ((cs.drop f.offset).take (P.cellsOf f.type)) = some x) → ∃ a, ok a ∧ IsOnes (worldE w) [] (e a) (cs.drop off)
theorem rdf_nil {P : Program} {off : Nat} : RdF P off [] (fun _ : Unit => []) (fun _ => True) 0 := by
  refine ⟨?_⟩
  intro H enc w held fuel cs hl _
  refine ⟨(), trivial, ?_⟩
  unfold IsOnes
  exact List.drop_eq_nil_of_le (by omega)
theorem ones_append {E : Ext} {L : List Loc} : ∀ {xs ys : List V} {us vs : List Value}, IsOnes E L xs us → IsOnes E L ys vs → IsOnes E L (xs ++ ys) (us ++ vs)
  | [], _, us, _, h, k => by
    unfold IsOnes at h
    subst h
    exact k
  | x :: xs, _, us, _, h, k => by
    unfold IsOnes at h
    obtain ⟨v, r, rfl, h1, hv, h⟩ := h
    show IsOnes E L (x :: (xs ++ _)) _
    unfold IsOnes
    exact ⟨v, _, rfl, h1, hv, ones_append h k⟩
theorem rdf_cons {P : Program} {off k n : Nat} {f : Field} {fs : List Field} {α β : Type} {e1 : α → List V} {ok1 : α → Prop} {e2 : β → List V} {ok2 : β → Prop}
    (hf : f.offset = off) (h1 : Rd P f.type e1 ok1) (hk : P.cellsOf f.type = k) (h2 : RdF P (off + k) fs e2 ok2 n) :
    RdF P off (f :: fs) (fun p : α × β => e1 p.1 ++ e2 p.2) (fun p => ok1 p.1 ∧ ok2 p.2) (k + n) := by
  refine ⟨?_⟩
  intro H enc w held fuel cs hl hx
  obtain ⟨x, hx1⟩ := hx f (List.mem_cons_self ..)
  obtain ⟨a, ha, hia⟩ := h1.rd enc w held fuel _ x hx1
  obtain ⟨b, hb, hib⟩ := h2.rd enc w held fuel cs (by omega) (fun g hg => hx g (List.mem_cons_of_mem _ hg))
  refine ⟨(a, b), ⟨ha, hb⟩, ?_⟩
  rw [hf, hk] at hia
  have : cs.drop off = (cs.drop off).take k ++ cs.drop (off + k) := by rw [← List.drop_drop, List.take_append_drop]
  rw [this]
  exact ones_append hia hib
theorem rd_struct {P : Program} {t : TypeId} {fs : Array Field} {α : Type} {e : α → List V} {ok : α → Prop} {n : Nat} (ht : P.underlying t = some (.struct fs)) (hn : P.cellsOf t = n) (h : RdF P 0 fs.toList e ok n) : Rd P t e ok := by
  refine ⟨?_⟩
  intro H enc w held fuel cs x hx
  obtain ⟨xs, m, rfl, _, hl, hs, hf⟩ := DataW.trod_struct ht hx
  obtain ⟨a, ha, hi⟩ := h.rd enc w held m cs (by omega) (fun f hm => by
    obtain ⟨i, hi⟩ := List.getElem?_of_mem hm
    have h1 : fs[i]? = some f := by rw [← Array.getElem?_toList]; exact hi
    have h2 := hf i f h1
    have h3 : i < xs.length := by rw [hs]; exact (Array.getElem?_eq_some_iff.1 h1).1
    rw [List.getElem?_eq_getElem h3] at h2
    exact ⟨_, h2⟩)
  exact ⟨a, ha, by simpa using hi⟩
theorem rd_to {P : Program} {t : TypeId} {α β : Type} {e : α → List V} {ok : α → Prop} {e' : β → List V} {ok' : β → Prop} (h : Rd P t e ok) (g : α → β) (he : ∀ a, e' (g a) = e a) (hok : ∀ a, ok a → ok' (g a)) : Rd P t e' ok' := by
  refine ⟨?_⟩
  intro H enc w held fuel cs x hx
  obtain ⟨a, ha, hi⟩ := h.rd enc w held fuel cs x hx
  exact ⟨g a, hok a ha, by rw [he]; exact hi⟩

/-! ### arguments -/
section
variable {H : Type} {enc : TypeId × Value → H} {P : Program} {W : World} {r : Reach} {b0 : Nat} {t : TypeId} {v : Value} {d : DataW H} {ps : List MemPlace}
theorem ones_is {E : Ext} {x : V} {v : Value} (h : IsOnes E [] [x] [v]) : x.Is E [] v := by
  unfold IsOnes at h
  obtain ⟨u, r, e, _, h, _⟩ := h
  injection e with e
  subst e
  exact h
theorem arg_int {k : IntKind} (ht : P.underlying t = some (.int k)) (hv : Value.okWide P W r b0 t v) (hd : DataW.Trod enc P W 0 (fun _ => true) true t v d ps) : ∃ n, inKind k n ∧ (V.int k n).Is (worldE W) [] v := by
  obtain ⟨n, rfl⟩ := okWide_int ht hv
  obtain ⟨fuel, hf⟩ := hd
  obtain ⟨a, ha, hi⟩ := (rd_int ht).rd enc W true fuel _ _ hf
  exact ⟨a, ha, ones_is hi⟩
theorem arg_bool (ht : P.underlying t = some .bool) (hv : Value.okWide P W r b0 t v) (hd : DataW.Trod enc P W 0 (fun _ => true) true t v d ps) : ∃ b, (V.bool b).Is (worldE W) [] v := by
  obtain ⟨n, rfl⟩ := okWide_bool ht hv
  obtain ⟨fuel, hf⟩ := hd
  obtain ⟨a, ha, hi⟩ := (rd_bool ht).rd enc W true fuel _ _ hf
  exact ⟨a, ones_is hi⟩
theorem arg_slice {e : TypeId} {α : Type} {en : α → List V} {ok : α → Prop} (ht : P.underlying t = some (.slice e)) (he : Rd P e en ok) (hn : ∀ a, (en a).length = P.cellsOf e) (hz : 0 < P.cellsOf e)
    (hv : Value.okWide P W r b0 t v) (hd : DataW.Trod enc P W 0 (fun _ => true) true t v d ps) : ∃ l : List α, (l.length ≤ maxLen ∧ ∀ a ∈ l, ok a) ∧ (V.sl (l.map en)).Is (worldE W) [] v := by
  obtain ⟨a, len, cap, rfl⟩ := okWide_slice ht hv
  obtain ⟨fuel, hf⟩ := hd
  obtain ⟨l, hl, hi⟩ := (rd_slice ht he hn hz).rd enc W true fuel _ _ hf
  exact ⟨l, hl, ones_is hi⟩
theorem arg_struct {fs : Array Field} {α : Type} {en : α → List V} {ok : α → Prop} (ht : P.underlying t = some (.struct fs)) (he : Rd P t en ok)
    (hv : Value.okWide P W r b0 t v) (hd : DataW.Trod enc P W 0 (fun _ => true) true t v d ps) : ∃ a : α, ok a ∧ (V.agg (en a)).Is (worldE W) [] v := by
  simp only [Value.okWide, ht] at hv
  obtain ⟨cs, rfl, _⟩ := hv
  obtain ⟨fuel, hf⟩ := hd
  obtain ⟨a, ha, hi⟩ := he.rd enc W true fuel _ _ hf
  refine ⟨a, ha, ?_⟩
  unfold V.Is
  exact ⟨cs.toList, by simp, by simpa [Value.cells] using hi⟩
theorem all_nil {E : Ext} : IsAll E [] [] [] := by unfold IsAll; rfl
theorem all_cons {E : Ext} {x : V} {xs : List V} {v : Value} {vs : List Value} (h : x.Is E [] v) (hs : IsAll E [] xs vs) : IsAll E [] (x :: xs) (v :: vs) := by
  unfold IsAll
  exact ⟨v, vs, rfl, h, hs⟩
end
end Go.K
