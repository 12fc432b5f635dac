import Derived.Test.YtbibplkhhdomnaaGreatW01
set_option linter.all false
namespace Go.K
open Go Go.RowKit
theorem wp_of_run {P : Program} {o : Oper} {a : Act} {w w' : World} {v : Value} {next : Act → World → Prop} {Q : Exit → Act → World → Prop}
    (h : (execOp a.eval o).run P w = .ok (.value v) w') (k : next (a.put o.dst v) w') : o.wp P a w next Q := by
  simp only [Oper.wp, h, Oper.upon_value]; exact k
theorem wp_of_skip {P : Program} {o : Oper} {a : Act} {w w' : World} {next : Act → World → Prop} {Q : Exit → Act → World → Prop}
    (h : (execOp a.eval o).run P w = .ok .skip w') (k : next (a.put o.dst undef) w') : o.wp P a w next Q := by
  simp only [Oper.wp, h, Oper.upon_skip]; exact k
section
variable {P : Program} {t : TypeId} {i : TI}
theorem TI.Facts.got (F : i.Facts P t) : ∃ x d z, P.info? t = some x ∧ P.underlying t = some d ∧ x.zero = some z ∧ z.cells.toList = i.zero ∧ x.size = i.sz ∧ x.bytes = i.bytes ∧ sumOf d = (i.kind, i.flds, i.el, i.len, i.int) := by
  have h1 := F.info; have h2 := F.und
  cases hx : P.info? t with
  | none => rw [hx] at h1; cases h1
  | some x =>
    cases hd : P.underlying t with
    | none => rw [hd] at h2; cases h2
    | some d =>
      rw [hx] at h1; rw [hd] at h2
      simp only [Option.map_some, Option.some.injEq, Prod.mk.injEq] at h1 h2
      obtain ⟨ha, hb, hc⟩ := h1
      cases hz : x.zero with
      | none => rw [hz] at ha; cases ha
      | some z =>
        rw [hz] at ha
        simp only [Option.map_some, Option.some.injEq] at ha
        exact ⟨x, d, z, rfl, rfl, hz, ha, hb, hc, h2⟩
theorem run_isAgg' (F : i.Facts P t) (w : World) : (isAgg t).run P w = .ok i.isAgg w := by
  obtain ⟨x, d, z, hx, hd, hz, hzc, hsz, hb, hs⟩ := F.got
  unfold isAgg
  simp only [Sem.run_bind, run_underlying hd, Result.andThen_ok]
  have hk : sumOf d = (i.kind, i.flds, i.el, i.len, i.int) := hs
  cases d <;> simp only [sumOf, Prod.mk.injEq] at hk <;> obtain ⟨hk, _⟩ := hk <;> simp [TI.isAgg, ← hk]
theorem run_sizeOf' (F : i.Facts P t) (w : World) : (sizeOf t).run P w = .ok i.sz w := by
  obtain ⟨x, d, z, hx, hd, hz, hzc, hsz, hb, hs⟩ := F.got
  simp [sizeOf, typeInfo, hx, hsz]
theorem run_zeroValue' (F : i.Facts P t) (w : World) : ∃ z, (zeroValue t).run P w = .ok z w ∧ z.cells.toList = i.zero := by
  obtain ⟨x, d, z, hx, hd, hz, hzc, hsz, hb, hs⟩ := F.got
  exact ⟨z, by simp [zeroValue, typeInfo, hx, hz], hzc⟩
theorem und_struct (F : i.Facts P t) (h : i.kind = 1) : ∃ fs, P.underlying t = some (.struct fs) ∧ i.flds = fs.toList.map (fun f => (f.offset, f.type)) := by
  obtain ⟨x, d, z, hx, hd, hz, hzc, hsz, hb, hs⟩ := F.got
  cases d <;> simp only [sumOf, Prod.mk.injEq] at hs <;> obtain ⟨hk, hf, _⟩ := hs <;> simp [h] at hk
  exact ⟨_, hd, hf.symm⟩
theorem und_array (F : i.Facts P t) (h : i.kind = 2) : P.underlying t = some (.array i.len i.el) := by
  obtain ⟨x, d, z, hx, hd, hz, hzc, hsz, hb, hs⟩ := F.got
  cases d <;> simp only [sumOf, Prod.mk.injEq] at hs <;> obtain ⟨hk, hf, he, hl, _⟩ := hs <;> simp [h] at hk
  rw [hd, ← he, ← hl]
theorem und_slice (F : i.Facts P t) (h : i.kind = 3) : P.underlying t = some (.slice i.el) := by
  obtain ⟨x, d, z, hx, hd, hz, hzc, hsz, hb, hs⟩ := F.got
  cases d <;> simp only [sumOf, Prod.mk.injEq] at hs <;> obtain ⟨hk, hf, he, hl, _⟩ := hs <;> simp [h] at hk
  rw [hd, ← he]
theorem und_ptr (F : i.Facts P t) (h : i.kind = 4) : P.underlying t = some (.pointer i.el) := by
  obtain ⟨x, d, z, hx, hd, hz, hzc, hsz, hb, hs⟩ := F.got
  cases d <;> simp only [sumOf, Prod.mk.injEq] at hs <;> obtain ⟨hk, hf, he, hl, _⟩ := hs <;> simp [h] at hk
  rw [hd, ← he]
theorem und_bool (F : i.Facts P t) (h : i.kind = 5) : P.underlying t = some .bool := by
  obtain ⟨x, d, z, hx, hd, hz, hzc, hsz, hb, hs⟩ := F.got
  cases d <;> simp only [sumOf, Prod.mk.injEq] at hs <;> obtain ⟨hk, hf, he, hl, _⟩ := hs <;> simp [h] at hk
  exact hd
theorem und_string (F : i.Facts P t) (h : i.kind = 7) : P.underlying t = some .string := by
  obtain ⟨x, d, z, hx, hd, hz, hzc, hsz, hb, hs⟩ := F.got
  cases d <;> simp only [sumOf, Prod.mk.injEq] at hs <;> obtain ⟨hk, hf, he, hl, _⟩ := hs <;> simp [h] at hk
  exact hd
theorem und_int (F : i.Facts P t) {k : IntKind} (h : i.int = some k) : P.underlying t = some (.int k) := by
  obtain ⟨x, d, z, hx, hd, hz, hzc, hsz, hb, hs⟩ := F.got
  cases d <;> simp only [sumOf, Prod.mk.injEq] at hs <;> obtain ⟨hk, hf, he, hl, hi⟩ := hs <;> simp [h] at hi
  rw [hd, hi]
theorem und_any (F : i.Facts P t) : ∃ d, P.underlying t = some d := by
  obtain ⟨x, d, z, hx, hd, _⟩ := F.got
  exact ⟨d, hd⟩
end
section
variable {E : Ext} {L : List Loc}
theorem isAll_get : ∀ {xs : List V} {vs : List Value} {k : Nat} {x : V}, IsAll E L xs vs → xs[k]? = some x → ∃ v, vs[k]? = some v ∧ x.Is E L v
  | [], _, _, _, _, h => by simp at h
  | y :: ys, vs, k, x, hh, h => by
    unfold IsAll at hh
    obtain ⟨v, r, rfl, h1, h2⟩ := hh
    cases k with
    | zero => simp only [List.getElem?_cons_zero, Option.some.injEq] at h; subst h; exact ⟨v, by simp, h1⟩
    | succ k =>
      simp only [List.getElem?_cons_succ] at h
      obtain ⟨u, hu, hi⟩ := isAll_get h2 h
      exact ⟨u, by simpa using hu, hi⟩
theorem isAll_len : ∀ {xs : List V} {vs : List Value}, IsAll E L xs vs → vs.length = xs.length
  | [], _, h => by unfold IsAll at h; subst h; rfl
  | x :: xs, vs, h => by unfold IsAll at h; obtain ⟨v, r, rfl, _, h2⟩ := h; simp [isAll_len h2]
theorem isAll_append : ∀ {xs ys : List V} {vs us : List Value}, IsAll E L xs vs → IsAll E L ys us → IsAll E L (xs ++ ys) (vs ++ us)
  | [], _, vs, us, h, k => by unfold IsAll at h; subst h; exact k
  | x :: xs, ys, vs, us, h, k => by
    unfold IsAll at h
    obtain ⟨v, r, rfl, hv, hr⟩ := h
    show IsAll E L (x :: (xs ++ ys)) (v :: (r ++ us))
    unfold IsAll
    exact ⟨v, r ++ us, rfl, hv, isAll_append hr k⟩
theorem isOnes_len : ∀ {xs : List V} {vs : List Value}, IsOnes E L xs vs → vs.length = xs.length
  | [], _, h => by unfold IsOnes at h; subst h; rfl
  | x :: xs, vs, h => by unfold IsOnes at h; obtain ⟨v, r, rfl, _, _, h2⟩ := h; simp [isOnes_len h2]
theorem isOnes_get : ∀ {xs : List V} {vs : List Value} {k : Nat} {x : V}, IsOnes E L xs vs → xs[k]? = some x → ∃ v, vs[k]? = some v ∧ x.one = true ∧ x.Is E L v
  | [], _, _, _, _, h => by simp at h
  | y :: ys, vs, k, x, hh, h => by
    unfold IsOnes at hh
    obtain ⟨v, r, rfl, h0, h1, h2⟩ := hh
    cases k with
    | zero => simp only [List.getElem?_cons_zero, Option.some.injEq] at h; subst h; exact ⟨v, by simp, h0, h1⟩
    | succ k =>
      simp only [List.getElem?_cons_succ] at h
      obtain ⟨u, hu, hi⟩ := isOnes_get h2 h
      exact ⟨u, by simpa using hu, hi⟩
theorem isOnes_of : ∀ {xs : List V} {vs : List Value}, vs.length = xs.length → (∀ (k : Nat) (x : V) (v : Value), xs[k]? = some x → vs[k]? = some v → x.one = true ∧ x.Is E L v) → IsOnes E L xs vs
  | [], vs, h, _ => by unfold IsOnes; exact List.eq_nil_of_length_eq_zero h
  | x :: xs, [], h, _ => by simp at h
  | x :: xs, v :: vs, h, k => by
    unfold IsOnes
    obtain ⟨h1, h2⟩ := k 0 x v rfl rfl
    exact ⟨v, vs, rfl, h1, h2, isOnes_of (by simpa using h) fun j y u hy hu => k (j + 1) y u hy hu⟩
theorem isOnes_one {xs : List V} {vs : List Value} (h : IsOnes E L xs vs) : ∀ v ∈ vs, v.oneCell' = true := by
  intro v hv
  obtain ⟨k, hk, rfl⟩ := List.mem_iff_getElem.1 hv
  have hk' : k < xs.length := by rw [← isOnes_len h]; exact hk
  obtain ⟨u, hu, h1, h2⟩ := isOnes_get h (List.getElem?_eq_getElem hk')
  rw [List.getElem?_eq_getElem hk] at hu
  injection hu with hu; subst hu
  exact h2.one h1
theorem isOnes_sub {xs : List V} {vs : List Value} (h : IsOnes E L xs vs) (off n : Nat) : IsOnes E L ((xs.drop off).take n) ((vs.drop off).take n) := by
  refine isOnes_of (by simp [isOnes_len h]) fun k x v hx hv => ?_
  rw [List.getElem?_take] at hx hv
  split at hx
  · rename_i hlt
    rw [if_pos hlt] at hv
    rw [List.getElem?_drop] at hx hv
    obtain ⟨u, hu, h1, h2⟩ := isOnes_get h hx
    rw [hu] at hv; injection hv with hv; subst hv
    exact ⟨h1, h2⟩
  · cases hx
theorem cellsAt_get {b : Nat} : ∀ {xs : List V} {o j : Nat} {c : V}, CellsAt E b o xs → xs[j]? = some c → c.one = true ∧ ∃ x, E.cell b (o + j) = some x ∧ c.Is E [] x
  | [], _, _, _, _, h => by simp at h
  | y :: ys, o, 0, c, h, hj => by
    unfold CellsAt at h
    simp only [List.getElem?_cons_zero, Option.some.injEq] at hj
    subst hj
    exact ⟨h.1, h.2.1⟩
  | y :: ys, o, j + 1, c, h, hj => by
    unfold CellsAt at h
    simp only [List.getElem?_cons_succ] at hj
    obtain ⟨h1, h2⟩ := cellsAt_get h.2.2 hj
    refine ⟨h1, ?_⟩
    rw [show o + (j + 1) = o + 1 + j by omega]; exact h2
theorem cellsAt_of {b : Nat} : ∀ {xs : List V} {o : Nat}, (∀ (j : Nat) (c : V), xs[j]? = some c → c.one = true ∧ ∃ x, E.cell b (o + j) = some x ∧ c.Is E [] x) → CellsAt E b o xs
  | [], _, _ => by unfold CellsAt; trivial
  | y :: ys, o, h => by
    unfold CellsAt
    obtain ⟨h1, h2⟩ := h 0 y rfl
    exact ⟨h1, h2, cellsAt_of fun j c hc => by
      have := h (j + 1) c hc
      rwa [show o + (j + 1) = o + 1 + j by omega] at this⟩
theorem rowsAt_get {b sz : Nat} : ∀ {rows : List (List V)} {o k : Nat} {row : List V}, RowsAt E b sz o rows → rows[k]? = some row → row.length = sz ∧ CellsAt E b (o + k * sz) row
  | [], _, _, _, _, h => by simp at h
  | r :: rs, o, 0, row, h, hk => by
    unfold RowsAt at h
    simp only [List.getElem?_cons_zero, Option.some.injEq] at hk
    subst hk
    exact ⟨h.1, by simpa using h.2.1⟩
  | r :: rs, o, k + 1, row, h, hk => by
    unfold RowsAt at h
    simp only [List.getElem?_cons_succ] at hk
    obtain ⟨h1, h2⟩ := rowsAt_get h.2.2 hk
    refine ⟨h1, ?_⟩
    rw [show o + (k + 1) * sz = o + sz + k * sz by rw [Nat.succ_mul]; omega]; exact h2
theorem rowsAt_of {b sz : Nat} : ∀ {rows : List (List V)} {o : Nat}, (∀ (k : Nat) (row : List V), rows[k]? = some row → row.length = sz ∧ CellsAt E b (o + k * sz) row) → RowsAt E b sz o rows
  | [], _, _ => by unfold RowsAt; trivial
  | r :: rs, o, h => by
    unfold RowsAt
    obtain ⟨h1, h2⟩ := h 0 r rfl
    exact ⟨h1, by simpa using h2, rowsAt_of fun k row hk => by
      have := h (k + 1) row hk
      rwa [show o + (k + 1) * sz = o + sz + k * sz by rw [Nat.succ_mul]; omega] at this⟩
theorem RowsAt.sub {b sz o : Nat} {rows : List (List V)} (h : RowsAt E b sz o rows) (lo n : Nat) : RowsAt E b sz (o + lo * sz) ((rows.drop lo).take n) := by
  refine rowsAt_of fun k row hk => ?_
  rw [List.getElem?_take] at hk
  split at hk
  · rw [List.getElem?_drop] at hk
    obtain ⟨h1, h2⟩ := rowsAt_get h hk
    refine ⟨h1, ?_⟩
    rwa [Nat.add_mul, ← Nat.add_assoc] at h2
  · cases hk
theorem is_nil {x : V} {v : Value} (h : x.Is E [] v) : x.Is E L v := h.mono E.le_refl (Locs.nil_to L)
theorem choose_cells {cell : Nat → Option Value} : ∀ {cs : List V} {o : Nat}, (∀ (j : Nat) (c : V), cs[j]? = some c → c.one = true ∧ ∃ x, cell (o + j) = some x ∧ c.Is E L x) →
    ∃ us : List Value, IsOnes E L cs us ∧ ∀ (j : Nat) (u : Value), us[j]? = some u → cell (o + j) = some u
  | [], o, _ => ⟨[], by unfold IsOnes; rfl, by simp⟩
  | c :: cs, o, h => by
    obtain ⟨h1, x, h2, h3⟩ := h 0 c rfl
    obtain ⟨us, k1, k2⟩ := choose_cells (cs := cs) (o := o + 1) fun j d hd => by
      have := h (j + 1) d hd
      rwa [show o + (j + 1) = o + 1 + j by omega] at this
    refine ⟨x :: us, by unfold IsOnes; exact ⟨x, us, rfl, h1, h3, k1⟩, fun j u hu => ?_⟩
    cases j with
    | zero => simp only [List.getElem?_cons_zero, Option.some.injEq] at hu; subst hu; exact h2
    | succ j =>
      simp only [List.getElem?_cons_succ] at hu
      rw [show o + (j + 1) = o + 1 + j by omega]; exact k2 j u hu
theorem mk_is {agg : Bool} {cs : List V} {us : List Value} (h : IsOnes E L cs us) (hl : agg = true ∨ cs.length = 1) :
    (V.mk agg cs).Is E L (if agg = true then .agg us.toArray else us.getD 0 undef) := by
  cases agg with
  | true => simp only [V.mk, if_true]; unfold V.Is; exact ⟨us, rfl, h⟩
  | false =>
    have h1 : cs.length = 1 := hl.resolve_left (by simp)
    match cs, h1 with
    | [x], _ =>
      unfold IsOnes at h
      obtain ⟨v, r, rfl, _, hx, hr⟩ := h
      simp only [V.mk, Bool.false_eq_true, if_false, List.getD_cons_zero]
      exact hx
end
theorem run_loadVar_list {P : Program} {t : TypeId} {i : TI} (F : i.Facts P t) (w : World) (b o : Nat) (xs : List Value) (hl : xs.length = i.sz)
    (hc : ∀ (j : Nat) (v : Value), xs[j]? = some v → w.cell? ⟨b, o + j, none⟩ = some v) (hag : i.isAgg = true ∨ i.sz = 1) :
    (loadVar t ⟨b, o, none⟩).run P w = .ok (if i.isAgg = true then .agg xs.toArray else xs.getD 0 undef) w := by
  unfold loadVar
  simp only [Sem.run_bind, run_isAgg' F, Result.andThen_ok, Sem.run_ite]
  by_cases h : i.isAgg = true
  · simp only [h, if_true, run_sizeOf' F, Result.andThen_ok]
    rw [← hl, run_loadCells_list (P := P) w ⟨b, o, none⟩ xs (fun j v hv => by rw [Addr.add_lit]; exact hc j v hv)]
    simp
  · simp only [h]
    have h1 : i.sz = 1 := hag.resolve_left h
    match xs, hl with
    | [x], _ =>
      have := hc 0 x rfl
      simp only [Nat.add_zero] at this
      simp [this]
    | [], hl => rw [h1] at hl; simp at hl
    | _ :: _ :: _, hl => rw [h1] at hl; simp at hl
theorem OwnRows.mono {E E' : Ext} {L L' : List Loc} {cur : Array Value} {sz : Nat} {rows : List (List V)} (hE : E.le E') (hL : Locs.to L L') (h : OwnRows E L cur sz rows) : OwnRows E' L' cur sz rows := by
  intro k row hk
  obtain ⟨h1, h2⟩ := h k row hk
  refine ⟨h1, fun j c hj => ?_⟩
  obtain ⟨h3, x, h4, h5⟩ := h2 j c hj
  exact ⟨h3, x, h4, h5.mono hE hL⟩
theorem Own.Ok.keep {B : Nat} {E E' : Ext} {L L' : List Loc} {w w' : World} {o : Own} {l : Loc} (h : o.Ok B E L w l) (hE : E.le E') (hL : Locs.to L L')
    (hk : ∀ g, o.at? l = some g → w'.heap[g]? = w.heap[g]? ∧ (E g = none → E' g = none)) : o.Ok B E' L' w' l := by
  cases o with
  | free => exact h
  | gone => exact h
  | blk ty ver sz rows =>
    cases l with
    | free => exact h
    | nil v => exact h
    | lies v g sz' cap =>
      obtain ⟨h1, h2, h3, h4, h5, h6, h7, h8, cur, h9, h10, h11⟩ := h
      obtain ⟨k1, k2⟩ := hk g rfl
      exact ⟨h1, h2, h3, h4, k2 h5, h6, h7, h8, cur, k1.trans h9, h10, h11.mono hE hL⟩
  | froz ty ver sz rows =>
    cases l with
    | free => exact h
    | nil v => exact h
    | lies v g sz' cap =>
      obtain ⟨h1, h2, h3, h4⟩ := h
      exact ⟨h1, h2, h3, h4.mono hE⟩
  | mp φ =>
    cases l with
    | free => exact h
    | nil v => exact h
    | lies v g sz' cap =>
      obtain ⟨h1, h2, h3, es, clk, h4, h5⟩ := h
      obtain ⟨k1, k2⟩ := hk g rfl
      exact ⟨h1, h2, k2 h3, es, clk, k1.trans h4, h5⟩
theorem Own.Ok.lt {B : Nat} {E : Ext} {L : List Loc} {w : World} {o : Own} {l : Loc} (h : o.Ok B E L w l) : ∀ g, o.at? l = some g → B ≤ g ∧ g < w.heap.size ∧ E g = none := by
  intro g hg
  cases o with
  | blk ty ver sz rows =>
    cases l with
    | free => cases hg
    | nil _ => cases hg
    | lies v g' sz' cap =>
      simp only [Own.at?, Option.some.injEq] at hg
      subst hg
      obtain ⟨h1, h2, h3, h4, h5, h6, h7, h8, cur, h9, h10, h11⟩ := h
      refine ⟨h4, ?_, h5⟩
      rcases Nat.lt_or_ge g' w.heap.size with hl | hl
      · exact hl
      · rw [Array.getElem?_eq_none hl] at h9; cases h9
  | free => cases hg
  | gone => cases hg
  | froz _ _ _ _ => cases hg
  | mp φ =>
    cases l with
    | free => cases hg
    | nil _ => cases hg
    | lies v g' sz' cap =>
      simp only [Own.at?, Option.some.injEq] at hg
      subst hg
      obtain ⟨h1, h2, h3, es, clk, h4, h5⟩ := h
      refine ⟨h2, ?_, h3⟩
      rcases Nat.lt_or_ge g' w.heap.size with hl | hl
      · exact hl
      · rw [Array.getElem?_eq_none hl] at h4; cases h4
section
variable {P : Program} {B : Nat} {w0 : World} {E0 E : Ext} {L0 L : List Loc} {s : St} {a : Act} {w : World} {o : Oper}
theorem get_lt {α : Type} {l : List α} {i : Nat} {x : α} (h : l[i]? = some x) : i < l.length := by
  rcases Nat.lt_or_ge i l.length with hl | hl
  · exact hl
  · rw [List.getElem?_eq_none hl] at h; cases h
theorem RepE.loc (R : RepE B w0 E0 E L0 L s a w) {id : Nat} {o : Own} (h : s.ow[id]? = some o) : ∃ l, L[id]? = some l := by
  have := get_lt h
  rw [← R.len] at this
  exact ⟨_, List.getElem?_eq_getElem this⟩
theorem RepE.upd (R : RepE B w0 E0 E L0 L s a w) {E' : Ext} {L' : List Loc} {w' : World} {ow' : List Own}
    (hle : E.le E') (hlow : ∀ b, b < B → E' b = E b) (hin : E'.In w') (hb : Below B w w') (hto : Locs.to L L') (hlen : L'.length = ow'.length)
    (howns : ∀ (id : Nat) (o : Own) (l : Loc), ow'[id]? = some o → L'[id]? = some l → o.Ok B E' L' w' l)
    (hap : ∀ (i j : Nat) (o o' : Own) (l l' : Loc) (g : Nat), i ≠ j → ow'[i]? = some o → L'[i]? = some l → ow'[j]? = some o' → L'[j]? = some l' → o.at? l = some g → o'.at? l' ≠ some g) (hd : w.drawn ≤ w'.drawn := by first | exact Nat.le_refl _ | exact Nat.le_succ _ | assumption | exact run_drawn _ (by assumption)) :
    RepE B w0 E0 E' L0 L' ⟨s.n, s.tm, ow'⟩ a w' :=
  { defers := R.defers
    le := Ext.le_trans R.le hle
    low := fun b h => (hlow b h).trans (R.low b h)
    inn := hin
    below := R.below.trans hb
    drawn := Nat.le_trans R.drawn hd
    base := Nat.le_trans R.base hb.size
    lto := Locs.to_trans R.lto hto
    len := hlen
    size := R.size
    tmps := fun k => (R.tmps k).mono hle hto
    owns := howns
    apart := hap }
theorem locs_set {L : List Loc} {id : Nat} {l0 l1 : Loc} (hl : L[id]? = some l0) (hto : l0.to l1) : Locs.to L (L.set id l1) := by
  intro k l hk
  by_cases e : id = k
  · subst e
    rw [hl] at hk; injection hk with hk; subst hk
    exact ⟨l1, List.getElem?_set_self (get_lt hl), hto⟩
  · exact ⟨l, by rw [List.getElem?_set_ne e]; exact hk, Loc.to_refl l⟩
theorem get_set {α : Type} {l : List α} {id k : Nat} {x y : α} (h : (l.set id x)[k]? = some y) : (k = id ∧ y = x) ∨ (k ≠ id ∧ l[k]? = some y) := by
  by_cases e : id = k
  · subst e
    have hlt : id < l.length := by have := get_lt h; rwa [List.length_set] at this
    rw [List.getElem?_set_self hlt] at h
    injection h with h
    exact .inl ⟨rfl, h.symm⟩
  · rw [List.getElem?_set_ne e] at h
    exact .inr ⟨fun h => e h.symm, h⟩
theorem RepE.setOwn (R : RepE B w0 E0 E L0 L s a w) {w' : World} {id : Nat} {o0 o1 : Own} {l0 l1 : Loc}
    (hid : s.ow[id]? = some o0) (hl : L[id]? = some l0) (hb : Below B w w') (hto : l0.to l1)
    (hkeep : ∀ g, g < w.heap.size → o0.at? l0 ≠ some g → w'.heap[g]? = w.heap[g]?)
    (hok : o1.Ok B E (L.set id l1) w' l1) (hnew : ∀ g, o1.at? l1 = some g → o0.at? l0 = some g ∨ w.heap.size ≤ g) (hd : w.drawn ≤ w'.drawn := by first | exact Nat.le_refl _ | exact Nat.le_succ _ | assumption | exact run_drawn _ (by assumption)) :
    RepE B w0 E0 E L0 (L.set id l1) ⟨s.n, s.tm, s.ow.set id o1⟩ a w' := by
  have hto' := locs_set hl hto
  have hboth : ∀ {k : Nat} {o : Own} {l : Loc}, (s.ow.set id o1)[k]? = some o → (L.set id l1)[k]? = some l → (k = id ∧ o = o1 ∧ l = l1) ∨ (k ≠ id ∧ s.ow[k]? = some o ∧ L[k]? = some l) := by
    intro k o l h1 h2
    rcases get_set h1 with ⟨e1, e2⟩ | ⟨e1, e2⟩
    · rcases get_set h2 with ⟨_, e3⟩ | ⟨e3, _⟩
      · exact .inl ⟨e1, e2, e3⟩
      · exact absurd e1 e3
    · rcases get_set h2 with ⟨e3, _⟩ | ⟨_, e3⟩
      · exact absurd e3 e1
      · exact .inr ⟨e1, e2, e3⟩
  refine R.upd (E.le_refl) (fun _ _ => rfl) ?_ hb hto' (by simp [R.len]) ?_ ?_ hd
  · intro b cs hE
    obtain ⟨t, fr, hw⟩ := R.inn b cs hE
    refine ⟨t, fr, (hkeep b (R.inn.lt hE) ?_).trans hw⟩
    intro hg
    have := ((R.owns id o0 l0 hid hl).lt b hg).2.2
    rw [this] at hE; cases hE
  · intro k o l hk hkl
    rcases hboth hk hkl with ⟨rfl, rfl, rfl⟩ | ⟨hne, hk', hl'⟩
    · exact hok
    · refine (R.owns k o l hk' hl').keep E.le_refl hto' (fun g hg => ⟨hkeep g ((R.owns k o l hk' hl').lt g hg).2.1 ?_, fun h => h⟩)
      exact fun h => R.apart id k o0 o l0 l g (Ne.symm hne) hid hl hk' hl' h hg
  · intro i j oi oj li lj g hij hi hli hj hlj hgi hgj
    rcases hboth hi hli with ⟨rfl, rfl, rfl⟩ | ⟨hni, hi', hli'⟩ <;> rcases hboth hj hlj with ⟨rfl, rfl, rfl⟩ | ⟨hnj, hj', hlj'⟩
    · exact hij rfl
    · rcases hnew g hgi with h | h
      · exact R.apart _ _ _ _ _ _ g hij hid hl hj' hlj' h hgj
      · have := ((R.owns j oj lj hj' hlj').lt g hgj).2.1; omega
    · rcases hnew g hgj with h | h
      · exact R.apart _ _ _ _ _ _ g hij hi' hli' hid hl hgi h
      · have := ((R.owns i oi li hi' hli').lt g hgi).2.1; omega
    · exact R.apart i j oi oj li lj g hij hi' hli' hj' hlj' hgi hgj
theorem RepE.drew (R : RepE B w0 E0 E L0 L s a w) : RepE B w0 E0 E L0 L s a w.drew :=
  { R with inn := R.inn, below := R.below.drew, drawn := Nat.le_trans R.drawn (Nat.le_succ _), owns := fun id o l h hl => (R.owns id o l h hl).keep E.le_refl (Locs.to_refl L) (fun _ _ => ⟨rfl, fun h => h⟩) }
theorem RepE.blk (R : RepE B w0 E0 E L0 L s a w) {id : Nat} {ty : TypeId} {ver sz : Nat} {rows : List (List V)} (h : s.ow[id]? = some (.blk ty ver sz rows)) {k : Nat} (hk : k < rows.length) :
    ∃ g cap cur, L[id]? = some (.lies ver g sz cap) ∧ 0 < sz ∧ B ≤ g ∧ E g = none ∧ cap ≤ maxLen ∧ rows.length ≤ cap ∧ 0 < cap ∧ w.heap[g]? = some (.cells cur ty (0, 0)) ∧ cur.size = cap * sz ∧ OwnRows E L cur sz rows := by
  obtain ⟨l, hl⟩ := R.loc h
  have hok := R.owns id _ l h hl
  cases l with
  | free => exact hok.elim
  | nil v => rw [hok.2.1] at hk; simp at hk
  | lies v g sz' cap =>
    obtain ⟨rfl, rfl, h3, h4, h5, h6, h7, h8, cur, h9, h10, h11⟩ := hok
    exact ⟨g, cap, cur, hl, h3, h4, h5, h6, h7, h8, h9, h10, h11⟩
theorem RepE.frz (R : RepE B w0 E0 E L0 L s a w) {id : Nat} {ty : TypeId} {ver sz : Nat} {rows : List (List V)} (h : s.ow[id]? = some (.froz ty ver sz rows)) {k : Nat} (hk : k < rows.length) :
    ∃ g cap, L[id]? = some (.lies ver g sz cap) ∧ rows.length ≤ cap ∧ RowsAt E g sz 0 rows := by
  obtain ⟨l, hl⟩ := R.loc h
  have hok := R.owns id _ l h hl
  cases l with
  | free => exact hok.elim
  | nil v => rw [hok.2] at hk; simp at hk
  | lies v g sz' cap =>
    obtain ⟨rfl, rfl, h3, h4⟩ := hok
    exact ⟨g, cap, hl, h3, h4⟩
theorem ptr_at {id ver k off : Nat} {x : Value} (hx : (V.own id ver k off).Is E L x) {g sz cap : Nat} (hl : L[id]? = some (.lies ver g sz cap)) : x = .pointer (some ⟨g, k * sz + off, none⟩) := by
  unfold V.Is at hx
  rw [hl] at hx
  rcases hx with ⟨h, _⟩ | ⟨_, h⟩
  · omega
  · exact h
theorem at_ptr {id ver k off : Nat} {g sz cap : Nat} (hl : L[id]? = some (.lies ver g sz cap)) : (V.own id ver k off).Is E L (.pointer (some ⟨g, k * sz + off, none⟩)) := by
  unfold V.Is
  rw [hl]
  exact .inr ⟨rfl, rfl⟩
theorem getD_get {α : Type} {l : List α} {k : Nat} (h : k < l.length) (d : α) : l[k]? = some (l.getD k d) := by
  simp [List.getD, h]
theorem load_run {tt : TT} {t : TypeId} (F : (tt t).Facts P t) (R : RepE B w0 E0 E L0 L s a w) {p : V} {x : Value} (hp : p.Is E L x) {pre : Prop} {r : Out} (hs : semLoad tt (tt t) s.ow p = .ok pre r) (hpre : pre) :
    ∃ v, (Instr.loadAt t x).run P w = .ok v w ∧ r.r.Is E L v ∧ r.upd = [] := by
  have run : ∀ (b o : Nat), x = .pointer (some ⟨b, o, none⟩) → (Instr.loadAt t x).run P w = (loadVar t ⟨b, o, none⟩).run P w := by
    rintro b o rfl
    simp [Instr.loadAt, Instr.sureAddr]
  have fin : ∀ (b o : Nat) (row : List V) (off : Nat), x = .pointer (some ⟨b, o + off, none⟩) → (∀ (j : Nat) (c : V), row[j]? = some c → c.one = true ∧ ∃ y, w.cell? ⟨b, o + j, none⟩ = some y ∧ c.Is E L y) →
      off + (tt t).sz ≤ row.length → ((tt t).isAgg = true ∨ (tt t).sz = 1) → ∃ v, (Instr.loadAt t x).run P w = .ok v w ∧ (V.mk (tt t).isAgg ((row.drop off).take (tt t).sz)).Is E L v := by
    intro b o row off hx hrow hlen hag
    obtain ⟨us, h1, h2⟩ := choose_cells (E := E) (L := L) (cell := fun j => w.cell? ⟨b, o + j, none⟩) (cs := (row.drop off).take (tt t).sz) (o := off) fun j c hc => by
      rw [List.getElem?_take] at hc
      split at hc
      · rw [List.getElem?_drop] at hc
        exact hrow _ _ hc
      · cases hc
    have hl : ((row.drop off).take (tt t).sz).length = (tt t).sz := by simp; omega
    have hul : us.length = (tt t).sz := by rw [isOnes_len h1, hl]
    have hc := run_loadVar_list F w b (o + off) us hul (fun j v hv => by rw [Nat.add_assoc]; exact h2 j v hv) hag
    refine ⟨_, (run _ _ hx).trans hc, mk_is h1 ?_⟩
    rcases hag with h | h
    · exact .inl h
    · right; rw [hl, h]
  unfold semLoad at hs
  split at hs
  · rename_i id ver k off
    split at hs
    · rename_i ty v sz rows hown
      injection hs with e1 e2; subst e1 e2
      obtain ⟨rfl, hk, hlen, hag, hkd⟩ := hpre
      obtain ⟨g, cap, cur, hl, h0, hB, hE, hcm, hrc, hc0, hheap, hcs, hrows⟩ := R.blk hown hk
      obtain ⟨h1, h2⟩ := hrows k _ (getD_get hk (tt ty).z)
      obtain ⟨v, hv, hi⟩ := fin g (k * sz) (rows.getD k (tt ty).z) off (ptr_at hp hl) (fun j c hc => by
        obtain ⟨h3, y, h4, h5⟩ := h2 j c hc
        refine ⟨h3, y, ?_, h5⟩
        simp only [World.cell?, hheap]
        simpa using h4) hlen hag
      exact ⟨v, hv, hi, rfl⟩
    · rename_i ty v sz rows hown
      injection hs with e1 e2; subst e1 e2
      obtain ⟨rfl, hk, hlen, hag, hkd⟩ := hpre
      obtain ⟨g, cap, hl, hrc, hrows⟩ := R.frz hown hk
      obtain ⟨h1, h2⟩ := rowsAt_get hrows (getD_get hk (tt ty).z)
      obtain ⟨v, hv, hi⟩ := fin g (k * sz) (rows.getD k (tt ty).z) off (ptr_at hp hl) (fun j c hc => by
        obtain ⟨h3, y, h4, h5⟩ := cellsAt_get h2 hc
        refine ⟨h3, y, ?_, is_nil h5⟩
        rw [Nat.zero_add] at h4
        exact R.inn.cell h4) hlen hag
      exact ⟨v, hv, hi, rfl⟩
    · cases hs
  · rename_i cells off
    injection hs with e1 e2; subst e1 e2
    obtain ⟨hlen, hag, hkd⟩ := hpre
    unfold V.Is at hp
    obtain ⟨b, o, hx, hc⟩ := hp
    obtain ⟨v, hv, hi⟩ := fin b o cells off hx (fun j c hj => by
      obtain ⟨h3, y, h4, h5⟩ := cellsAt_get hc hj
      exact ⟨h3, y, R.inn.cell h4, is_nil h5⟩) hlen hag
    exact ⟨v, hv, hi, rfl⟩
  · cases hs
theorem cells?_is {x : V} {cs : List V} {v : Value} (h : x.cells? = some cs) (hx : x.Is E L v) : IsOnes E L cs v.cells.toList := by
  have one : x.one = true → cs = [x] → IsOnes E L cs v.cells.toList := by
    rintro h1 rfl
    have h2 := hx.one h1
    have : v.cells.toList = [v] := by cases v <;> first | rfl | (simp [Value.oneCell'] at h2)
    rw [this]
    unfold IsOnes
    exact ⟨v, [], rfl, h1, hx, by unfold IsOnes; rfl⟩
  cases x with
  | agg cs' =>
    simp only [V.cells?, Option.some.injEq] at h
    subst h
    unfold V.Is at hx
    obtain ⟨vs, rfl, hc⟩ := hx
    simpa [Value.cells] using hc
  | tup _ => cases h
  | cnd _ _ => cases h
  | un => cases h
  | _ => exact one rfl (by simpa [V.cells?] using h.symm)
theorem setCells_length : ∀ (cs : List V) (off : Nat) (xs : List V), (setCells cs off xs).length = cs.length
  | _, _, [] => rfl
  | cs, off, x :: r => by rw [setCells, setCells_length]; simp
theorem setCells_get : ∀ (cs : List V) (off : Nat) (xs : List V) (j : Nat), off + xs.length ≤ cs.length →
    (setCells cs off xs)[j]? = if off ≤ j ∧ j < off + xs.length then xs[j - off]? else cs[j]?
  | cs, off, [], j, _ => by
    rw [setCells, if_neg (by simp only [List.length_nil]; omega)]
  | cs, off, x :: r, j, h => by
    simp only [List.length_cons] at h ⊢
    rw [setCells, setCells_get _ _ _ j (by simp; omega)]
    by_cases e : j = off
    · subst e
      rw [if_neg (by omega), if_pos (by omega), List.getElem?_set_self (by omega)]
      simp
    · rw [List.getElem?_set_ne (fun h => e h.symm)]
      by_cases h1 : off ≤ j ∧ j < off + (r.length + 1)
      · rw [if_pos (by omega), if_pos h1, show j - off = (j - (off + 1)) + 1 by omega]; rfl
      · rw [if_neg (by omega), if_neg h1]
theorem store_run {t : TypeId} {i : TI} (F : i.Facts P t) (w : World) (g off : Nat) (v : Value) (cur : Array Value) (ty : TypeId) (hg : w.heap[g]? = some (.cells cur ty (0, 0)))
    (hsz : v.cells.size = i.sz) (hfit : off + v.cells.size ≤ cur.size) (h1 : ∀ x ∈ v.cells.toList, x.oneCell' = true) :
    (Instr.storeAt t (.pointer (some ⟨g, off, none⟩)) v).run P w = .ok () (w.setRow g (cur.toList.take off ++ v.cells.toList ++ cur.toList.drop (off + v.cells.size)).toArray) := by
  have := run_storeCells_at P g off ty v.cells.toList 0 cur w hg (by simpa using hfit) h1
  simp only [Nat.add_zero, Array.length_toList] at this
  simp only [Instr.storeAt, Instr.sureAddr, Sem.run_bind, Sem.run_pure, Result.andThen_ok, storeVar, run_sizeOf' F, hsz, ne_eq, not_true_eq_false, if_false, this]
theorem below_setRow {w : World} {g : Nat} {B : Nat} (cs : Array Value) (h : B ≤ g) : Below B w (w.setRow g cs) :=
  ⟨rfl, rfl, rfl, by simp, fun k hk => setRow_other w g k cs (by omega)⟩
theorem splice_get {α : Type} (cur xs : List α) (off j : Nat) (h : off + xs.length ≤ cur.length) : (cur.take off ++ xs ++ cur.drop (off + xs.length))[j]? = if off ≤ j ∧ j < off + xs.length then xs[j - off]? else cur[j]? := by
  have hm : min off cur.length = off := by omega
  by_cases h1 : j < off
  · rw [if_neg (by omega), List.append_assoc, List.getElem?_append_left (by simp; omega), List.getElem?_take, if_pos h1]
  · by_cases h2 : j < off + xs.length
    · rw [if_pos (by omega), List.append_assoc, List.getElem?_append_right (by simp; omega)]
      simp only [List.length_take, hm]
      rw [List.getElem?_append_left (by omega)]
    · rw [if_neg (by omega), List.getElem?_append_right (by simp; omega), List.getElem?_drop]
      simp only [List.length_append, List.length_take, hm]
      congr 1; omega
theorem store_step {tt : TT} {t : TypeId} (F : (tt t).kind ≠ 9 → (tt t).Facts P t) (R : RepE B w0 E0 E L0 L s a w) {p x : V} {pv xv : Value} (hp : p.Is E L pv) (hx : x.Is E L xv)
    {pre : Prop} {r : Out} (hs : semStore tt (tt t) s.ow p x = .ok pre r) (hpre : pre) :
    ∃ w', (Instr.storeAt t pv xv).run P w = .ok () w' ∧ RepE B w0 E0 E L0 L ⟨s.n, s.tm, app s.ow r.upd⟩ a w' ∧ r.r = .tup [] := by
  unfold semStore at hs
  split at hs
  · rename_i id ver k off cs hcs
    split at hs
    · rename_i ty v sz rows hown
      injection hs with e1 e2; subst e1 e2
      obtain ⟨rfl, hk, hlen, hfit, hkd⟩ := hpre
      obtain ⟨g, cap, cur, hl, h0, hB, hE, hcm, hrc, hc0, hheap, hcsz, hrows⟩ := R.blk hown hk
      have hones := cells?_is hcs hx
      have hvl : xv.cells.toList.length = cs.length := isOnes_len hones
      have hvs : xv.cells.size = cs.length := by rw [← Array.length_toList, hvl]
      have hks : k * sz + sz ≤ rows.length * sz := by
        have := Nat.mul_le_mul_right sz (Nat.succ_le_of_lt hk)
        rwa [Nat.succ_mul] at this
      have hrcs : rows.length * sz ≤ cap * sz := Nat.mul_le_mul_right sz hrc
      have hcl : cur.toList.length = cap * sz := by rw [Array.length_toList, hcsz]
      have hrun := store_run (F hkd) w g (k * sz + off) xv cur ty hheap (by rw [hvs, hlen]) (by rw [hvs, hcsz]; omega) (isOnes_one hones)
      refine ⟨_, by rw [ptr_at hp hl]; exact hrun, ?_, rfl⟩
      have hset : L.set id (.lies v g sz cap) = L := by
        refine List.ext_getElem? fun j => ?_
        by_cases e : id = j
        · subst e; rw [List.getElem?_set_self (get_lt hl), hl]
        · rw [List.getElem?_set_ne e]
      have := R.setOwn hown hl (w' := w.setRow g (cur.toList.take (k * sz + off) ++ xv.cells.toList ++ cur.toList.drop (k * sz + off + xv.cells.size)).toArray) (o1 := .blk ty v sz (rows.set k (setCells (rows.getD k (tt ty).z) off cs))) (l1 := .lies v g sz cap)
        (below_setRow _ hB) (Loc.to_refl _) (fun j hj1 hj2 => setRow_other w g j _ (fun ee => hj2 (by rw [ee]; rfl))) ?_ (fun j hj => .inl hj)
      · rw [hset] at this; exact this
      · rw [hset]
        obtain ⟨hrl, hrc'⟩ := hrows k _ (getD_get hk (tt ty).z)
        refine ⟨rfl, rfl, h0, hB, hE, hcm, by simpa using hrc, hc0, _, setRow_heap w g _ _ ty _ hheap, ?_, ?_⟩
        · simp only [List.size_toArray, List.length_append, List.length_take, List.length_drop, hcl, hvl, hvs]; omega
        · intro k' row hk'
          have hcell : ∀ q, (cur.toList.take (k * sz + off) ++ xv.cells.toList ++ cur.toList.drop (k * sz + off + xv.cells.size)).toArray[q]? = if k * sz + off ≤ q ∧ q < k * sz + off + cs.length then xv.cells.toList[q - (k * sz + off)]? else cur[q]? := by
            intro q
            have := splice_get cur.toList xv.cells.toList (k * sz + off) q (by rw [hvl, hcl]; omega)
            rw [hvl] at this
            rw [hvs]
            simpa using this
          rcases get_set hk' with ⟨rfl, rfl⟩ | ⟨hne, hk''⟩
          · refine ⟨by rw [setCells_length]; exact hrl, fun j c hj => ?_⟩
            rw [setCells_get _ _ _ _ (by rw [hrl]; omega)] at hj
            split at hj
            · rename_i hjj
              obtain ⟨u, hu, h1, h2⟩ := isOnes_get hones hj
              refine ⟨h1, u, ?_, h2⟩
              rw [hcell, if_pos (by omega)]
              rw [← hu]; congr 1; omega
            · rename_i hjj
              obtain ⟨h1, u, h2, h3⟩ := hrc' j c hj
              refine ⟨h1, u, ?_, h3⟩
              have hjl := get_lt hj
              rw [hrl] at hjl
              rw [hcell, if_neg (by omega)]; exact h2
          · obtain ⟨h1, h2⟩ := hrows k' row hk''
            refine ⟨h1, fun j c hj => ?_⟩
            obtain ⟨h3, u, h4, h5⟩ := h2 j c hj
            refine ⟨h3, u, ?_, h5⟩
            have hjl := get_lt hj
            rw [h1] at hjl
            rw [hcell, if_neg ?_]
            · exact h4
            · rintro ⟨c1, c2⟩
              rcases Nat.lt_or_ge k' k with h | h
              · have := Nat.mul_le_mul_right sz (Nat.succ_le_of_lt h)
                rw [Nat.succ_mul] at this
                omega
              · have h : k < k' := by omega
                have := Nat.mul_le_mul_right sz (Nat.succ_le_of_lt h)
                rw [Nat.succ_mul] at this
                omega
    · cases hs
  · cases hs
end
end Go.K
