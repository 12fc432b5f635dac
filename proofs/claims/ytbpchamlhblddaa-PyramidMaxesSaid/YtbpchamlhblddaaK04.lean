/-
  A SECOND ENGINE, PART 04: new blocks, addresses, parts of aggregates.
-/
import Derived.Test.YtbpchamlhblddaaK03
import Derived.Great.BuildSlice
set_option linter.all false
namespace Go.K
open Go Go.RowKit
section
variable {P : Program} {B : Nat} {w0 : World} {E0 E : Ext} {L0 L : List Loc} {s : St} {a : Act} {w : World} {o : Oper}

theorem RepE.freeLoc (R : RepE B w0 E0 E L0 L s a w) {id : Nat} (h : s.ow[id]? = some .free) : L[id]? = some .free := by
  obtain ⟨l, hl⟩ := R.loc h
  have := R.owns id _ l h hl
  rw [hl]; exact congrArg some this
theorem RepE.newE (R : RepE B w0 E0 E L0 L s a w) {g : Nat} (h : w.heap.size ≤ g) : E g = none := by
  cases hE : E g with
  | none => rfl
  | some c => exact absurd (R.inn.lt hE) (by omega)

/-- A fresh block comes to a free number. -/
theorem RepE.fresh (R : RepE B w0 E0 E L0 L s a w) {id : Nat} (hid : s.ow[id]? = some .free) {w' : World} (hb : Below B w w') (hkeep : ∀ g, g < w.heap.size → w'.heap[g]? = w.heap[g]?)
    {cur : Array Value} {ty : TypeId} (hnew : w'.heap[w.heap.size]? = some (.cells cur ty (0, 0))) {sz cap : Nat} (h0 : 0 < sz) (hc0 : 0 < cap) (hcm : cap ≤ maxLen) (hcs : cur.size = cap * sz) {rows : List (List V)} (hrc : rows.length ≤ cap) (hrows : OwnRows E L cur sz rows) :
    RepE B w0 E0 E L0 (L.set id (.lies 0 w.heap.size sz cap)) ⟨s.n, s.tm, s.ow.set id (.blk ty 0 sz rows)⟩ a w' ∧ (L.set id (.lies 0 w.heap.size sz cap))[id]? = some (.lies 0 w.heap.size sz cap) := by
  have hl := R.freeLoc hid
  refine ⟨R.setOwn hid hl hb trivial (fun g hg _ => hkeep g hg) ?_ (fun g hg => .inr ?_), List.getElem?_set_self (get_lt hl)⟩
  · exact ⟨rfl, rfl, h0, R.base, R.newE (Nat.le_refl _), hcm, hrc, hc0, cur, hnew, hcs, hrows.mono E.le_refl (locs_set hl trivial)⟩
  · simp only [Own.at?, Option.some.injEq] at hg; omega
theorem RepE.freshNil (R : RepE B w0 E0 E L0 L s a w) {id : Nat} (hid : s.ow[id]? = some .free) {w' : World} (hb : Below B w w') (hkeep : ∀ g, g < w.heap.size → w'.heap[g]? = w.heap[g]?) (ty : TypeId) {sz : Nat} (h0 : 0 < sz) :
    RepE B w0 E0 E L0 (L.set id (.nil 0)) ⟨s.n, s.tm, s.ow.set id (.blk ty 0 sz [])⟩ a w' ∧ (L.set id (.nil 0))[id]? = some (.nil 0) := by
  have hl := R.freeLoc hid
  exact ⟨R.setOwn hid hl hb trivial (fun g hg _ => hkeep g hg) ⟨rfl, rfl, h0⟩ (fun g hg => by cases hg), List.getElem?_set_self (get_lt hl)⟩

theorem below_alloc (w : World) (ob : Obj) {B : Nat} (h : B ≤ w.heap.size) : Below B w (w.alloc ob) := (Below.refl B w).alloc h ob

theorem at_sl {id ver lo hi g sz cap : Nat} (hl : L[id]? = some (.lies ver g sz cap)) (h1 : lo ≤ hi) (h2 : hi ≤ cap) {A : Option Addr} (hA : lo < cap → A = some ⟨g, lo * sz, none⟩) : (V.rs id ver lo hi).Is E L (.slice A (hi - lo) (cap - lo)) := by
  unfold V.Is
  rw [hl]
  exact .inr ⟨rfl, h1, h2, A, rfl, hA⟩
theorem nil_sl {id ver : Nat} (hl : L[id]? = some (.nil ver)) (A : Option Addr) : (V.rs id ver 0 0).Is E L (.slice A 0 0) := by
  unfold V.Is
  rw [hl]
  exact .inr ⟨rfl, rfl, rfl, A, rfl⟩

theorem new_step (R : RepE B w0 E0 E L0 L s a w) {id : Nat} {t : TypeId} {sz : Nat} {cs : List V} {v : Value} (hv : IsOnes E L cs v.cells.toList)
    {pre : Prop} {r : Out} (hs : semNew s.ow id t sz cs = .ok pre r) (hpre : pre) :
    ∃ L', RepE B w0 E0 E L0 L' ⟨s.n, s.tm, app s.ow r.upd⟩ a (w.alloc (.cells v.cells t)) ∧ r.r.Is E L' (.pointer (some ⟨w.heap.size, 0, none⟩)) := by
  unfold semNew at hs
  split at hs
  · rename_i hid
    injection hs with e1 e2; subst e1 e2
    obtain ⟨hlen, h0⟩ := hpre
    have hvl : v.cells.toList.length = cs.length := isOnes_len hv
    obtain ⟨R', hl'⟩ := R.fresh hid (w' := w.alloc (.cells v.cells t)) (below_alloc w _ R.base) (fun g hg => heap_alloc_old w _ g hg) (cur := v.cells) (ty := t) (heap_alloc_new w _) (sz := sz) (cap := 1) h0 (by decide) (by decide) (by rw [← Array.length_toList, hvl, hlen, Nat.one_mul]) (rows := [cs]) (by simp) (by
      intro k row hk
      cases k with
      | succ k => simp at hk
      | zero =>
        simp only [List.getElem?_cons_zero, Option.some.injEq] at hk
        subst hk
        refine ⟨hlen, fun j c hj => ?_⟩
        obtain ⟨u, hu, h1, h2⟩ := isOnes_get hv hj
        exact ⟨h1, u, by simpa using hu, h2⟩)
    refine ⟨_, R', ?_⟩
    have := at_ptr (E := E) (k := 0) (off := 0) hl'
    simpa using this
  · cases hs

theorem of1_is {v : Value} (h : (V.of1 v).one = true) : (V.of1 v).Is E L v := by
  unfold V.of1 at h ⊢
  split <;> first | (unfold V.Is; rfl) | (unfold V.Is; exact ⟨none, rfl⟩) | (exact (show V.un.Is E L _ by unfold V.Is; trivial))
theorem of1s_is : ∀ {vs : List Value}, V.ones (V.of1s vs) = true → IsOnes E L (V.of1s vs) vs
  | [], _ => by unfold V.of1s IsOnes; rfl
  | v :: r, h => by
    unfold V.of1s V.ones at h
    rw [Bool.and_eq_true] at h
    unfold V.of1s IsOnes
    exact ⟨v, r, rfl, h.1, of1_is h.1, of1s_is h.2⟩
theorem TT.Ok.zero {tt : TT} (h : tt.Ok P) (t : TypeId) : IsOnes E L (tt t).z (tt t).zero := by
  have := (h.own t).z
  rw [this]
  exact of1s_is (by rw [← this]; exact (h.own t).ones)

theorem alloc_run {t : TypeId} {i : TI} (F : i.Facts P t) (w : World) : ∃ z : Value, (Instr.alloc t true (.tuple #[])).run P w = .ok (.pointer (some ⟨w.heap.size, 0, none⟩)) (w.alloc (.cells z.cells t)) ∧ z.cells.toList = i.zero := by
  obtain ⟨z, hz, hc⟩ := run_zeroValue' F w
  exact ⟨z, by simp [Instr.alloc, hz, newVar, newRow], hc⟩
theorem box_run (t : TypeId) (v : Value) (w : World) : (Instr.box t v).run P w = .ok (.pointer (some ⟨w.heap.size, 0, none⟩)) (w.alloc (.cells v.cells t)) := by
  simp [Instr.box, newVar, newRow]

theorem fld {fs : Array Field} {i : TI} (h : i.flds = fs.toList.map (fun f => (f.offset, f.type))) {k off : Nat} {ft : TypeId} (hk : i.flds[k]? = some (off, ft)) :
    ∃ f, fs[k]? = some f ∧ f.offset = off ∧ f.type = ft := by
  rw [h, List.getElem?_map] at hk
  cases hf : fs.toList[k]? with
  | none => rw [hf] at hk; cases hk
  | some f =>
    rw [hf] at hk
    simp only [Option.map_some, Option.some.injEq, Prod.mk.injEq] at hk
    exact ⟨f, by rw [← Array.getElem?_toList]; exact hf, hk.1, hk.2⟩

theorem fieldAt_run {tt : TT} (ht : tt.Ok P) {t ft : TypeId} {k off b oo : Nat} (hk : (tt t).kind = 1) (hf : (tt t).flds[k]? = some (off, ft)) (hft : (tt ft).kind ≠ 9) (hsz : (tt ft).sz ≠ 0) (w : World) :
    (Instr.fieldAt t (.pointer (some ⟨b, oo, none⟩)) k).run P w = .ok (.pointer (some ⟨b, oo + off, none⟩)) w := by
  obtain ⟨fs, hu, hfl⟩ := und_struct (ht.facts t (by rw [hk]; decide)) hk
  obtain ⟨f, h1, h2, h3⟩ := fld hfl hf
  have hs := run_sizeOf' (ht.facts ft hft) w
  rw [← h3] at hs hsz
  unfold Instr.fieldAt
  simp only [Sem.run_bind, run_underlying hu, Result.andThen_ok, h1, Instr.sureAddr, Sem.run_pure, fieldPlace, hs, Sem.run_ite]
  rw [if_neg hsz]
  simp [Addr.add_lit, h2]

/-- A pointer of the run's own, moved on. -/
theorem own_shift (R : RepE B w0 E0 E L0 L s a w) {id ver k off d sz : Nat} {rows : List (List V)} {ty : TypeId} {x : Value} (hx : (V.own id ver k off).Is E L x) (ho : s.ow[id]? = some (.blk ty ver sz rows) ∨ s.ow[id]? = some (.froz ty ver sz rows)) (hk : k < rows.length) :
    ∃ g oo, x = .pointer (some ⟨g, oo, none⟩) ∧ (V.own id ver k (off + d)).Is E L (.pointer (some ⟨g, oo + d, none⟩)) := by
  have key : ∀ g cap, L[id]? = some (.lies ver g sz cap) → ∃ g oo, x = .pointer (some ⟨g, oo, none⟩) ∧ (V.own id ver k (off + d)).Is E L (.pointer (some ⟨g, oo + d, none⟩)) := by
    intro g cap hl
    refine ⟨g, _, ptr_at hx hl, ?_⟩
    have := at_ptr (E := E) (k := k) (off := off + d) hl
    rwa [← Nat.add_assoc] at this
  rcases ho with ho | ho
  · obtain ⟨g, cap, _, hl, _⟩ := R.blk ho hk
    exact key g cap hl
  · obtain ⟨g, cap, hl, _⟩ := R.frz ho hk
    exact key g cap hl

theorem field_step {tt : TT} (ht : tt.Ok P) (R : RepE B w0 E0 E L0 L s a w) {t : TypeId} {k : Nat} {p : V} {x : Value} (hp : p.Is E L x) {pre : Prop} {r : Out} (hs : semField tt t k s.ow p = .ok pre r) (hpre : pre) :
    ∃ v, (Instr.fieldAt t x k).run P w = .ok v w ∧ r.r.Is E L v ∧ r.upd = [] := by
  unfold semField at hs
  split at hs
  · rename_i id ver kk oo
    split at hs
    · rename_i off ft ty v sz rows hf ho
      injection hs with e1 e2; subst e1 e2
      obtain ⟨rfl, h0, h1, h2, h3⟩ := hpre
      obtain ⟨g, q, e, hi⟩ := own_shift R (d := off) hp (.inl ho) h0
      exact ⟨_, by rw [e]; exact fieldAt_run ht h1 hf h2 h3 w, hi, rfl⟩
    · rename_i off ft ty v sz rows hf ho
      injection hs with e1 e2; subst e1 e2
      obtain ⟨rfl, h0, h1, h2, h3⟩ := hpre
      obtain ⟨g, q, e, hi⟩ := own_shift R (d := off) hp (.inr ho) h0
      exact ⟨_, by rw [e]; exact fieldAt_run ht h1 hf h2 h3 w, hi, rfl⟩
    · cases hs
  · rename_i cells oo
    unfold V.Is at hp
    obtain ⟨b, q, rfl, hc⟩ := hp
    split at hs
    · rename_i off ft hf
      injection hs with e1 e2; subst e1 e2
      obtain ⟨h1, h2, h3⟩ := hpre
      refine ⟨_, fieldAt_run ht h1 hf h2 h3 w, ?_, rfl⟩
      unfold V.Is
      exact ⟨b, q, by rw [Nat.add_assoc], hc⟩
    · cases hs
  · cases hs

theorem part_run {t : TypeId} {i : TI} (F : i.Facts P t) (w : World) (cs : List V) (vs : List Value) (off : Nat) (h : off + i.sz ≤ cs.length) (hag : i.isAgg = true ∨ i.sz = 1) (hcs : IsOnes E L cs vs) :
    ∃ v, (part t vs.toArray off).run P w = .ok v w ∧ (V.mk i.isAgg ((cs.drop off).take i.sz)).Is E L v := by
  have hlen := isOnes_len hcs
  have hm := mk_is (agg := i.isAgg) (isOnes_sub hcs off i.sz) (by
    rcases hag with h' | h'
    · exact .inl h'
    · right; simp only [List.length_take, List.length_drop]; omega)
  unfold part
  simp only [Sem.run_bind, run_isAgg' F, Result.andThen_ok, Sem.run_ite]
  by_cases hg : i.isAgg = true
  · simp only [hg, if_true, run_sizeOf' F, Result.andThen_ok, Sem.run_pure] at hm ⊢
    refine ⟨_, rfl, ?_⟩
    have : vs.toArray.extract off (off + i.sz) = ((vs.drop off).take i.sz).toArray := by
      simp [List.extract_toArray, List.extract_eq_take_drop]
    rw [this]; exact hm
  · simp only [hg] at hm ⊢
    have h1 : i.sz = 1 := hag.resolve_left hg
    have hlt : off < vs.length := by omega
    refine ⟨vs[off], ?_, ?_⟩
    · simp [hlt]
    · have : ((vs.drop off).take i.sz).getD 0 undef = vs[off] := by
        rw [h1]
        simp [hlt]
      rw [this] at hm
      simpa using hm

theorem fieldV_step {tt : TT} (ht : tt.Ok P) {t : TypeId} {k : Nat} {p : V} {x : Value} (hp : p.Is E L x) {pre : Prop} {r : Out} (hs : semFieldV tt t k p = .ok pre r) (hpre : pre) :
    ∃ v, (Instr.field t x k).run P w = .ok v w ∧ r.r.Is E L v ∧ r.upd = [] := by
  unfold semFieldV at hs
  split at hs
  · rename_i cs
    split at hs
    · rename_i off ft hf
      injection hs with e1 e2; subst e1 e2
      obtain ⟨h1, h2, h3, h4⟩ := hpre
      unfold V.Is at hp
      obtain ⟨vs, rfl, hcs⟩ := hp
      obtain ⟨fs, hu, hfl⟩ := und_struct (ht.facts t (by rw [h1]; decide)) h1
      obtain ⟨f, g1, g2, g3⟩ := fld hfl hf
      obtain ⟨v, hv, hi⟩ := part_run (ht.facts ft h2) w cs vs off h3 h4 hcs
      refine ⟨v, ?_, hi, rfl⟩
      unfold Instr.field
      simp only [Sem.run_bind, run_underlying hu, Result.andThen_ok, g1, asAgg, Sem.run_pure, g2, g3, hv]
    · cases hs
  · cases hs

theorem indexV_step {tt : TT} (ht : tt.Ok P) {t : TypeId} {p ix : V} {x y : Value} (hp : p.Is E L x) (hy : ix.Is E L y) {pre : Prop} {r : Out} (hs : semIndexV tt t p ix = .ok pre r) (hpre : pre) :
    ∃ v, (Instr.index t x y).run P w = .ok v w ∧ r.r.Is E L v ∧ r.upd = [] := by
  unfold semIndexV at hs
  split at hs
  · rename_i cs kk i
    injection hs with e1 e2; subst e1 e2
    obtain ⟨h1, h2, h3, h4, h5, h6⟩ := hpre
    unfold V.Is at hp hy
    obtain ⟨vs, rfl, hcs⟩ := hp
    subst hy
    have hu := und_array (ht.facts t (by rw [h1]; decide)) h1
    obtain ⟨v, hv, hi⟩ := part_run (ht.facts _ h2) w cs vs _ h5 h6 hcs
    refine ⟨v, ?_, hi, rfl⟩
    unfold Instr.index
    simp only [Sem.run_bind, asIntOf, Sem.run_pure, Result.andThen_ok, run_underlying hu, Sem.run_ite, run_sizeOf' (ht.facts _ h2)]
    rw [if_pos ⟨h3, h4⟩, hv]
  · cases hs

theorem indexAt_slice {tt : TT} (ht : tt.Ok P) {t : TypeId} {k : IntKind} {i : Int} {b oo n cap : Nat} (h1 : (tt t).kind = 3) (h2 : (tt (tt t).el).kind ≠ 9) (h3 : 0 ≤ i) (h4 : i < n) (w : World) :
    (Instr.indexAt t (.slice (some ⟨b, oo, none⟩) n cap) (.int k i)).run P w = .ok (.pointer (some ⟨b, oo + i.toNat * (tt (tt t).el).sz, none⟩)) w := by
  have hu := und_slice (ht.facts t (by rw [h1]; decide)) h1
  unfold Instr.indexAt
  simp only [Sem.run_bind, asIntOf, Sem.run_pure, Result.andThen_ok, run_underlying hu, Sem.run_ite, run_sizeOf' (ht.facts _ h2)]
  rw [if_pos ⟨h3, h4⟩]
  simp [Addr.add_lit]
theorem indexAt_array {tt : TT} (ht : tt.Ok P) {t : TypeId} {k : IntKind} {i : Int} {b oo : Nat} (h1 : (tt t).kind = 2) (h2 : (tt (tt t).el).kind ≠ 9) (h3 : 0 ≤ i) (h4 : i < (tt t).len) (w : World) :
    (Instr.indexAt t (.pointer (some ⟨b, oo, none⟩)) (.int k i)).run P w = .ok (.pointer (some ⟨b, oo + i.toNat * (tt (tt t).el).sz, none⟩)) w := by
  have hu := und_array (ht.facts t (by rw [h1]; decide)) h1
  unfold Instr.indexAt
  simp only [Sem.run_bind, asIntOf, Sem.run_pure, Result.andThen_ok, run_underlying hu, Sem.run_ite, run_sizeOf' (ht.facts _ h2), Instr.sureAddr]
  rw [if_pos ⟨h3, h4⟩]
  simp [Addr.add_lit]

theorem sl_at {id ver lo hi g sz cap : Nat} {x : Value} (hx : (V.rs id ver lo hi).Is E L x) (hl : L[id]? = some (.lies ver g sz cap)) : lo ≤ hi ∧ hi ≤ cap ∧ ∃ A, x = .slice A (hi - lo) (cap - lo) ∧ (lo < cap → A = some ⟨g, lo * sz, none⟩) := by
  unfold V.Is at hx
  rw [hl] at hx
  rcases hx with ⟨h, _⟩ | ⟨_, h⟩
  · omega
  · exact h

theorem index_step {tt : TT} (ht : tt.Ok P) (R : RepE B w0 E0 E L0 L s a w) {t : TypeId} {p ix : V} {x y : Value} (hp : p.Is E L x) (hy : ix.Is E L y) {pre : Prop} {r : Out} (hs : semIndex tt t s.ow p ix = .ok pre r) (hpre : pre) :
    ∃ v, (Instr.indexAt t x y).run P w = .ok v w ∧ r.r.Is E L v ∧ r.upd = [] := by
  have row : ∀ {id ver lo hi sz : Nat} {k : IntKind} {i : Int} {g cap : Nat}, (V.rs id ver lo hi).Is E L x → L[id]? = some (.lies ver g sz cap) → y = .int k i → (tt t).kind = 3 → (tt (tt t).el).kind ≠ 9 → sz = (tt (tt t).el).sz → 0 ≤ i → lo + i < hi →
      ∃ v, (Instr.indexAt t x y).run P w = .ok v w ∧ (V.own id ver (lo + i.toNat) 0).Is E L v := by
    intro id ver lo hi sz k i g cap hx hl hy h1 h2 h3 h4 h5
    obtain ⟨a1, a2, A, rfl, hA⟩ := sl_at hx hl
    obtain rfl := hA (by omega)
    subst hy h3
    refine ⟨_, indexAt_slice ht h1 h2 h4 (by omega) w, ?_⟩
    have := at_ptr (E := E) (k := lo + i.toNat) (off := 0) hl
    rwa [Nat.add_mul, Nat.add_zero] at this
  unfold semIndex at hs
  split at hs
  · rename_i rows kk i
    injection hs with e1 e2; subst e1 e2
    obtain ⟨h1, h2, h3, h4, h5⟩ := hpre
    unfold V.Is at hp hy
    obtain ⟨A, cap, rfl, hcap, hh⟩ := hp
    subst hy
    have hlt : i.toNat < rows.length := by omega
    rcases hh with rfl | ⟨b, o, sz, rfl, hrows⟩
    · simp at hlt
    obtain ⟨k1, k2⟩ := rowsAt_get hrows (getD_get hlt (tt (tt t).el).z)
    refine ⟨_, indexAt_slice ht h1 h2 h3 h4 w, ?_, rfl⟩
    unfold V.Is
    refine ⟨b, o + i.toNat * (tt (tt t).el).sz, by rw [Nat.add_zero], ?_⟩
    rw [← h5, k1]; exact k2
  · rename_i id ver lo hi kk i
    unfold V.Is at hy
    split at hs
    · rename_i ty v sz rows ho
      injection hs with e1 e2; subst e1 e2
      obtain ⟨rfl, h0, h1, h2, h3, h4, h5⟩ := hpre
      obtain ⟨g, cap, _, hl, _⟩ := R.blk ho (k := lo + i.toNat) (by omega)
      obtain ⟨v, hv, hi⟩ := row hp hl hy h1 h2 h3 h4 h5
      exact ⟨v, hv, hi, rfl⟩
    · rename_i ty v sz rows ho
      injection hs with e1 e2; subst e1 e2
      obtain ⟨rfl, h0, h1, h2, h3, h4, h5⟩ := hpre
      obtain ⟨g, cap, hl, _⟩ := R.frz ho (k := lo + i.toNat) (by omega)
      obtain ⟨v, hv, hi⟩ := row hp hl hy h1 h2 h3 h4 h5
      exact ⟨v, hv, hi, rfl⟩
    · cases hs
  · rename_i id ver k oo kk i
    unfold V.Is at hy
    split at hs
    · rename_i ty v sz rows ho
      injection hs with e1 e2; subst e1 e2
      obtain ⟨rfl, h0, h1, h2, h3, h4⟩ := hpre
      obtain ⟨g, q, e, hi⟩ := own_shift R (d := i.toNat * (tt (tt t).el).sz) hp (.inl ho) h0
      exact ⟨_, by rw [e, hy]; exact indexAt_array ht h1 h2 h3 h4 w, hi, rfl⟩
    · rename_i ty v sz rows ho
      injection hs with e1 e2; subst e1 e2
      obtain ⟨rfl, h0, h1, h2, h3, h4⟩ := hpre
      obtain ⟨g, q, e, hi⟩ := own_shift R (d := i.toNat * (tt (tt t).el).sz) hp (.inr ho) h0
      exact ⟨_, by rw [e, hy]; exact indexAt_array ht h1 h2 h3 h4 w, hi, rfl⟩
    · cases hs
  · rename_i cells oo kk i
    unfold V.Is at hp hy
    obtain ⟨b, q, rfl, hc⟩ := hp
    subst hy
    injection hs with e1 e2; subst e1 e2
    obtain ⟨h1, h2, h3, h4⟩ := hpre
    refine ⟨_, indexAt_array ht h1 h2 h3 h4 w, ?_, rfl⟩
    unfold V.Is
    exact ⟨b, q, by rw [Nat.add_assoc], hc⟩
  · cases hs

theorem nil_step (R : RepE B w0 E0 E L0 L s a w) {p : V} {x : Value} (hp : p.Is E L x) {pre : Prop} {r : Out} (hs : semNil s.ow p = .ok pre r) (hpre : pre) (op : Operand) (ho : o.op = .nilCheck op) (hx : a.eval op = x) :
    ∃ v, (execOp a.eval o).run P w = .ok (.value v) w ∧ r.r.Is E L v ∧ r.upd = [] := by
  have key : (∃ q, x = .pointer (some q)) → (execOp a.eval o).run P w = .ok (.value x) w := by
    rintro ⟨q, rfl⟩
    simp [execOp, ho, hx]
  unfold semNil at hs
  split at hs
  · split at hs
    · rename_i hown
      injection hs with e1 e2; subst e1 e2
      obtain ⟨rfl, hk⟩ := hpre
      obtain ⟨g, q, e, _⟩ := own_shift R (d := 0) hp (.inl hown) hk
      exact ⟨x, key ⟨_, e⟩, hp, rfl⟩
    · rename_i hown
      injection hs with e1 e2; subst e1 e2
      obtain ⟨rfl, hk⟩ := hpre
      obtain ⟨g, q, e, _⟩ := own_shift R (d := 0) hp (.inr hown) hk
      exact ⟨x, key ⟨_, e⟩, hp, rfl⟩
    · cases hs
  · injection hs with e1 e2; subst e1 e2
    have hp' := hp
    unfold V.Is at hp'
    obtain ⟨b, q, e, _⟩ := hp'
    exact ⟨x, key ⟨_, e⟩, hp, rfl⟩
  · cases hs
end
end Go.K
