import Derived.Great.BuildSlice
import Derived.Test.YtbibplkhhdomnaaGreatW02
set_option linter.all false
namespace Go.K
open Go Go.RowKit
section
variable {P : Program} {B : Nat} {w0 : World} {E0 E : Ext} {L0 L : List Loc} {s : St} {a : Act} {w : World} {o : Oper}
theorem RepE.freeLoc (R : RepE B w0 E0 E L0 L s a w) {id : Nat} (h : s.ow[id]? = some .free) : L[id]? = some .free := by
  obtain ⟨l, hl⟩ := R.loc h
  have := R.owns id _ l h hl
  rw [hl]; exact congrArg some this
theorem RepE.newE (R : RepE B w0 E0 E L0 L s a w) {g : Nat} (h : w.heap.size ≤ g) : E g = none := by
  cases hE : E g with
  | none => rfl
  | some c => exact absurd (R.inn.lt hE) (by omega)
theorem RepE.fresh (R : RepE B w0 E0 E L0 L s a w) {id : Nat} (hid : s.ow[id]? = some .free) {w' : World} (hb : Below B w w') (hkeep : ∀ g, g < w.heap.size → w'.heap[g]? = w.heap[g]?)
    {cur : Array Value} {ty : TypeId} (hnew : w'.heap[w.heap.size]? = some (.cells cur ty (0, 0))) {sz cap : Nat} (h0 : 0 < sz) (hc0 : 0 < cap) (hcm : cap ≤ maxLen) (hcs : cur.size = cap * sz) {rows : List (List V)} (hrc : rows.length ≤ cap) (hrows : OwnRows E L cur sz rows) (hd : w.drawn ≤ w'.drawn := by first | exact Nat.le_refl _ | exact Nat.le_succ _ | assumption | exact run_drawn _ (by assumption)) :
    RepE B w0 E0 E L0 (L.set id (.lies 0 w.heap.size sz cap)) ⟨s.n, s.tm, s.ow.set id (.blk ty 0 sz rows)⟩ a w' ∧ (L.set id (.lies 0 w.heap.size sz cap))[id]? = some (.lies 0 w.heap.size sz cap) := by
  have hl := R.freeLoc hid
  refine ⟨R.setOwn hid hl hb trivial (fun g hg _ => hkeep g hg) ?_ (fun g hg => .inr ?_) hd, List.getElem?_set_self (get_lt hl)⟩
  · exact ⟨rfl, rfl, h0, R.base, R.newE (Nat.le_refl _), hcm, hrc, hc0, cur, hnew, hcs, hrows.mono E.le_refl (locs_set hl trivial)⟩
  · simp only [Own.at?, Option.some.injEq] at hg; omega
theorem RepE.freshNil (R : RepE B w0 E0 E L0 L s a w) {id : Nat} (hid : s.ow[id]? = some .free) {w' : World} (hb : Below B w w') (hkeep : ∀ g, g < w.heap.size → w'.heap[g]? = w.heap[g]?) (ty : TypeId) {sz : Nat} (h0 : 0 < sz) (hd : w.drawn ≤ w'.drawn := by first | exact Nat.le_refl _ | exact Nat.le_succ _ | assumption | exact run_drawn _ (by assumption)) :
    RepE B w0 E0 E L0 (L.set id (.nil 0)) ⟨s.n, s.tm, s.ow.set id (.blk ty 0 sz [])⟩ a w' ∧ (L.set id (.nil 0))[id]? = some (.nil 0) := by
  have hl := R.freeLoc hid
  exact ⟨R.setOwn hid hl hb trivial (fun g hg _ => hkeep g hg) ⟨rfl, rfl, h0⟩ (fun g hg => by cases hg) hd, List.getElem?_set_self (get_lt hl)⟩
theorem below_alloc (w : World) (ob : Obj) {B : Nat} (h : B ≤ w.heap.size) : Below B w (w.alloc ob) := (Below.refl B w).alloc h ob
theorem at_sl {id ver lo hi g sz cap : Nat} (hl : L[id]? = some (.lies ver g sz cap)) (h1 : lo ≤ hi) (h2 : hi ≤ cap) {A : Option Addr} (hA : lo < cap → A = some ⟨g, lo * sz, none⟩) : (V.rs id ver lo hi).Is E L (.slice A (hi - lo) (cap - lo)) := by
  unfold V.Is
  rw [hl]
  exact .inr ⟨rfl, h1, h2, A, rfl, hA⟩
theorem nil_sl {id ver : Nat} (hl : L[id]? = some (.nil ver)) (A : Option Addr) : (V.rs id ver 0 0).Is E L (.slice A 0 0) := by
  unfold V.Is
  rw [hl]
  exact .inr ⟨rfl, rfl, rfl, A, rfl⟩
theorem new_step (R : RepE B w0 E0 E L0 L s a w) {id : Nat} {t : TypeId} {sz : Nat} {cs : List V} {v : Value} (hv : IsOnes E L cs v.cells.toList)
    {pre : Prop} {r : Out} (hs : semNew s.ow id t sz cs = .ok pre r) (hpre : pre) :
    ∃ L', RepE B w0 E0 E L0 L' ⟨s.n, s.tm, app s.ow r.upd⟩ a (w.alloc (.cells v.cells t)) ∧ r.r.Is E L' (.pointer (some ⟨w.heap.size, 0, none⟩)) := by
  unfold semNew at hs
  split at hs
  · rename_i hid
    injection hs with e1 e2; subst e1 e2
    obtain ⟨hlen, h0⟩ := hpre
    have hvl : v.cells.toList.length = cs.length := isOnes_len hv
    obtain ⟨R', hl'⟩ := R.fresh hid (w' := w.alloc (.cells v.cells t)) (below_alloc w _ R.base) (fun g hg => heap_alloc_old w _ g hg) (cur := v.cells) (ty := t) (heap_alloc_new w _) (sz := sz) (cap := 1) h0 (by decide) (by decide) (by rw [← Array.length_toList, hvl, hlen, Nat.one_mul]) (rows := [cs]) (by simp) (by
      intro k row hk
      cases k with
      | succ k => simp at hk
      | zero =>
        simp only [List.getElem?_cons_zero, Option.some.injEq] at hk
        subst hk
        refine ⟨hlen, fun j c hj => ?_⟩
        obtain ⟨u, hu, h1, h2⟩ := isOnes_get hv hj
        exact ⟨h1, u, by simpa using hu, h2⟩)
    refine ⟨_, R', ?_⟩
    have := at_ptr (E := E) (k := 0) (off := 0) hl'
    simpa using this
  · cases hs
theorem of1_is {v : Value} (h : (V.of1 v).one = true) : (V.of1 v).Is E L v := by
  unfold V.of1 at h ⊢
  split <;> first | (unfold V.Is; rfl) | (unfold V.Is; exact ⟨none, rfl⟩) | (exact (show V.un.Is E L _ by unfold V.Is; trivial))
theorem of1s_is : ∀ {vs : List Value}, V.ones (V.of1s vs) = true → IsOnes E L (V.of1s vs) vs
  | [], _ => by unfold V.of1s IsOnes; rfl
  | v :: r, h => by
    unfold V.of1s V.ones at h
    rw [Bool.and_eq_true] at h
    unfold V.of1s IsOnes
    exact ⟨v, r, rfl, h.1, of1_is h.1, of1s_is h.2⟩
theorem TT.Ok.zero {tt : TT} (h : tt.Ok P) (t : TypeId) : IsOnes E L (tt t).z (tt t).zero := by
  have := (h.own t).z
  rw [this]
  exact of1s_is (by rw [← this]; exact (h.own t).ones)
theorem alloc_run {t : TypeId} {i : TI} (F : i.Facts P t) (w : World) : ∃ z : Value, (Instr.alloc t true (.tuple #[])).run P w = .ok (.pointer (some ⟨w.heap.size, 0, none⟩)) (w.alloc (.cells z.cells t)) ∧ z.cells.toList = i.zero := by
  obtain ⟨z, hz, hc⟩ := run_zeroValue' F w
  exact ⟨z, by simp [Instr.alloc, hz, newVar, newRow], hc⟩
theorem box_run (t : TypeId) (v : Value) (w : World) : (Instr.box t v).run P w = .ok (.pointer (some ⟨w.heap.size, 0, none⟩)) (w.alloc (.cells v.cells t)) := by
  simp [Instr.box, newVar, newRow]
theorem fld {fs : Array Field} {i : TI} (h : i.flds = fs.toList.map (fun f => (f.offset, f.type))) {k off : Nat} {ft : TypeId} (hk : i.flds[k]? = some (off, ft)) :
    ∃ f, fs[k]? = some f ∧ f.offset = off ∧ f.type = ft := by
  rw [h, List.getElem?_map] at hk
  cases hf : fs.toList[k]? with
  | none => rw [hf] at hk; cases hk
  | some f =>
    rw [hf] at hk
    simp only [Option.map_some, Option.some.injEq, Prod.mk.injEq] at hk
    exact ⟨f, by rw [← Array.getElem?_toList]; exact hf, hk.1, hk.2⟩
theorem fieldAt_run {tt : TT} (ht : tt.Ok P) {t ft : TypeId} {k off b oo : Nat} (hk : (tt t).kind = 1) (hf : (tt t).flds[k]? = some (off, ft)) (hft : (tt ft).kind ≠ 9) (hsz : (tt ft).sz ≠ 0) (w : World) :
    (Instr.fieldAt t (.pointer (some ⟨b, oo, none⟩)) k).run P w = .ok (.pointer (some ⟨b, oo + off, none⟩)) w := by
  obtain ⟨fs, hu, hfl⟩ := und_struct (ht.facts t (by rw [hk]; decide)) hk
  obtain ⟨f, h1, h2, h3⟩ := fld hfl hf
  have hs := run_sizeOf' (ht.facts ft hft) w
  rw [← h3] at hs hsz
  unfold Instr.fieldAt
  simp only [Sem.run_bind, run_underlying hu, Result.andThen_ok, h1, Instr.sureAddr, Sem.run_pure, fieldPlace, hs, Sem.run_ite]
  rw [if_neg hsz]
  simp [Addr.add_lit, h2]
theorem own_shift (R : RepE B w0 E0 E L0 L s a w) {id ver k off d sz : Nat} {rows : List (List V)} {ty : TypeId} {x : Value} (hx : (V.own id ver k off).Is E L x) (ho : s.ow[id]? = some (.blk ty ver sz rows) ∨ s.ow[id]? = some (.froz ty ver sz rows)) (hk : k < rows.length) :
    ∃ g oo, x = .pointer (some ⟨g, oo, none⟩) ∧ (V.own id ver k (off + d)).Is E L (.pointer (some ⟨g, oo + d, none⟩)) := by
  have key : ∀ g cap, L[id]? = some (.lies ver g sz cap) → ∃ g oo, x = .pointer (some ⟨g, oo, none⟩) ∧ (V.own id ver k (off + d)).Is E L (.pointer (some ⟨g, oo + d, none⟩)) := by
    intro g cap hl
    refine ⟨g, _, ptr_at hx hl, ?_⟩
    have := at_ptr (E := E) (k := k) (off := off + d) hl
    rwa [← Nat.add_assoc] at this
  rcases ho with ho | ho
  · obtain ⟨g, cap, _, hl, _⟩ := R.blk ho hk
    exact key g cap hl
  · obtain ⟨g, cap, hl, _⟩ := R.frz ho hk
    exact key g cap hl
theorem field_step {tt : TT} (ht : tt.Ok P) (R : RepE B w0 E0 E L0 L s a w) {t : TypeId} {k : Nat} {p : V} {x : Value} (hp : p.Is E L x) {pre : Prop} {r : Out} (hs : semField tt t k s.ow p = .ok pre r) (hpre : pre) :
    ∃ v, (Instr.fieldAt t x k).run P w = .ok v w ∧ r.r.Is E L v ∧ r.upd = [] := by
  unfold semField at hs
  split at hs
  · rename_i id ver kk oo
    split at hs
    · rename_i off ft ty v sz rows hf ho
      injection hs with e1 e2; subst e1 e2
      obtain ⟨rfl, h0, h1, h2, h3⟩ := hpre
      obtain ⟨g, q, e, hi⟩ := own_shift R (d := off) hp (.inl ho) h0
      exact ⟨_, by rw [e]; exact fieldAt_run ht h1 hf h2 h3 w, hi, rfl⟩
    · rename_i off ft ty v sz rows hf ho
      injection hs with e1 e2; subst e1 e2
      obtain ⟨rfl, h0, h1, h2, h3⟩ := hpre
      obtain ⟨g, q, e, hi⟩ := own_shift R (d := off) hp (.inr ho) h0
      exact ⟨_, by rw [e]; exact fieldAt_run ht h1 hf h2 h3 w, hi, rfl⟩
    · cases hs
  · rename_i cells oo
    unfold V.Is at hp
    obtain ⟨b, q, rfl, hc⟩ := hp
    split at hs
    · rename_i off ft hf
      injection hs with e1 e2; subst e1 e2
      obtain ⟨h1, h2, h3⟩ := hpre
      refine ⟨_, fieldAt_run ht h1 hf h2 h3 w, ?_, rfl⟩
      unfold V.Is
      exact ⟨b, q, by rw [Nat.add_assoc], hc⟩
    · cases hs
  · cases hs
theorem part_run {t : TypeId} {i : TI} (F : i.Facts P t) (w : World) (cs : List V) (vs : List Value) (off : Nat) (h : off + i.sz ≤ cs.length) (hag : i.isAgg = true ∨ i.sz = 1) (hcs : IsOnes E L cs vs) :
    ∃ v, (part t vs.toArray off).run P w = .ok v w ∧ (V.mk i.isAgg ((cs.drop off).take i.sz)).Is E L v := by
  have hlen := isOnes_len hcs
  have hm := mk_is (agg := i.isAgg) (isOnes_sub hcs off i.sz) (by
    rcases hag with h' | h'
    · exact .inl h'
    · right; simp only [List.length_take, List.length_drop]; omega)
  unfold part
  simp only [Sem.run_bind, run_isAgg' F, Result.andThen_ok, Sem.run_ite]
  by_cases hg : i.isAgg = true
  · simp only [hg, if_true, run_sizeOf' F, Result.andThen_ok, Sem.run_pure] at hm ⊢
    refine ⟨_, rfl, ?_⟩
    have : vs.toArray.extract off (off + i.sz) = ((vs.drop off).take i.sz).toArray := by
      simp [List.extract_toArray, List.extract_eq_take_drop]
    rw [this]; exact hm
  · simp only [hg] at hm ⊢
    have h1 : i.sz = 1 := hag.resolve_left hg
    have hlt : off < vs.length := by omega
    refine ⟨vs[off], ?_, ?_⟩
    · simp [hlt]
    · have : ((vs.drop off).take i.sz).getD 0 undef = vs[off] := by
        rw [h1]
        simp [hlt]
      rw [this] at hm
      simpa using hm
theorem fieldV_step {tt : TT} (ht : tt.Ok P) {t : TypeId} {k : Nat} {p : V} {x : Value} (hp : p.Is E L x) {pre : Prop} {r : Out} (hs : semFieldV tt t k p = .ok pre r) (hpre : pre) :
    ∃ v, (Instr.field t x k).run P w = .ok v w ∧ r.r.Is E L v ∧ r.upd = [] := by
  unfold semFieldV at hs
  split at hs
  · rename_i cs
    split at hs
    · rename_i off ft hf
      injection hs with e1 e2; subst e1 e2
      obtain ⟨h1, h2, h3, h4⟩ := hpre
      unfold V.Is at hp
      obtain ⟨vs, rfl, hcs⟩ := hp
      obtain ⟨fs, hu, hfl⟩ := und_struct (ht.facts t (by rw [h1]; decide)) h1
      obtain ⟨f, g1, g2, g3⟩ := fld hfl hf
      obtain ⟨v, hv, hi⟩ := part_run (ht.facts ft h2) w cs vs off h3 h4 hcs
      refine ⟨v, ?_, hi, rfl⟩
      unfold Instr.field
      simp only [Sem.run_bind, run_underlying hu, Result.andThen_ok, g1, asAgg, Sem.run_pure, g2, g3, hv]
    · cases hs
  · cases hs
theorem indexV_step {tt : TT} (ht : tt.Ok P) {t : TypeId} {p ix : V} {x y : Value} (hp : p.Is E L x) (hy : ix.Is E L y) {pre : Prop} {r : Out} (hs : semIndexV tt t p ix = .ok pre r) (hpre : pre) :
    ∃ v, (Instr.index t x y).run P w = .ok v w ∧ r.r.Is E L v ∧ r.upd = [] := by
  unfold semIndexV at hs
  split at hs
  · rename_i cs kk i
    injection hs with e1 e2; subst e1 e2
    obtain ⟨h1, h2, h3, h4, h5, h6⟩ := hpre
    unfold V.Is at hp hy
    obtain ⟨vs, rfl, hcs⟩ := hp
    subst hy
    have hu := und_array (ht.facts t (by rw [h1]; decide)) h1
    obtain ⟨v, hv, hi⟩ := part_run (ht.facts _ h2) w cs vs _ h5 h6 hcs
    refine ⟨v, ?_, hi, rfl⟩
    unfold Instr.index
    simp only [Sem.run_bind, asIntOf, Sem.run_pure, Result.andThen_ok, run_underlying hu, Sem.run_ite, run_sizeOf' (ht.facts _ h2)]
    rw [if_pos ⟨h3, h4⟩, hv]
  · cases hs
theorem indexAt_slice {tt : TT} (ht : tt.Ok P) {t : TypeId} {k : IntKind} {i : Int} {b oo n cap : Nat} (h1 : (tt t).kind = 3) (h2 : (tt (tt t).el).kind ≠ 9) (h3 : 0 ≤ i) (h4 : i < n) (w : World) :
    (Instr.indexAt t (.slice (some ⟨b, oo, none⟩) n cap) (.int k i)).run P w = .ok (.pointer (some ⟨b, oo + i.toNat * (tt (tt t).el).sz, none⟩)) w := by
  have hu := und_slice (ht.facts t (by rw [h1]; decide)) h1
  unfold Instr.indexAt
  simp only [Sem.run_bind, asIntOf, Sem.run_pure, Result.andThen_ok, run_underlying hu, Sem.run_ite, run_sizeOf' (ht.facts _ h2)]
  rw [if_pos ⟨h3, h4⟩]
  simp [Addr.add_lit]
theorem indexAt_array {tt : TT} (ht : tt.Ok P) {t : TypeId} {k : IntKind} {i : Int} {b oo : Nat} (h1 : (tt t).kind = 2) (h2 : (tt (tt t).el).kind ≠ 9) (h3 : 0 ≤ i) (h4 : i < (tt t).len) (w : World) :
    (Instr.indexAt t (.pointer (some ⟨b, oo, none⟩)) (.int k i)).run P w = .ok (.pointer (some ⟨b, oo + i.toNat * (tt (tt t).el).sz, none⟩)) w := by
  have hu := und_array (ht.facts t (by rw [h1]; decide)) h1
  unfold Instr.indexAt
  simp only [Sem.run_bind, asIntOf, Sem.run_pure, Result.andThen_ok, run_underlying hu, Sem.run_ite, run_sizeOf' (ht.facts _ h2), Instr.sureAddr]
  rw [if_pos ⟨h3, h4⟩]
  simp [Addr.add_lit]
theorem sl_at {id ver lo hi g sz cap : Nat} {x : Value} (hx : (V.rs id ver lo hi).Is E L x) (hl : L[id]? = some (.lies ver g sz cap)) : lo ≤ hi ∧ hi ≤ cap ∧ ∃ A, x = .slice A (hi - lo) (cap - lo) ∧ (lo < cap → A = some ⟨g, lo * sz, none⟩) := by
  unfold V.Is at hx
  rw [hl] at hx
  rcases hx with ⟨h, _⟩ | ⟨_, h⟩
  · omega
  · exact h
theorem index_step {tt : TT} (ht : tt.Ok P) (R : RepE B w0 E0 E L0 L s a w) {t : TypeId} {p ix : V} {x y : Value} (hp : p.Is E L x) (hy : ix.Is E L y) {pre : Prop} {r : Out} (hs : semIndex tt t s.ow p ix = .ok pre r) (hpre : pre) :
    ∃ v, (Instr.indexAt t x y).run P w = .ok v w ∧ r.r.Is E L v ∧ r.upd = [] := by
  have row : ∀ {id ver lo hi sz : Nat} {k : IntKind} {i : Int} {g cap : Nat}, (V.rs id ver lo hi).Is E L x → L[id]? = some (.lies ver g sz cap) → y = .int k i → (tt t).kind = 3 → (tt (tt t).el).kind ≠ 9 → sz = (tt (tt t).el).sz → 0 ≤ i → lo + i < hi →
      ∃ v, (Instr.indexAt t x y).run P w = .ok v w ∧ (V.own id ver (lo + i.toNat) 0).Is E L v := by
    intro id ver lo hi sz k i g cap hx hl hy h1 h2 h3 h4 h5
    obtain ⟨a1, a2, A, rfl, hA⟩ := sl_at hx hl
    obtain rfl := hA (by omega)
    subst hy h3
    refine ⟨_, indexAt_slice ht h1 h2 h4 (by omega) w, ?_⟩
    have := at_ptr (E := E) (k := lo + i.toNat) (off := 0) hl
    rwa [Nat.add_mul, Nat.add_zero] at this
  unfold semIndex at hs
  split at hs
  · rename_i rows kk i
    injection hs with e1 e2; subst e1 e2
    obtain ⟨h1, h2, h3, h4, h5⟩ := hpre
    unfold V.Is at hp hy
    obtain ⟨A, cap, rfl, hcap, hh⟩ := hp
    subst hy
    have hlt : i.toNat < rows.length := by omega
    rcases hh with rfl | ⟨b, o, sz, rfl, hrows⟩
    · simp at hlt
    obtain ⟨k1, k2⟩ := rowsAt_get hrows (getD_get hlt (tt (tt t).el).z)
    refine ⟨_, indexAt_slice ht h1 h2 h3 h4 w, ?_, rfl⟩
    unfold V.Is
    refine ⟨b, o + i.toNat * (tt (tt t).el).sz, by rw [Nat.add_zero], ?_⟩
    rw [← h5, k1]; exact k2
  · rename_i id ver lo hi kk i
    unfold V.Is at hy
    split at hs
    · rename_i ty v sz rows ho
      injection hs with e1 e2; subst e1 e2
      obtain ⟨rfl, h0, h1, h2, h3, h4, h5⟩ := hpre
      obtain ⟨g, cap, _, hl, _⟩ := R.blk ho (k := lo + i.toNat) (by omega)
      obtain ⟨v, hv, hi⟩ := row hp hl hy h1 h2 h3 h4 h5
      exact ⟨v, hv, hi, rfl⟩
    · rename_i ty v sz rows ho
      injection hs with e1 e2; subst e1 e2
      obtain ⟨rfl, h0, h1, h2, h3, h4, h5⟩ := hpre
      obtain ⟨g, cap, hl, _⟩ := R.frz ho (k := lo + i.toNat) (by omega)
      obtain ⟨v, hv, hi⟩ := row hp hl hy h1 h2 h3 h4 h5
      exact ⟨v, hv, hi, rfl⟩
    · cases hs
  · rename_i id ver k oo kk i
    unfold V.Is at hy
    split at hs
    · rename_i ty v sz rows ho
      injection hs with e1 e2; subst e1 e2
      obtain ⟨rfl, h0, h1, h2, h3, h4⟩ := hpre
      obtain ⟨g, q, e, hi⟩ := own_shift R (d := i.toNat * (tt (tt t).el).sz) hp (.inl ho) h0
      exact ⟨_, by rw [e, hy]; exact indexAt_array ht h1 h2 h3 h4 w, hi, rfl⟩
    · rename_i ty v sz rows ho
      injection hs with e1 e2; subst e1 e2
      obtain ⟨rfl, h0, h1, h2, h3, h4⟩ := hpre
      obtain ⟨g, q, e, hi⟩ := own_shift R (d := i.toNat * (tt (tt t).el).sz) hp (.inr ho) h0
      exact ⟨_, by rw [e, hy]; exact indexAt_array ht h1 h2 h3 h4 w, hi, rfl⟩
    · cases hs
  · rename_i cells oo kk i
    unfold V.Is at hp hy
    obtain ⟨b, q, rfl, hc⟩ := hp
    subst hy
    injection hs with e1 e2; subst e1 e2
    obtain ⟨h1, h2, h3, h4⟩ := hpre
    refine ⟨_, indexAt_array ht h1 h2 h3 h4 w, ?_, rfl⟩
    unfold V.Is
    exact ⟨b, q, by rw [Nat.add_assoc], hc⟩
  · cases hs
theorem nil_step (R : RepE B w0 E0 E L0 L s a w) {p : V} {x : Value} (hp : p.Is E L x) {pre : Prop} {r : Out} (hs : semNil s.ow p = .ok pre r) (hpre : pre) (op : Operand) (ho : o.op = .nilCheck op) (hx : a.eval op = x) :
    ∃ v, (execOp a.eval o).run P w = .ok (.value v) w ∧ r.r.Is E L v ∧ r.upd = [] := by
  have key : (∃ q, x = .pointer (some q)) → (execOp a.eval o).run P w = .ok (.value x) w := by
    rintro ⟨q, rfl⟩
    simp [execOp, ho, hx]
  unfold semNil at hs
  split at hs
  · split at hs
    · rename_i hown
      injection hs with e1 e2; subst e1 e2
      obtain ⟨rfl, hk⟩ := hpre
      obtain ⟨g, q, e, _⟩ := own_shift R (d := 0) hp (.inl hown) hk
      exact ⟨x, key ⟨_, e⟩, hp, rfl⟩
    · rename_i hown
      injection hs with e1 e2; subst e1 e2
      obtain ⟨rfl, hk⟩ := hpre
      obtain ⟨g, q, e, _⟩ := own_shift R (d := 0) hp (.inr hown) hk
      exact ⟨x, key ⟨_, e⟩, hp, rfl⟩
    · cases hs
  · injection hs with e1 e2; subst e1 e2
    have hp' := hp
    unfold V.Is at hp'
    obtain ⟨b, q, e, _⟩ := hp'
    exact ⟨x, key ⟨_, e⟩, hp, rfl⟩
  · cases hs
end
end Go.K
namespace Go.K
open Go Go.RowKit
section
variable {P : Program} {B : Nat} {w0 : World} {E0 E : Ext} {L0 L : List Loc} {s : St} {a : Act} {w : World} {o : Oper}
theorem fold_set (off : Nat) : ∀ (us : List Value) (k : Nat) (vs : List Value), off + k + us.length ≤ vs.length →
    ((us.zipIdx k).foldl (fun (q : Array Value) (p : Value × Nat) => q.setIfInBounds (off + p.2) p.1) vs.toArray) = (vs.take (off + k) ++ us ++ vs.drop (off + k + us.length)).toArray
  | [], k, vs, _ => by simp
  | x :: r, k, vs, h => by
    simp only [List.length_cons] at h
    simp only [List.zipIdx_cons, List.foldl_cons, List.setIfInBounds_toArray]
    rw [fold_set off r (k + 1) _ (by simp; omega)]
    congr 1
    apply List.ext_getElem?
    intro j
    have e1 : off + (k + 1) = (off + k) + 1 := by omega
    rw [e1, splice_get _ _ _ _ (by simp; omega)]
    have := splice_get vs (x :: r) (off + k) j (by simp; omega)
    rw [this]
    simp only [List.length_cons]
    by_cases e : j = off + k
    · subst e
      rw [if_neg (by omega), if_pos (by omega), List.getElem?_set_self (by omega)]; simp
    · rw [List.getElem?_set_ne (fun h => e h.symm)]
      by_cases h1 : off + k ≤ j ∧ j < off + k + (r.length + 1)
      · rw [if_pos (by omega), if_pos h1, show j - (off + k) = (j - (off + k + 1)) + 1 by omega]; rfl
      · rw [if_neg (by omega), if_neg h1]
theorem setCells_is {cs xs : List V} {vs us : List Value} (h : IsOnes E L cs vs) (hx : IsOnes E L xs us) {off : Nat} (hf : off + xs.length ≤ cs.length) : IsOnes E L (setCells cs off xs) (vs.take off ++ us ++ vs.drop (off + us.length)) := by
  have hl := isOnes_len h
  have hu := isOnes_len hx
  refine isOnes_of (by simp [setCells_length]; omega) fun k x v h1 h2 => ?_
  rw [setCells_get _ _ _ _ hf] at h1
  rw [splice_get _ _ _ _ (by omega)] at h2
  split at h1
  · rename_i hk
    rw [if_pos (by omega)] at h2
    obtain ⟨u, q1, q2, q3⟩ := isOnes_get hx h1
    rw [q1] at h2; injection h2 with h2; subst h2
    exact ⟨q2, q3⟩
  · rename_i hk
    rw [if_neg (by omega)] at h2
    obtain ⟨u, q1, q2, q3⟩ := isOnes_get h h1
    rw [q1] at h2; injection h2 with h2; subst h2
    exact ⟨q2, q3⟩
theorem fills_run (place : Nat → Option (Nat × Nat)) : ∀ (idx : List Nat) (xs : List V) (vs : List Value) (cs : List V) (us : List Value) (res : List V), IsAll E L xs vs → IsOnes E L cs us → fills place cs (idx.zip xs) = some res →
    ∃ qs : List Value, Instr.fill place us.toArray (idx.zip vs) = some qs.toArray ∧ IsOnes E L res qs
  | [], xs, vs, cs, us, res, _, hok, h => by
    simp only [List.zip_nil_left, fills, Option.some.injEq] at h
    subst h
    exact ⟨us, rfl, hok⟩
  | k :: idx, [], vs, cs, us, res, hx, hok, h => by
    unfold IsAll at hx
    subst hx
    simp only [List.zip_nil_right, fills, Option.some.injEq] at h
    subst h
    exact ⟨us, rfl, hok⟩
  | k :: idx, x :: xs, vs, cs, us, res, hx, hok, h => by
    unfold IsAll at hx
    obtain ⟨v, r, rfl, hv, hr⟩ := hx
    simp only [List.zip_cons_cons, fills] at h
    split at h
    · rename_i off size ys hp hc
      split at h
      · rename_i hh
        obtain ⟨h1, h2⟩ := hh
        have hones := cells?_is hc hv
        have hyl := isOnes_len hones
        have hul := isOnes_len hok
        have hz : ((v.cells.zipIdx).foldl (fun (q : Array Value) (p : Value × Nat) => q.setIfInBounds (off + p.2) p.1) us.toArray) = (us.take off ++ v.cells.toList ++ us.drop (off + v.cells.toList.length)).toArray := by
          have hfs := fold_set off v.cells.toList 0 us (by omega)
          rw [Nat.add_zero] at hfs
          rw [← hfs, ← Array.foldl_toList, Array.toList_zipIdx]
        obtain ⟨qs, r1, r2⟩ := fills_run place idx xs r (setCells cs off ys) _ res hr (setCells_is hok hones (off := off) (by omega)) h
        refine ⟨qs, ?_, r2⟩
        rw [List.zip_cons_cons, Instr.fill]
        simp only [hp]
        have hsz : v.cells.size = size := by rw [← Array.length_toList, hyl, h1]
        rw [if_neg (by simp [hsz]; omega), hz]
        exact r1
      · cases h
    · cases h
theorem facts_info {t : TypeId} {i : TI} (F : i.Facts P t) : ∃ x, P.info? t = some x ∧ x.size = i.sz ∧ x.bytes = i.bytes ∧ ∃ z : Value, x.zero = some z ∧ z.cells = i.zero.toArray := by
  obtain ⟨x, d, z, hx, hd, hz, hzc, hsz, hb, hs⟩ := F.got
  exact ⟨x, hx, hsz, hb, z, hz, by rw [← hzc]⟩
theorem parts_zip (parts : Array (Nat × Operand)) : (parts.map fun (x : Nat × Operand) => match x with | (i, y) => (i, a.eval y)).toList = (parts.toList.map (·.1)).zip ((parts.toList.map (·.2)).map a.eval) := by
  rw [Array.toList_map]
  induction parts.toList with
  | nil => rfl
  | cons p r ih => simp [ih]
theorem build_step {tt : TT} (ht : tt.Ok P) {t : TypeId} {parts : Array (Nat × Operand)} (ho : o.op = .build t parts) {xs : List V}
    (hx : IsAll E L xs ((parts.toList.map (·.2)).map a.eval)) {pre : Prop} {r : Out} (hs : semBuild tt t (parts.toList.map (·.1)) xs = .ok pre r) (hpre : pre) :
    ∃ v, (execOp a.eval o).run P w = .ok (.value v) w ∧ r.r.Is E L v ∧ r.upd = [] := by
  have fin : ∀ (res : List V) (qs : List Value), P.built t (parts.map fun (x : Nat × Operand) => match x with | (i, y) => (i, a.eval y)).toList = some qs.toArray → IsOnes E L res qs →
      ∃ v, (execOp a.eval o).run P w = .ok (.value v) w ∧ (V.agg res).Is E L v := by
    intro res qs hb hok
    refine ⟨.agg qs.toArray, ?_, ?_⟩
    · unfold execOp
      simp only [ho, Sem.run_bind]
      have := run_build (P := P) w t _ _ hb
      rw [this]; rfl
    · unfold V.Is; exact ⟨qs, rfl, hok⟩
  unfold semBuild at hs
  split at hs
  · rename_i hk
    split at hs
    · rename_i res hf
      injection hs with e1 e2; subst e1 e2
      replace hpre := okFlds_mem hpre
      obtain ⟨fs, hu, hfl⟩ := und_struct (ht.facts t (by rw [hk]; decide)) hk
      obtain ⟨x, hi, hsz, hb, z, hz, hzc⟩ := facts_info (ht.facts t (by rw [hk]; decide))
      obtain ⟨qs, r1, r2⟩ := fills_run _ _ _ _ _ _ _ hx (ht.zero t) hf
      obtain ⟨v, hv1, hv2⟩ := fin res qs (by
        unfold Program.built
        have hp : fs.toList.mapM (fun f => (P.info? f.type).map fun i => (f.offset, i.size)) = some ((tt t).flds.map fun p => (p.1, (tt p.2).sz)) := by
          rw [hfl] at hpre ⊢
          generalize fs.toList = l at hpre ⊢
          induction l with
          | nil => rfl
          | cons f l ih =>
            have hk2 := hpre (f.offset, f.type) (by simp)
            obtain ⟨y, hy, hys, _⟩ := facts_info (ht.facts f.type hk2)
            simp only [List.mapM_cons, hy, Option.map_some, List.map_cons]
            have := ih (fun p hp => hpre p (by simp only [List.map_cons, List.mem_cons]; right; exact hp))
            simp [this, hys]
        simp only [hi, hu, hz, hp, parts_zip]
        rw [hzc]
        have e : (fun (k : Nat) => (List.map (fun p => (p.1, (tt p.2).sz)) (tt t).flds).toArray[k]?) = fun k => ((tt t).flds[k]?).map fun p => (p.1, (tt p.2).sz) := by
          funext k; simp
        rw [e]
        exact r1) r2
      exact ⟨v, hv1, hv2, rfl⟩
    · cases hs
  · rename_i hk
    split at hs
    · rename_i res hf
      injection hs with e1 e2; subst e1 e2
      have hu := und_array (ht.facts t (by rw [hk]; decide)) hk
      obtain ⟨x, hi, hsz, hb, z, hz, hzc⟩ := facts_info (ht.facts t (by rw [hk]; decide))
      obtain ⟨y, hy, hys, _⟩ := facts_info (ht.facts (tt t).el hpre)
      obtain ⟨qs, r1, r2⟩ := fills_run _ _ _ _ _ _ _ hx (ht.zero t) hf
      obtain ⟨v, hv1, hv2⟩ := fin res qs (by
        unfold Program.built
        simp only [hi, hu, hz, hy, parts_zip, hys, hzc]
        exact r1) r2
      exact ⟨v, hv1, hv2, rfl⟩
    · cases hs
  · cases hs
theorem isOnes_append : ∀ {xs ys : List V} {vs us : List Value}, IsOnes E L xs vs → IsOnes E L ys us → IsOnes E L (xs ++ ys) (vs ++ us)
  | [], _, vs, us, h, k => by unfold IsOnes at h; subst h; exact k
  | x :: xs, ys, vs, us, h, k => by
    unfold IsOnes at h
    obtain ⟨v, r, rfl, h1, hv, hr⟩ := h
    show IsOnes E L (x :: (xs ++ ys)) (v :: (r ++ us))
    unfold IsOnes
    exact ⟨v, r ++ us, rfl, h1, hv, isOnes_append hr k⟩
theorem repl_main {z : List V} {zero : List Value} (h : IsOnes E L z zero) : ∀ n : Nat, IsOnes E L (repl z n) ((List.range (n * zero.length)).map (fun i => zero.toArray[i % zero.toArray.size]!))
  | 0 => by simp [repl]; unfold IsOnes; rfl
  | n + 1 => by
    have e : (List.range ((n + 1) * zero.length)).map (fun i => zero.toArray[i % zero.toArray.size]!) = zero ++ (List.range (n * zero.length)).map (fun i => zero.toArray[i % zero.toArray.size]!) := by
      rw [show (n + 1) * zero.length = zero.length + n * zero.length by rw [Nat.succ_mul, Nat.add_comm], List.range_add, List.map_append]
      congr 1
      · apply List.ext_getElem?
        intro j
        by_cases hj : j < zero.length
        · simp [hj, Nat.mod_eq_of_lt hj]
        · simp [hj]
      · rw [List.map_map]
        apply List.map_congr_left
        intro j _
        simp [Nat.add_mod_left]
    rw [e]
    exact isOnes_append h (repl_main h n)
theorem repl_is {z : List V} {zero : List Value} (h : IsOnes E L z zero) (n : Nat) : ∃ us : List Value, IsOnes E L (repl z n) us ∧ us.length = n * zero.length ∧ us.toArray = (Array.range (n * zero.length)).map (zero.toArray[· % zero.toArray.size]!) :=
  ⟨_, repl_main h n, by simp, by apply Array.ext'; simp⟩
theorem chunk_length (sz : Nat) : ∀ (n : Nat) (cs : List V), (chunk sz n cs).length = n
  | 0, _ => rfl
  | n + 1, cs => by rw [chunk, List.length_cons, chunk_length sz n]
theorem chunk_get (sz : Nat) : ∀ (n : Nat) (cs : List V) (k : Nat) (row : List V), (chunk sz n cs)[k]? = some row → k < n ∧ row = (cs.drop (k * sz)).take sz
  | 0, cs, k, row, h => by simp [chunk] at h
  | n + 1, cs, 0, row, h => by
    simp only [chunk, List.getElem?_cons_zero, Option.some.injEq] at h
    exact ⟨by omega, by simp [← h]⟩
  | n + 1, cs, k + 1, row, h => by
    simp only [chunk, List.getElem?_cons_succ] at h
    obtain ⟨h1, h2⟩ := chunk_get sz n _ k row h
    refine ⟨by omega, ?_⟩
    rw [h2, List.drop_drop]
    congr 2
    rw [Nat.succ_mul]; omega
theorem chunk_rows {sz n : Nat} {cs : List V} {us : List Value} (h : IsOnes E L cs us) (hl : cs.length = n * sz) {cur : Array Value} (hc : ∀ (j : Nat) (u : Value), us[j]? = some u → cur[j]? = some u) : OwnRows E L cur sz (chunk sz n cs) := by
  intro k row hk
  obtain ⟨h1, rfl⟩ := chunk_get sz n cs k row hk
  have hks : k * sz + sz ≤ n * sz := by
    have := Nat.mul_le_mul_right sz (Nat.succ_le_of_lt h1)
    rwa [Nat.succ_mul] at this
  refine ⟨by simp; omega, fun j c hj => ?_⟩
  rw [List.getElem?_take] at hj
  split at hj
  · rw [List.getElem?_drop] at hj
    obtain ⟨u, q1, q2, q3⟩ := isOnes_get h hj
    exact ⟨q2, u, hc _ _ q1, q3⟩
  · cases hj
theorem buildSlice_step {tt : TT} (ht : tt.Ok P) (R : RepE B w0 E0 E L0 L s a w) {t : TypeId} {len id : Nat} {parts : Array (Nat × Operand)} (ho : o.op = .buildSlice t len parts) {xs : List V}
    (hx : IsAll E L xs ((parts.toList.map (·.2)).map a.eval)) {pre : Prop} {r : Out} (hs : semBuildSlice tt t len (parts.toList.map (·.1)) s.ow id xs = .ok pre r) (hpre : pre) :
    ∃ v w' L', (execOp a.eval o).run P w = .ok (.value v) w' ∧ RepE B w0 E0 E L0 L' ⟨s.n, s.tm, app s.ow r.upd⟩ a w' ∧ r.r.Is E L' v := by
  unfold semBuildSlice at hs
  split at hs
  · rename_i cs hid hf
    injection hs with e1 e2; subst e1 e2
    obtain ⟨k1, k2, k3, k4, k5⟩ := hpre
    have hu := und_slice (ht.facts t (by rw [k1]; decide)) k1
    obtain ⟨x, hi, hsz, hb, z, hz, hzc⟩ := facts_info (ht.facts (tt t).el k2)
    have hzl : (tt (tt t).el).zero.length = (tt (tt t).el).sz := by rw [isOnes_len (ht.zero (E := E) (L := L) (tt t).el), (ht.own _).len]
    obtain ⟨us, u1, u2, u3⟩ := repl_is (ht.zero (E := E) (L := L) (tt t).el) len
    obtain ⟨qs, r1, r2⟩ := fills_run _ _ _ _ _ _ _ hx u1 hf
    have hfl : ∀ (place : Nat → Option (Nat × Nat)) (ps : List (Nat × V)) (cs res : List V), fills place cs ps = some res → res.length = cs.length := by
      intro place ps
      induction ps with
      | nil => intro cs res h; simp only [fills, Option.some.injEq] at h; rw [h]
      | cons p ps ih =>
        intro cs res h
        obtain ⟨k, y⟩ := p
        simp only [fills] at h
        split at h
        · split at h
          · rw [ih _ _ h, setCells_length]
          · cases h
        · cases h
    have hcl : cs.length = len * (tt (tt t).el).sz := by rw [hfl _ _ _ _ hf, ← isOnes_len u1, u2, hzl]
    have hql : qs.length = len * (tt (tt t).el).sz := by rw [isOnes_len r2, hcl]
    have hrun : (Instr.buildSlice t len (parts.map fun (x : Nat × Operand) => match x with | (i, y) => (i, a.eval y))).run P w = .ok (.slice (some ⟨w.heap.size, 0, none⟩) len len) (w.alloc (.cells qs.toArray (tt t).el)) := by
      by_cases hlen : len = 0
      · subst hlen
        have hres : qs = [] := List.eq_nil_of_length_eq_zero (by rw [hql]; simp)
        subst hres
        have hf2 : Instr.fill (fun i => some (i * (tt (tt t).el).sz, (tt (tt t).el).sz)) #[] ((parts.toList.map (·.1)).zip ((parts.toList.map (·.2)).map a.eval)) = some #[] := by
          have hus : us = [] := List.eq_nil_of_length_eq_zero (by rw [u2]; simp)
          rw [hus] at r1
          exact r1
        have hpz := parts_zip (a := a) parts
        unfold Instr.buildSlice
        simp only [Sem.run_bind, run_underlying hu, Result.andThen_ok, run_sizeOf' (ht.facts _ k2), Nat.zero_mul, Sem.run_ite]
        rw [if_neg (by simp)]
        simp only [Sem.run_pure, Result.andThen_ok, if_true]
        rw [hpz, show (Array.range 0).map (fun i => (#[] : Array Value)[i % (#[] : Array Value).size]!) = #[] from Array.eq_empty_of_size_eq_zero (by simp), hf2]
        simp [newRow]
      · have hpos : 0 < len * (tt (tt t).el).sz := Nat.mul_pos (by omega) k3
        refine run_buildSlice w t _ len _ _ x z hu hi hz (by rw [hsz]; omega) (by rw [hsz]; omega) ?_
        rw [parts_zip, hsz, hzc]
        rw [u3, hzl] at r1
        exact r1
    have hex : (execOp a.eval o).run P w = .ok (.value (.slice (some ⟨w.heap.size, 0, none⟩) len len)) (w.alloc (.cells qs.toArray (tt t).el)) := by
      unfold execOp
      simp only [ho, Sem.run_bind]
      refine (congrArg (fun q => Result.andThen q _) hrun).trans ?_
      rfl
    by_cases hlen : len = 0
    · subst hlen
      obtain ⟨R', hl'⟩ := R.freshNil hid (w' := w.alloc (.cells qs.toArray (tt t).el)) (below_alloc w _ R.base) (fun g hg => heap_alloc_old w _ g hg) (tt t).el k3
      exact ⟨_, _, _, hex, R', nil_sl hl' _⟩
    · obtain ⟨R', hl'⟩ := R.fresh hid (w' := w.alloc (.cells qs.toArray (tt t).el)) (below_alloc w _ R.base) (fun g hg => heap_alloc_old w _ g hg) (cur := qs.toArray) (ty := (tt t).el) (heap_alloc_new w _) (sz := (tt (tt t).el).sz) (cap := len) k3 (by omega) k5 (by simpa using hql)
        (rows := chunk (tt (tt t).el).sz len cs) (by rw [chunk_length]; exact Nat.le_refl _) (chunk_rows r2 hcl (by simp))
      refine ⟨_, _, _, hex, R', ?_⟩
      have := at_sl (E := E) (lo := 0) (hi := len) hl' (Nat.zero_le _) (Nat.le_refl _) (A := some ⟨w.heap.size, 0, none⟩) (by intro; simp)
      simpa using this
  · cases hs
end
end Go.K
