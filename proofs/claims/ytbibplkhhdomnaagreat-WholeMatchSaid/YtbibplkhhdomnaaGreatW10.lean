import Derived.Test.YtbibplkhhdomnaaGreatW09
set_option linter.all false
namespace Go.K
open Go Go.RowKit
section
variable {P : Program} {B : Nat} {w0 : World} {E0 E E' : Ext} {L0 L : List Loc} {s : St} {a : Act} {w : World} {m : Nat}
theorem vmaps_len {g : V → Option V} : ∀ {xs ys : List V}, vmaps g xs = some ys → ys.length = xs.length
  | [], ys, h => by unfold vmaps at h; injection h with h; subst h; rfl
  | x :: r, ys, h => by
    unfold vmaps at h
    split at h
    · rename_i d ds h1 h2
      injection h with h; subst h
      simp [vmaps_len h2]
    · cases h
theorem vrows_get {g : V → Option V} : ∀ {rows rs : List (List V)}, vrows g rows = some rs → rs.length = rows.length ∧ ∀ (k : Nat) (r : List V), rows[k]? = some r → ∃ q, rs[k]? = some q ∧ vmaps g r = some q
  | [], rs, h => by unfold vrows at h; injection h with h; subst h; exact ⟨rfl, fun k r h => by simp at h⟩
  | x :: r, rs, h => by
    unfold vrows at h
    split at h
    · rename_i d ds h1 h2
      injection h with h; subst h
      obtain ⟨k1, k2⟩ := vrows_get h2
      refine ⟨by simp [k1], fun k q hk => ?_⟩
      cases k with
      | zero => simp only [List.getElem?_cons_zero, Option.some.injEq] at hk; subst hk; exact ⟨d, rfl, h1⟩
      | succ k => simp only [List.getElem?_cons_succ] at hk ⊢; exact k2 k q hk
    · cases h
section
variable {g : V → Option V} (hg : ∀ y y' u, y.one = true → g y = some y' → y.Is E L u → y'.Is E' [] u ∧ y'.one = true) (hle : E.le E')
include hg hle
mutual
theorem vmap_is : ∀ {x y : V} {u : Value}, vmap g x = some y → x.Is E L u → y.Is E' [] u ∧ (x.one = true → y.one = true)
  | .own id ver k off, y, u, h, hx => by unfold vmap at h; obtain ⟨h1, h2⟩ := hg _ _ _ rfl h hx; exact ⟨h1, fun _ => h2⟩
  | .rs id ver lo hi, y, u, h, hx => by unfold vmap at h; obtain ⟨h1, h2⟩ := hg _ _ _ rfl h hx; exact ⟨h1, fun _ => h2⟩
  | .mp id, y, u, h, hx => by unfold vmap at h; obtain ⟨h1, h2⟩ := hg _ _ _ rfl h hx; exact ⟨h1, fun _ => h2⟩
  | .agg cs, y, u, h, hx => by
    unfold vmap at h
    cases hc : vmaps g cs with
    | none => rw [hc] at h; cases h
    | some ds =>
      rw [hc] at h
      simp only [Option.map_some, Option.some.injEq] at h
      subst h
      unfold V.Is at hx ⊢
      obtain ⟨vs, e, hv⟩ := hx
      exact ⟨⟨vs, e, vmapsO_is hc hv⟩, fun h => by cases h⟩
  | .fn f caps, y, u, h, hx => by
    unfold vmap at h
    cases hc : vmaps g caps with
    | none => rw [hc] at h; cases h
    | some ds =>
      rw [hc] at h
      simp only [Option.map_some, Option.some.injEq] at h
      subst h
      unfold V.Is at hx ⊢
      obtain ⟨vs, e, hv⟩ := hx
      exact ⟨⟨vs, e, vmaps_is hc hv⟩, fun _ => rfl⟩
  | .tup _, y, u, h, _ => by unfold vmap at h; cases h
  | .cnd _ _, y, u, h, _ => by unfold vmap at h; cases h
  | .un, y, u, h, _ => by unfold vmap at h; cases h
  | .bool _, y, u, h, hx => by unfold vmap at h; injection h with h; subst h; exact ⟨by unfold V.Is at hx ⊢; exact hx, fun _ => rfl⟩
  | .int _ _, y, u, h, hx => by unfold vmap at h; injection h with h; subst h; exact ⟨by unfold V.Is at hx ⊢; exact hx, fun _ => rfl⟩
  | .str _, y, u, h, hx => by unfold vmap at h; injection h with h; subst h; exact ⟨by unfold V.Is at hx ⊢; exact hx, fun _ => rfl⟩
  | .nilp, y, u, h, hx => by unfold vmap at h; injection h with h; subst h; exact ⟨by unfold V.Is at hx ⊢; exact hx, fun _ => rfl⟩
  | .nilf, y, u, h, hx => by unfold vmap at h; injection h with h; subst h; exact ⟨by unfold V.Is at hx ⊢; exact hx, fun _ => rfl⟩
  | .emp, y, u, h, hx => by unfold vmap at h; injection h with h; subst h; exact ⟨by unfold V.Is at hx ⊢; exact hx, fun _ => rfl⟩
  | .sl rows, y, u, h, hx => by
    unfold vmap at h; injection h with h; subst h
    have h1 : (V.sl rows).Is E [] u := by unfold V.Is at hx ⊢; exact hx
    exact ⟨h1.mono hle (Locs.to_refl []), fun _ => rfl⟩
  | .pi cs off, y, u, h, hx => by
    unfold vmap at h; injection h with h; subst h
    have h1 : (V.pi cs off).Is E [] u := by unfold V.Is at hx ⊢; exact hx
    exact ⟨h1.mono hle (Locs.to_refl []), fun _ => rfl⟩
theorem vmaps_is : ∀ {xs ys : List V} {vs : List Value}, vmaps g xs = some ys → IsAll E L xs vs → IsAll E' [] ys vs
  | [], ys, vs, h, hx => by
    unfold vmaps at h; injection h with h; subst h
    unfold IsAll at hx ⊢; exact hx
  | x :: xs, ys, vs, h, hx => by
    unfold vmaps at h
    split at h
    · rename_i d ds h1 h2
      injection h with h; subst h
      unfold IsAll at hx ⊢
      obtain ⟨v, r, e, hv, hr⟩ := hx
      exact ⟨v, r, e, (vmap_is h1 hv).1, vmaps_is h2 hr⟩
    · cases h
theorem vmapsO_is : ∀ {xs ys : List V} {vs : List Value}, vmaps g xs = some ys → IsOnes E L xs vs → IsOnes E' [] ys vs
  | [], ys, vs, h, hx => by
    unfold vmaps at h; injection h with h; subst h
    unfold IsOnes at hx ⊢; exact hx
  | x :: xs, ys, vs, h, hx => by
    unfold vmaps at h
    split at h
    · rename_i d ds h1 h2
      injection h with h; subst h
      unfold IsOnes at hx ⊢
      obtain ⟨v, r, e, h0, hv, hr⟩ := hx
      obtain ⟨k1, k2⟩ := vmap_is h1 hv
      exact ⟨v, r, e, k2 h0, k1, vmapsO_is h2 hr⟩
    · cases h
end
end
theorem RepE.frzE (R : RepE B w0 E0 E L0 L s a w) (F : Nat → Prop) : ∃ E', E.le E' ∧ (∀ b, b < B → E' b = E b) ∧ E'.In w ∧
    (∀ (id : Nat) (ty : TypeId) (v sz : Nat) (rows : List (List V)) (g cap : Nat) (cur : Array Value), F id → s.ow[id]? = some (.blk ty v sz rows) → L[id]? = some (.lies v g sz cap) → w.heap[g]? = some (.cells cur ty (0, 0)) → E' g = some cur) ∧
    (∀ (id : Nat) (o : Own) (l : Loc) (g : Nat), ¬ F id → s.ow[id]? = some o → L[id]? = some l → o.at? l = some g → E' g = none) := by
  classical
  let p : Nat → Prop := fun b => ∃ (id : Nat) (o : Own) (l : Loc), F id ∧ s.ow[id]? = some o ∧ L[id]? = some l ∧ o.at? l = some b
  let E' : Ext := fun b => if p b then (match w.heap[b]? with | some (.cells c _ _) => some c | _ => none) else E b
  have hpE : ∀ b, p b → E b = none ∧ B ≤ b := by
    rintro b ⟨id, o, l, _, h1, h2, h3⟩
    have := (R.owns id o l h1 h2).lt b h3
    exact ⟨this.2.2, this.1⟩
  refine ⟨E', ?_, ?_, ?_, ?_, ?_⟩
  · intro b cs hb
    have : ¬ p b := fun hp => by rw [(hpE b hp).1] at hb; cases hb
    show (if p b then _ else E b) = _
    rw [if_neg this]; exact hb
  · intro b hb
    have : ¬ p b := fun hp => by have := (hpE b hp).2; omega
    show (if p b then _ else E b) = _
    rw [if_neg this]
  · intro b cs hb
    by_cases hp : p b
    · have hb' : (match w.heap[b]? with | some (.cells c _ _) => some c | _ => none) = some cs := by
        have : E' b = _ := if_pos hp
        rw [this] at hb; exact hb
      cases hw : w.heap[b]? with
      | none => rw [hw] at hb'; cases hb'
      | some ob =>
        rw [hw] at hb'
        cases ob <;> simp only [Option.some.injEq] at hb' <;> first | (cases hb'; done) | skip
        subst hb'
        exact ⟨_, _, rfl⟩
    · have : E' b = E b := if_neg hp
      rw [this] at hb
      exact R.inn b cs hb
  · intro id ty v sz rows g cap cur hF ho hl hh
    have hp : p g := ⟨id, _, _, hF, ho, hl, rfl⟩
    show (if p g then _ else E g) = _
    rw [if_pos hp, hh]
  · intro id o l g hF ho hl hg
    have : ¬ p g := by
      rintro ⟨id2, o2, l2, h0, h1, h2, h3⟩
      have hne : id ≠ id2 := fun e => hF (e ▸ h0)
      exact R.apart id id2 o o2 l l2 g hne ho hl h1 h2 hg h3
    show (if p g then _ else E g) = _
    rw [if_neg this]
    exact ((R.owns id o l ho hl).lt g hg).2.2
theorem sl_nil {A : Option Addr} {c : Nat} : (V.sl []).Is E L (.slice A 0 c) := by
  unfold V.Is
  exact ⟨A, c, rfl, Nat.zero_le _, .inl rfl⟩
theorem rs_cases (R : RepE B w0 E0 E L0 L s a w) {id ver lo hi sz : Nat} {ty : TypeId} {rows : List (List V)} {u : Value} (hx : (V.rs id ver lo hi).Is E L u) (ho : s.ow[id]? = some (.blk ty ver sz rows) ∨ s.ow[id]? = some (.froz ty ver sz rows)) (hhi : hi ≤ rows.length) :
    ((rows.drop lo).take (hi - lo) = [] ∧ ∃ A c, u = .slice A 0 c) ∨ (lo < hi ∧ ∃ g cap, L[id]? = some (.lies ver g sz cap) ∧ rows.length ≤ cap ∧ u = .slice (some ⟨g, lo * sz, none⟩) (hi - lo) (cap - lo)) := by
  obtain ⟨A, c, hu⟩ := rs_len R hx ho
  by_cases hlt : lo < hi
  · right
    obtain ⟨g, cap, hl, hrc⟩ : ∃ g cap, L[id]? = some (.lies ver g sz cap) ∧ rows.length ≤ cap := by
      rcases ho with ho | ho
      · obtain ⟨g, cap, cur, hl, _, _, _, _, hrc, _⟩ := R.blk ho (k := lo) (by omega)
        exact ⟨g, cap, hl, hrc⟩
      · obtain ⟨g, cap, hl, hrc, _⟩ := R.frz ho (k := lo) (by omega)
        exact ⟨g, cap, hl, hrc⟩
    obtain ⟨a1, a2, A', h1, hA⟩ := sl_at hx hl
    rw [hA (by omega)] at h1
    exact ⟨hlt, g, cap, hl, hrc, h1⟩
  · left
    have e : hi - lo = 0 := by omega
    rw [e] at hu ⊢
    exact ⟨by simp, A, c, hu⟩
theorem cellsAt_ones {b o : Nat} {cs : List V} {us : List Value} (h : IsOnes E' [] cs us) (hc : ∀ (j : Nat) (u : Value), us[j]? = some u → E'.cell b (o + j) = some u) : CellsAt E' b o cs :=
  cellsAt_of fun j c hj => by
    obtain ⟨v, h1, h2, h3⟩ := isOnes_get h hj
    exact ⟨h2, v, hc j v h1, h3⟩
theorem dv_is (R : RepE B w0 E0 E L0 L s a w) (hle : E.le E')
    (hF : ∀ (id : Nat) (ty : TypeId) (v sz : Nat) (rows : List (List V)) (g cap : Nat) (cur : Array Value), s.ow[id]? = some (Own.blk ty v sz rows) → L[id]? = some (Loc.lies v g sz cap) → w.heap[g]? = some (.cells cur ty (0, 0)) → E' g = some cur) :
    ∀ (n : Nat) {x y : V} {u : Value}, dv n s.ow x = some y → x.Is E L u → y.Is E' [] u ∧ (x.one = true → y.one = true) := by
  intro n
  induction n with
  | zero => intro x y u h hx; exact vmap_is (fun y y' u _ h => by cases h) hle h hx
  | succ n ih =>
    intro x y u h hx
    have rowOk : ∀ {id v sz : Nat} {ty : TypeId} {rows : List (List V)} {g cap : Nat} {cur : Array Value}, s.ow[id]? = some (.blk ty v sz rows) → L[id]? = some (.lies v g sz cap) → w.heap[g]? = some (.cells cur ty (0, 0)) → OwnRows E L cur sz rows →
        ∀ (k : Nat) (row cs : List V), rows[k]? = some row → vmaps (dv n s.ow) row = some cs → cs.length = sz ∧ CellsAt E' g (k * sz) cs := by
      intro id v sz ty rows g cap cur ho hl hh hrows k row cs hk hv
      obtain ⟨h1, h2⟩ := hrows k row hk
      obtain ⟨us, u1, u2⟩ := choose_cells (E := E) (L := L) (cell := fun j => cur[j]?) (cs := row) (o := k * sz) h2
      have := vmapsO_is (g := dv n s.ow) (E' := E') (L := L) (E := E) (fun y y' u h1 hy hyi => by obtain ⟨q1, q2⟩ := ih hy hyi; exact ⟨q1, q2 h1⟩) hle hv u1
      refine ⟨by rw [vmaps_len hv, h1], cellsAt_ones this fun j u hj => ?_⟩
      have hE := hF id ty v sz rows g cap cur ho hl hh
      simp only [Ext.cell, hE, Option.bind_some]
      exact u2 j u hj
    refine vmap_is ?_ hle h hx
    intro y y' u h1 hy hyi
    simp only at hy
    split at hy
    · rename_i id ver k off
      split at hy
      · rename_i ty v sz rows ho
        split at hy
        · rename_i hv
          subst hv
          split at hy
          · rename_i row hk
            cases hm : vmaps (dv n s.ow) row with
            | none => rw [hm] at hy; cases hy
            | some cs =>
              rw [hm] at hy
              simp only [Option.map_some, Option.some.injEq] at hy
              subst hy
              obtain ⟨g, cap, cur, hl, h0, hB, hE, hcm, hrc, hc0, hheap, hcs, hrows⟩ := R.blk ho (get_lt hk)
              obtain ⟨q1, q2⟩ := rowOk ho hl hheap hrows k row cs hk hm
              refine ⟨?_, rfl⟩
              unfold V.Is
              exact ⟨g, k * sz, ptr_at hyi hl, q2⟩
          · cases hy
        · cases hy
      · rename_i ty v sz rows ho
        split at hy
        · rename_i hv
          subst hv
          cases hk : rows[k]? with
          | none => rw [hk] at hy; cases hy
          | some cs =>
            rw [hk] at hy
            simp only [Option.map_some, Option.some.injEq] at hy
            subst hy
            obtain ⟨g, cap, hl, hrc, hrows⟩ := R.frz ho (get_lt hk)
            obtain ⟨q1, q2⟩ := rowsAt_get hrows hk
            rw [Nat.zero_add] at q2
            refine ⟨?_, rfl⟩
            unfold V.Is
            exact ⟨g, k * sz, ptr_at hyi hl, q2.mono hle⟩
        · cases hy
      · cases hy
    · rename_i id ver lo hi
      split at hy
      · rename_i ty v sz rows ho
        split at hy
        · rename_i hv
          obtain ⟨hv, hhi⟩ := hv
          subst hv
          cases hm : vrows (dv n s.ow) ((rows.drop lo).take (hi - lo)) with
          | none => rw [hm] at hy; cases hy
          | some rs =>
            rw [hm] at hy
            simp only [Option.map_some, Option.some.injEq] at hy
            subst hy
            obtain ⟨v1, v2⟩ := vrows_get hm
            refine ⟨?_, rfl⟩
            rcases rs_cases R hyi (.inl ho) hhi with ⟨he, A, c, rfl⟩ | ⟨hlt, g, cap, hl, hrc, rfl⟩
            · rw [he] at v1
              have := List.eq_nil_of_length_eq_zero v1
              subst this
              exact sl_nil
            · obtain ⟨g', cap', cur, hl', h0, hB, hE, hcm, hrc', hc0, hheap, hcs, hrows⟩ := R.blk ho (k := lo) (by omega)
              rw [hl'] at hl
              injection hl with hl
              injection hl with _ e1 _ e2
              subst e1 e2
              have hlen : rs.length = hi - lo := by rw [v1]; simp; omega
              unfold V.Is
              refine ⟨_, _, by rw [hlen], by rw [hlen]; omega, .inr ⟨g', lo * sz, sz, rfl, rowsAt_of fun k r hk => ?_⟩⟩
              have hkl := get_lt hk
              rw [hlen] at hkl
              have hrow : ((rows.drop lo).take (hi - lo))[k]? = some (rows.getD (lo + k) []) := by
                rw [List.getElem?_take, if_pos hkl, List.getElem?_drop]; exact getD_get (by omega) []
              obtain ⟨q, q1, q2⟩ := v2 k _ hrow
              rw [hk] at q1; injection q1 with q1; subst q1
              obtain ⟨p1, p2⟩ := rowOk ho hl' hheap hrows (lo + k) _ r (getD_get (by omega) []) q2
              refine ⟨p1, ?_⟩
              rwa [Nat.add_mul] at p2
        · cases hy
      · rename_i ty v sz rows ho
        split at hy
        · rename_i hv
          obtain ⟨hv, hhi⟩ := hv
          subst hv
          injection hy with hy
          subst hy
          refine ⟨?_, rfl⟩
          rcases rs_cases R hyi (.inr ho) hhi with ⟨he, A, c, rfl⟩ | ⟨hlt, g, cap, hl, hrc, rfl⟩
          · rw [he]; exact sl_nil
          · obtain ⟨g', cap', hl', hrc', hrows⟩ := R.frz ho (k := lo) (by omega)
            rw [hl'] at hl
            injection hl with hl
            injection hl with _ e1 _ e2
            subst e1 e2
            have hlen : ((rows.drop lo).take (hi - lo)).length = hi - lo := by simp; omega
            unfold V.Is
            refine ⟨_, _, by rw [hlen], by rw [hlen]; omega, .inr ⟨g', lo * sz, sz, rfl, ?_⟩⟩
            have := (hrows.sub lo (hi - lo)).mono hle
            rwa [Nat.zero_add] at this
        · cases hy
      · cases hy
    · cases hy
theorem fv_is (R : RepE B w0 E0 E L0 L s a w) {x y : V} {u : Value} (h : fv s.ow x = some y) (hx : x.Is E L u) : y.Is E [] u ∧ (x.one = true → y.one = true) := by
  refine vmap_is (E' := E) ?_ E.le_refl h hx
  intro y y' u h1 hy hyi
  simp only at hy
  split at hy
  · rename_i id ver k off
    split at hy
    · rename_i ty v sz rows ho
      split at hy
      · rename_i hv
        subst hv
        cases hk : rows[k]? with
        | none => rw [hk] at hy; cases hy
        | some cs =>
          rw [hk] at hy
          simp only [Option.map_some, Option.some.injEq] at hy
          subst hy
          obtain ⟨g, cap, hl, hrc, hrows⟩ := R.frz ho (get_lt hk)
          obtain ⟨q1, q2⟩ := rowsAt_get hrows hk
          rw [Nat.zero_add] at q2
          refine ⟨?_, rfl⟩
          unfold V.Is
          exact ⟨g, k * sz, ptr_at hyi hl, q2⟩
      · cases hy
    · cases hy
  · rename_i id ver lo hi
    split at hy
    · rename_i ty v sz rows ho
      split at hy
      · rename_i hv
        obtain ⟨hv, hhi⟩ := hv
        subst hv
        injection hy with hy
        subst hy
        refine ⟨?_, rfl⟩
        rcases rs_cases R hyi (.inr ho) hhi with ⟨he, A, c, rfl⟩ | ⟨hlt, g, cap, hl, hrc, rfl⟩
        · rw [he]; exact sl_nil
        · obtain ⟨g', cap', hl', hrc', hrows⟩ := R.frz ho (k := lo) (by omega)
          rw [hl'] at hl
          injection hl with hl
          injection hl with _ e1 _ e2
          subst e1 e2
          have hlen : ((rows.drop lo).take (hi - lo)).length = hi - lo := by simp; omega
          unfold V.Is
          refine ⟨_, _, by rw [hlen], by rw [hlen]; omega, .inr ⟨g', lo * sz, sz, rfl, ?_⟩⟩
          have := hrows.sub lo (hi - lo)
          rwa [Nat.zero_add] at this
      · cases hy
    · cases hy
  · cases hy
theorem fvs_is (R : RepE B w0 E0 E L0 L s a w) : ∀ {xs ys : List V} {vs : List Value}, vmaps (fv s.ow) xs = some ys → IsAll E L xs vs → IsAll E [] ys vs := by
  intro xs ys vs h hx
  exact vmaps_is (fun y y' u h1 hy hyi => by obtain ⟨q1, q2⟩ := fv_is R hy hyi; exact ⟨q1, q2 h1⟩) E.le_refl h hx
structure Pure (P : Program) (f : FuncId) (args : List V) (r : V) : Prop where
  enters : Enters P f
  run : ∀ w E vs, E.In w → IsAll E [] args vs →
    Calls P f vs.toArray w fun e w' => ∃ v E', e = .returned v ∧ Below w.heap.size w w' ∧ w.drawn ≤ w'.drawn ∧ E.le E' ∧ (∀ b, b < w.heap.size → E' b = E b) ∧ E'.In w' ∧ r.Is E' [] v
mutual
def V.ids : V → List Nat
  | .own id _ _ _ => [id]
  | .rs id _ _ _ => [id]
  | .mp id => [id]
  | .fn _ caps => idss caps
  | .agg cs => idss cs
  | .tup xs => idss xs
  | .cnd _ x => V.ids x
  | _ => []
def idss : List V → List Nat
  | [] => []
  | x :: r => V.ids x ++ idss r
end
mutual
theorem vmap_ext {g h : V → Option V} : ∀ {x : V}, (∀ y : V, (∀ i ∈ y.ids, i ∈ x.ids) → g y = h y) → vmap g x = vmap h x
  | .own _ _ _ _, k => by unfold vmap; exact k _ fun i hi => hi
  | .rs _ _ _ _, k => by unfold vmap; exact k _ fun i hi => hi
  | .mp _, k => by unfold vmap; exact k _ fun i hi => hi
  | .agg cs, k => by unfold vmap; rw [vmaps_ext fun y hy => k y fun i hi => by unfold V.ids; exact hy i hi]
  | .fn _ caps, k => by unfold vmap; rw [vmaps_ext fun y hy => k y fun i hi => by unfold V.ids; exact hy i hi]
  | .tup _, _ => by unfold vmap; rfl
  | .cnd _ _, _ => by unfold vmap; rfl
  | .un, _ => by unfold vmap; rfl
  | .bool _, _ => by unfold vmap; rfl
  | .int _ _, _ => by unfold vmap; rfl
  | .str _, _ => by unfold vmap; rfl
  | .nilp, _ => by unfold vmap; rfl
  | .nilf, _ => by unfold vmap; rfl
  | .emp, _ => by unfold vmap; rfl
  | .sl _, _ => by unfold vmap; rfl
  | .pi _ _, _ => by unfold vmap; rfl
theorem vmaps_ext {g h : V → Option V} : ∀ {xs : List V}, (∀ y : V, (∀ i ∈ y.ids, i ∈ idss xs) → g y = h y) → vmaps g xs = vmaps h xs
  | [], _ => by unfold vmaps; rfl
  | x :: r, k => by
    unfold vmaps
    rw [vmap_ext (x := x) fun y hy => k y fun i hi => by unfold idss; exact List.mem_append_left _ (hy i hi), vmaps_ext (xs := r) fun y hy => k y fun i hi => by unfold idss; exact List.mem_append_right _ (hy i hi)]
end
theorem fv_loc {ow ow2 : List Own} {l : List Nat} (h : agree l ow ow2) {y : V} (hy : ∀ i ∈ y.ids, i ∈ l) : fv ow2 y = fv ow y := by
  unfold fv
  refine vmap_ext fun z hz => ?_
  split
  · rename_i id ver k off
    rw [h id (hy id (hz id (by unfold V.ids; exact List.mem_cons_self ..)))]
  · rename_i id ver k off
    rw [h id (hy id (hz id (by unfold V.ids; exact List.mem_cons_self ..)))]
  · rfl
theorem run_pure {f : FuncId} {args args' : List V} {ow : List Own} {r : V} (hp : Pure P f args' r) (hv : vmaps (fv ow) args = some args') : Run P f args (idss args) ow r [] where
  enters := hp.enters
  keys := fun p h => by cases h
  run := fun ow2 h2 B w0 E0 E L0 L n tm a w vs R hargs => by
    have hv2 : vmaps (fv ow2) args = some args' := by
      rw [← hv]
      exact vmaps_ext fun y hy => fv_loc h2 hy
    refine (hp.run w E vs R.inn (fvs_is R hv2 hargs)).mono ?_
    rintro e w' ⟨v, E', rfl, hb, hd, hle, hlow, hin, hres⟩
    refine ⟨v, E', L, rfl, ?_, is_nil hres⟩
    refine R.upd hle (fun b hbB => hlow b (by have := R.base; omega)) hin (hb.mono R.base) (Locs.to_refl L) R.len (fun id oo l ho hl => ?_) R.apart
    refine (R.owns id oo l ho hl).keep hle (Locs.to_refl L) (fun g hg => ?_)
    obtain ⟨_, h2, h3⟩ := (R.owns id oo l ho hl).lt g hg
    exact ⟨hb.block g h2, fun h => (hlow g h2).trans h⟩
def rowsOf : Option Own → List (List V)
  | some (.blk _ _ _ rows) => rows
  | _ => []
def dvI : Nat → List Own → List V → List Nat
  | 0, _, _ => []
  | n + 1, ow, xs => idss xs ++ (idss xs).flatMap fun id => (rowsOf ow[id]?).flatMap fun row => dvI n ow row
theorem vrows_ext {g h : V → Option V} : ∀ {rows : List (List V)}, (∀ row ∈ rows, vmaps g row = vmaps h row) → vrows g rows = vrows h rows
  | [], _ => rfl
  | r :: rs, k => by
    unfold vrows
    rw [k r (List.mem_cons_self ..), vrows_ext fun row hr => k row (List.mem_cons_of_mem _ hr)]
theorem dv_loc {ow ow2 : List Own} : ∀ (n : Nat) {xs : List V}, agree (dvI n ow xs) ow ow2 → ∀ y : V, (∀ i ∈ y.ids, i ∈ idss xs) → dv n ow2 y = dv n ow y
  | 0, xs, _, y, _ => rfl
  | n + 1, xs, h, y, hy => by
    have key : ∀ id ∈ idss xs, ow2[id]? = ow[id]? ∧ ∀ ty v sz rows, ow[id]? = some (.blk ty v sz rows) → ∀ row ∈ rows, vmaps (dv n ow2) row = vmaps (dv n ow) row := by
      intro id hid
      refine ⟨(h id (by unfold dvI; exact List.mem_append_left _ hid)).symm, fun ty v sz rows ho row hrow => ?_⟩
      refine vmaps_ext fun z hz => dv_loc n (xs := row) (fun i hi => h i ?_) z hz
      unfold dvI
      refine List.mem_append_right _ (List.mem_flatMap.2 ⟨id, hid, ?_⟩)
      rw [ho]
      show i ∈ rows.flatMap fun row => dvI n ow row
      exact List.mem_flatMap.2 ⟨row, hrow, hi⟩
    unfold dv
    refine vmap_ext fun z hz => ?_
    split
    · rename_i id ver k off
      obtain ⟨k1, k2⟩ := key id (hy id (hz id (by unfold V.ids; exact List.mem_cons_self ..)))
      rw [k1]
      cases ho : ow[id]? with
      | none => rfl
      | some o =>
        cases o with
        | blk ty v sz rows =>
          simp only
          split
          · cases hk : rows[k]? with
            | none => rfl
            | some row => simp only; rw [k2 ty v sz rows ho row (List.mem_of_getElem? hk)]
          · rfl
        | _ => rfl
    · rename_i id ver lo hi
      obtain ⟨k1, k2⟩ := key id (hy id (hz id (by unfold V.ids; exact List.mem_cons_self ..)))
      rw [k1]
      cases ho : ow[id]? with
      | none => rfl
      | some o =>
        cases o with
        | blk ty v sz rows =>
          simp only
          split
          · rw [vrows_ext fun row hrow => k2 ty v sz rows ho row (List.mem_of_mem_drop (List.mem_of_mem_take hrow))]
          · rfl
        | _ => rfl
    · rfl
theorem run_lent (n : Nat) {f : FuncId} {args args' : List V} {ow : List Own} {r : V} (hp : Pure P f args' r) (hv : vmaps (dv n ow) args = some args') (hf : r.flat = true) : Run P f args (dvI n ow args) ow r [] where
  enters := hp.enters
  keys := fun p h => by cases h
  run := fun ow2 h2 B w0 E0 E L0 L n' tm a w vs R hargs => by
    have hv2 : vmaps (dv n ow2) args = some args' := by
      rw [← hv]
      exact vmaps_ext fun y hy => dv_loc n h2 y hy
    obtain ⟨E1, f1, f2, f3, f4, f5⟩ := R.frzE (fun _ => True)
    have hall : IsAll E1 [] args' vs := vmaps_is (fun y y' u h1 hy hyi => by
      obtain ⟨q1, q2⟩ := dv_is R f1 (fun id ty v sz rows g cap cur => f4 id ty v sz rows g cap cur trivial) n hy hyi
      exact ⟨q1, q2 h1⟩) f1 hv2 hargs
    refine (hp.run w E1 vs f3 hall).mono ?_
    rintro e w' ⟨v, E', rfl, hb, hd, hle, hlow, hin, hres⟩
    refine ⟨v, E, L, rfl, ?_, flat_is hf hres⟩
    refine R.upd E.le_refl (fun _ _ => rfl) (fun b cs hE => ?_) (hb.mono R.base) (Locs.to_refl L) R.len (fun id oo l ho hl => ?_) R.apart
    · obtain ⟨t, fr, hw⟩ := R.inn b cs hE
      exact ⟨t, fr, (hb.block b (R.inn.lt hE)).trans hw⟩
    · refine (R.owns id oo l ho hl).keep E.le_refl (Locs.to_refl L) (fun g hg => ?_)
      obtain ⟨_, h2, h3⟩ := (R.owns id oo l ho hl).lt g hg
      exact ⟨hb.block g h2, fun h => h⟩
theorem vrows_rowsAt {g : Nat} {sz cap : Nat} {cur : Array Value} {rows rs : List (List V)} (R : RepE B w0 E0 E L0 L s a w) (hle : E.le E') (hE : E' g = some cur) (hrows : OwnRows E L cur sz rows) (hv : vrows (fv s.ow) rows = some rs) : RowsAt E' g sz 0 rs := by
  obtain ⟨v1, v2⟩ := vrows_get hv
  refine rowsAt_of fun k r hk => ?_
  have hkl := get_lt hk
  rw [v1] at hkl
  obtain ⟨q, q1, q2⟩ := v2 k _ (getD_get hkl [])
  rw [hk] at q1; injection q1 with q1; subst q1
  obtain ⟨h1, h2⟩ := hrows k _ (getD_get hkl [])
  obtain ⟨us, u1, u2⟩ := choose_cells (E := E) (L := L) (cell := fun j => cur[j]?) (cs := rows.getD k []) (o := k * sz) h2
  have := vmapsO_is (g := fv s.ow) (E' := E') (L := L) (E := E) (fun y y' u h1 hy hyi => by obtain ⟨q1, q2⟩ := fv_is R hy hyi; exact ⟨q1.mono hle (Locs.to_refl []), q2 h1⟩) hle q2 u1
  refine ⟨by rw [vmaps_len q2, h1], cellsAt_ones this fun j u hj => ?_⟩
  simp only [Ext.cell, hE, Option.bind_some, Nat.zero_add]
  exact u2 j u hj
theorem ev_freeze {c : Code} {Q : Exit → St → Prop} (id : Nat) {ty : TypeId} {v sz : Nat} {rows rs : List (List V)} (ho : s.ow[id]? = some (.blk ty v sz rows)) (hv : vrows (fv s.ow) rows = some rs) (h : EV P m c Q ⟨s.n, s.tm, s.ow.set id (.froz ty v sz rs)⟩) : EV P m c Q s := by
  rintro B w0 E0 L0 a w hm ⟨E, L, R⟩
  refine h B w0 E0 L0 a w hm ?_
  obtain ⟨v1, _⟩ := vrows_get hv
  obtain ⟨E1, f1, f2, f3, f4, f5⟩ := R.frzE (fun i => i = id)
  refine ⟨E1, L, R.upd f1 f2 f3 (Below.refl B w) (Locs.to_refl L) (by simp [R.len]) (fun k oo l hk hl => ?_) (fun i j oi oj li lj g hij hi hli hj hlj hgi hgj => ?_)⟩
  · rcases get_set hk with ⟨rfl, rfl⟩ | ⟨hne, hk'⟩
    · have hok := R.owns k _ l ho hl
      cases l with
      | free => exact hok.elim
      | nil v' =>
        obtain ⟨q1, q2, q3⟩ := hok
        rw [q2] at v1
        exact ⟨q1, List.eq_nil_of_length_eq_zero (by simpa using v1)⟩
      | lies v' g sz' cap =>
        obtain ⟨rfl, rfl, h3, h4, h5, h6, h7, h8, cur, h9, h10, h11⟩ := hok
        exact ⟨rfl, rfl, by rw [v1]; exact h7, vrows_rowsAt (cap := cap) R f1 (f4 k ty _ _ rows g cap cur rfl ho hl h9) h11 hv⟩
    · exact (R.owns k oo l hk' hl).keep f1 (Locs.to_refl L) (fun g hg => ⟨rfl, fun _ => f5 k oo l g hne hk' hl hg⟩)
  · rcases get_set hi with ⟨rfl, rfl⟩ | ⟨hni, hi'⟩
    · cases li <;> cases hgi
    · rcases get_set hj with ⟨rfl, rfl⟩ | ⟨hnj, hj'⟩
      · cases lj <;> cases hgj
      · exact R.apart i j oi oj li lj g hij hi' hli hj' hlj hgi hgj
def resOne (tt : TT) (s : St) : ResultVar → V
  | .tmp t => unc (lk s.tm t)
  | .cell p ty => match semLoad tt (tt ty) s.ow (lk s.tm p) with
    | .ok _ x => x.r
    | _ => .un
def resPre (tt : TT) (s : St) : List ResultVar → Prop
  | [] => True
  | .tmp t :: r => unc1 true (lk s.tm t) ∧ resPre tt s r
  | .cell p ty :: r => (match semLoad tt (tt ty) s.ow (lk s.tm p) with | .ok pre _ => pre | _ => False) ∧ resPre tt s r
def resAll (tt : TT) (s : St) : List ResultVar → List V
  | [] => []
  | x :: r => resOne tt s x :: resAll tt s r
def resTup : List V → V
  | [x] => x
  | xs => .tup xs
def resSem (tmps : Array Value) : ResultVar → Sem Value
  | .tmp t => pure (tmps.getD t undef)
  | .cell p t => do loadVar t (← asAddr (tmps.getD p undef))
theorem results_eq (fn : Func) (tmps : Array Value) : results fn tmps = (do let vs ← fn.results.mapM (resSem tmps); pure (if h : vs.size = 1 then vs[0] else .tuple vs)) := rfl
theorem res_run {tt : TT} (ht : tt.Ok P) (R : RepE B w0 E0 E L0 L s a w) : ∀ (rs : List ResultVar), resPre tt s rs →
    ∃ vs : List Value, (rs.mapM (resSem a.tmps)).run P w = .ok vs w ∧ IsAll E L (resAll tt s rs) vs
  | [], _ => ⟨[], by simp, by unfold resAll IsAll; rfl⟩
  | .tmp t :: r, h => by
    obtain ⟨h1, h2⟩ := h
    obtain ⟨vs, hv, hi⟩ := res_run ht R r h2
    refine ⟨a.tmps.getD t undef :: vs, ?_, ?_⟩
    · rw [List.mapM_cons]
      simp only [resSem, Sem.run_bind, Sem.run_pure, Result.andThen_ok, hv]
    · unfold resAll IsAll
      exact ⟨_, vs, rfl, unc_is (R.tmps t) h1, hi⟩
  | .cell p ty :: r, h => by
    obtain ⟨h1, h2⟩ := h
    obtain ⟨vs, hv, hi⟩ := res_run ht R r h2
    split at h1
    · rename_i pre x hs
      have hk : (tt ty).kind ≠ 9 := by
        have h0 := hs
        unfold semLoad at h0
        split at h0
        · split at h0
          · injection h0 with e1 e2; subst e1; exact h1.2.2.2.2
          · injection h0 with e1 e2; subst e1; exact h1.2.2.2.2
          · cases h0
        · injection h0 with e1 e2; subst e1; exact h1.2.2
        · cases h0
      obtain ⟨v, hrun, hvi, _⟩ := load_run (ht.facts ty hk) R (R.tmps p) hs h1
      have hadr : ∃ ad, a.tmps.getD p undef = .pointer (some ad) := by
        have hp := R.tmps p
        have h0 := hs
        unfold semLoad at h0
        split at h0
        · rename_i hq
          rw [hq] at hp
          split at h0
          · rename_i ho
            injection h0 with e1 e2; subst e1
            obtain ⟨rfl, hkk, _⟩ := h1
            obtain ⟨g, oo, e, _⟩ := own_shift R (d := 0) hp (.inl ho) hkk
            exact ⟨_, e⟩
          · rename_i ho
            injection h0 with e1 e2; subst e1
            obtain ⟨rfl, hkk, _⟩ := h1
            obtain ⟨g, oo, e, _⟩ := own_shift R (d := 0) hp (.inr ho) hkk
            exact ⟨_, e⟩
          · cases h0
        · rename_i hq
          rw [hq] at hp
          unfold V.Is at hp
          obtain ⟨b, o, e, _⟩ := hp
          exact ⟨_, e⟩
        · cases h0
      obtain ⟨ad, had⟩ := hadr
      refine ⟨v :: vs, ?_, ?_⟩
      · rw [List.mapM_cons]
        rw [had] at hrun
        simp only [Instr.loadAt, Instr.sureAddr, Sem.run_bind, Sem.run_pure, Result.andThen_ok] at hrun
        simp only [resSem, had, asAddr, Sem.run_bind, Sem.run_pure, Result.andThen_ok, hrun, hv]
      · unfold resAll IsAll
        refine ⟨v, vs, rfl, ?_, hi⟩
        simp only [resOne, hs]
        exact hvi
    · exact h1.elim
theorem tup_is {ys : List V} {vs : List Value} (h : IsAll E L ys vs) : (resTup ys).Is E L (if h : vs.toArray.size = 1 then vs.toArray[0] else .tuple vs.toArray) := by
  match ys, vs, h with
  | [], vs, hys =>
    unfold IsAll at hys
    subst hys
    simp only [resTup]
    unfold V.Is
    exact ⟨[], rfl, by unfold IsAll; rfl⟩
  | [y], vs, hys =>
    unfold IsAll at hys
    obtain ⟨v, r, rfl, h1, h2⟩ := hys
    unfold IsAll at h2
    subst h2
    exact h1
  | y :: z :: r, vs, hys =>
    have h0 := hys
    unfold IsAll at hys
    obtain ⟨v, r1, rfl, h1, h2⟩ := hys
    unfold IsAll at h2
    obtain ⟨v2, r2, rfl, h2, h3⟩ := h2
    simp only [resTup]
    unfold V.Is
    exact ⟨v :: v2 :: r2, by simp, h0⟩
def number : Nat → List V → List (Nat × V)
  | _, [] => []
  | k, x :: r => (k, x) :: number (k + 1) r
theorem number_get : ∀ {xs : List V} {k j : Nat}, lk (number k xs) j = .un ∨ ∃ x, k ≤ j ∧ xs[j - k]? = some x ∧ lk (number k xs) j = x
  | [], k, j => .inl (by unfold number lk; rfl)
  | x :: r, k, j => by
    unfold number lk
    by_cases e : k = j
    · subst e
      rw [if_pos rfl]
      exact .inr ⟨x, Nat.le_refl _, by simp, rfl⟩
    · rw [if_neg e]
      rcases number_get (xs := r) (k := k + 1) (j := j) with h | ⟨y, h1, h2, h3⟩
      · exact .inl h
      · exact .inr ⟨y, by omega, by rw [show j - k = (j - (k + 1)) + 1 by omega]; exact h2, h3⟩
theorem RepE.start (hin : E.In w) (hbelow : Below B w0 w) (hdrawn : w0.drawn ≤ w.drawn) (hbase : B ≤ w.heap.size) (howL : L.length = s.ow.length)
    (howns : ∀ (id : Nat) (o : Own) (l : Loc), s.ow[id]? = some o → L[id]? = some l → o.Ok B E L w l)
    (hap : ∀ (i j : Nat) (o o' : Own) (l l' : Loc) (g : Nat), i ≠ j → s.ow[i]? = some o → L[i]? = some l → s.ow[j]? = some o' → L[j]? = some l' → o.at? l = some g → o'.at? l' ≠ some g)
    {args : List V} {vs : List Value} (hargs : IsAll E L args vs) {n : Nat} (hn : args.length ≤ n) :
    RepE B w0 E E L L ⟨n, number 0 args, s.ow⟩ { tmps := vs.toArray ++ Array.replicate (n - vs.toArray.size) undef, defers := [] } w := by
  have hl : vs.length = args.length := isAll_len hargs
  exact
    { defers := rfl, le := E.le_refl, low := fun _ _ => rfl, inn := hin, below := hbelow, drawn := hdrawn, base := hbase, lto := Locs.to_refl L, len := howL
      size := by simp [hl]; omega
      tmps := fun j => by
        rcases number_get (xs := args) (k := 0) (j := j) with h | ⟨x, _, h2, h3⟩
        · rw [show lk (St.mk n (number 0 args) s.ow).tm j = .un from h]; unfold V.Is; trivial
        · rw [show lk (St.mk n (number 0 args) s.ow).tm j = x from h3]
          rw [Nat.sub_zero] at h2
          obtain ⟨v, hv, hi⟩ := isAll_get hargs h2
          have hlt := get_lt hv
          have : (vs.toArray ++ Array.replicate (n - vs.toArray.size) undef).getD j undef = v := by
            rw [Array.getD_eq_getD_getElem?, Array.getElem?_append_left (by simpa using hlt)]
            simp [hv]
          rw [this]; exact hi
      owns := howns
      apart := hap }
def bodyQ (tt : TT) (rs : List ResultVar) (r : V) : Exit → St → Prop
  | .normal, s => resPre tt s rs ∧ (vmaps (dv 4 s.ow) (resAll tt s rs)).map resTup = some r
  | .ret, s => resPre tt s rs ∧ (vmaps (dv 4 s.ow) (resAll tt s rs)).map resTup = some r
  | _, _ => False
theorem pure_of_ev {tt : TT} (ht : tt.Ok P) {f : FuncId} {fn : Func} {c : Code} (hf : P.funcs[f]? = some fn) (hb : fn.body = some c) (hn : (fn.name == "runtime.NumGoroutine") = false) {args : List V} {r : V}
    (hl : args.length ≤ fn.ntmps) (h : EV P 0 c (bodyQ tt fn.results.toList r) ⟨fn.ntmps, number 0 args, []⟩) : Pure P f args r := by
  refine ⟨enters_of hf hb hn, fun w E vs hin hargs => ?_⟩
  refine calls_of_wp hf hb ?_
  have R := RepE.start (B := w.heap.size) (w0 := w) (L := []) (s := ⟨0, [], []⟩) hin (Below.refl _ w) (Nat.le_refl _) (Nat.le_refl _) rfl (by simp) (by simp) hargs hl
  refine wp_mono (h _ _ _ [] _ _ (Nat.le_refl 0) ⟨E, [], R⟩) fun e a' w' hq => ?_
  obtain ⟨s', hq, E', L', R'⟩ := hq
  have fin : (resPre tt s' fn.results.toList ∧ (vmaps (dv 4 s'.ow) (resAll tt s' fn.results.toList)).map resTup = some r) →
      a'.defers = [] ∧ ∃ v, (results fn a'.tmps).run P w' = .ok v w' ∧ ∃ v' E', (Ending.returned v = .returned v') ∧ Below w.heap.size w w' ∧ w.drawn ≤ w'.drawn ∧ E.le E' ∧ (∀ b, b < w.heap.size → E' b = E b) ∧ E'.In w' ∧ r.Is E' [] v' := by
    rintro ⟨hp, hys⟩
    obtain ⟨vs', hv, hall⟩ := res_run ht R' _ hp
    obtain ⟨E1, f1, f2, f3, f4, f5⟩ := R'.frzE (fun _ => True)
    cases hm : vmaps (dv 4 s'.ow) (resAll tt s' fn.results.toList) with
    | none => rw [hm] at hys; cases hys
    | some ys =>
      rw [hm] at hys
      simp only [Option.map_some, Option.some.injEq] at hys
      subst hys
      have hall1 : IsAll E1 [] ys vs' := vmaps_is (fun y y' u h1 hy hyi => by
        obtain ⟨q1, q2⟩ := dv_is R' f1 (fun id ty v sz rows g cap cur => f4 id ty v sz rows g cap cur trivial) 4 hy hyi
        exact ⟨q1, q2 h1⟩) f1 hm hall
      have hv' : (fn.results.mapM (resSem a'.tmps)).run P w' = .ok vs'.toArray w' := by
        rw [Array.mapM_eq_mapM_toList]
        simp [hv]
      exact ⟨R'.defers, _, by rw [results_eq]; simp only [Sem.run_bind, hv', Result.andThen_ok, Sem.run_pure], _, E1, rfl, R'.below, R'.drawn, Ext.le_trans R'.le f1, fun b hbb => (f2 b hbb).trans (R'.low b hbb), f3, tup_is hall1⟩
  cases e with
  | normal => exact fin hq
  | ret => exact fin hq
  | exit id => exact (show False from hq).elim
  | goto l => exact (show False from hq).elim
  | panic c => exact (show False from hq).elim
  | outgrown => exact (show False from hq).elim
end
end Go.K
