import Derived.Maps.AppendAt
import Derived.Deep.Upon
import Derived.Test.YtbibplkhhdomnaaGreatW04
set_option linter.all false
namespace Go.K
open Go Go.RowKit
section
variable {P : Program} {B : Nat} {w0 : World} {E0 E : Ext} {L0 L : List Loc} {s : St} {a : Act} {w : World} {o : Oper}
theorem len_run {tt : TT} (ht : tt.Ok P) {t : TypeId} {ts : Array TypeId} (hts : ts[0]? = some t) {ty : TypeId} (h : (tt t).kind = 3) (A : Option Addr) (n c : Nat) (w : World) : (Builtin.len_ ts ty #[.slice A n c]).run P w = .ok (.int .i64 n) w := by
  have hu := und_slice (ht.facts t (by rw [h]; decide)) h
  unfold Builtin.len_
  simp [hts, run_underlying hu, goInt]
theorem rs_len (R : RepE B w0 E0 E L0 L s a w) {id ver lo hi sz : Nat} {ty : TypeId} {rows : List (List V)} {x : Value} (hx : (V.rs id ver lo hi).Is E L x) (ho : s.ow[id]? = some (.blk ty ver sz rows) ∨ s.ow[id]? = some (.froz ty ver sz rows)) :
    ∃ A c, x = .slice A (hi - lo) c := by
  obtain ⟨l, hl⟩ : ∃ l, L[id]? = some l := by rcases ho with ho | ho <;> exact R.loc ho
  cases l with
  | free =>
    unfold V.Is at hx
    rw [hl] at hx
    exact hx.elim
  | lies v g sz' cap =>
    have hv : v = ver := by
      rcases ho with ho | ho <;> have hok := R.owns id _ _ ho hl
      · exact hok.1
      · exact hok.1
    subst hv
    obtain ⟨_, _, A, h, _⟩ := sl_at hx hl
    exact ⟨A, _, h⟩
  | nil v =>
    have hv : v = ver := by
      rcases ho with ho | ho <;> have hok := R.owns id _ _ ho hl
      · exact hok.1
      · exact hok.1
    subst hv
    unfold V.Is at hx
    rw [hl] at hx
    rcases hx with ⟨h, _⟩ | ⟨_, rfl, rfl, A, rfl⟩
    · omega
    · exact ⟨A, 0, rfl⟩
theorem len_step {tt : TT} (ht : tt.Ok P) (R : RepE B w0 E0 E L0 L s a w) {t : TypeId} {ts : Array TypeId} (hts' : ts[0]? = some t) {ty : TypeId} {p : V} {x : Value} (hp : p.Is E L x)
    {pre : Prop} {r : Out} (hs : semLen (tt t) s.ow p = .ok pre r) (hpre : pre) :
    ∃ v, (Builtin.len_ ts ty #[x]).run P w = .ok v w ∧ r.r.Is E L v ∧ r.upd = [] := by
  unfold semLen okp at hs
  split at hs
  · injection hs with e1 e2; subst e1 e2
    unfold V.Is at hp
    subst hp
    have hu := und_string (ht.facts t (by rw [hpre]; decide)) hpre
    have h0 := hts'
    refine ⟨_, ?_, int_is _ _, rfl⟩
    unfold Builtin.len_
    simp [h0, run_underlying hu, goInt]
  · injection hs with e1 e2; subst e1 e2
    unfold V.Is at hp
    obtain ⟨A, cap, rfl, _⟩ := hp
    exact ⟨_, len_run ht hts' hpre A _ cap w, int_is _ _, rfl⟩
  · injection hs with e1 e2; subst e1 e2
    unfold V.Is at hp
    obtain ⟨A, rfl⟩ := hp
    exact ⟨_, len_run ht hts' hpre A 0 0 w, int_is _ _, rfl⟩
  · split at hs
    · rename_i ho
      injection hs with e1 e2; subst e1 e2
      obtain ⟨rfl, h3⟩ := hpre
      obtain ⟨A, c, rfl⟩ := rs_len R hp (.inl ho)
      exact ⟨_, len_run ht hts' h3 A _ c w, int_is _ _, rfl⟩
    · rename_i ho
      injection hs with e1 e2; subst e1 e2
      obtain ⟨rfl, h3⟩ := hpre
      obtain ⟨A, c, rfl⟩ := rs_len R hp (.inr ho)
      exact ⟨_, len_run ht hts' h3 A _ c w, int_is _ _, rfl⟩
    · cases hs
  · cases hs
theorem minmax_run (mx : Bool) (k : IntKind) : ∀ (xs : List V) (vs : List Value) (x y : Int), minmax mx k x xs = some y → IsAll E L xs vs →
    (vs.foldlM (if mx then Builtin.max2 else Builtin.min2) (.int k x)).run P w = .ok (.int k y) w
  | [], vs, x, y, h, hx => by
    unfold IsAll at hx
    subst hx
    simp only [minmax, Option.some.injEq] at h
    subst h
    simp
  | z :: zs, vs, x, y, h, hx => by
    unfold IsAll at hx
    obtain ⟨v, r, rfl, hv, hr⟩ := hx
    cases z with
    | int k' n =>
      simp only [minmax] at h
      split at h
      · rename_i hkk
        subst hkk
        unfold V.Is at hv
        subst hv
        have := minmax_run mx k zs r _ y h hr
        cases mx
        · simp only [Bool.false_eq_true, if_false] at this ⊢
          simp only [List.foldlM_cons, Builtin.min2, Sem.run_bind, Sem.run_pure, Result.andThen_ok]
          exact this
        · simp only [if_true] at this ⊢
          simp only [List.foldlM_cons, Builtin.max2, Sem.run_bind, Sem.run_pure, Result.andThen_ok]
          exact this
      · cases h
    | _ => simp [minmax] at h
theorem bound_is {lo : Option V} {vl : Option Value} {d l : Int} (hl : ∀ q, lo = some q → ∃ v, vl = some v ∧ q.Is E L v) (hl0 : lo = none → vl = none) (h : boundOf d lo = some l) : (vl = none ∧ l = d) ∨ ∃ k, vl = some (.int k l) := by
  cases lo with
  | none => exact .inl ⟨hl0 rfl, by simpa [boundOf] using h.symm⟩
  | some q =>
    obtain ⟨v, rfl, hq⟩ := hl q rfl
    cases q with
    | int k n =>
      simp only [boundOf, Option.some.injEq] at h
      subst h
      unfold V.Is at hq
      subst hq
      exact .inr ⟨_, rfl⟩
    | _ => simp [boundOf] at h
theorem slice_run {tt : TT} (ht : tt.Ok P) {t : TypeId} (h1 : (tt t).kind = 3) (h2 : (tt (tt t).el).kind ≠ 9) {A : Option Addr} {n cap : Nat} (hcap : n ≤ cap) {vl vh : Option Value} {l h : Int} (kl : (vl = none ∧ l = 0) ∨ ∃ k, vl = some (.int k l)) (kh : (vh = none ∧ h = n) ∨ ∃ k, vh = some (.int k h))
    (h4 : 0 ≤ l) (h5 : l ≤ h) (h6 : h ≤ n) (w : World) :
    (Instr.sliceAt t (.slice A n cap) vl vh none).run P w = .ok (.slice (if cap = l.toNat then A else A.map (·.add (l.toNat * (tt (tt t).el).sz))) (h.toNat - l.toNat) (cap - l.toNat)) w := by
  have hu := und_slice (ht.facts t (by rw [h1]; decide)) h1
  have c1 : 0 ≤ h ∧ h ≤ cap := ⟨by omega, by omega⟩
  have c2 : 0 ≤ l ∧ l ≤ h.toNat := ⟨h4, by omega⟩
  have c3 : 0 ≤ l ∧ l ≤ n := ⟨h4, by omega⟩
  unfold Instr.sliceAt
  simp only [Sem.run_bind, run_underlying hu, Result.andThen_ok, Instr.slice, Instr.sliceBounds, Sem.run_pure]
  rcases kl with ⟨rfl, rfl⟩ | ⟨k, rfl⟩ <;> rcases kh with ⟨rfl, rfl⟩ | ⟨k', rfl⟩ <;>
    (simp [Instr.sliceBound, asIntOf, run_sizeOf' (ht.facts _ h2), c1, c2, c3] <;> (intro hc; omega))
theorem slice_step {tt : TT} (ht : tt.Ok P) (R : RepE B w0 E0 E L0 L s a w) {t : TypeId} {p : V} {x : Value} (hp : p.Is E L x) {lo hi : Option V} {vl vh : Option Value}
    (hl : ∀ q, lo = some q → ∃ v, vl = some v ∧ q.Is E L v) (hl0 : lo = none → vl = none) (hh : ∀ q, hi = some q → ∃ v, vh = some v ∧ q.Is E L v) (hh0 : hi = none → vh = none)
    {pre : Prop} {r : Out} (hs : semSlice tt t s.ow p lo hi = .ok pre r) (hpre : pre) :
    ∃ v, (Instr.sliceAt t x vl vh none).run P w = .ok v w ∧ r.r.Is E L v ∧ r.upd = [] := by
  have own : ∀ {id ver b e sz : Nat} {rows : List (List V)} {ty : TypeId} {l h : Int}, (V.rs id ver b e).Is E L x → (s.ow[id]? = some (.blk ty ver sz rows) ∨ s.ow[id]? = some (.froz ty ver sz rows)) → boundOf 0 lo = some l → boundOf (e - b : Nat) hi = some h →
      (tt t).kind = 3 → (tt (tt t).el).kind ≠ 9 → sz = (tt (tt t).el).sz → 0 ≤ l → l ≤ h → h ≤ (e - b : Nat) → e ≤ rows.length → ∃ v, (Instr.sliceAt t x vl vh none).run P w = .ok v w ∧ (V.rs id ver (b + l.toNat) (b + h.toNat)).Is E L v := by
    intro id ver b e sz rows ty l h hx ho h1 h2 k1 k2 k3 k4 k5 k6 k7
    have kl := bound_is hl hl0 h1
    have kh := bound_is hh hh0 h2
    obtain ⟨ll, hll⟩ : ∃ l, L[id]? = some l := by rcases ho with ho | ho <;> exact R.loc ho
    cases ll with
    | free =>
      unfold V.Is at hx
      rw [hll] at hx
      exact hx.elim
    | lies v g sz' cap =>
      have hv : v = ver ∧ sz' = sz ∧ rows.length ≤ cap := by
        rcases ho with ho | ho <;> have hok := R.owns id _ _ ho hll
        · exact ⟨hok.1, hok.2.1, hok.2.2.2.2.2.2.1⟩
        · exact ⟨hok.1, hok.2.1, hok.2.2.1⟩
      obtain ⟨rfl, rfl, hrc⟩ := hv
      obtain ⟨a1, a2, A, rfl, hA⟩ := sl_at hx hll
      refine ⟨_, slice_run ht k1 k2 (by omega) kl kh k4 k5 k6 w, ?_⟩
      have e1 : h.toNat - l.toNat = (b + h.toNat) - (b + l.toNat) := by omega
      have e2 : cap - b - l.toNat = cap - (b + l.toNat) := by omega
      rw [e1, e2]
      refine at_sl hll (by omega) (by omega) fun hlt => ?_
      rw [if_neg (by omega), hA (by omega)]
      simp only [Option.map_some, Addr.add_lit, Option.some.injEq, Addr.mk.injEq, and_true, true_and]
      rw [Nat.add_mul, k3]
    | nil v =>
      have hv : v = ver ∧ rows = [] := by
        rcases ho with ho | ho <;> have hok := R.owns id _ _ ho hll
        · exact ⟨hok.1, hok.2.1⟩
        · exact ⟨hok.1, hok.2⟩
      obtain ⟨rfl, rfl⟩ := hv
      unfold V.Is at hx
      rw [hll] at hx
      rcases hx with ⟨h, _⟩ | ⟨_, rfl, rfl, A, rfl⟩
      · omega
      · obtain rfl : l = 0 := by omega
        obtain rfl : h = 0 := by omega
        refine ⟨_, slice_run ht k1 k2 (Nat.le_refl _) kl kh (by omega) (by omega) (by omega) w, ?_⟩
        exact nil_sl hll _
  unfold semSlice okp at hs
  split at hs
  · rename_i rows
    split at hs
    · rename_i l h hlo hhi
      injection hs with e1 e2; subst e1 e2
      obtain ⟨h1, h2, h3, h4, h5, h6⟩ := hpre
      unfold V.Is at hp
      obtain ⟨A, cap, rfl, hcap, hcont⟩ := hp
      have kl := bound_is hl hl0 hlo
      have kh := bound_is hh hh0 hhi
      refine ⟨_, slice_run ht h1 h2 hcap kl kh h4 h5 h6 w, ?_, rfl⟩
      unfold V.Is
      have hlen : ((rows.drop l.toNat).take (h - l).toNat).length = h.toNat - l.toNat := by simp; omega
      refine ⟨_, cap - l.toNat, by rw [hlen], by rw [hlen]; omega, ?_⟩
      by_cases hz : h.toNat - l.toNat = 0
      · left; exact List.eq_nil_of_length_eq_zero (by rw [hlen, hz])
      · right
        rcases hcont with rfl | ⟨b, oo, sz, rfl, hrows⟩
        · simp at h6; omega
        · have hne : 0 < rows.length := by omega
          obtain ⟨q1, _⟩ := rowsAt_get hrows (getD_get hne (tt (tt t).el).z)
          rw [h3] at q1
          subst q1
          refine ⟨b, oo + l.toNat * (tt (tt t).el).sz, (tt (tt t).el).sz, ?_, hrows.sub _ _⟩
          rw [if_neg (by omega)]
          simp [Addr.add_lit]
    · cases hs
  · split at hs
    · rename_i l h hlo hhi
      injection hs with e1 e2; subst e1 e2
      obtain ⟨h1, h2, rfl, rfl⟩ := hpre
      unfold V.Is at hp
      obtain ⟨A, rfl⟩ := hp
      refine ⟨_, slice_run ht h1 h2 (Nat.le_refl _) (bound_is hl hl0 hlo) (bound_is hh hh0 hhi) (by omega) (by omega) (by omega) w, ?_, rfl⟩
      unfold V.Is
      exact ⟨_, rfl⟩
    · cases hs
  · rename_i id ver b e
    split at hs
    · rename_i l h ty v sz rows hlo hhi ho
      injection hs with e1 e2; subst e1 e2
      obtain ⟨h1, h2, rfl, h4, h5, h6, h7, h8⟩ := hpre
      obtain ⟨v, hv, hi⟩ := own hp (.inl ho) hlo hhi h1 h2 h4 h5 h6 h7 h8
      exact ⟨v, hv, hi, rfl⟩
    · rename_i l h ty v sz rows hlo hhi ho
      injection hs with e1 e2; subst e1 e2
      obtain ⟨h1, h2, rfl, h4, h5, h6, h7, h8⟩ := hpre
      obtain ⟨v, hv, hi⟩ := own hp (.inr ho) hlo hhi h1 h2 h4 h5 h6 h7 h8
      exact ⟨v, hv, hi, rfl⟩
    · cases hs
  · cases hs
theorem noRoom_run {tt : TT} (ht : tt.Ok P) {t : TypeId} (h1 : (tt t).kind = 3) (h2 : (tt (tt t).el).kind ≠ 9) {A : Option Addr} {n cap : Nat} {k k' : IntKind} (w : World) :
    ∃ A', (Instr.sliceAt t (.slice A n cap) none (some (.int k 0)) (some (.int k' 0))).run P w = .ok (.slice A' 0 0) w := by
  have hu := und_slice (ht.facts t (by rw [h1]; decide)) h1
  unfold Instr.sliceAt
  simp only [Sem.run_bind, run_underlying hu, Result.andThen_ok, Instr.slice, Instr.sliceBounds, Sem.run_pure]
  simp [Instr.sliceBound, asIntOf, run_sizeOf' (ht.facts _ h2)]
theorem noRoom_step {tt : TT} (ht : tt.Ok P) (R : RepE B w0 E0 E L0 L s a w) {t : TypeId} {p qh qm : V} {x vh vm : Value} (hp : p.Is E L x) (hh : qh.Is E L vh) (hm : qm.Is E L vm)
    {pre : Prop} {r : Out} (hs : semNoRoom tt t s.ow p qh qm = .ok pre r) (hpre : pre) :
    ∃ v, (Instr.sliceAt t x none (some vh) (some vm)).run P w = .ok v w ∧ r.r.Is E L v ∧ r.upd = [] := by
  have fin : ∀ {A : Option Addr} {n cap : Nat} {k k' : IntKind}, x = .slice A n cap → vh = .int k 0 → vm = .int k' 0 → (tt t).kind = 3 → (tt (tt t).el).kind ≠ 9 → ∃ v, (Instr.sliceAt t x none (some vh) (some vm)).run P w = .ok v w ∧ V.emp.Is E L v := by
    rintro A n cap k k' rfl rfl rfl h1 h2
    obtain ⟨A', h⟩ := noRoom_run (P := P) ht h1 h2 (A := A) (n := n) (cap := cap) (k := k) (k' := k') w
    exact ⟨_, h, by unfold V.Is; exact ⟨A', rfl⟩⟩
  unfold semNoRoom okp at hs
  split at hs
  · unfold V.Is at hh hm
    subst hh hm
    split at hs
    · injection hs with e1 e2; subst e1 e2
      obtain ⟨h1, h2, rfl, rfl, _⟩ := hpre
      unfold V.Is at hp
      obtain ⟨A, cap, rfl, _⟩ := hp
      obtain ⟨v, hv, hi⟩ := fin rfl rfl rfl h1 h2
      exact ⟨v, hv, hi, rfl⟩
    · injection hs with e1 e2; subst e1 e2
      obtain ⟨h1, h2, rfl, rfl⟩ := hpre
      unfold V.Is at hp
      obtain ⟨A, rfl⟩ := hp
      obtain ⟨v, hv, hi⟩ := fin rfl rfl rfl h1 h2
      exact ⟨v, hv, hi, rfl⟩
    · split at hs
      · rename_i ho
        injection hs with e1 e2; subst e1 e2
        obtain ⟨h1, h2, rfl, rfl, rfl⟩ := hpre
        obtain ⟨A, c, rfl⟩ := rs_len R hp (.inl ho)
        obtain ⟨v, hv, hi⟩ := fin rfl rfl rfl h1 h2
        exact ⟨v, hv, hi, rfl⟩
      · rename_i ho
        injection hs with e1 e2; subst e1 e2
        obtain ⟨h1, h2, rfl, rfl, rfl⟩ := hpre
        obtain ⟨A, c, rfl⟩ := rs_len R hp (.inr ho)
        obtain ⟨v, hv, hi⟩ := fin rfl rfl rfl h1 h2
        exact ⟨v, hv, hi, rfl⟩
      · cases hs
    · cases hs
  · cases hs
def RowsIn (E : Ext) (L : List Loc) (cell : Nat → Option Value) (sz : Nat) (rows : List (List V)) : Prop :=
  ∀ (k : Nat) (row : List V), rows[k]? = some row → row.length = sz ∧ ∀ (j : Nat) (c : V), row[j]? = some c → c.one = true ∧ ∃ x, cell (k * sz + j) = some x ∧ c.Is E L x
theorem flatten_get {sz : Nat} : ∀ {rows : List (List V)}, (∀ row ∈ rows, row.length = sz) → ∀ (k j : Nat), j < sz → rows.flatten[k * sz + j]? = (rows[k]?).bind (·[j]?)
  | [], _, k, j, _ => by simp
  | r :: rs, h, k, j, hj => by
    have hr : r.length = sz := h r (List.mem_cons_self ..)
    cases k with
    | zero =>
      rw [List.flatten_cons, List.getElem?_append_left (by omega)]
      simp
    | succ k =>
      rw [List.flatten_cons, List.getElem?_append_right (by rw [hr, Nat.succ_mul]; omega)]
      have := flatten_get (fun row hrow => h row (List.mem_cons_of_mem _ hrow)) k j hj
      rw [List.getElem?_cons_succ, ← this, hr]
      congr 1
      rw [Nat.succ_mul]; omega
theorem flatten_len {sz : Nat} : ∀ {rows : List (List V)}, (∀ row ∈ rows, row.length = sz) → rows.flatten.length = rows.length * sz
  | [], _ => by simp
  | r :: rs, h => by
    rw [List.flatten_cons, List.length_append, flatten_len fun row hrow => h row (List.mem_cons_of_mem _ hrow), h r (List.mem_cons_self ..), List.length_cons, Nat.succ_mul, Nat.add_comm]
theorem RowsIn.vals {cell : Nat → Option Value} {sz : Nat} {rows : List (List V)} (h : RowsIn E L cell sz rows) :
    ∃ news : List Value, news.length = rows.length * sz ∧ (∀ (j : Nat) (u : Value), news[j]? = some u → cell j = some u) ∧ (∀ u ∈ news, u.oneCell' = true) ∧ RowsIn E L (fun j => news[j]?) sz rows := by
  have hlen : ∀ row ∈ rows, row.length = sz := by
    intro row hrow
    obtain ⟨k, hk, rfl⟩ := List.mem_iff_getElem.1 hrow
    exact (h k _ (List.getElem?_eq_getElem hk)).1
  have key : ∀ (q : Nat) (c : V), rows.flatten[q]? = some c → c.one = true ∧ ∃ x, cell (0 + q) = some x ∧ c.Is E L x := by
    intro q c hq
    have hql := get_lt hq
    rw [flatten_len hlen] at hql
    have hsz : 0 < sz := by
      rcases Nat.eq_zero_or_pos sz with h | h
      · subst h; simp at hql
      · exact h
    have e : q = q / sz * sz + q % sz := by rw [Nat.div_add_mod']
    have hm := Nat.mod_lt q hsz
    rw [e, flatten_get hlen _ _ hm] at hq
    cases hr : rows[q / sz]? with
    | none => rw [hr] at hq; cases hq
    | some row =>
      rw [hr] at hq
      obtain ⟨_, h2⟩ := h _ _ hr
      obtain ⟨h3, x, h4, h5⟩ := h2 _ _ hq
      refine ⟨h3, x, ?_, h5⟩
      rw [Nat.zero_add, e]
      exact h4
  obtain ⟨us, u1, u2⟩ := choose_cells (E := E) (L := L) (cell := cell) (cs := rows.flatten) (o := 0) key
  refine ⟨us, by rw [isOnes_len u1, flatten_len hlen], fun j u hu => by have := u2 j u hu; rwa [Nat.zero_add] at this, isOnes_one u1, fun k row hk => ⟨(h k row hk).1, fun j c hj => ?_⟩⟩
  have hjl := get_lt hj
  rw [(h k row hk).1] at hjl
  have hf := flatten_get hlen k j hjl
  rw [hk] at hf
  simp only [Option.bind_some, hj] at hf
  obtain ⟨v, v1, v2, v3⟩ := isOnes_get u1 hf
  exact ⟨v2, v, v1, v3⟩
theorem sl_rows (R : RepE B w0 E0 E L0 L s a w) {x : V} {q : Prop} {fp : List Nat} {new : List (List V)} (h : x.sl? s.ow = some (q, fp, new)) (hq : q) {y : Value} (hx : x.Is E L y) :
    ∃ A cap, y = .slice A new.length cap ∧ (new = [] ∨ ∃ b o sz, A = some ⟨b, o, none⟩ ∧ RowsIn E L (fun j => w.cell? ⟨b, o + j, none⟩) sz new) := by
  have own : ∀ {id ver lo hi sz : Nat} {ty : TypeId} {rows : List (List V)}, (V.rs id ver lo hi).Is E L y → (s.ow[id]? = some (.blk ty ver sz rows) ∨ s.ow[id]? = some (.froz ty ver sz rows)) → hi ≤ rows.length →
      ∃ A cap, y = .slice A ((rows.drop lo).take (hi - lo)).length cap ∧ ((rows.drop lo).take (hi - lo) = [] ∨ ∃ b o sz, A = some ⟨b, o, none⟩ ∧ RowsIn E L (fun j => w.cell? ⟨b, o + j, none⟩) sz ((rows.drop lo).take (hi - lo))) := by
    intro id ver lo hi sz ty rows hx ho hhi
    by_cases hne : lo < hi
    · have hlen : ((rows.drop lo).take (hi - lo)).length = hi - lo := by simp; omega
      obtain ⟨g, cap, hl, hrc, hcells⟩ : ∃ g cap, L[id]? = some (.lies ver g sz cap) ∧ rows.length ≤ cap ∧ ∀ (k : Nat) (row : List V), rows[k]? = some row → row.length = sz ∧ ∀ (j : Nat) (c : V), row[j]? = some c → c.one = true ∧ ∃ x, w.cell? ⟨g, k * sz + j, none⟩ = some x ∧ c.Is E L x := by
        rcases ho with ho | ho
        · obtain ⟨g, cap, cur, hl, h0, hB, hE, hcm, hrc, hc0, hheap, hcs, hrows⟩ := R.blk ho (k := lo) (by omega)
          refine ⟨g, cap, hl, hrc, fun k row hk => ?_⟩
          obtain ⟨k1, k2⟩ := hrows k row hk
          refine ⟨k1, fun j c hj => ?_⟩
          obtain ⟨k3, u, k4, k5⟩ := k2 j c hj
          exact ⟨k3, u, by simp only [World.cell?, hheap]; simpa using k4, k5⟩
        · obtain ⟨g, cap, hl, hrc, hrows⟩ := R.frz ho (k := lo) (by omega)
          refine ⟨g, cap, hl, hrc, fun k row hk => ?_⟩
          obtain ⟨k1, k2⟩ := rowsAt_get hrows hk
          refine ⟨k1, fun j c hj => ?_⟩
          obtain ⟨k3, u, k4, k5⟩ := cellsAt_get k2 hj
          rw [Nat.zero_add] at k4
          exact ⟨k3, u, R.inn.cell k4, is_nil k5⟩
      obtain ⟨a1, a2, A, rfl, hA⟩ := sl_at hx hl
      refine ⟨A, _, by rw [hlen], .inr ⟨g, lo * sz, sz, hA (by omega), fun k row hk => ?_⟩⟩
      rw [List.getElem?_take] at hk
      split at hk
      · rw [List.getElem?_drop] at hk
        obtain ⟨k1, k2⟩ := hcells _ _ hk
        refine ⟨k1, fun j c hj => ?_⟩
        obtain ⟨k3, u, k4, k5⟩ := k2 j c hj
        refine ⟨k3, u, ?_, k5⟩
        rw [← k4, Nat.add_mul]
        simp only [Nat.add_assoc]
      · cases hk
    · obtain ⟨A, c, rfl⟩ := rs_len R hx ho
      have e : hi - lo = 0 := by omega
      refine ⟨A, c, by simp [e], .inl (by simp [e])⟩
  unfold V.sl? at h
  split at h
  · simp only [Option.some.injEq, Prod.mk.injEq] at h
    obtain ⟨rfl, rfl, rfl⟩ := h
    unfold V.Is at hx
    obtain ⟨A, cap, rfl, hcap, hh⟩ := hx
    refine ⟨A, cap, rfl, hh.imp_right fun ⟨b, o, sz, e, hr⟩ => ⟨b, o, sz, e, fun k row hk => ?_⟩⟩
    obtain ⟨k1, k2⟩ := rowsAt_get hr hk
    refine ⟨k1, fun j c hj => ?_⟩
    obtain ⟨k3, u, k4, k5⟩ := cellsAt_get k2 hj
    refine ⟨k3, u, ?_, is_nil k5⟩
    have := R.inn.cell k4
    rwa [Nat.add_assoc] at this
  · simp only [Option.some.injEq, Prod.mk.injEq] at h
    obtain ⟨rfl, rfl, rfl⟩ := h
    unfold V.Is at hx
    obtain ⟨A, rfl⟩ := hx
    exact ⟨A, 0, rfl, .inl rfl⟩
  · split at h
    · rename_i ho
      simp only [Option.some.injEq, Prod.mk.injEq] at h
      obtain ⟨rfl, rfl, rfl⟩ := h
      obtain ⟨rfl, hq⟩ := hq
      exact own hx (.inl ho) hq
    · rename_i ho
      simp only [Option.some.injEq, Prod.mk.injEq] at h
      obtain ⟨rfl, rfl, rfl⟩ := h
      obtain ⟨rfl, hq⟩ := hq
      exact own hx (.inr ho) hq
    · cases h
  · cases h
theorem src_of (R : RepE B w0 E0 E L0 L s a w) {x : V} {q : Prop} {fp : List Nat} {new : List (List V)} (h : x.sl? s.ow = some (q, fp, new)) (hq : q) {y : Value} (hx : x.Is E L y) {sz : Nat} {z : List V} (hz : (new.getD 0 z).length = sz) :
    (new = [] ∧ ∃ A c, y = .slice A 0 c) ∨ (0 < new.length ∧ ∃ (ad : Addr) (c : Nat) (news : List Value), y = .slice (some ad) new.length c ∧ news.length = new.length * sz ∧ (∀ (j : Nat) (u : Value), news[j]? = some u → w.cell? (ad.add j) = some u) ∧ (∀ u ∈ news, u.oneCell' = true) ∧ RowsIn E L (fun j => news[j]?) sz new) := by
  obtain ⟨A, cap, rfl, hh⟩ := sl_rows R h hq hx
  rcases hh with rfl | ⟨b, o, sz', rfl, hr⟩
  · exact .inl ⟨rfl, A, cap, rfl⟩
  · rcases Nat.eq_zero_or_pos new.length with h0 | h0
    · have := List.eq_nil_of_length_eq_zero h0
      subst this
      exact .inl ⟨rfl, _, cap, rfl⟩
    · have := (hr 0 _ (getD_get h0 z)).1
      rw [hz] at this
      subst this
      obtain ⟨news, n1, n2, n3, n4⟩ := hr.vals
      exact .inr ⟨h0, _, cap, news, rfl, n1, fun j u hu => by rw [Addr.add_lit]; exact n2 j u hu, n3, n4⟩
theorem append_nothing {tt : TT} (ht : tt.Ok P) {t ty : TypeId} (h1 : (tt t).kind = 3) (h2 : (tt (tt t).el).kind ≠ 9) (base : Option Addr) {n cap : Nat} (hle : n ≤ cap) (A : Option Addr) (c : Nat) (w : World) :
    (Builtin.append_ #[t, t] ty #[.slice base n cap, .slice A 0 c]).run P w = .ok (.slice base n cap) w := by
  have hu := und_slice (ht.facts t (by rw [h1]; decide)) h1
  obtain ⟨i, hi, his, hib, z, hiz, hzc⟩ := facts_info (ht.facts _ h2)
  refine run_append_nothing w t t ty _ i hu hi base n cap hle _ ?_
  cases A with
  | none => exact Src.ofNil w hu c
  | some ad => exact Src.ofSlice w hu ad 0 c [] (by simp) (by simp) (by simp)
theorem append_grow {tt : TT} (ht : tt.Ok P) {t ty : TypeId} (h1 : (tt t).kind = 3) (h2 : (tt (tt t).el).kind ≠ 9) {base : Option Addr} {n cap : Nat} {olds : List Value} (hol : olds.length = n * (tt (tt t).el).sz) (w : World)
    (hold : (Builtin.firstCells (tt (tt t).el).sz n (.slice base n cap)).run P w.drew = .ok olds.toArray w.drew) {ad : Addr} {m c : Nat} {news : List Value} (hl : news.length = m * (tt (tt t).el).sz) (hnews : ∀ (j : Nat) (u : Value), news[j]? = some u → w.cell? (ad.add j) = some u) (ho : ∀ u ∈ news, u.oneCell' = true)
    (hg : cap < n + m) (hmax : n + m ≤ maxLen) (hby : (n + m) * (tt (tt t).el).bytes ≤ 140737488355328) (B : Nat) (hB : B ≤ w.heap.size) :
    ∃ cap' cur w', (Builtin.append_ #[t, t] ty #[.slice base n cap, .slice (some ad) m c]).run P w = .ok (.slice (some ⟨w.heap.size, 0, none⟩) (n + m) cap') w' ∧ Below B w w' ∧ (∀ g, g < w.heap.size → w'.heap[g]? = w.heap[g]?) ∧
      w'.heap[w.heap.size]? = some (.cells cur (tt t).el (0, 0)) ∧ n + m ≤ cap' ∧ cap' ≤ maxLen ∧ cur.size = cap' * (tt (tt t).el).sz ∧ ∀ (j : Nat) (u : Value), (olds ++ news)[j]? = some u → cur[j]? = some u := by
  have hu := und_slice (ht.facts t (by rw [h1]; decide)) h1
  obtain ⟨i, hi, his, hib, z, hiz, hzc⟩ := facts_info (ht.facts _ h2)
  have hzs : z.cells.size = (tt (tt t).el).sz := by
    rw [hzc, List.size_toArray, isOnes_len (ht.zero (E := fun _ => none) (L := []) (tt t).el), (ht.own _).len]
  have h63 : ((n + m : Nat) : Int) ≤ 9223372036854775807 := by
    have := hmax
    simp only [maxLen] at this
    omega
  have hr := run_append_grow_src w t t ty (tt t).el i z hu hi hiz base n cap olds (by rw [his]; exact hold) (.slice (some ad) m c) m news (Src.ofSlice w hu ad m c news (by rw [his]; exact hl) hnews ho) hg h63 (growslice_fits hg (by rw [hib]; exact hby))
  refine ⟨_, _, _, hr, (Below.refl B w).drew.alloc hB _, fun g hg => heap_alloc_old w.drew _ g hg, heap_alloc_new w.drew _, grownCap_ge w _ _ _, grownCap_le_maxLen w _ _ _ hmax, ?_, ?_⟩
  · have := grownCap_ge w (n + m) cap (tt t).el
    simp only [Array.size_append, List.size_toArray, List.length_append, size_zeroCells, hzs, hol, hl, ← Nat.add_mul]
    congr 1
    omega
  · intro j u hu
    have hlt := get_lt hu
    rw [Array.getElem?_append_left (by simpa using hlt)]
    simpa using hu
theorem rows_append {cur : Array Value} {sz n : Nat} {rows new : List (List V)} (hn : rows.length = n) {olds news : List Value} (hol : olds.length = n * sz) (hr : RowsIn E L (fun j => olds[j]?) sz rows) (hw : RowsIn E L (fun j => news[j]?) sz new) (hc : ∀ (j : Nat) (u : Value), (olds ++ news)[j]? = some u → cur[j]? = some u) : OwnRows E L cur sz (rows ++ new) := by
  intro k row hk
  rcases Nat.lt_or_ge k rows.length with h | h
  · rw [List.getElem?_append_left h] at hk
    obtain ⟨h1, h2⟩ := hr k row hk
    refine ⟨h1, fun j c hj => ?_⟩
    obtain ⟨h3, x, h4, h5⟩ := h2 j c hj
    refine ⟨h3, x, hc _ _ ?_, h5⟩
    rw [List.getElem?_append_left (get_lt h4)]; exact h4
  · rw [List.getElem?_append_right h] at hk
    obtain ⟨h1, h2⟩ := hw _ row hk
    refine ⟨h1, fun j c hj => ?_⟩
    obtain ⟨h3, x, h4, h5⟩ := h2 j c hj
    refine ⟨h3, x, hc _ _ ?_, h5⟩
    have e : k * sz = n * sz + (k - rows.length) * sz := by
      rw [← Nat.add_mul]; congr 1; omega
    rw [List.getElem?_append_right (by rw [hol, e]; omega), hol, ← h4]
    congr 1
    rw [e]; omega
theorem append_step {tt : TT} (ht : tt.Ok P) (R : RepE B w0 E0 E L0 L s a w) {t ty : TypeId} {id : Nat} {p q : V} {x y : Value} (hp : p.Is E L x) (hq : q.Is E L y)
    {pre : Prop} {r : Out} (hs : semAppend tt t s.ow id p q = .ok pre r) (hpre : pre) :
    ∃ v w' L', (Builtin.append_ #[t, t] ty #[x, y]).run P w = .ok v w' ∧ RepE B w0 E0 E L0 L' ⟨s.n, s.tm, app s.ow r.upd⟩ a w' ∧ r.r.Is E L' v := by
  unfold semAppend at hs
  split at hs
  · rename_i rr ver lo hi qq fp new hsl
    split at hs
    · rename_i e v sz rows hown
      injection hs with e1 e2; subst e1 e2
      obtain ⟨hqq, rfl, rfl, rfl, h1, rfl, h2, rfl, h5, h6, h7⟩ := hpre
      obtain ⟨l, hl⟩ := R.loc hown
      have hok := R.owns rr _ l hown hl
      have hsrc := src_of R hsl hqq hq h5
      cases l with
      | free => exact hok.elim
      | nil v' =>
        obtain ⟨rfl, rfl, h0⟩ := hok
        have hp' := hp
        unfold V.Is at hp'
        rw [hl] at hp'
        rcases hp' with ⟨h, _⟩ | ⟨_, _, _, A, rfl⟩
        · omega
        rcases hsrc with ⟨rfl, A', c, rfl⟩ | ⟨hpos, ad, c, news, rfl, n1, n2, n3, n4⟩
        · refine ⟨_, w, L.set rr (.nil (v' + 1)), append_nothing ht h1 h2 A (Nat.le_refl _) A' c w, ?_, ?_⟩
          · exact R.setOwn hown hl (Below.refl B w) (Nat.le_succ _) (fun _ _ _ => rfl) ⟨rfl, rfl, h0⟩ (fun g hg => by cases hg)
          · exact nil_sl (List.getElem?_set_self (get_lt hl)) A
        · obtain ⟨cap', cur, w', g1, g2, g3, g4, g5, g6, g7, g8⟩ := append_grow ht (ty := ty) h1 h2 (base := A) (n := 0) (cap := 0) (olds := []) (by simp) w (by
              cases A with
              | none => exact run_firstCells_none w.drew _ 0 0 0
              | some b => exact run_firstCells_some w.drew _ 0 b 0 0 [] (by simp) (by simp)) (c := c) n1 n2 n3 (by omega) (by simpa using h6) (by simpa using h7) B R.base
          refine ⟨_, w', L.set rr (.lies (v' + 1) w.heap.size (tt (tt t).el).sz cap'), g1, ?_, ?_⟩
          · refine R.setOwn hown hl g2 (Nat.lt_succ_self _) (fun g hg _ => g3 g hg) ⟨rfl, rfl, h0, R.base, R.newE (Nat.le_refl _), g6, by simpa using g5, by omega, cur, g4, g7, ?_⟩ (fun g hg => .inr ?_)
            · refine OwnRows.mono E.le_refl (locs_set hl (Nat.lt_succ_self _)) (rows_append (n := 0) rfl (olds := []) (by simp) (fun k row hk => by simp at hk) n4 (by simpa using g8))
            · simp only [Own.at?, Option.some.injEq] at hg; omega
          · have := at_sl (E := E) (lo := 0) (hi := 0 + new.length) (List.getElem?_set_self (l := L) (i := rr) (a := Loc.lies (v' + 1) w.heap.size (tt (tt t).el).sz cap') (get_lt hl)) (Nat.zero_le _) g5 (A := some ⟨w.heap.size, 0, none⟩) (by intro; simp)
            simpa using this
      | lies v' g sz' cap =>
        obtain ⟨rfl, rfl, h0, hB, hE, hcm, hrc, hc0, cur, hheap, hcs, hrows⟩ := hok
        obtain ⟨_, _, A, rfl, hA⟩ := sl_at hp hl
        obtain rfl := hA hc0
        simp only [Nat.zero_mul, Nat.sub_zero]
        have hrin : RowsIn E L (fun j => cur[j]?) (tt (tt t).el).sz rows := hrows
        obtain ⟨olds, o1, o2, o3, o4⟩ := hrin.vals
        rcases hsrc with ⟨rfl, A', c, rfl⟩ | ⟨hpos, ad, c, news, rfl, n1, n2, n3, n4⟩
        · refine ⟨_, w, L.set rr (.lies (v' + 1) g (tt (tt t).el).sz cap), append_nothing ht h1 h2 _ hrc A' c w, ?_, ?_⟩
          · refine R.setOwn hown hl (Below.refl B w) (.inl (Nat.lt_succ_self _)) (fun _ _ _ => rfl) ⟨rfl, rfl, h0, hB, hE, hcm, by simpa using hrc, hc0, cur, hheap, hcs, ?_⟩ (fun g' hg => .inl hg)
            simpa using hrows.mono E.le_refl (locs_set (l1 := .lies (v' + 1) g (tt (tt t).el).sz cap) hl (Or.inl (Nat.lt_succ_self _)))
          · have := at_sl (E := E) (lo := 0) (hi := rows.length) (List.getElem?_set_self (l := L) (i := rr) (a := Loc.lies (v' + 1) g (tt (tt t).el).sz cap) (get_lt hl)) (Nat.zero_le _) hrc (A := some ⟨g, 0, none⟩) (by intro; simp)
            simpa using this
        · have hu := und_slice (ht.facts t (by rw [h1]; decide)) h1
          obtain ⟨i, hi, his, hib, z, hiz, hzc⟩ := facts_info (ht.facts _ h2)
          by_cases hroom : rows.length + new.length ≤ cap
          · have hfit : rows.length * (tt (tt t).el).sz + news.length ≤ cur.size := by rw [n1, hcs, ← Nat.add_mul]; exact Nat.mul_le_mul_right _ hroom
            have hr := run_append_room (P := P) w t ty _ i hu hi g rows.length cap cur hheap ad new.length c news (by rw [his]; exact n1) n2 n3 hroom (by rw [his]; exact hfit)
            rw [his] at hr
            refine ⟨_, _, L.set rr (.lies (v' + 1) g (tt (tt t).el).sz cap), hr, ?_, ?_⟩
            · refine R.setOwn hown hl (below_setRow _ hB) (.inl (Nat.lt_succ_self _)) (fun j hj1 hj2 => setRow_other w g j _ (fun ee => hj2 (by rw [ee]; rfl))) ⟨rfl, rfl, h0, hB, hE, hcm, by simpa using hroom, hc0, _, setRow_heap w g cur _ _ _ hheap, ?_, ?_⟩ (fun g' hg => .inl hg)
              · simp only [List.size_toArray, List.length_append, List.length_take, List.length_drop, Array.length_toList, hcs] at hfit ⊢; omega
              · refine OwnRows.mono E.le_refl (locs_set hl (.inl (Nat.lt_succ_self _))) (rows_append rfl (olds := olds) o1 o4 n4 fun j u hu => ?_)
                have hcl : cur.toList.length = cap * (tt (tt t).el).sz := by rw [Array.length_toList, hcs]
                have hsp := splice_get cur.toList news (rows.length * (tt (tt t).el).sz) j (by rw [Array.length_toList]; exact hfit)
                rw [List.getElem?_toArray, hsp]
                rcases Nat.lt_or_ge j olds.length with h | h
                · rw [List.getElem?_append_left h] at hu
                  rw [if_neg (by omega)]
                  simpa using o2 j u hu
                · rw [List.getElem?_append_right h] at hu
                  have := get_lt hu
                  rw [if_pos (by omega), ← hu, o1]
            · have := at_sl (E := E) (lo := 0) (hi := rows.length + new.length) (List.getElem?_set_self (l := L) (i := rr) (a := Loc.lies (v' + 1) g (tt (tt t).el).sz cap) (get_lt hl)) (Nat.zero_le _) hroom (A := some ⟨g, 0, none⟩) (by intro; simp)
              simpa using this
          · obtain ⟨cap', cur', w', g1, g2, g3, g4, g5, g6, g7, g8⟩ := append_grow ht (ty := ty) h1 h2 (base := some ⟨g, 0, none⟩) (n := rows.length) (cap := cap) (olds := olds) o1 w
                (run_firstCells_some w.drew _ _ ⟨g, 0, none⟩ _ _ olds o1 (fun j u hu => by
                  rw [Addr.add_lit]
                  have := o2 j u hu
                  show w.cell? _ = _
                  simp only [World.cell?, hheap]
                  simpa using this)) (c := c) n1 n2 n3 (by omega) h6 h7 B R.base
            refine ⟨_, w', L.set rr (.lies (v' + 1) w.heap.size (tt (tt t).el).sz cap'), g1, ?_, ?_⟩
            · refine R.setOwn hown hl g2 (.inl (Nat.lt_succ_self _)) (fun g hg _ => g3 g hg) ⟨rfl, rfl, h0, R.base, R.newE (Nat.le_refl _), g6, by simpa using g5, by omega, cur', g4, g7, ?_⟩ (fun g hg => .inr ?_)
              · exact OwnRows.mono E.le_refl (locs_set hl (.inl (Nat.lt_succ_self _))) (rows_append rfl (olds := olds) o1 o4 n4 g8)
              · simp only [Own.at?, Option.some.injEq] at hg; omega
            · have := at_sl (E := E) (lo := 0) (hi := rows.length + new.length) (List.getElem?_set_self (l := L) (i := rr) (a := Loc.lies (v' + 1) w.heap.size (tt (tt t).el).sz cap') (get_lt hl)) (Nat.zero_le _) g5 (A := some ⟨w.heap.size, 0, none⟩) (by intro; simp)
              simpa using this
    · cases hs
  · rename_i qq fp new hsl
    split at hs
    · rename_i hid
      injection hs with e1 e2; subst e1 e2
      obtain ⟨hqq, h1, h2, h0, h5, h6, h7⟩ := hpre
      unfold V.Is at hp
      obtain ⟨A, rfl⟩ := hp
      rcases src_of R hsl hqq hq h5 with ⟨rfl, A', c, rfl⟩ | ⟨hpos, ad, c, news, rfl, n1, n2, n3, n4⟩
      · obtain ⟨R', hl'⟩ := R.freshNil hid (Below.refl B w) (fun _ _ => rfl) (tt t).el h0
        exact ⟨_, w, _, append_nothing ht h1 h2 A (Nat.le_refl _) A' c w, R', nil_sl hl' A⟩
      · obtain ⟨cap', cur, w', g1, g2, g3, g4, g5, g6, g7, g8⟩ := append_grow ht (ty := ty) h1 h2 (base := A) (n := 0) (cap := 0) (olds := []) (by simp) w (by
              cases A with
              | none => exact run_firstCells_none w.drew _ 0 0 0
              | some b => exact run_firstCells_some w.drew _ 0 b 0 0 [] (by simp) (by simp)) (c := c) n1 n2 n3 (by omega) (by simpa using h6) (by simpa using h7) B R.base
        obtain ⟨R', hl'⟩ := R.fresh hid g2 g3 g4 h0 (cap := cap') (by omega) g6 g7 (rows := new) (by omega) (by
          have := rows_append (E := E) (L := L) (rows := []) (n := 0) rfl (olds := []) (by simp) (fun k row hk => by simp at hk) n4 (by simpa using g8)
          simpa using this)
        refine ⟨_, w', _, g1, R', ?_⟩
        have := at_sl (E := E) (lo := 0) (hi := 0 + new.length) hl' (Nat.zero_le _) g5 (A := some ⟨w.heap.size, 0, none⟩) (by intro; simp)
        simpa using this
    · cases hs
  · cases hs
theorem make_step {tt : TT} (ht : tt.Ok P) (R : RepE B w0 E0 E L0 L s a w) {t : TypeId} {id : Nat} {p q : V} {x y : Value} (hp : p.Is E L x) (hq : q.Is E L y)
    {pre : Prop} {r : Out} (hs : semMake tt t s.ow id p q = .ok pre r) (hpre : pre) :
    ∃ v w' L', (Instr.makeSlice t x y).run P w = .ok v w' ∧ RepE B w0 E0 E L0 L' ⟨s.n, s.tm, app s.ow r.upd⟩ a w' ∧ r.r.Is E L' v := by
  unfold semMake at hs
  split at hs
  · rename_i kl l kc c
    unfold V.Is at hp hq
    subst hp hq
    split at hs
    · rename_i hid
      injection hs with e1 e2; subst e1 e2
      obtain ⟨h1, h2, h3, rfl, h6, h7, h8⟩ := hpre
      obtain ⟨n, rfl⟩ := Int.eq_ofNat_of_zero_le h6
      simp only [Int.toNat_natCast] at h8 ⊢
      have hu := und_slice (ht.facts t (by rw [h1]; decide)) h1
      obtain ⟨i, hi, his, hib, z, hiz, hzc⟩ := facts_info (ht.facts _ h2)
      have hzl : (tt (tt t).el).zero.length = (tt (tt t).el).sz := by rw [isOnes_len (ht.zero (E := E) (L := L) (tt t).el), (ht.own _).len]
      obtain ⟨w', hrun, hrow', hg⟩ := run_make_full (P := P) (w := w) B t _ i z _ hu hi hiz his kl kc n (by rw [hib]; exact h8) (by omega) R.base
      have hb : Below B w w' := ⟨hg.os, hg.tape, hg.output, hg.size, fun k hk => hg.block k (by have := R.base; omega) (by simp)⟩
      by_cases hn : n = 0
      · subst hn
        obtain ⟨R', hl'⟩ := R.freshNil hid hb (fun g hgg => hg.block g hgg (by simp)) (tt t).el h3
        exact ⟨_, w', _, hrun, R', nil_sl hl' _⟩
      · rcases hrow'.2 with ⟨h, _⟩ | ⟨g', cap, cur, hsl, hBg, hheap, hnc, hcm, hcsz, htake⟩
        · cases h
        injection hsl with hsl _ hcap
        injection hsl with hsl
        injection hsl with hsl
        subst hsl hcap
        obtain ⟨R', hl'⟩ := R.fresh hid hb (fun g hgg => hg.block g hgg (by simp)) hheap h3 (cap := n) (by omega) hcm hcsz (rows := List.replicate n (tt (tt t).el).z) (by simp) (by
          intro k row hk
          have hkn := get_lt hk
          simp only [List.length_replicate] at hkn
          have := List.eq_of_mem_replicate (List.mem_of_getElem? hk)
          subst this
          refine ⟨(ht.own _).len, fun j c hj => ?_⟩
          obtain ⟨u, u1, u2, u3⟩ := isOnes_get (ht.zero (E := E) (L := L) (tt t).el) hj
          refine ⟨u2, u, ?_, u3⟩
          have hjl := get_lt u1
          rw [hzl] at hjl
          have hlt : k * (tt (tt t).el).sz + j < n * (tt (tt t).el).sz := by
            have := Nat.mul_le_mul_right (tt (tt t).el).sz (Nat.succ_le_of_lt hkn)
            rw [Nat.succ_mul] at this
            omega
          have hmod : (k * (tt (tt t).el).sz + j) % (tt (tt t).el).sz = j := by rw [Nat.mul_comm, Nat.mul_add_mod, Nat.mod_eq_of_lt hjl]
          have hcur : cur.toList = (madeCells z.cells (n * (tt (tt t).el).sz)).toList := by
            rw [← htake, List.take_of_length_le]
            rw [Array.length_toList, hcsz]; exact Nat.le_refl _
          rw [← Array.getElem?_toList, hcur]
          simp only [madeCells, Array.toList_map, Array.toList_range, List.getElem?_map, List.getElem?_range hlt, Option.map_some, hzc, List.size_toArray, hzl, hmod]
          have hj2 : j < (tt (tt t).el).zero.length := get_lt u1
          rw [List.getElem?_eq_getElem hj2] at u1
          injection u1 with u1
          simp [hj2, u1])
        refine ⟨_, w', _, hrun, R', ?_⟩
        have := at_sl (E := E) (lo := 0) (hi := n) hl' (Nat.zero_le _) (Nat.le_refl _) (A := some ⟨w.heap.size, 0, none⟩) (by intro; simp)
        simpa using this
    · cases hs
  · cases hs
end
end Go.K
