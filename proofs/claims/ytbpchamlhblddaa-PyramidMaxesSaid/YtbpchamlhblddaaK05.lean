/-
  A SECOND ENGINE, PART 05: literals.
-/
import Derived.Test.YtbpchamlhblddaaK04
set_option linter.all false
namespace Go.K
open Go Go.RowKit
section
variable {P : Program} {B : Nat} {w0 : World} {E0 E : Ext} {L0 L : List Loc} {s : St} {a : Act} {w : World} {o : Oper}

theorem fold_set (off : Nat) : ∀ (us : List Value) (k : Nat) (vs : List Value), off + k + us.length ≤ vs.length →
    ((us.zipIdx k).foldl (fun (q : Array Value) (p : Value × Nat) => q.setIfInBounds (off + p.2) p.1) vs.toArray) = (vs.take (off + k) ++ us ++ vs.drop (off + k + us.length)).toArray
  | [], k, vs, _ => by simp
  | x :: r, k, vs, h => by
    simp only [List.length_cons] at h
    simp only [List.zipIdx_cons, List.foldl_cons, List.setIfInBounds_toArray]
    rw [fold_set off r (k + 1) _ (by simp; omega)]
    congr 1
    apply List.ext_getElem?
    intro j
    have e1 : off + (k + 1) = (off + k) + 1 := by omega
    rw [e1, splice_get _ _ _ _ (by simp; omega)]
    have := splice_get vs (x :: r) (off + k) j (by simp; omega)
    rw [this]
    simp only [List.length_cons]
    by_cases e : j = off + k
    · subst e
      rw [if_neg (by omega), if_pos (by omega), List.getElem?_set_self (by omega)]; simp
    · rw [List.getElem?_set_ne (fun h => e h.symm)]
      by_cases h1 : off + k ≤ j ∧ j < off + k + (r.length + 1)
      · rw [if_pos (by omega), if_pos h1, show j - (off + k) = (j - (off + k + 1)) + 1 by omega]; rfl
      · rw [if_neg (by omega), if_neg h1]

theorem setCells_is {cs xs : List V} {vs us : List Value} (h : IsOnes E L cs vs) (hx : IsOnes E L xs us) {off : Nat} (hf : off + xs.length ≤ cs.length) : IsOnes E L (setCells cs off xs) (vs.take off ++ us ++ vs.drop (off + us.length)) := by
  have hl := isOnes_len h
  have hu := isOnes_len hx
  refine isOnes_of (by simp [setCells_length]; omega) fun k x v h1 h2 => ?_
  rw [setCells_get _ _ _ _ hf] at h1
  rw [splice_get _ _ _ _ (by omega)] at h2
  split at h1
  · rename_i hk
    rw [if_pos (by omega)] at h2
    obtain ⟨u, q1, q2, q3⟩ := isOnes_get hx h1
    rw [q1] at h2; injection h2 with h2; subst h2
    exact ⟨q2, q3⟩
  · rename_i hk
    rw [if_neg (by omega)] at h2
    obtain ⟨u, q1, q2, q3⟩ := isOnes_get h h1
    rw [q1] at h2; injection h2 with h2; subst h2
    exact ⟨q2, q3⟩

theorem fills_run (place : Nat → Option (Nat × Nat)) : ∀ (idx : List Nat) (xs : List V) (vs : List Value) (cs : List V) (us : List Value) (res : List V), IsAll E L xs vs → IsOnes E L cs us → fills place cs (idx.zip xs) = some res →
    ∃ qs : List Value, Instr.fill place us.toArray (idx.zip vs) = some qs.toArray ∧ IsOnes E L res qs
  | [], xs, vs, cs, us, res, _, hok, h => by
    simp only [List.zip_nil_left, fills, Option.some.injEq] at h
    subst h
    exact ⟨us, rfl, hok⟩
  | k :: idx, [], vs, cs, us, res, hx, hok, h => by
    unfold IsAll at hx
    subst hx
    simp only [List.zip_nil_right, fills, Option.some.injEq] at h
    subst h
    exact ⟨us, rfl, hok⟩
  | k :: idx, x :: xs, vs, cs, us, res, hx, hok, h => by
    unfold IsAll at hx
    obtain ⟨v, r, rfl, hv, hr⟩ := hx
    simp only [List.zip_cons_cons, fills] at h
    split at h
    · rename_i off size ys hp hc
      split at h
      · rename_i hh
        obtain ⟨h1, h2⟩ := hh
        have hones := cells?_is hc hv
        have hyl := isOnes_len hones
        have hul := isOnes_len hok
        have hz : ((v.cells.zipIdx).foldl (fun (q : Array Value) (p : Value × Nat) => q.setIfInBounds (off + p.2) p.1) us.toArray) = (us.take off ++ v.cells.toList ++ us.drop (off + v.cells.toList.length)).toArray := by
          have hfs := fold_set off v.cells.toList 0 us (by omega)
          rw [Nat.add_zero] at hfs
          rw [← hfs, ← Array.foldl_toList, Array.toList_zipIdx]
        obtain ⟨qs, r1, r2⟩ := fills_run place idx xs r (setCells cs off ys) _ res hr (setCells_is hok hones (off := off) (by omega)) h
        refine ⟨qs, ?_, r2⟩
        rw [List.zip_cons_cons, Instr.fill]
        simp only [hp]
        have hsz : v.cells.size = size := by rw [← Array.length_toList, hyl, h1]
        rw [if_neg (by simp [hsz]; omega), hz]
        exact r1
      · cases h
    · cases h

theorem facts_info {t : TypeId} {i : TI} (F : i.Facts P t) : ∃ x, P.info? t = some x ∧ x.size = i.sz ∧ x.bytes = i.bytes ∧ ∃ z : Value, x.zero = some z ∧ z.cells = i.zero.toArray := by
  obtain ⟨x, d, z, hx, hd, hz, hzc, hsz, hb, hs⟩ := F.got
  exact ⟨x, hx, hsz, hb, z, hz, by rw [← hzc]⟩

theorem parts_zip (parts : Array (Nat × Operand)) : (parts.map fun (x : Nat × Operand) => match x with | (i, y) => (i, a.eval y)).toList = (parts.toList.map (·.1)).zip ((parts.toList.map (·.2)).map a.eval) := by
  rw [Array.toList_map]
  induction parts.toList with
  | nil => rfl
  | cons p r ih => simp [ih]

theorem build_step {tt : TT} (ht : tt.Ok P) {t : TypeId} {parts : Array (Nat × Operand)} (ho : o.op = .build t parts) {xs : List V}
    (hx : IsAll E L xs ((parts.toList.map (·.2)).map a.eval)) {pre : Prop} {r : Out} (hs : semBuild tt t (parts.toList.map (·.1)) xs = .ok pre r) (hpre : pre) :
    ∃ v, (execOp a.eval o).run P w = .ok (.value v) w ∧ r.r.Is E L v ∧ r.upd = [] := by
  have fin : ∀ (res : List V) (qs : List Value), P.built t (parts.map fun (x : Nat × Operand) => match x with | (i, y) => (i, a.eval y)).toList = some qs.toArray → IsOnes E L res qs →
      ∃ v, (execOp a.eval o).run P w = .ok (.value v) w ∧ (V.agg res).Is E L v := by
    intro res qs hb hok
    refine ⟨.agg qs.toArray, ?_, ?_⟩
    · unfold execOp
      simp only [ho, Sem.run_bind]
      have := run_build (P := P) w t _ _ hb
      rw [this]; rfl
    · unfold V.Is; exact ⟨qs, rfl, hok⟩
  unfold semBuild at hs
  split at hs
  · rename_i hk
    split at hs
    · rename_i res hf
      injection hs with e1 e2; subst e1 e2
      replace hpre := okFlds_mem hpre
      obtain ⟨fs, hu, hfl⟩ := und_struct (ht.facts t (by rw [hk]; decide)) hk
      obtain ⟨x, hi, hsz, hb, z, hz, hzc⟩ := facts_info (ht.facts t (by rw [hk]; decide))
      obtain ⟨qs, r1, r2⟩ := fills_run _ _ _ _ _ _ _ hx (ht.zero t) hf
      obtain ⟨v, hv1, hv2⟩ := fin res qs (by
        unfold Program.built
        have hp : fs.toList.mapM (fun f => (P.info? f.type).map fun i => (f.offset, i.size)) = some ((tt t).flds.map fun p => (p.1, (tt p.2).sz)) := by
          rw [hfl] at hpre ⊢
          generalize fs.toList = l at hpre ⊢
          induction l with
          | nil => rfl
          | cons f l ih =>
            have hk2 := hpre (f.offset, f.type) (by simp)
            obtain ⟨y, hy, hys, _⟩ := facts_info (ht.facts f.type hk2)
            simp only [List.mapM_cons, hy, Option.map_some, List.map_cons]
            have := ih (fun p hp => hpre p (by simp only [List.map_cons, List.mem_cons]; right; exact hp))
            simp [this, hys]
        simp only [hi, hu, hz, hp, parts_zip]
        rw [hzc]
        have e : (fun (k : Nat) => (List.map (fun p => (p.1, (tt p.2).sz)) (tt t).flds).toArray[k]?) = fun k => ((tt t).flds[k]?).map fun p => (p.1, (tt p.2).sz) := by
          funext k; simp
        rw [e]
        exact r1) r2
      exact ⟨v, hv1, hv2, rfl⟩
    · cases hs
  · rename_i hk
    split at hs
    · rename_i res hf
      injection hs with e1 e2; subst e1 e2
      have hu := und_array (ht.facts t (by rw [hk]; decide)) hk
      obtain ⟨x, hi, hsz, hb, z, hz, hzc⟩ := facts_info (ht.facts t (by rw [hk]; decide))
      obtain ⟨y, hy, hys, _⟩ := facts_info (ht.facts (tt t).el hpre)
      obtain ⟨qs, r1, r2⟩ := fills_run _ _ _ _ _ _ _ hx (ht.zero t) hf
      obtain ⟨v, hv1, hv2⟩ := fin res qs (by
        unfold Program.built
        simp only [hi, hu, hz, hy, parts_zip, hys, hzc]
        exact r1) r2
      exact ⟨v, hv1, hv2, rfl⟩
    · cases hs
  · cases hs

theorem isOnes_append : ∀ {xs ys : List V} {vs us : List Value}, IsOnes E L xs vs → IsOnes E L ys us → IsOnes E L (xs ++ ys) (vs ++ us)
  | [], _, vs, us, h, k => by unfold IsOnes at h; subst h; exact k
  | x :: xs, ys, vs, us, h, k => by
    unfold IsOnes at h
    obtain ⟨v, r, rfl, h1, hv, hr⟩ := h
    show IsOnes E L (x :: (xs ++ ys)) (v :: (r ++ us))
    unfold IsOnes
    exact ⟨v, r ++ us, rfl, h1, hv, isOnes_append hr k⟩
theorem repl_main {z : List V} {zero : List Value} (h : IsOnes E L z zero) : ∀ n : Nat, IsOnes E L (repl z n) ((List.range (n * zero.length)).map (fun i => zero.toArray[i % zero.toArray.size]!))
  | 0 => by simp [repl]; unfold IsOnes; rfl
  | n + 1 => by
    have e : (List.range ((n + 1) * zero.length)).map (fun i => zero.toArray[i % zero.toArray.size]!) = zero ++ (List.range (n * zero.length)).map (fun i => zero.toArray[i % zero.toArray.size]!) := by
      rw [show (n + 1) * zero.length = zero.length + n * zero.length by rw [Nat.succ_mul, Nat.add_comm], List.range_add, List.map_append]
      congr 1
      · apply List.ext_getElem?
        intro j
        by_cases hj : j < zero.length
        · simp [hj, Nat.mod_eq_of_lt hj]
        · simp [hj]
      · rw [List.map_map]
        apply List.map_congr_left
        intro j _
        simp [Nat.add_mod_left]
    rw [e]
    exact isOnes_append h (repl_main h n)
theorem repl_is {z : List V} {zero : List Value} (h : IsOnes E L z zero) (n : Nat) : ∃ us : List Value, IsOnes E L (repl z n) us ∧ us.length = n * zero.length ∧ us.toArray = (Array.range (n * zero.length)).map (zero.toArray[· % zero.toArray.size]!) :=
  ⟨_, repl_main h n, by simp, by apply Array.ext'; simp⟩

theorem chunk_length (sz : Nat) : ∀ (n : Nat) (cs : List V), (chunk sz n cs).length = n
  | 0, _ => rfl
  | n + 1, cs => by rw [chunk, List.length_cons, chunk_length sz n]
theorem chunk_get (sz : Nat) : ∀ (n : Nat) (cs : List V) (k : Nat) (row : List V), (chunk sz n cs)[k]? = some row → k < n ∧ row = (cs.drop (k * sz)).take sz
  | 0, cs, k, row, h => by simp [chunk] at h
  | n + 1, cs, 0, row, h => by
    simp only [chunk, List.getElem?_cons_zero, Option.some.injEq] at h
    exact ⟨by omega, by simp [← h]⟩
  | n + 1, cs, k + 1, row, h => by
    simp only [chunk, List.getElem?_cons_succ] at h
    obtain ⟨h1, h2⟩ := chunk_get sz n _ k row h
    refine ⟨by omega, ?_⟩
    rw [h2, List.drop_drop]
    congr 2
    rw [Nat.succ_mul]; omega
theorem chunk_rows {sz n : Nat} {cs : List V} {us : List Value} (h : IsOnes E L cs us) (hl : cs.length = n * sz) {cur : Array Value} (hc : ∀ (j : Nat) (u : Value), us[j]? = some u → cur[j]? = some u) : OwnRows E L cur sz (chunk sz n cs) := by
  intro k row hk
  obtain ⟨h1, rfl⟩ := chunk_get sz n cs k row hk
  have hks : k * sz + sz ≤ n * sz := by
    have := Nat.mul_le_mul_right sz (Nat.succ_le_of_lt h1)
    rwa [Nat.succ_mul] at this
  refine ⟨by simp; omega, fun j c hj => ?_⟩
  rw [List.getElem?_take] at hj
  split at hj
  · rw [List.getElem?_drop] at hj
    obtain ⟨u, q1, q2, q3⟩ := isOnes_get h hj
    exact ⟨q2, u, hc _ _ q1, q3⟩
  · cases hj

theorem buildSlice_step {tt : TT} (ht : tt.Ok P) (R : RepE B w0 E0 E L0 L s a w) {t : TypeId} {len id : Nat} {parts : Array (Nat × Operand)} (ho : o.op = .buildSlice t len parts) {xs : List V}
    (hx : IsAll E L xs ((parts.toList.map (·.2)).map a.eval)) {pre : Prop} {r : Out} (hs : semBuildSlice tt t len (parts.toList.map (·.1)) s.ow id xs = .ok pre r) (hpre : pre) :
    ∃ v w' L', (execOp a.eval o).run P w = .ok (.value v) w' ∧ RepE B w0 E0 E L0 L' ⟨s.n, s.tm, app s.ow r.upd⟩ a w' ∧ r.r.Is E L' v := by
  unfold semBuildSlice at hs
  split at hs
  · rename_i cs hid hf
    injection hs with e1 e2; subst e1 e2
    obtain ⟨k1, k2, k3, k4, k5⟩ := hpre
    have hu := und_slice (ht.facts t (by rw [k1]; decide)) k1
    obtain ⟨x, hi, hsz, hb, z, hz, hzc⟩ := facts_info (ht.facts (tt t).el k2)
    have hzl : (tt (tt t).el).zero.length = (tt (tt t).el).sz := by rw [isOnes_len (ht.zero (E := E) (L := L) (tt t).el), (ht.own _).len]
    obtain ⟨us, u1, u2, u3⟩ := repl_is (ht.zero (E := E) (L := L) (tt t).el) len
    obtain ⟨qs, r1, r2⟩ := fills_run _ _ _ _ _ _ _ hx u1 hf
    have hfl : ∀ (place : Nat → Option (Nat × Nat)) (ps : List (Nat × V)) (cs res : List V), fills place cs ps = some res → res.length = cs.length := by
      intro place ps
      induction ps with
      | nil => intro cs res h; simp only [fills, Option.some.injEq] at h; rw [h]
      | cons p ps ih =>
        intro cs res h
        obtain ⟨k, y⟩ := p
        simp only [fills] at h
        split at h
        · split at h
          · rw [ih _ _ h, setCells_length]
          · cases h
        · cases h
    have hcl : cs.length = len * (tt (tt t).el).sz := by rw [hfl _ _ _ _ hf, ← isOnes_len u1, u2, hzl]
    have hql : qs.length = len * (tt (tt t).el).sz := by rw [isOnes_len r2, hcl]
    have hrun : (Instr.buildSlice t len (parts.map fun (x : Nat × Operand) => match x with | (i, y) => (i, a.eval y))).run P w = .ok (.slice (some ⟨w.heap.size, 0, none⟩) len len) (w.alloc (.cells qs.toArray (tt t).el)) := by
      by_cases hlen : len = 0
      · subst hlen
        have hres : qs = [] := List.eq_nil_of_length_eq_zero (by rw [hql]; simp)
        subst hres
        have hf2 : Instr.fill (fun i => some (i * (tt (tt t).el).sz, (tt (tt t).el).sz)) #[] ((parts.toList.map (·.1)).zip ((parts.toList.map (·.2)).map a.eval)) = some #[] := by
          have hus : us = [] := List.eq_nil_of_length_eq_zero (by rw [u2]; simp)
          rw [hus] at r1
          exact r1
        have hpz := parts_zip (a := a) parts
        unfold Instr.buildSlice
        simp only [Sem.run_bind, run_underlying hu, Result.andThen_ok, run_sizeOf' (ht.facts _ k2), Nat.zero_mul, Sem.run_ite]
        rw [if_neg (by simp)]
        simp only [Sem.run_pure, Result.andThen_ok, if_true]
        rw [hpz, show (Array.range 0).map (fun i => (#[] : Array Value)[i % (#[] : Array Value).size]!) = #[] from Array.eq_empty_of_size_eq_zero (by simp), hf2]
        simp [newRow]
      · have hpos : 0 < len * (tt (tt t).el).sz := Nat.mul_pos (by omega) k3
        refine run_buildSlice w t _ len _ _ x z hu hi hz (by rw [hsz]; omega) (by rw [hsz]; omega) ?_
        rw [parts_zip, hsz, hzc]
        rw [u3, hzl] at r1
        exact r1
    have hex : (execOp a.eval o).run P w = .ok (.value (.slice (some ⟨w.heap.size, 0, none⟩) len len)) (w.alloc (.cells qs.toArray (tt t).el)) := by
      unfold execOp
      simp only [ho, Sem.run_bind]
      refine (congrArg (fun q => Result.andThen q _) hrun).trans ?_
      rfl
    by_cases hlen : len = 0
    · subst hlen
      obtain ⟨R', hl'⟩ := R.freshNil hid (w' := w.alloc (.cells qs.toArray (tt t).el)) (below_alloc w _ R.base) (fun g hg => heap_alloc_old w _ g hg) (tt t).el k3
      exact ⟨_, _, _, hex, R', nil_sl hl' _⟩
    · obtain ⟨R', hl'⟩ := R.fresh hid (w' := w.alloc (.cells qs.toArray (tt t).el)) (below_alloc w _ R.base) (fun g hg => heap_alloc_old w _ g hg) (cur := qs.toArray) (ty := (tt t).el) (heap_alloc_new w _) (sz := (tt (tt t).el).sz) (cap := len) k3 (by omega) k5 (by simpa using hql)
        (rows := chunk (tt (tt t).el).sz len cs) (by rw [chunk_length]; exact Nat.le_refl _) (chunk_rows r2 hcl (by simp))
      refine ⟨_, _, _, hex, R', ?_⟩
      have := at_sl (E := E) (lo := 0) (hi := len) hl' (Nat.zero_le _) (Nat.le_refl _) (A := some ⟨w.heap.size, 0, none⟩) (by intro; simp)
      simpa using this
  · cases hs
end
end Go.K
