import Derived.Test.YtbibplkhhdomnaaGreatW11
set_option linter.all false
namespace Go.K
open Go Go.RowKit
section
variable {P : Program} {B : Nat} {w0 : World} {E0 E : Ext} {L0 L : List Loc} {s : St} {a : Act} {w : World} {o : Oper} {m : Nat}
inductive Spec (tt : TT) (s : St) : Op → (Out → Prop) → Prop where
  | nilcmp {t ty : TypeId} {q : Operand} {m n : Nat} {rows : List (List V)} (hq : s.rd q = .sl rows) (hk : (tt t).kind = 3) :
      Spec tt s (.binOp .eql t q (.const (.slice none m n)) ty) fun x => ∃ b, x = ⟨[], .bool b, []⟩ ∧ (rows ≠ [] → b = false)
  | nilcmpR {t ty tb : TypeId} {q : Operand} {m n id ver lo hi sz : Nat} {rows : List (List V)} (hq : s.rd q = .rs id ver lo hi) (ho : s.ow[id]? = some (.blk tb ver sz rows)) (hh : hi ≤ rows.length) (hk : (tt t).kind = 3) :
      Spec tt s (.binOp .eql t q (.const (.slice none m n)) ty) fun x => ∃ b, x = ⟨[id], .bool b, []⟩ ∧ (lo < hi → b = false)
  | slice3 {t tb : TypeId} {q ql qh qm : Operand} {id ver hi sz : Nat} {rows : List (List V)} {k1 k2 k3 : IntKind} {l h n : Int} (hq : s.rd q = .rs id ver 0 hi) (ho : s.ow[id]? = some (.blk tb ver sz rows)) (hh : hi ≤ rows.length)
      (hl : s.rd ql = .int k1 l) (hr : s.rd qh = .int k2 h) (hm : s.rd qm = .int k3 n) (hk : (tt t).kind = 3) (he : (tt (tt t).el).kind ≠ 9) (h1 : 0 ≤ l) (h2 : l ≤ h) (h3 : h ≤ n) (h4 : n ≤ hi) :
      Spec tt s (.slice t q (some ql) (some qh) (some qm)) fun x => x = ⟨[id], .un, []⟩
  | over {t tb : TypeId} {q ql qh : Operand} {id ver hi sz : Nat} {rows : List (List V)} {k1 k2 : IntKind} {l h : Int} (hq : s.rd q = .rs id ver 0 hi) (ho : s.ow[id]? = some (.blk tb ver sz rows)) (hp : 0 < rows.length)
      (hl : s.rd ql = .int k1 l) (hr : s.rd qh = .int k2 h) (hk : (tt t).kind = 3) (he : (tt (tt t).el).kind ≠ 9) (hs : sz = (tt (tt t).el).sz) (h1 : 0 ≤ l) (h2 : l ≤ h) (h3 : h ≤ rows.length) :
      Spec tt s (.slice t q (some ql) (some qh) none) fun x => x = ⟨[id], .rs id ver l.toNat h.toNat, []⟩
  | room {t tb : TypeId} {q1 q2 : Operand} {id ver hi lo e : Nat} {rows : List (List V)} (hq1 : s.rd q1 = .rs id ver 0 hi) (hq2 : s.rd q2 = .rs id ver lo e) (ho : s.ow[id]? = some (.blk tb ver (tt tb).sz rows)) (hp : 0 < rows.length)
      (hk : (tt t).kind = 3) (hb : (tt t).el = tb) (he : (tt tb).kind ≠ 9) (h1 : lo ≤ e) (h2 : e ≤ rows.length) (h3 : hi + (e - lo) ≤ rows.length) :
      Spec tt s (.call ⟨.builtin .append, #[q1, q2], #[t, t]⟩) fun x => x = ⟨[id], .rs id ver 0 (hi + (e - lo)), [(id, .blk tb ver (tt tb).sz (rows.take hi ++ (rows.drop lo).take (e - lo) ++ rows.drop (hi + (e - lo))))]⟩
  | clear1 {t tb : TypeId} {q : Operand} {id ver lo : Nat} {rows : List (List V)} (hq : s.rd q = .rs id ver lo (lo + 1)) (ho : s.ow[id]? = some (.blk tb ver (tt tb).sz rows)) (hk : (tt t).kind = 3) (hb : (tt t).el = tb) (he : (tt tb).kind ≠ 9) (hs : 0 < (tt tb).sz) (h1 : lo < rows.length) :
      Spec tt s (.call ⟨.builtin .clear, #[q], #[t]⟩) fun x => x = ⟨[id], .tup [], [(id, .blk tb ver (tt tb).sz (rows.set lo (tt tb).z))]⟩
theorem slice_run2 {tt : TT} (ht : tt.Ok P) {t : TypeId} (h1 : (tt t).kind = 3) (h2 : (tt (tt t).el).kind ≠ 9) {A : Option Addr} {n cap : Nat} {k k' : IntKind} {l h : Int} (h4 : 0 ≤ l) (h5 : l ≤ h) (h6 : h ≤ cap) (w : World) :
    (Instr.sliceAt t (.slice A n cap) (some (.int k l)) (some (.int k' h)) none).run P w = .ok (.slice (if cap = l.toNat then A else A.map (·.add (l.toNat * (tt (tt t).el).sz))) (h.toNat - l.toNat) (cap - l.toNat)) w := by
  have hu := und_slice (ht.facts t (by rw [h1]; decide)) h1
  have c1 : 0 ≤ h ∧ h ≤ cap := ⟨by omega, by omega⟩
  have c2 : 0 ≤ l ∧ l ≤ h.toNat := ⟨h4, by omega⟩
  unfold Instr.sliceAt
  simp only [Sem.run_bind, run_underlying hu, Result.andThen_ok, Instr.slice, Instr.sliceBounds, Sem.run_pure]
  have e2 : max h 0 = h := by omega
  simp [Instr.sliceBound, asIntOf, run_sizeOf' (ht.facts _ h2), c1, c2, e2, h5]
theorem slice_run3 {tt : TT} (ht : tt.Ok P) {t : TypeId} (h1 : (tt t).kind = 3) (h2 : (tt (tt t).el).kind ≠ 9) {A : Option Addr} {n cap : Nat} {k k' k'' : IntKind} {l h q : Int} (h4 : 0 ≤ l) (h5 : l ≤ h) (h6 : h ≤ q) (h7 : q ≤ cap) (w : World) :
    ∃ v, (Instr.sliceAt t (.slice A n cap) (some (.int k l)) (some (.int k' h)) (some (.int k'' q))).run P w = .ok v w := by
  have hu := und_slice (ht.facts t (by rw [h1]; decide)) h1
  have c0 : 0 ≤ q ∧ q ≤ cap := ⟨by omega, by omega⟩
  have c1 : 0 ≤ h ∧ h ≤ q.toNat := ⟨by omega, by omega⟩
  have c2 : 0 ≤ l ∧ l ≤ h.toNat := ⟨h4, by omega⟩
  unfold Instr.sliceAt
  simp only [Sem.run_bind, run_underlying hu, Result.andThen_ok, Instr.slice, Instr.sliceBounds, Sem.run_pure]
  have e1 : max q 0 = q := by omega
  have e2 : max h 0 = h := by omega
  simp [Instr.sliceBound, asIntOf, run_sizeOf' (ht.facts _ h2), c0, c1, c2, e1, e2, h5, h6]
theorem equalInS {t e : TypeId} (hu : P.underlying t = some (.slice e)) (d : Nat) (A : Option Addr) (x y m n : Nat) (w : World) : (Op.equalIn (d + 1) t (.slice A x y) (.slice none m n)).run P w = .ok A.isNone w := by
  cases A <;> simp only [Op.equalIn, Sem.run_bind, run_underlying hu, Result.andThen_ok, Sem.run_pure] <;> rfl
theorem equalS {t e : TypeId} (hu : P.underlying t = some (.slice e)) (A : Option Addr) (x y m n : Nat) (w : World) : (Op.equal t (.slice A x y) (.slice none m n)).run P w = .ok A.isNone w := equalInS hu 9999 A x y m n w
theorem nilcmp_run {tt : TT} (ht : tt.Ok P) {t : TypeId} (hk : (tt t).kind = 3) {ox oy : Operand} (A : Option Addr) (x y m n : Nat) (w : World) :
    (do eqGuard .eql t ox oy (.slice A x y) (.slice none m n); binOp .eql t (.slice A x y) (.slice none m n) : Sem Value).run P w = .ok (.bool A.isNone) w := by
  have hu := und_slice (ht.facts t (by rw [hk]; decide)) hk
  simp only [eqGuard, binOp, Sem.run_bind, Sem.run_pure, Result.andThen_ok, equalS hu, Sem.run_ite]
  rfl
theorem setCells_all {cs xs : List V} (h : xs.length = cs.length) : setCells cs 0 xs = xs := by
  refine List.ext_getElem? fun j => ?_
  rw [setCells_get _ _ _ _ (by omega)]
  by_cases hj : j < xs.length
  · rw [if_pos (by omega)]; rfl
  · rw [if_neg (by omega), List.getElem?_eq_none (by omega), List.getElem?_eq_none (by omega)]
theorem locs_same {id : Nat} {l : Loc} (hl : L[id]? = some l) : L.set id l = L := by
  refine List.ext_getElem? fun j => ?_
  by_cases e : id = j
  · subst e; rw [List.getElem?_set_self (get_lt hl), hl]
  · rw [List.getElem?_set_ne e]
theorem room_step {tt : TT} (ht : tt.Ok P) (R : RepE B w0 E0 E L0 L s a w) {t ty : TypeId} {id ver hi lo e : Nat} {rows : List (List V)} {x y : Value} (hx : (V.rs id ver 0 hi).Is E L x) (hy : (V.rs id ver lo e).Is E L y)
    (ho : s.ow[id]? = some (.blk (tt t).el ver (tt (tt t).el).sz rows)) (hp : 0 < rows.length) (hk : (tt t).kind = 3) (he : (tt (tt t).el).kind ≠ 9) (h1 : lo ≤ e) (h2 : e ≤ rows.length) (h3 : hi + (e - lo) ≤ rows.length) :
    ∃ v w', (Builtin.append_ #[t, t] ty #[x, y]).run P w = .ok v w' ∧ RepE B w0 E0 E L0 L ⟨s.n, s.tm, s.ow.set id (.blk (tt t).el ver (tt (tt t).el).sz (rows.take hi ++ (rows.drop lo).take (e - lo) ++ rows.drop (hi + (e - lo))))⟩ a w' ∧ (V.rs id ver 0 (hi + (e - lo))).Is E L v := by
  obtain ⟨g, cap, cur, hl, h0, hB, hE, hcm, hrc, hc0, hheap, hcs, hrows⟩ := R.blk ho (k := 0) hp
  obtain ⟨_, _, A, rfl, hA⟩ := sl_at hx hl
  obtain rfl := hA hc0
  simp only [Nat.zero_mul, Nat.sub_zero]
  have hsl : (V.rs id ver lo e).sl? s.ow = some (ver = ver ∧ e ≤ rows.length, [id], (rows.drop lo).take (e - lo)) := by simp [V.sl?, ho]
  have hlen : ((rows.drop lo).take (e - lo)).length = e - lo := by simp; omega
  have hz : (((rows.drop lo).take (e - lo)).getD 0 (List.replicate (tt (tt t).el).sz V.un)).length = (tt (tt t).el).sz := by
    cases hn : (rows.drop lo).take (e - lo) with
    | nil => simp
    | cons r rs =>
      have : rows[lo]? = some r := by
        have h5 := congrArg (·[0]?) hn
        simp only [List.getElem?_take, List.getElem?_drop, List.getElem?_cons_zero, Nat.add_zero] at h5
        split at h5
        · exact h5
        · cases h5
      exact (hrows lo r this).1
  have keepB : RepE B w0 E0 E L0 (L.set id (.lies ver g (tt (tt t).el).sz cap)) ⟨s.n, s.tm, s.ow⟩ a w := by rw [locs_same hl]; exact R
  rcases src_of R hsl ⟨rfl, h2⟩ hy hz with ⟨hn, A', c, rfl⟩ | ⟨hpos, ad, c, news, rfl, n1, n2, n3, n4⟩
  · have h9 : e - lo = 0 := by rw [← hlen, hn]; rfl
    refine ⟨_, w, append_nothing ht hk he _ (show hi ≤ cap by omega) A' c w, ?_, ?_⟩
    · rw [hn, h9, List.append_nil, Nat.add_zero, List.take_append_drop, show s.ow.set id (.blk (tt t).el ver (tt (tt t).el).sz rows) = s.ow from by
        refine List.ext_getElem? fun j => ?_
        by_cases ee : id = j
        · subst ee; rw [List.getElem?_set_self (get_lt ho), ho]
        · rw [List.getElem?_set_ne ee]]
      exact R
    · have := at_sl (E := E) (lo := 0) (hi := hi) hl (Nat.zero_le _) (by omega) (A := some ⟨g, 0, none⟩) (by intro; simp)
      rw [h9]
      simpa using this
  · rw [hlen] at hpos n1
    have hu := und_slice (ht.facts t (by rw [hk]; decide)) hk
    obtain ⟨i, hi', his, hib, z, hiz, hzc⟩ := facts_info (ht.facts _ he)
    have hroom : hi + (e - lo) ≤ cap := by omega
    have hfit : hi * (tt (tt t).el).sz + news.length ≤ cur.size := by rw [n1, hcs, ← Nat.add_mul]; exact Nat.mul_le_mul_right _ hroom
    have hr := run_append_room (P := P) w t ty _ i hu hi' g hi cap cur hheap ad (e - lo) c news (by rw [his]; exact n1) n2 n3 hroom (by rw [his]; exact hfit)
    rw [his] at hr
    rw [hlen]
    refine ⟨_, _, hr, ?_, ?_⟩
    · have := R.setOwn (o1 := .blk (tt t).el ver (tt (tt t).el).sz (rows.take hi ++ (rows.drop lo).take (e - lo) ++ rows.drop (hi + (e - lo)))) (l1 := .lies ver g (tt (tt t).el).sz cap) ho hl (below_setRow (w := w) (g := g) (cur.toList.take (hi * (tt (tt t).el).sz) ++ news ++ cur.toList.drop (hi * (tt (tt t).el).sz + news.length)).toArray hB) (Loc.to_refl _) (fun j hj1 hj2 => setRow_other w g j _ (fun ee => hj2 (by rw [ee]; rfl))) ?_ (fun j hj => .inl hj)
      · rw [locs_same hl] at this; exact this
      · rw [locs_same hl]
        refine ⟨rfl, rfl, h0, hB, hE, hcm, ?_, hc0, _, setRow_heap w g _ _ _ _ hheap, ?_, ?_⟩
        · simp only [List.length_append, List.length_take, List.length_drop]; omega
        · simp only [List.size_toArray, List.length_append, List.length_take, List.length_drop, Array.length_toList]; omega
        · have hcell : ∀ q, (cur.toList.take (hi * (tt (tt t).el).sz) ++ news ++ cur.toList.drop (hi * (tt (tt t).el).sz + news.length)).toArray[q]? = if hi * (tt (tt t).el).sz ≤ q ∧ q < hi * (tt (tt t).el).sz + news.length then news[q - hi * (tt (tt t).el).sz]? else cur[q]? := by
            intro q
            have := splice_get cur.toList news (hi * (tt (tt t).el).sz) q (by rw [Array.length_toList]; exact hfit)
            simpa using this
          have mulle : ∀ p q : Nat, p < q → p * (tt (tt t).el).sz + (tt (tt t).el).sz ≤ q * (tt (tt t).el).sz := fun p q h => by
            have := Nat.mul_le_mul_right (tt (tt t).el).sz (Nat.succ_le_of_lt h)
            rwa [Nat.succ_mul] at this
          have hsum : hi * (tt (tt t).el).sz + (e - lo) * (tt (tt t).el).sz = (hi + (e - lo)) * (tt (tt t).el).sz := (Nat.add_mul ..).symm
          have old : ∀ (k : Nat) (row : List V), rows[k]? = some row → (k < hi ∨ hi + (e - lo) ≤ k) → row.length = (tt (tt t).el).sz ∧ ∀ (j : Nat) (c : V), row[j]? = some c → c.one = true ∧ ∃ x, (cur.toList.take (hi * (tt (tt t).el).sz) ++ news ++ cur.toList.drop (hi * (tt (tt t).el).sz + news.length)).toArray[k * (tt (tt t).el).sz + j]? = some x ∧ c.Is E L x := by
            intro k row hkr hside
            obtain ⟨q1, q2⟩ := hrows k row hkr
            refine ⟨q1, fun j c hj => ?_⟩
            obtain ⟨q3, u, q4, q5⟩ := q2 j c hj
            refine ⟨q3, u, ?_, q5⟩
            have hjl := get_lt hj
            rw [q1] at hjl
            rw [hcell, if_neg ?_]
            · exact q4
            · rw [n1, hsum]
              rintro ⟨c1, c2⟩
              rcases hside with hs | hs
              · have := mulle k hi hs; omega
              · have := Nat.mul_le_mul_right (tt (tt t).el).sz hs; omega
          intro k row hkr
          by_cases k1 : k < hi
          · rw [List.append_assoc, List.getElem?_append_left (by simp; omega), List.getElem?_take, if_pos k1] at hkr
            exact old k row hkr (.inl k1)
          · have hmin : (rows.take hi).length = hi := by simp; omega
            by_cases k2 : k < hi + (e - lo)
            · rw [List.append_assoc, List.getElem?_append_right (by omega), hmin, List.getElem?_append_left (by rw [hlen]; omega)] at hkr
              obtain ⟨q1, q2⟩ := n4 (k - hi) row hkr
              refine ⟨q1, fun j c hj => ?_⟩
              obtain ⟨q3, u, q4, q5⟩ := q2 j c hj
              refine ⟨q3, u, ?_, q5⟩
              have hjl := get_lt hj
              rw [q1] at hjl
              have e1 : k * (tt (tt t).el).sz = hi * (tt (tt t).el).sz + (k - hi) * (tt (tt t).el).sz := by rw [← Nat.add_mul]; congr 1; omega
              have e2 := mulle (k - hi) (e - lo) (by omega)
              rw [hcell, if_pos (by rw [n1]; omega), ← q4]
              show news[_]? = news[_]?
              congr 1
              omega
            · rw [List.getElem?_append_right (by simp only [List.length_append, hmin, hlen]; omega), List.getElem?_drop] at hkr
              simp only [List.length_append, hmin, hlen] at hkr
              rw [show hi + (e - lo) + (k - (hi + (e - lo))) = k by omega] at hkr
              exact old k row hkr (.inr (by omega))
    · have := at_sl (E := E) (lo := 0) (hi := hi + (e - lo)) hl (Nat.zero_le _) hroom (A := some ⟨g, 0, none⟩) (by intro; simp)
      simpa using this
theorem clear_step {tt : TT} (ht : tt.Ok P) (R : RepE B w0 E0 E L0 L s a w) {t ty : TypeId} {id ver lo : Nat} {rows : List (List V)} {x : Value} (hx : (V.rs id ver lo (lo + 1)).Is E L x)
    (ho : s.ow[id]? = some (.blk (tt t).el ver (tt (tt t).el).sz rows)) (hk : (tt t).kind = 3) (he : (tt (tt t).el).kind ≠ 9) (hs : 0 < (tt (tt t).el).sz) (h1 : lo < rows.length) :
    ∃ w', (Builtin.clear_ #[t] ty #[x]).run P w = .ok (.tuple #[]) w' ∧ RepE B w0 E0 E L0 L ⟨s.n, s.tm, s.ow.set id (.blk (tt t).el ver (tt (tt t).el).sz (rows.set lo (tt (tt t).el).z))⟩ a w' := by
  obtain ⟨g, cap, cur, hl, h0, hB, hE, hcm, hrc, hc0, hheap, hcs, hrows⟩ := R.blk ho h1
  obtain ⟨_, _, A, rfl, hA⟩ := sl_at hx hl
  obtain rfl := hA (by omega)
  have F := ht.facts _ he
  obtain ⟨zv, hzv, hzc⟩ := run_zeroValue' F w
  have hzl : (tt (tt t).el).zero.length = (tt (tt t).el).sz := by rw [isOnes_len (ht.zero (E := E) (L := L) (tt t).el), (ht.own _).len]
  have hzz : (tt (tt t).el).z.length = (tt (tt t).el).sz := (ht.own _).len
  have hrl := (hrows lo _ (getD_get h1 (tt (tt t).el).z)).1
  have hX : (V.agg (tt (tt t).el).z).Is E L (.agg (tt (tt t).el).zero.toArray) := by
    unfold V.Is
    exact ⟨_, rfl, ht.zero (tt t).el⟩
  have hss : semStore tt (tt (tt t).el) s.ow (.own id ver lo 0) (.agg (tt (tt t).el).z) = .ok (ver = ver ∧ lo < rows.length ∧ (tt (tt t).el).z.length = (tt (tt t).el).sz ∧ 0 + (tt (tt t).el).z.length ≤ (tt (tt t).el).sz ∧ (tt (tt t).el).kind ≠ 9)
      ⟨[id], .tup [], [(id, .blk (tt t).el ver (tt (tt t).el).sz (rows.set lo (setCells (rows.getD lo (tt (tt t).el).z) 0 (tt (tt t).el).z)))]⟩ := by
    simp [semStore, V.cells?, ho]
  have hpt : (V.own id ver lo 0).Is E L (.pointer (some ⟨g, lo * (tt (tt t).el).sz + 0, none⟩)) := at_ptr hl
  obtain ⟨w', hrun, R', _⟩ := store_step (fun h => ht.facts _ h) R hpt hX hss ⟨rfl, h1, hzz, by omega, he⟩
  rw [setCells_all (by rw [hrl, hzz])] at R'
  refine ⟨w', ?_, R'⟩
  have hu := und_slice (ht.facts t (by rw [hk]; decide)) hk
  have hcells : (Builtin.zeroCells zv.cells 1).toList = (tt (tt t).el).zero := by
    obtain ⟨us, u1, u2, u3⟩ := repl_is (E := E) (L := L) (ht.zero (tt t).el) 1
    have e1 : Builtin.zeroCells zv.cells 1 = us.toArray := by
      have : zv.cells = (tt (tt t).el).zero.toArray := by rw [← hzc]
      rw [u3, this]
      simp [Builtin.zeroCells]
    have e2 := ht.zero (E := E) (L := L) (tt t).el
    rw [e1]
    refine List.ext_getElem? fun j => ?_
    have : (Builtin.zeroCells zv.cells 1).toList[j]? = us[j]? := by rw [e1]
    show us[j]? = _
    rw [← this, ← hzc]
    simp only [Builtin.zeroCells, Nat.one_mul, Array.toList_map, Array.toList_range, List.getElem?_map]
    by_cases hj : j < zv.cells.size
    · rw [List.getElem?_range hj]
      simp [Nat.mod_eq_of_lt hj, hj]
    · rw [List.getElem?_eq_none (by simpa using hj), List.getElem?_eq_none (by simpa using hj)]
      rfl
  have h1' : lo + 1 - lo = 1 := by omega
  rw [h1']
  have hst : (storeCells ⟨g, lo * (tt (tt t).el).sz, none⟩ (tt (tt t).el).zero).run P w = .ok () w' := by
    have h5 := hrun
    simp only [Instr.storeAt, Instr.sureAddr, Sem.run_bind, Sem.run_pure, Result.andThen_ok, storeVar, run_sizeOf' F, Value.cells, List.size_toArray, hzl, ne_eq, not_true_eq_false, if_false, Nat.add_zero] at h5
    exact h5
  unfold Builtin.clear_
  simp [run_underlying hu, hzv, hcells, hst]
theorem spec_sound {tt : TT} (ht : tt.Ok P) (R : RepE B w0 E0 E L0 L s a w) {X : Out → Prop} (h : Spec tt s o.op X) : ∃ x, X x ∧ StepsTo P B w0 E0 L0 s a w o x := by
  generalize hop : o.op = op at h
  cases h with
  | @nilcmp t ty q m n rows hq hk =>
    have hx := rd_is R q
    rw [hq] at hx
    unfold V.Is at hx
    obtain ⟨A, cap, hv, _, hr⟩ := hx
    refine ⟨⟨[], .bool A.isNone, []⟩, ⟨_, rfl, fun hne => ?_⟩, pure_step R ⟨.bool A.isNone, ?_, bool_is _, rfl⟩⟩
    · rcases hr with hr | ⟨b, o', sz, rfl, _⟩
      · exact absurd hr hne
      · rfl
    · have := nilcmp_run (P := P) ht hk (ox := q) (oy := .const (.slice none m n)) A rows.length cap m n w
      have he : execOp a.eval o = (do pure (.value (← (do eqGuard .eql t q (.const (.slice none m n)) (a.eval q) (.slice none m n); binOp .eql t (a.eval q) (.slice none m n) : Sem Value))) : Sem Next) := by
        simp [execOp, hop]; rfl
      rw [he, hv]
      rw [Sem.run_bind, this]; rfl
  | @nilcmpR t ty tb q m n id ver lo hi sz rows hq ho hh hk =>
    have hx := rd_is R q
    rw [hq] at hx
    obtain ⟨A, c, hv⟩ := rs_len R hx (.inl ho)
    refine ⟨⟨[id], .bool A.isNone, []⟩, ⟨_, rfl, fun hlt => ?_⟩, pure_step R ⟨.bool A.isNone, ?_, bool_is _, rfl⟩⟩
    · rcases rs_cases R hx (.inl ho) hh with ⟨he, A', c', hv'⟩ | ⟨_, g, cap, _, _, hv'⟩
      · have : ((rows.drop lo).take (hi - lo)).length = 0 := by rw [he]; rfl
        simp at this; omega
      · rw [hv] at hv'
        injection hv' with e1
        subst e1; rfl
    · have := nilcmp_run (P := P) ht hk (ox := q) (oy := .const (.slice none m n)) A (hi - lo) c m n w
      have he : execOp a.eval o = (do pure (.value (← (do eqGuard .eql t q (.const (.slice none m n)) (a.eval q) (.slice none m n); binOp .eql t (a.eval q) (.slice none m n) : Sem Value))) : Sem Next) := by
        simp [execOp, hop]; rfl
      rw [he, hv]
      rw [Sem.run_bind, this]; rfl
  | @slice3 t tb q ql qh qm id ver hi sz rows k1 k2 k3 l h n hq ho hh hl hr hm hk he h1 h2 h3 h4 =>
    have hx := rd_is R q
    rw [hq] at hx
    have xl := rd_is R ql
    rw [hl] at xl
    have xh := rd_is R qh
    rw [hr] at xh
    have xm := rd_is R qm
    rw [hm] at xm
    unfold V.Is at xl xh xm
    refine ⟨_, rfl, ?_⟩
    by_cases hz : 0 < hi
    · obtain ⟨g, cap, cur, hll, _, _, _, _, hrc, _⟩ := R.blk ho (k := 0) (by omega)
      obtain ⟨_, _, A, hv, _⟩ := sl_at hx hll
      obtain ⟨v, hrun⟩ := slice_run3 (P := P) ht hk he (A := A) (n := hi - 0) (cap := cap - 0) (k := k1) (k' := k2) (k'' := k3) h1 h2 h3 (by omega) w
      refine pure_step R ⟨v, ?_, by unfold V.Is; trivial, rfl⟩
      have he : execOp a.eval o = (do pure (.value (← Instr.sliceAt t (a.eval q) (some (a.eval ql)) (some (a.eval qh)) (some (a.eval qm)))) : Sem Next) := by simp [execOp, hop]
      rw [he, hv, xl, xh, xm]
      rw [Sem.run_bind, hrun]; rfl
    · obtain ⟨A, c, hv⟩ := rs_len R hx (.inl ho)
      obtain ⟨v, hrun⟩ := slice_run3 (P := P) ht hk he (A := A) (n := hi - 0) (cap := c) (k := k1) (k' := k2) (k'' := k3) h1 h2 h3 (by omega) w
      refine pure_step R ⟨v, ?_, by unfold V.Is; trivial, rfl⟩
      have he : execOp a.eval o = (do pure (.value (← Instr.sliceAt t (a.eval q) (some (a.eval ql)) (some (a.eval qh)) (some (a.eval qm)))) : Sem Next) := by simp [execOp, hop]
      rw [he, hv, xl, xh, xm]
      rw [Sem.run_bind, hrun]; rfl
  | @over t tb q ql qh id ver hi sz rows k1 k2 l h hq ho hp hl hr hk he hs h1 h2 h3 =>
    have hx := rd_is R q
    rw [hq] at hx
    have xl := rd_is R ql
    rw [hl] at xl
    have xh := rd_is R qh
    rw [hr] at xh
    unfold V.Is at xl xh
    refine ⟨_, rfl, ?_⟩
    obtain ⟨g, cap, cur, hll, _, _, _, _, hrc, hc0, _⟩ := R.blk ho hp
    obtain ⟨_, _, A, hv, hA⟩ := sl_at hx hll
    have hrun := slice_run2 (P := P) ht hk he (A := A) (n := hi - 0) (cap := cap - 0) (k := k1) (k' := k2) h1 h2 (by omega) w
    refine pure_step R ⟨.slice (if cap - 0 = l.toNat then A else A.map (·.add (l.toNat * (tt (tt t).el).sz))) (h.toNat - l.toNat) (cap - 0 - l.toNat), ?_, ?_, rfl⟩
    · have he : execOp a.eval o = (do pure (.value (← Instr.sliceAt t (a.eval q) (some (a.eval ql)) (some (a.eval qh)) none)) : Sem Next) := by simp [execOp, hop]
      rw [he, hv, xl, xh]
      rw [Sem.run_bind, hrun]; rfl
    · have := at_sl (E := E) (lo := l.toNat) (hi := h.toNat) hll (by omega) (by omega) (A := if cap - 0 = l.toNat then A else A.map (·.add (l.toNat * (tt (tt t).el).sz))) (fun hlt => by
        rw [if_neg (by omega), hA hc0]
        simp only [Option.map_some, Addr.add_lit, Option.some.injEq, Addr.mk.injEq, and_true, true_and]
        rw [hs]; omega)
      simpa using this
  | @room t tb q1 q2 id ver hi lo e rows hq1 hq2 ho hp hk hb he h1 h2 h3 =>
    subst hb
    have hx := rd_is R q1
    rw [hq1] at hx
    have hy := rd_is R q2
    rw [hq2] at hy
    refine ⟨_, rfl, ?_⟩
    obtain ⟨v, w', hrun, R', hi'⟩ := room_step (ty := o.type) ht R hx hy ho hp hk he h1 h2 h3
    refine st_step ⟨v, w', L, ?_, R', hi'⟩
    have hex : ∃ cc : Array Bool, execOp a.eval o = builtin .append #[t, t] o.type cc #[a.eval q1, a.eval q2] := by
      refine ⟨(#[q1, q2] : Array Operand).map fun | .const _ => true | _ => false, ?_⟩
      unfold execOp
      simp only [hop, resolve, pure_bind, invoke]
      rw [show Array.map a.eval #[q1, q2] = #[a.eval q1, a.eval q2] by simp]
      rfl
    obtain ⟨cc, hcc⟩ := hex
    rw [hcc]
    show (do pure (.value (← Builtin.append_ #[t, t] o.type #[a.eval q1, a.eval q2])) : Sem Next).run P w = _
    rw [Sem.run_bind, hrun]; rfl
  | @clear1 t tb q id ver lo rows hq ho hk hb he hs h1 =>
    subst hb
    have hx := rd_is R q
    rw [hq] at hx
    refine ⟨_, rfl, ?_⟩
    obtain ⟨w', hrun, R'⟩ := clear_step (ty := o.type) ht R hx ho hk he hs h1
    refine st_step ⟨.tuple #[], w', L, ?_, R', undef_is⟩
    have hex : ∃ cc : Array Bool, execOp a.eval o = builtin .clear #[t] o.type cc #[a.eval q] := by
      refine ⟨(#[q] : Array Operand).map fun | .const _ => true | _ => false, ?_⟩
      unfold execOp
      simp only [hop, resolve, pure_bind, invoke]
      rw [show Array.map a.eval #[q] = #[a.eval q] by simp]
      rfl
    obtain ⟨cc, hcc⟩ := hex
    rw [hcc]
    show (do pure (.value (← Builtin.clear_ #[t] o.type #[a.eval q])) : Sem Next).run P w = _
    rw [Sem.run_bind, hrun]; rfl
def evOps2 (P : Program) (tt : TT) (ds : List (Option Tmp)) : List (Nat × Oper) → St → (St → Prop) → Prop
  | [], s, K => K s
  | io :: r, s, K => (∃ x, Step P tt ds io.1 io.2 s x ∧ evOps2 P tt ds r (s.app io.2.dst x) K) ∨
      (∃ X, io.2.guard = none ∧ dlt s.n io.2.dst ∧ Spec tt s io.2.op X ∧ ∀ x, X x → evOps2 P tt ds r (s.app io.2.dst x) K)
theorem evOps2_sound {tt : TT} (ht : tt.Ok P) {ops : Array Oper} {ds : List (Option Tmp)} (hds : ds = ops.toList.map (·.dst)) {K : St → Prop} {Q : Exit → Act → World → Prop}
    (hK : ∀ s' a' w' E' L', K s' → RepE B w0 E0 E' L0 L' s' a' w' → Q .normal a' w') (tg : Nat → Nat) :
    ∀ (l : List Nat) (s : St) (a : Act) (w : World) (E : Ext) (L : List Loc), (∀ i ∈ l, i < ops.size) → RepE B w0 E0 E L0 L s a w → evOps2 P tt ds (l.map fun i => (tg i, ops.getD i default)) s K → wpOps P ops Q l a w
  | [], s, a, w, E, L, _, R, h => hK s a w E L h R
  | i :: l, s, a, w, E, L, hL, R, h => by
    have hi : i < ops.size := hL i (List.mem_cons_self ..)
    have hget : ops[i]? = some (ops.getD i default) := by simp [hi]
    simp only [wpOps, hget]
    rcases h with ⟨x, hx, h⟩ | ⟨X, hg, hd, hsp, h⟩
    · have := step_sound (o := ops.getD i default) ht R hds hx (Q := Q) (next := wpOps P ops Q l) (ops := ops) fun a' w' E' L' R' =>
        evOps2_sound ht hds hK tg l _ a' w' E' L' (fun j hj => hL j (List.mem_cons_of_mem _ hj)) R' h
      by_cases hw : Region.wanted (ops.getD i default) (yielded ops a.tmps) = true
      · rw [if_pos hw] at this ⊢
        exact .inl this
      · rw [if_neg hw] at this ⊢
        exact this
    · have hg' : (ops.getD i default).guard = none := hg
      rw [if_pos (by unfold Region.wanted; rw [hg'])]
      obtain ⟨x, hx, hst⟩ := spec_sound (o := ops.getD i default) ht R hsp
      refine .inl (hst (wpOps P ops Q l) Q fun v w' E' L' R' hi' => ?_)
      exact evOps2_sound ht hds hK tg l _ _ w' E' L' (fun j hj => hL j (List.mem_cons_of_mem _ hj)) (R'.put hd hi') (h x hx)
theorem ev_region2 {tt : TT} (ht : tt.Ok P) (nw : Bool) {id : Nat} {l : List Oper} {Q : Exit → St → Prop} (h : evOps2 P tt (dsts l) (tag nw l s.ow.length) ⟨s.n, s.tm, s.ow ++ frees nw l⟩ fun s' => Q .normal s') :
    EV P m (.region id l.toArray false) Q s := by
  rintro B w0 E0 L0 a w _ ⟨E, L, R⟩
  refine wp_region ?_
  have hsz : l.toArray.size = l.length := by simp
  rw [hsz]
  refine evOps2_sound (ds := dsts l) ht (by rw [dsts_eq]) (fun s' a' w' E' L' hk R' => ⟨s', hk, E', L', R'⟩) (tagAt nw l s.ow.length) (List.range l.length) _ a w E _ (by simp) (R.free (frees_free nw l)) ?_
  rw [tag_eq] at h
  have : (fun i => (tagAt nw l s.ow.length i, l.toArray.getD i default)) = fun i => (tagAt nw l s.ow.length i, l.getD i default) := by
    funext i; simp [List.getD_eq_getElem?_getD, Array.getD_eq_getD_getElem?]
  rw [this]; exact h
def okF (K : Out → Prop) : SF → Prop
  | .ok p x => p ∧ K x
  | _ => False
theorem ev2_step {tt : TT} {ds : List (Option Tmp)} {io : Nat × Oper} {r : List (Nat × Oper)} {K : St → Prop} (h : okF (fun x => evOps2 P tt ds r (s.app io.2.dst x) K) (stepF tt ds io.1 io.2 s)) : evOps2 P tt ds (io :: r) s K := by
  unfold okF at h
  split at h
  · rename_i p x hs
    exact .inl ⟨x, .inl (by unfold Main; rw [hs]; exact ⟨h.1, rfl⟩), h.2⟩
  · exact h.elim
theorem ev2_spec {tt : TT} {ds : List (Option Tmp)} {io : Nat × Oper} {r : List (Nat × Oper)} {K : St → Prop} {X : Out → Prop} (hg : io.2.guard = none) (hd : dlt s.n io.2.dst) (hs : Spec tt s io.2.op X) (h : ∀ x, X x → evOps2 P tt ds r (s.app io.2.dst x) K) : evOps2 P tt ds (io :: r) s K :=
  .inr ⟨X, hg, hd, hs, h⟩
theorem ev2_nil {tt : TT} {ds : List (Option Tmp)} {K : St → Prop} (h : K s) : evOps2 P tt ds [] s K := h
theorem ev_emp {c : Code} {Q : Exit → St → Prop} (t : Nat) (ht : lk s.tm t = .emp) (h : EV P m c Q ⟨s.n, (t, .sl []) :: s.tm, s.ow⟩) : EV P m c Q s := by
  rintro B w0 E0 L0 a w hm ⟨E, L, R⟩
  refine h B w0 E0 L0 a w hm ⟨E, L, { R with tmps := fun k => ?_, size := R.size, len := R.len, owns := R.owns, apart := R.apart }⟩
  show (lk ((t, V.sl []) :: s.tm) k).Is E L _
  unfold lk
  have hk := R.tmps k
  by_cases e : t = k
  · subst e
    rw [if_pos rfl]
    rw [ht] at hk
    exact emp_sl hk
  · rw [if_neg e]
    cases hs : s.tm <;> (rw [hs] at hk; exact hk)
theorem RepE.fz (R : RepE B w0 E0 E L0 L s a w) {id : Nat} {ty : TypeId} {v sz : Nat} {rows rs : List (List V)} (ho : s.ow[id]? = some (.blk ty v sz rows)) (hv : vrows (fv s.ow) rows = some rs) :
    ∃ E1, E.le E1 ∧ RepE B w0 E0 E1 L0 L ⟨s.n, s.tm, s.ow.set id (.froz ty v sz rs)⟩ a w := by
  obtain ⟨v1, _⟩ := vrows_get hv
  obtain ⟨E1, f1, f2, f3, f4, f5⟩ := R.frzE (fun i => i = id)
  refine ⟨E1, f1, R.upd f1 f2 f3 (Below.refl B w) (Locs.to_refl L) (by simp [R.len]) (fun k oo l hk hl => ?_) (fun i j oi oj li lj g hij hi hli hj hlj hgi hgj => ?_)⟩
  · rcases get_set hk with ⟨rfl, rfl⟩ | ⟨hne, hk'⟩
    · have hok := R.owns k _ l ho hl
      cases l with
      | free => exact hok.elim
      | nil v' =>
        obtain ⟨q1, q2, q3⟩ := hok
        rw [q2] at v1
        exact ⟨q1, List.eq_nil_of_length_eq_zero (by simpa using v1)⟩
      | lies v' g sz' cap =>
        obtain ⟨rfl, rfl, h3, h4, h5, h6, h7, h8, cur, h9, h10, h11⟩ := hok
        exact ⟨rfl, rfl, by rw [v1]; exact h7, vrows_rowsAt (cap := cap) R f1 (f4 k ty _ _ rows g cap cur rfl ho hl h9) h11 hv⟩
    · exact (R.owns k oo l hk' hl).keep f1 (Locs.to_refl L) (fun g hg => ⟨rfl, fun _ => f5 k oo l g hne hk' hl hg⟩)
  · rcases get_set hi with ⟨rfl, rfl⟩ | ⟨hni, hi'⟩
    · cases li <;> cases hgi
    · rcases get_set hj with ⟨rfl, rfl⟩ | ⟨hnj, hj'⟩
      · cases lj <;> cases hgj
      · exact R.apart i j oi oj li lj g hij hi' hli hj' hlj hgi hgj
theorem run_fz {f : FuncId} {args args' : List V} {ow : List Own} {r : V} {id : Nat} {ty : TypeId} {v sz : Nat} {rows : List (List V)} (ho : ow[id]? = some (.blk ty v sz rows)) (hr : litRows rows = true)
    (hv : vmaps (fv (ow.set id (.froz ty v sz rows))) args = some args') (hp : Pure P f args' r) : Run P f args (id :: idss args) ow r [(id, .froz ty v sz rows)] where
  enters := hp.enters
  keys := fun p h => by
    obtain rfl := List.mem_singleton.1 h
    exact List.mem_cons_self ..
  run := fun ow2 h2 B w0 E0 E L0 L n tm a w vs R hargs => by
    have ho2 := agree_hd h2 ho
    obtain ⟨E1, f1, R1⟩ := R.fz ho2 (vrows_lit _ hr)
    have h3 : agree (idss args) (ow.set id (.froz ty v sz rows)) (ow2.set id (.froz ty v sz rows)) := by
      intro i hi
      by_cases e : id = i
      · subst e
        rw [List.getElem?_set_self (get_lt ho), List.getElem?_set_self (get_lt ho2)]
      · rw [List.getElem?_set_ne e, List.getElem?_set_ne e]
        exact agree_tl h2 i hi
    exact (run_pure hp hv).run _ h3 B w0 E0 E1 L0 L n tm a w vs R1 (IsAll.mono f1 (Locs.to_refl L) hargs)
end
attribute [go_sem] okF
end Go.K
