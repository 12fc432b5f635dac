import Derived.Shelf.SlSortCmp.NoneTotal
import Derived.Test.YtbibplkhhdomnaaGreatW31
import Derived.Test.YtbibplkhhdomnaaGreatW13
import Derived.Laws.CopyRow
set_option linter.all false
namespace Go.Proofs.YtbibplkhhdomnaaGreat
open Go Go.K Go.Sort Go.Shelf
instance : Inhabited Ent := ⟨⟨0, 0, 0, 0⟩⟩
theorem ent_lt (a b : Ent) : Go.Proofs.ltOf entC a b = decide (a.y < b.y ∨ a.y = b.y ∧ a.x < b.x) := by
  unfold Go.Proofs.ltOf entC celE orE cmE
  have c : ∀ x y : Int, (x < y ∧ (if x < y then (-1 : Int) else if y < x then 1 else 0) = -1) ∨ (y < x ∧ (if x < y then (-1 : Int) else if y < x then 1 else 0) = 1) ∨ (x = y ∧ (if x < y then (-1 : Int) else if y < x then 1 else 0) = 0) := fun x y => by
    by_cases h : x < y
    · exact .inl ⟨h, if_pos h⟩
    · by_cases h2 : y < x
      · exact .inr (.inl ⟨h2, by rw [if_neg h, if_pos h2]⟩)
      · exact .inr (.inr ⟨by omega, by rw [if_neg h, if_neg h2]⟩)
  rw [decide_eq_decide]
  rcases c a.y b.y with ⟨h1, e1⟩ | ⟨h1, e1⟩ | ⟨h1, e1⟩
  · rw [e1, if_neg (by decide)]; omega
  · rw [e1, if_neg (by decide)]; omega
  · rw [e1, if_pos rfl]
    rcases c a.x b.x with ⟨h2, e2⟩ | ⟨h2, e2⟩ | ⟨h2, e2⟩ <;> (rw [e2]; omega)
theorem ent_swo : SWO (Go.Proofs.ltOf entC) where
  irrefl x := by rw [ent_lt]; simp
  trans x y z h1 h2 := by rw [ent_lt] at *; simp at *; omega
  ntrans x y z h1 h2 := by rw [ent_lt] at *; simp at *; omega
theorem grown_of {W w' : World} (hb : Go.RowKit.Below W.heap.size W w') (hd : W.drawn ≤ w'.drawn) : ∃ q os, w' = grow (W.drewN q) os := by
  refine ⟨w'.drawn - W.drawn, w'.heap.extract W.heap.size w'.heap.size, ?_⟩
  have h1 := hb.os; have h2 := hb.tape; have h3 := hb.output; have h4 := hb.size; have h5 := hb.block
  have hh : w'.heap = W.heap ++ w'.heap.extract W.heap.size w'.heap.size := by
    refine Array.ext_getElem? fun i => ?_
    by_cases hi : i < W.heap.size
    · rw [Array.getElem?_append_left hi]; exact h5 i hi
    · rw [Array.getElem?_append_right (by omega), Array.getElem?_extract]
      by_cases h6 : i < w'.heap.size
      · rw [if_pos (by omega)]
        congr 1; omega
      · rw [if_neg (by omega), Array.getElem?_eq_none (by omega)]
  have hdr : w'.drawn = W.drawn + (w'.drawn - W.drawn) := by omega
  obtain ⟨hp, tp, dr, os, ot⟩ := w'
  simp only at h1 h2 h3 hh hdr
  unfold grow World.drewN
  rw [h1, h2, h3]
  congr 1
theorem cmp_lays (blk off size : Nat) (w : World) : Go.Proofs.CmpLays Tryz.prog 63 #[] encV 4 entC blk off size w := by
  intro m os dk _ x y
  have hin : IsAll (fun _ => none) [] [.agg (encE x), .agg (encE y)] [entV x, entV y] := by
    unfold IsAll
    refine ⟨_, _, rfl, is_ent x, ?_⟩
    unfold IsAll
    refine ⟨_, _, rfl, is_ent y, ?_⟩
    unfold IsAll; rfl
  refine ((less_pure x y).run (Go.Proofs.sortWorldK encV 4 w blk off m dk os) (fun _ => none) [entV x, entV y] (fun b cs h => by cases h) hin).mono ?_
  rintro e w' ⟨v, E', rfl, hb, hd, _, _, _, hr⟩
  unfold V.Is at hr
  subst hr
  exact ⟨rfl, grown_of hb hd⟩
def ent0 : Ent := ⟨0, 0, 0, 0⟩
theorem flat_len : ∀ l : List Ent, (l.flatMap encV).length = l.length * 4
  | [] => rfl
  | e :: l => by rw [List.flatMap_cons, List.length_append, flat_len l, List.length_cons]; simp [encV]; omega
theorem flat_zero : ∀ n : Nat, (List.replicate n ent0).flatMap encV = List.replicate (n * 4) (.int .i64 0)
  | 0 => rfl
  | n + 1 => by
    rw [List.replicate_succ, List.flatMap_cons, flat_zero n, show (n + 1) * 4 = n * 4 + 1 + 1 + 1 + 1 by omega, List.replicate_succ, List.replicate_succ, List.replicate_succ, List.replicate_succ]; rfl
theorem flat_take : ∀ (l : List Ent) (n : Nat), (l.take n).flatMap encV = (l.flatMap encV).take (n * 4)
  | [], n => by simp
  | e :: l, 0 => by simp
  | e :: l, n + 1 => by
    rw [List.take_succ_cons, List.flatMap_cons, List.flatMap_cons, flat_take l n, show (n + 1) * 4 = (encV e).length + n * 4 by simp [encV]; omega, List.take_length_add_append]
section
variable {s : St} {B : Nat} {w0 : World} {E0 E : Ext} {L0 L : List Go.K.Loc} {a : Act} {w : World}
theorem arr_get (L1 : List Ent) (t : Nat) (h : t < L1.length * 4) : (flatK encV 4 L1.toArray)[t]? = (L1[t / 4]?).bind fun e => (encV e)[t % 4]? := by
  have h4 : t / 4 < L1.length := by omega
  have h5 : t % 4 < 4 := Nat.mod_lt _ (by omega)
  have hsz : t < (flatK encV 4 L1.toArray).size := by rw [size_flatK]; simpa using h
  have hg := get_flatK encV 4 L1.toArray t (by simpa using h)
  rw [getElem!_pos _ t hsz] at hg
  rw [Array.getElem?_eq_getElem hsz, hg, List.getElem?_eq_getElem h4, Option.bind_some]
  have e1 : L1.toArray[t / 4]! = L1[t / 4] := by simp [h4]
  rw [e1]
  have hl : t % 4 < (encV L1[t / 4]).length := h5
  rw [List.getElem?_eq_getElem hl]
  simp [hl]
theorem rows_flat {cur : Array Value} {L1 : List Ent} (h : OwnRows E L cur 4 (L1.map encE)) : cur.toList.take (L1.length * 4) = L1.flatMap encV := by
  refine List.ext_getElem? fun t => ?_
  by_cases ht : t < L1.length * 4
  · rw [List.getElem?_take, if_pos ht, Array.getElem?_toList]
    have h4 : t / 4 < L1.length := by omega
    have h5 : t % 4 < 4 := Nat.mod_lt _ (by omega)
    have e : t / 4 * 4 + t % 4 = t := by omega
    have hf := flat_get L1 (t / 4) (t % 4) h5
    rw [e, List.getElem?_eq_getElem h4, Option.bind_some] at hf
    rw [hf]
    obtain ⟨q1, q2⟩ := h (t / 4) (encE L1[t / 4]) (by rw [List.getElem?_map, List.getElem?_eq_getElem h4]; rfl)
    have : t % 4 = 0 ∨ t % 4 = 1 ∨ t % 4 = 2 ∨ t % 4 = 3 := by omega
    rcases this with h | h | h | h
    · rw [h] at e ⊢; obtain ⟨_, x, q3, q4⟩ := q2 0 (.int .i64 L1[t / 4].x) rfl; unfold V.Is at q4; subst q4; rw [e] at q3; exact q3
    · rw [h] at e ⊢; obtain ⟨_, x, q3, q4⟩ := q2 1 (.int .i64 L1[t / 4].y) rfl; unfold V.Is at q4; subst q4; rw [e] at q3; exact q3
    · rw [h] at e ⊢; obtain ⟨_, x, q3, q4⟩ := q2 2 (.int .i64 L1[t / 4].h) rfl; unfold V.Is at q4; subst q4; rw [e] at q3; exact q3
    · rw [h] at e ⊢; obtain ⟨_, x, q3, q4⟩ := q2 3 (.int .i64 L1[t / 4].p) rfl; unfold V.Is at q4; subst q4; rw [e] at q3; exact q3
  · rw [List.getElem?_eq_none (by simp; omega), List.getElem?_eq_none (by rw [flat_len]; omega)]
theorem sort_run {ow : List Go.K.Own} {id ver m : Nat} {L1 : List Ent} (ho : ow[id]? = some (.blk 95 ver 4 (L1.map encE))) (hm : m ≤ L1.length) (hl : m ≤ 4194304) :
    RunX Tryz.prog 62 [.rs id ver 0 m, .fn 63 []] ow fun x => ∃ L2 : List Ent, L2.length = L1.length ∧ x = ⟨[id], .tup [], [(id, .blk 95 ver 4 (L2.map encE))]⟩ where
  enters := Go.K.enters_of Tryz.func62 rfl (by decide +kernel)
  run := fun B w0 E0 E L0 L n' tm a w vs R hargs => by
    unfold IsAll at hargs
    obtain ⟨u1, r1, rfl, hx1, hargs⟩ := hargs
    unfold IsAll at hargs
    obtain ⟨u2, r2, rfl, hx2, hargs⟩ := hargs
    unfold IsAll at hargs
    subst hargs
    unfold V.Is at hx2
    obtain ⟨cs, rfl, hcs⟩ := hx2
    unfold IsAll at hcs
    subst hcs
    have hlen : (L1.map encE).length = L1.length := List.length_map ..
    by_cases hz : m = 0
    · obtain ⟨A, c, rfl⟩ := rs_len R hx1 (.inl ho)
      rw [Nat.sub_zero, hz]
      refine (Go.Proofs.AnyF.slices_SortFunc_none { sortEnt with } A c _ w).mono ?_
      rintro e w' ⟨rfl, rfl⟩
      refine ⟨⟨[id], .tup [], [(id, .blk 95 ver 4 (L1.map encE))]⟩, .tuple #[], E, L, ⟨L1, rfl, rfl⟩, rfl, ?_, undef_is⟩
      show RepE B w0 E0 E L0 L ⟨n', tm, ow.set id _⟩ a w'
      rw [set_same ho]
      exact R
    · obtain ⟨g, cap, cur, hlo, h0, hB, hE, hcm, hrc, hc0, hheap, hcs, hrows⟩ := R.blk ho (k := 0) (by rw [hlen]; omega)
      obtain ⟨_, _, A, rfl, hA⟩ := sl_at hx1 hlo
      obtain rfl := hA hc0
      simp only [Nat.zero_mul, Nat.sub_zero]
      have hflat := rows_flat hrows
      have hcell : ∀ t, t < L1.length * 4 → cur[t]? = (L1[t / 4]?).bind fun e => (encV e)[t % 4]? := by
        intro t ht
        have h1 := congrArg (·[t]?) hflat
        simp only [List.getElem?_take, if_pos ht, Array.getElem?_toList] at h1
        have h2 := flat_get L1 (t / 4) (t % 4) (Nat.mod_lt _ (by omega))
        rw [show t / 4 * 4 + t % 4 = t by omega] at h2
        rw [h1, h2]
      have htl : (L1.take m).length = m := by rw [List.length_take]; omega
      have hfl : ∀ t, t < m * 4 → cur[t]? = (flatK encV 4 (L1.take m).toArray)[t]? := fun t ht => by
        rw [hcell t (by omega), arr_get (L1.take m) t (by omega), List.getElem?_take, if_pos (by omega)]
      have hgl := (Array.getElem?_eq_some_iff.1 hheap).1
      have hH : HoldsK encV 4 w g 0 (L1.take m).toArray := by
        intro j hj
        rw [size_flatK] at hj
        have hj' : j < m * 4 := by simpa [htl] using hj
        refine ⟨?_, by simp [World.frozen?, hheap]⟩
        have := hfl j hj'
        have hsz : j < (flatK encV 4 (L1.take m).toArray).size := by rw [size_flatK]; exact hj
        rw [Array.getElem?_eq_getElem hsz] at this
        simp only [World.cell?, hheap, Nat.zero_add]
        simp only [Option.isSome_none, Bool.false_eq_true, if_false]
        rw [this, getElem!_pos _ j hsz]; rfl
      have hcon := Go.Proofs.AnyQ.slices_SortFunc sortEnt 4 Tryz.isAgg95 Tryz.sizeOf95 encV (fun _ => rfl) (fun x v hv => by simp [encV] at hv; rcases hv with rfl | rfl | rfl | rfl <;> rfl) entC ent_swo 63 #[] g 0 cap (L1.take m).toArray w (Go.K.enters_of Tryz.func63 rfl (by decide +kernel)) (cmp_lays g 0 _ w) hH hgl (by simp; omega)
      have hsize : (L1.take m).toArray.size = m := by simp; omega
      rw [hsize] at hcon
      refine hcon.mono ?_
      rintro e w' ⟨rfl, d', q, os, hp, _, rfl⟩
      have hds : d'.size = m := by have := hp.1; rw [hsize] at this; exact this
      have hl2 : (d'.toList ++ L1.drop m).length = L1.length := by simp; omega
      refine ⟨⟨[id], .tup [], [(id, .blk 95 ver 4 ((d'.toList ++ L1.drop m).map encE))]⟩, .tuple #[], E, L, ⟨d'.toList ++ L1.drop m, hl2, rfl⟩, rfl, ?_, undef_is⟩
      have hnew : (Go.Proofs.sortWorldK encV 4 w g 0 q d' os).heap[g]? = some (.cells (putCells (fun v => v) 0 (flatK encV 4 d') cur) 95 (0, 0)) := by
        unfold Go.Proofs.sortWorldK
        rw [heap_grow_old _ _ (by rw [show (putRowK encV 4 (Go.Sort.ahead w q) g 0 d').heap.size = w.heap.size from size_putRow ..]; exact hgl)]
        unfold putRowK putRow mapBlock
        show (w.heap.modify g _)[g]? = _
        rw [Array.getElem?_modify, if_pos rfl, hheap]
        rfl
      have hoth : ∀ k, k < w.heap.size → k ≠ g → (Go.Proofs.sortWorldK encV 4 w g 0 q d' os).heap[k]? = w.heap[k]? := by
        intro k hk hne
        unfold Go.Proofs.sortWorldK
        rw [heap_grow_old _ _ (by rw [show (putRowK encV 4 (Go.Sort.ahead w q) g 0 d').heap.size = w.heap.size from size_putRow ..]; exact hk)]
        unfold putRowK putRow mapBlock
        show (w.heap.modify g _)[k]? = _
        rw [Array.getElem?_modify, if_neg (Ne.symm hne)]
      have hsz2 : (putCells (fun v => v) 0 (flatK encV 4 d') cur).size = cur.size := by unfold putCells; simp
      have R' := R.setOwn (w' := Go.Proofs.sortWorldK encV 4 w g 0 q d' os) (o1 := .blk 95 ver 4 ((d'.toList ++ L1.drop m).map encE)) (l1 := .lies ver g 4 cap) ho hlo ?_ (Loc.to_refl _) ?_ ?_ (fun j hj => .inl hj) ?_
      · rw [locs_same hlo] at R'; exact R'
      · refine ⟨rfl, rfl, rfl, ?_, fun k hk => hoth k (by have := R.base; omega) (by omega)⟩
        show w.heap.size ≤ (grow (putRowK encV 4 (Go.Sort.ahead w q) g 0 d') os).heap.size
        rw [size_grow, show (putRowK encV 4 (Go.Sort.ahead w q) g 0 d').heap.size = w.heap.size from size_putRow ..]; omega
      · exact fun k hk1 hk2 => hoth k hk1 (fun e => hk2 (by rw [e]; rfl))
      · rw [locs_same hlo]
        refine ⟨rfl, rfl, h0, hB, hE, hcm, by rw [List.length_map, hl2, ← hlen]; exact hrc, hc0, _, hnew, by rw [hsz2]; exact hcs, ?_⟩
        refine ent_rows (n := L1.length) hl2.symm ?_
        refine List.ext_getElem? fun t => ?_
        by_cases ht : t < L1.length * 4
        · rw [List.getElem?_take, if_pos ht, Array.getElem?_toList]
          unfold putCells
          have h1 := hcell t ht
          have h4 : t / 4 < L1.length := by omega
          have htc : t < cur.size := by
            rw [List.getElem?_eq_getElem h4, Option.bind_some, List.getElem?_eq_getElem (show t % 4 < (encV L1[t / 4]).length from Nat.mod_lt _ (by omega))] at h1
            exact (Array.getElem?_eq_some_iff.1 h1).1
          have h2 := flat_get (d'.toList ++ L1.drop m) (t / 4) (t % 4) (Nat.mod_lt _ (by omega))
          rw [show t / 4 * 4 + t % 4 = t by omega] at h2
          rw [h2, Array.getElem?_mapIdx, Array.getElem?_eq_getElem htc, Option.map_some]
          by_cases hm2 : t < m * 4
          · have hsz : t < (flatK encV 4 d').size := by rw [size_flatK, hds]; exact hm2
            rw [if_pos (by omega), Nat.sub_zero, getElem!_pos _ t hsz, ← Array.getElem?_eq_getElem hsz]
            have h3 := arr_get d'.toList t (by rw [Array.length_toList, hds]; exact hm2)
            rw [Array.toArray_toList] at h3
            rw [h3, List.getElem?_append_left (by rw [Array.length_toList, hds]; omega)]
          · rw [if_neg (by rw [size_flatK, hds]; omega), List.getElem?_append_right (by rw [Array.length_toList, hds]; omega), List.getElem?_drop, Array.length_toList, hds, show m + (t / 4 - m) = t / 4 by omega, ← h1, Array.getElem?_eq_getElem htc]
        · rw [List.getElem?_eq_none (by simp; omega), List.getElem?_eq_none (by rw [flat_len, hl2]; omega)]
      · show w.drawn ≤ w.drawn + q
        omega
end
end Go.Proofs.YtbibplkhhdomnaaGreat
namespace Go.Proofs.YtbibplkhhdomnaaGreat
open Go Go.K
set_option maxRecDepth 20000
set_option maxHeartbeats 8000000
section
variable {s : St} {B : Nat} {w0 : World} {E0 E : Ext} {L0 L : List Go.K.Loc} {a : Act} {w : World}
theorem spec_clear {q : Operand} {id ver lo : Nat} {L1 : List Ent} (hq : s.rd q = .rs id ver lo L1.length) (hlo : lo ≤ L1.length) (ho : s.ow[id]? = some (.blk 95 ver 4 (L1.map encE))) :
    SpecS Tryz.prog s (.call ⟨.builtin .clear, #[q], #[55]⟩) fun x => x = ⟨[id], .tup [], [(id, .blk 95 ver 4 ((L1.take lo ++ List.replicate (L1.length - lo) ent0).map encE))]⟩ := by
  intro B w0 E0 E L0 L a w o hop R next Q K
  have hx := rd_is R q
  rw [hq] at hx
  have hrun : ∀ (v : Value) (w' : World), a.eval q = v → (Builtin.clear_ #[55] o.type #[v]).run Tryz.prog w = .ok (.tuple #[]) w' → (execOp a.eval o).run Tryz.prog w = .ok (.value (.tuple #[])) w' := by
    intro v w' hv hr
    have hex : ∃ cc : Array Bool, execOp a.eval o = builtin .clear #[55] o.type cc #[a.eval q] := by
      refine ⟨(#[q] : Array Operand).map fun | .const _ => true | _ => false, ?_⟩
      unfold execOp
      simp only [hop, resolve, pure_bind, invoke]
      rw [show Array.map a.eval #[q] = #[a.eval q] by simp]
      rfl
    obtain ⟨cc, hcc⟩ := hex
    rw [hcc, hv]
    show (do pure (.value (← Builtin.clear_ #[55] o.type #[v])) : Sem Next).run Tryz.prog w = _
    rw [Sem.run_bind, hr]; rfl
  have u := run_underlying (P := Tryz.prog) Tryz.underlying55
  rcases rs_cases R hx (.inl ho) (by simp) with ⟨he, A, c, hv⟩ | ⟨hlt, g, cap, hl, hrc, hv⟩
  · have hz : L1.length - lo = 0 := by
      have := congrArg List.length he
      simpa using this
    refine wp_of_run (hrun _ w hv ?_) (K _ _ w E L rfl ?_ undef_is)
    · unfold Builtin.clear_
      cases A <;> simp [u]
    · show RepE B w0 E0 E L0 L ⟨s.n, s.tm, s.ow.set id _⟩ a w
      rw [hz, List.replicate_zero, List.append_nil, List.take_of_length_le (by omega), set_same ho]
      exact R
  · obtain ⟨g', cap', cur, hl', h0, hB, hE, hcm, hrc', hc0, hheap, hcs, hrows⟩ := R.blk ho (k := lo) (by simpa using hlt)
    rw [hl] at hl'
    obtain ⟨rfl, rfl⟩ : g = g' ∧ cap = cap' := by simpa using hl'
    have hrc2 : L1.length ≤ cap := by simpa using hrc
    have hzl : (Builtin.zeroCells #[.int .i64 0, .int .i64 0, .int .i64 0, .int .i64 0] (L1.length - lo)).toList = List.replicate ((L1.length - lo) * 4) (.int .i64 0) := by
      rw [List.eq_replicate_iff]
      refine ⟨by simp [Builtin.zeroCells], fun b hb => ?_⟩
      simp only [Builtin.zeroCells, Array.toList_map, List.mem_map] at hb
      obtain ⟨i, _, rfl⟩ := hb
      have h5 : i % 4 < 4 := Nat.mod_lt _ (by omega)
      have : i % 4 = 0 ∨ i % 4 = 1 ∨ i % 4 = 2 ∨ i % 4 = 3 := by omega
      show (#[Value.int .i64 0, .int .i64 0, .int .i64 0, .int .i64 0] : Array Value)[i % 4]! = _
      rcases this with h | h | h | h <;> (rw [h]; rfl)
    have hst := run_storeCells_at (P := Tryz.prog) g (lo * 4) 95 (List.replicate ((L1.length - lo) * 4) (.int .i64 0)) 0 cur w hheap (by simp; omega) (by
      intro v hv
      rw [List.eq_of_mem_replicate hv]; rfl)
    obtain ⟨cur', hcur'⟩ : ∃ c, (cur.toList.take (lo * 4 + 0) ++ List.replicate ((L1.length - lo) * 4) (Value.int .i64 0) ++ cur.toList.drop (lo * 4 + 0 + (List.replicate ((L1.length - lo) * 4) (Value.int .i64 0)).length)).toArray = c := ⟨_, rfl⟩
    rw [hcur'] at hst
    have hsz : cur'.size = cur.size := by
      rw [← hcur']
      simp only [List.size_toArray, List.length_append, List.length_take, List.length_drop, List.length_replicate, Array.length_toList]
      omega
    have hfl := rows_flat hrows
    have hnew : cur'.toList.take (L1.length * 4) = (L1.take lo ++ List.replicate (L1.length - lo) ent0).flatMap encV := by
      rw [List.flatMap_append, flat_zero, flat_take, ← hfl, List.take_take, Nat.min_eq_left (by omega), ← hcur']
      simp only [Nat.add_zero]
      rw [List.take_append_of_le_length (by simp; omega), List.take_of_length_le (by simp; omega)]
    refine wp_of_run (hrun _ (w.setRow g cur') hv ?_) (K _ _ _ E L rfl ?_ undef_is)
    · have hn0 : L1.length - lo ≠ 0 := by omega
      obtain ⟨m, hm⟩ : ∃ m, L1.length - lo = m + 1 := ⟨L1.length - lo - 1, by omega⟩
      rw [hm] at hst hzl ⊢
      unfold Builtin.clear_
      simp [u, Tryz.zeroValue95, Value.cells, hzl, hst]
    · have R' := R.setOwn (w' := w.setRow g cur') (o1 := .blk 95 ver 4 ((L1.take lo ++ List.replicate (L1.length - lo) ent0).map encE)) (l1 := .lies ver g 4 cap) ho hl (below_setRow cur' hB) (Loc.to_refl _) (fun j hj1 hj2 => setRow_other w g j _ (fun ee => hj2 (by rw [ee]; rfl))) ?_ (fun j hj => .inl hj)
      · rw [locs_same hl] at R'; exact R'
      · rw [locs_same hl]
        exact ⟨rfl, rfl, h0, hB, hE, hcm, by simp; omega, hc0, cur', setRow_heap w g cur cur' _ _ hheap, by rw [hsz]; exact hcs, ent_rows (n := L1.length) (by simp; omega) hnew⟩
end
end Go.Proofs.YtbibplkhhdomnaaGreat
namespace Go.Proofs.YtbibplkhhdomnaaGreat
open Nat (reduceAdd reduceSub reduceMul reduceEqDiff reduceLeDiff reduceLT)
open Go Go.K
set_option maxRecDepth 20000
set_option maxHeartbeats 8000000
theorem add_run {ow : List Go.K.Own} {j n : Nat} (ho : ow[j]? = some (.mp (MapOk n))) (x y h p : Int) :
    RunX Tryz.prog 30 [.mp j, .agg [.int .i64 x, .int .i64 y], .int .i64 h, .int .i64 p] ow fun z => z = ⟨[j], .tup [], [(j, .mp (MapOk (n + 1)))]⟩ := by
  have hlt := get_lt ho
  refine runX_of_ev tt_ok Tryz.func30 rfl (by decide +kernel) (Nat.le_of_ble_eq_true rfl) (fun _ => ?_)
  simp only [Tryz.f30]
  refine ev_seq (fun K hK => ?_)
  refine evr tt_ok false ?_
  simp only [go_sem, reduceAdd, reduceSub, reduceMul, reduceEqDiff, reduceLeDiff, Nat.reduceBEq, reduceLT, reduceIte, reduceCtorEq, Int.reduceToNat, ap_get0, ap_getk, ap_set0, ap_setk, ap_get _ _ hlt, ap_set _ _ hlt, aps_get0, aps_getk, aps_set0, aps_setk, aps_get hlt, aps_set hlt, List.append_assoc, List.length_append, List.length_set]
  apply hK; clear hK
  refine ev_seq (fun K hK => ?_)
  refine ev_region3 tt_ok false ?_
  simp only [go_sem, reduceAdd, reduceSub, reduceMul, reduceEqDiff, reduceLeDiff, Nat.reduceBEq, reduceLT, reduceIte, reduceCtorEq, Int.reduceToNat, ap_get0, ap_getk, ap_set0, ap_setk, ap_get _ _ hlt, ap_set _ _ hlt, aps_get0, aps_getk, aps_set0, aps_setk, aps_get hlt, aps_set hlt, List.append_assoc, List.length_append, List.length_set]
  iterate 2 (refine ev3_step ?_; simp only [go_sem, reduceAdd, reduceSub, reduceMul, reduceEqDiff, reduceLeDiff, Nat.reduceBEq, reduceLT, reduceIte, reduceCtorEq, Int.reduceToNat, ap_get0, ap_getk, ap_set0, ap_setk, ap_get _ _ hlt, ap_set _ _ hlt, aps_get0, aps_getk, aps_set0, aps_setk, aps_get hlt, aps_set hlt, List.append_assoc, List.length_append, List.length_set, ho])
  refine ev3_spec rfl (by simp only [go_sem, reduceAdd, reduceSub, reduceMul, reduceEqDiff, reduceLeDiff, Nat.reduceBEq, reduceLT, reduceIte, reduceCtorEq, Int.reduceToNat]) (spec_lookup (id := j) (n := n) (kx := x) (ky := y) (by simp only [go_sem, reduceAdd, reduceSub, reduceMul, reduceEqDiff, reduceLeDiff, Nat.reduceBEq, reduceLT, reduceIte, reduceCtorEq, Int.reduceToNat]) (by simp only [go_sem, reduceAdd, reduceSub, reduceMul, reduceEqDiff, reduceLeDiff, Nat.reduceBEq, reduceLT, reduceIte, reduceCtorEq, Int.reduceToNat]) (by simp only [go_sem, reduceAdd, reduceSub, reduceMul, reduceEqDiff, reduceLeDiff, Nat.reduceBEq, reduceLT, reduceIte, reduceCtorEq, Int.reduceToNat, ap_get0, ap_getk, ap_set0, ap_setk, ap_get _ _ hlt, ap_set _ _ hlt, aps_get0, aps_getk, aps_set0, aps_setk, aps_get hlt, aps_set hlt, List.append_assoc, List.length_append, List.length_set, ho])) ?_
  rintro z ⟨v, rfl⟩
  unfold encE
  iterate 2 (refine ev3_step ?_; simp only [go_sem, reduceAdd, reduceSub, reduceMul, reduceEqDiff, reduceLeDiff, Nat.reduceBEq, reduceLT, reduceIte, reduceCtorEq, Int.reduceToNat, ap_get0, ap_getk, ap_set0, ap_setk, ap_get _ _ hlt, ap_set _ _ hlt, aps_get0, aps_getk, aps_set0, aps_setk, aps_get hlt, aps_set hlt, List.append_assoc, List.length_append, List.length_set, ho])
  refine ev3_nil ?_
  apply hK; clear hK
  refine ev_region3 tt_ok false ?_
  simp only [go_sem, reduceAdd, reduceSub, reduceMul, reduceEqDiff, reduceLeDiff, Nat.reduceBEq, reduceLT, reduceIte, reduceCtorEq, Int.reduceToNat, ap_get0, ap_getk, ap_set0, ap_setk, ap_get _ _ hlt, ap_set _ _ hlt, aps_get0, aps_getk, aps_set0, aps_setk, aps_get hlt, aps_set hlt, List.append_assoc, List.length_append, List.length_set]
  iterate 12 (refine ev3_step ?_; simp only [go_sem, reduceAdd, reduceSub, reduceMul, reduceEqDiff, reduceLeDiff, Nat.reduceBEq, reduceLT, reduceIte, reduceCtorEq, Int.reduceToNat, ap_get0, ap_getk, ap_set0, ap_setk, ap_get _ _ hlt, ap_set _ _ hlt, aps_get0, aps_getk, aps_set0, aps_setk, aps_get hlt, aps_set hlt, List.append_assoc, List.length_append, List.length_set, ho])
  refine ev3_spec rfl (by simp only [go_sem, reduceAdd, reduceSub, reduceMul, reduceEqDiff, reduceLeDiff, Nat.reduceBEq, reduceLT, reduceIte, reduceCtorEq, Int.reduceToNat]) (spec_update (id := j) (n := n) (kx := x) (ky := y) (v := ⟨x, y, IntKind.i64.wrap (v.h + h), IntKind.i64.wrap (v.p + p)⟩) (by simp only [go_sem, reduceAdd, reduceSub, reduceMul, reduceEqDiff, reduceLeDiff, Nat.reduceBEq, reduceLT, reduceIte, reduceCtorEq, Int.reduceToNat]) (by simp only [go_sem, reduceAdd, reduceSub, reduceMul, reduceEqDiff, reduceLeDiff, Nat.reduceBEq, reduceLT, reduceIte, reduceCtorEq, Int.reduceToNat]) (by simp only [go_sem, reduceAdd, reduceSub, reduceMul, reduceEqDiff, reduceLeDiff, Nat.reduceBEq, reduceLT, reduceIte, reduceCtorEq, Int.reduceToNat, encE]) (by simp only [go_sem, reduceAdd, reduceSub, reduceMul, reduceEqDiff, reduceLeDiff, Nat.reduceBEq, reduceLT, reduceIte, reduceCtorEq, Int.reduceToNat, ap_get0, ap_getk, ap_set0, ap_setk, ap_get _ _ hlt, ap_set _ _ hlt, aps_get0, aps_getk, aps_set0, aps_setk, aps_get hlt, aps_set hlt, List.append_assoc, List.length_append, List.length_set, ho])) ?_
  rintro z rfl
  refine ev3_nil ?_
  refine ⟨_, rfl, ?_, ?_⟩
  · simp only [go_sem, reduceAdd, reduceSub, reduceMul, reduceEqDiff, reduceLeDiff, Nat.reduceBEq, reduceLT, reduceIte, reduceCtorEq, Int.reduceToNat]
  · simp only [go_sem, reduceAdd, reduceSub, reduceMul, reduceEqDiff, reduceLeDiff, Nat.reduceBEq, reduceLT, reduceIte, reduceCtorEq, Int.reduceToNat, ap_get0, ap_getk, ap_set0, ap_setk, ap_get _ _ hlt, ap_set _ _ hlt, aps_get0, aps_getk, aps_set0, aps_setk, aps_get hlt, aps_set hlt, List.append_assoc, List.length_append, List.length_set]
    trace_state
    exact ⟨_, rfl⟩
end Go.Proofs.YtbibplkhhdomnaaGreat
