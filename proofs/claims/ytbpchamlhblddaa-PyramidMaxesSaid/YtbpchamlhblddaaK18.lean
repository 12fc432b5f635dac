/-
  A SECOND ENGINE, PART 18: a slice with no room in a cell of an own block is taken as one of the run's own.
-/
import Derived.Test.YtbpchamlhblddaaK17
set_option linter.all false
namespace Go.K
open Go Go.RowKit
section
variable {P : Program} {B : Nat} {w0 : World} {E0 E : Ext} {L0 L : List Loc} {s : St} {a : Act} {w : World} {m : Nat}
theorem ownRows_put {cur : Array Value} {sz k j : Nat} {rows : List (List V)} {row : List V} {c : V} (h : OwnRows E L cur sz rows) (hr : rows[k]? = some row) (hc : c.one = true) (hx : ∀ x, cur[k * sz + j]? = some x → c.Is E L x) (hj : j < row.length) : OwnRows E L cur sz (rows.set k (row.set j c)) := by
  intro k' row' hk'
  by_cases e : k = k'
  · subst e
    rw [List.getElem?_set_self (get_lt hr)] at hk'
    obtain rfl := Option.some.inj hk'
    obtain ⟨q1, q2⟩ := h k row hr
    refine ⟨by rw [List.length_set]; exact q1, fun j' c' hj' => ?_⟩
    by_cases e2 : j = j'
    · subst e2
      rw [List.getElem?_set_self hj] at hj'
      obtain rfl := Option.some.inj hj'
      obtain ⟨q3, x, q4, q5⟩ := q2 j (row[j]'hj) (List.getElem?_eq_getElem hj)
      exact ⟨hc, x, q4, hx x q4⟩
    · rw [List.getElem?_set_ne e2] at hj'
      exact q2 j' c' hj'
  · rw [List.getElem?_set_ne e] at hk'
    exact h k' row' hk'
theorem ev_adoptC {c : Code} {Q : Exit → St → Prop} (id k j : Nat) (ty : TypeId) (sz : Nat) (h0 : 0 < sz) {tb : TypeId} {ver sz0 : Nat} {rows : List (List V)} {row : List V} (ho : s.ow[id]? = some (.blk tb ver sz0 rows)) (hr : rows[k]? = some row) (hj : row[j]? = some .emp)
    (h : EV P m c Q ⟨s.n, s.tm, (s.ow ++ [Own.blk ty 0 sz []]).set id (Own.blk tb ver sz0 (rows.set k (row.set j (.rs s.ow.length 0 0 0))))⟩) : EV P m c Q s := by
  rintro B w0 E0 L0 a w hm ⟨E, L, R⟩
  have R' := R.more (ty := ty) h0
  have hid := get_lt ho
  have hil : id < L.length := by rw [R.len]; exact hid
  obtain ⟨l0, hl0⟩ : ∃ l, L[id]? = some l := ⟨_, List.getElem?_eq_getElem hil⟩
  have ho' : (s.ow ++ [Own.blk ty 0 sz []])[id]? = some (.blk tb ver sz0 rows) := by rw [List.getElem?_append_left hid]; exact ho
  have hl' : (L ++ [Loc.nil 0])[id]? = some l0 := by rw [List.getElem?_append_left hil]; exact hl0
  have hok := R'.owns id _ l0 ho' hl'
  have hnew : (L ++ [Loc.nil 0])[s.ow.length]? = some (.nil 0) := by rw [List.getElem?_append_right (by rw [R.len]; exact Nat.le_refl _), R.len]; simp
  have hset : (L ++ [Loc.nil 0]).set id l0 = L ++ [Loc.nil 0] := locs_same hl'
  refine h B w0 E0 L0 a w hm ⟨E, _, R'.setOwn (o1 := .blk tb ver sz0 (rows.set k (row.set j (.rs s.ow.length 0 0 0)))) (l1 := l0) ho' hl' (Below.refl B w) (Loc.to_refl _) (fun g _ _ => rfl) ?_ (fun g hg => .inl ?_)⟩
  · rw [hset]
    cases l0 with
    | lies v g sz' cap =>
      obtain ⟨a1, a2, a3, a4, a5, a6, a7, a8, cur, a9, a10, a11⟩ := hok
      refine ⟨a1, a2, a3, a4, a5, a6, by rw [List.length_set]; exact a7, a8, cur, a9, a10, ownRows_put a11 hr rfl (fun x hx => ?_) (get_lt hj)⟩
      obtain ⟨_, q2⟩ := a11 k row hr
      obtain ⟨_, y, q4, q5⟩ := q2 j _ hj
      obtain rfl := Option.some.inj (hx.symm.trans q4)
      unfold V.Is at q5
      obtain ⟨A, hA⟩ := q5
      rw [hA]
      exact nil_sl hnew A
    | nil v =>
      obtain ⟨_, a2, _⟩ := hok
      rw [a2] at hr
      simp at hr
    | free => exact hok.elim
  · cases l0 <;> exact hg
end
end Go.K
