import Derived.Test.YtbpchamlhblddaaK15
set_option linter.all false
/- THE BRIDGE, SECOND PART: arrays as arguments. -/
namespace Go.K
open Go Go.ChangeShapes Go.WideShapes Go.ChangeAt Go.RowKit
theorem ones_chunks {E : Ext} {α : Type} {e : α → List V} {k : Nat} : ∀ (l : List α) (cs : List Value), cs.length = l.length * k →
    (∀ (i : Nat) (a : α), l[i]? = some a → IsOnes E [] (e a) ((cs.drop (i * k)).take k)) → IsOnes E [] (l.flatMap e) cs
  | [], cs, hl, _ => by
    have : cs = [] := List.eq_nil_of_length_eq_zero (by simpa using hl)
    subst this
    simp only [List.flatMap_nil]
    unfold IsOnes
    rfl
  | a :: r, cs, hl, h => by
    have h0 := h 0 a rfl
    rw [Nat.zero_mul, List.drop_zero] at h0
    rw [List.flatMap_cons, ← List.take_append_drop k cs]
    refine ones_append h0 (ones_chunks (k := k) r _ ?_ fun i b hb => ?_)
    · rw [List.length_drop, hl, List.length_cons, Nat.add_mul]; omega
    · have := h (i + 1) b hb
      rw [List.drop_drop]
      rw [Nat.add_mul, Nat.one_mul, Nat.add_comm] at this
      exact this
theorem rd_array {P : Program} {t u : TypeId} {α : Type} {e : α → List V} {ok : α → Prop} {n k : Nat} (ht : P.underlying t = some (.array n u)) (he : Rd P u e ok) (hk : P.cellsOf u = k) (hc : P.cellsOf t = n * k) :
    Rd P t (fun l : List α => l.flatMap e) (fun l => l.length = n ∧ ∀ a ∈ l, ok a) := by
  refine ⟨?_⟩
  intro H enc w held fuel cs x h
  obtain ⟨xs, m, rfl, _, hl, hxs, hel⟩ := DataW.trod_array ht h
  have each : ∀ i, i < n → ∃ z, ok z ∧ IsOnes (worldE w) [] (e z) ((cs.drop (i * k)).take k) := by
    intro i hi
    have h1 := hel i hi
    rw [List.getElem?_eq_getElem (by omega : i < xs.length), hk] at h1
    exact he.rd enc w held m _ _ h1
  obtain ⟨l, hll, hlp⟩ := choose_list (β := Unit) n each
  refine ⟨l, ⟨hll, fun a ha => ?_⟩, ones_chunks l cs (by rw [hl, hc, hll]) fun i a hi => (hlp i a hi).2⟩
  obtain ⟨i, hi⟩ := List.getElem?_of_mem ha
  exact (hlp i a hi).1
section
variable {H : Type} {enc : TypeId × Value → H} {P : Program} {W : World} {r : Reach} {b0 : Nat} {t : TypeId} {v : Value} {d : DataW H} {ps : List MemPlace}
theorem arg_array {n : Nat} {u : TypeId} {α : Type} {en : α → List V} {ok : α → Prop} (ht : P.underlying t = some (.array n u)) (he : Rd P t en ok)
    (hv : Value.okWide P W r b0 t v) (hd : DataW.Trod enc P W 0 (fun _ => true) true t v d ps) : ∃ a : α, ok a ∧ (V.agg (en a)).Is (worldE W) [] v := by
  simp only [Value.okWide, ht] at hv
  obtain ⟨cs, rfl, _⟩ := hv
  obtain ⟨fuel, hf⟩ := hd
  obtain ⟨a, ha, hi⟩ := he.rd enc W true fuel _ _ hf
  refine ⟨a, ha, ?_⟩
  unfold V.Is
  exact ⟨cs.toList, by simp, by simpa [Value.cells] using hi⟩
end
end Go.K
