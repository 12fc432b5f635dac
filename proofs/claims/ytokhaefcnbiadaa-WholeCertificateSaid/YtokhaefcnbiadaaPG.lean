import Derived.Test.YtokhaefcnbiadaaPF
set_option linter.all false
namespace Go.Proofs.Ytokhaefcnbiadaa
open Go Go.K
set_option maxRecDepth 20000
set_option maxHeartbeats 8000000
/-! ### Sum -/
theorem ok_W {f : Fld} (h : f.ok) : ((f.W : Nat) : Int) = f.w ∧ ((f.H : Nat) : Int) = f.h ∧ f.W ≤ 64 ∧ f.H ≤ 64 ∧ f.v.length = f.W * f.H := by
  obtain ⟨h1, h2, h3, h4, h5, h6, _⟩ := h
  have e1 : ((f.W : Nat) : Int) = f.w := by unfold Fld.W; omega
  have e2 : ((f.H : Nat) : Int) = f.h := by unfold Fld.H; omega
  refine ⟨e1, e2, by omega, by omega, ?_⟩
  have : ((f.v.length : Nat) : Int) = ((f.W * f.H : Nat) : Int) := by rw [h6, Int.natCast_mul, e1, e2]
  omega
theorem preI_bound {f : Fld} (h : f.ok) (hb : bytesL f.v) {x y : Int} (hx : 0 ≤ x ∧ x ≤ f.w) (hy : 0 ≤ y ∧ y ≤ f.h) : 0 ≤ preI f y x ∧ preI f y x ≤ 1044480 := by
  obtain ⟨h1, h2, h3, h4, _⟩ := h
  exact preS_bound hb (by omega) (by omega)
theorem clip_in {n m : Int} (h : 0 ≤ m) : 0 ≤ clipM n m ∧ clipM n m ≤ m := by unfold clipM; omega
/-! ### Above -/
/-! ### Peak -/
def mxN (L : List Int) : Nat → Int
  | 0 => L.getD 0 0
  | n + 1 => max (mxN L n) (L.getD (n + 1) 0)
theorem mxN_spec (L : List Int) : ∀ n : Nat, (∀ j, j ≤ n → L.getD j 0 ≤ mxN L n) ∧ ∃ j, j ≤ n ∧ L.getD j 0 = mxN L n
  | 0 => ⟨fun j hj => by obtain rfl : j = 0 := by omega
                         exact Int.le_refl _, 0, Nat.le_refl _, rfl⟩
  | n + 1 => by
    obtain ⟨h1, j, h2, h3⟩ := mxN_spec L n
    refine ⟨fun k hk => ?_, ?_⟩
    · by_cases e : k = n + 1
      · subst e; simp only [mxN]; omega
      · have := h1 k (by omega); simp only [mxN]; omega
    · by_cases e : mxN L n ≤ L.getD (n + 1) 0
      · exact ⟨n + 1, Nat.le_refl _, by simp only [mxN]; omega⟩
      · exact ⟨j, by omega, by simp only [mxN]; omega⟩
end Go.Proofs.Ytokhaefcnbiadaa
