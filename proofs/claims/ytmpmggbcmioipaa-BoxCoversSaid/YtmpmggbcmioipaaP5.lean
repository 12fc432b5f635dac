import Derived.Test.YtmpmggbcmioipaaP4
set_option linter.all false
namespace Go.Proofs.Ytmpmggbcmioipaa
/-! ### binary search -/
def bsF (q : Nat → Bool) : Nat → Nat → Nat → Nat
  | 0, i, _ => i
  | k + 1, i, j => if i < j then (if q ((i + j) / 2) then bsF q k ((i + j) / 2 + 1) j else bsF q k i ((i + j) / 2)) else i
theorem bsF_spec {q : Nat → Bool} {n : Nat} : ∀ (k i j : Nat), i ≤ j → j - i ≤ k → j ≤ n → (i = 0 ∨ q (i - 1) = true) → (j = n ∨ q j = false) →
    bsF q k i j ≤ n ∧ (bsF q k i j = 0 ∨ q (bsF q k i j - 1) = true) ∧ (bsF q k i j = n ∨ q (bsF q k i j) = false)
  | 0, i, j, h1, h2, h3, h4, h5 => by
    obtain rfl : i = j := by omega
    exact ⟨h3, h4, h5⟩
  | k + 1, i, j, h1, h2, h3, h4, h5 => by
    unfold bsF
    split
    · split
      · rename_i h
        exact bsF_spec k _ j (by omega) (by omega) h3 (.inr (by rw [Nat.add_sub_cancel]; exact h)) h5
      · rename_i h
        exact bsF_spec k i _ (by omega) (by omega) (by omega) h4 (.inr (by simpa using h))
    · obtain rfl : i = j := by omega
      exact ⟨h3, h4, h5⟩
theorem bsF_stop {q : Nat → Bool} : ∀ (k : Nat) {i j : Nat}, j ≤ i → bsF q k i j = i
  | 0, _, _, _ => rfl
  | k + 1, i, j, h => by unfold bsF; rw [if_neg (by omega)]
def floorQ (v : Vec) (i : Nat) : Bool := decide (cmpM (dirM i) v ≤ 0)
def floorM (v : Vec) : Int := (bsF (floorQ v) 256 0 256 : Nat) - 1
theorem dir0_le {v : Vec} (hv : v.ok) : cmpM (dirM 0) v ≤ 0 := by
  have h0 : dirM 0 = ⟨1, 0, 1⟩ := by decide +kernel
  rw [h0, cmp_le_iff]
  have hz := not_zero hv
  have e : half ⟨1, 0, 1⟩ = 0 := by decide
  rw [e]
  unfold half cross
  simp only
  split
  · right; omega
  · left; omega
theorem floor_spec {v : Vec} (hv : v.ok) : 0 ≤ floorM v ∧ floorM v ≤ 255 ∧ cmpM (dirM (floorM v)) v ≤ 0 ∧ (floorM v = 255 ∨ cmpM v (dirM (floorM v + 1)) < 0) := by
  obtain ⟨h1, h2, h3⟩ := bsF_spec (q := floorQ v) (n := 256) 256 0 256 (by omega) (by omega) (by omega) (.inl rfl) (.inl rfl)
  unfold floorM
  generalize bsF (floorQ v) 256 0 256 = r at *
  have hr : r ≠ 0 := by
    rintro rfl
    rcases h3 with h3 | h3
    · omega
    · have := dir0_le hv
      simp only [floorQ, decide_eq_false_iff_not] at h3
      exact h3 this
  refine ⟨by omega, by omega, ?_, ?_⟩
  · rcases h2 with h2 | h2
    · omega
    · simp only [floorQ, decide_eq_true_eq] at h2
      rw [show ((r : Int) - 1) = ((r - 1 : Nat) : Int) by omega]; exact h2
  · rcases h3 with h3 | h3
    · left; omega
    · right
      simp only [floorQ, decide_eq_false_iff_not] at h3
      rw [show ((r : Int) - 1 + 1) = (r : Int) by omega, cmp_anti]
      omega
end Go.Proofs.Ytmpmggbcmioipaa
