import Derived.Test.YtmpmggbcmioipaaP3
set_option linter.all false
namespace Go.Proofs.Ytmpmggbcmioipaa
def rotV (v : Vec) : Vec := ⟨-v.y, v.x, v.d⟩
def rotN : Nat → Vec → Vec
  | 0, v => v
  | n + 1, v => rotV (rotN n v)
def quart (k : Int) : Vec := low (4096 - k * k) (128 * k) (4096 + k * k)
def dirM (h : Int) : Vec := rotN (h % 256 / 64).toNat (quart (h % 256 % 64))
theorem dir_mod (h : Int) : dirM (h % 256) = dirM h := by unfold dirM; rw [Int.emod_emod]
theorem dir_at (h : Int) : dirM h = dirM (((h % 256).toNat : Nat) : Int) := by rw [← dir_mod h]; congr 1; omega
def dirFacts (i : Nat) : Bool :=
  decide (dirM i).ok && decide ((dirM i).d ≤ 8065) && decide (dirM (i + 64) = rotV (dirM i)) && (i == 255 || cmpM (dirM i) (dirM (i + 1)) == -1)
end Go.Proofs.Ytmpmggbcmioipaa
namespace Go.Proofs.Ytmpmggbcmioipaa
theorem dir_all : (List.range 256).all dirFacts = true := by decide +kernel
theorem dir_fact (h : Int) : dirFacts (h % 256).toNat = true := List.all_eq_true.1 dir_all _ (List.mem_range.2 (by omega))
theorem dir_ok (h : Int) : (dirM h).ok := by
  have := dir_fact h
  simp only [dirFacts, Bool.and_eq_true, decide_eq_true_eq] at this
  rw [dir_at]; exact this.1.1.1
theorem dir_d (h : Int) : (dirM h).d ≤ 8065 := by
  have := dir_fact h
  simp only [dirFacts, Bool.and_eq_true, decide_eq_true_eq] at this
  rw [dir_at]; exact this.1.1.2
theorem dir_quarter (h : Int) : dirM (h + 64) = rotV (dirM h) := by
  have := dir_fact h
  simp only [dirFacts, Bool.and_eq_true, decide_eq_true_eq] at this
  rw [dir_at h, ← this.1.2, ← dir_mod (h + 64), ← dir_mod (_ + 64)]
  congr 1; omega
theorem dir_rises (h : Int) (h0 : 0 ≤ h) (h1 : h < 255) : cmpM (dirM h) (dirM (h + 1)) = -1 := by
  have := dir_fact h
  simp only [dirFacts, Bool.and_eq_true, decide_eq_true_eq, Bool.or_eq_true, beq_iff_eq] at this
  obtain ⟨n, rfl⟩ := Int.eq_ofNat_of_zero_le h0
  have e : ((n : Int) % 256).toNat = n := by omega
  rw [e] at this
  rcases this.2 with h2 | h2
  · omega
  · exact h2
theorem dir_turns (h k : Int) : dirM (h + 256 * k) = dirM h := by rw [← dir_mod, ← dir_mod h]; congr 1; omega
end Go.Proofs.Ytmpmggbcmioipaa
