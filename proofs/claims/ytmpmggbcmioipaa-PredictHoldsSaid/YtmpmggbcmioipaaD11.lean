import Derived.Test.YtmpmggbcmioipaaD10
set_option linter.all false
namespace Go.Proofs.Ytmpmggbcmioipaa
open Go Go.K
set_option maxRecDepth 20000
set_option maxHeartbeats 4000000
/-- the displacement with errors within the bounds lies in the reach -/
theorem go_in {f l s h : Int} {k x y : Int} (hf : f ≠ 0) (hk : -l ≤ k ∧ k ≤ l) (hx : -s ≤ x ∧ x ≤ s) (hy : -s ≤ y ∧ y ≤ s) :
    (reachM f l s h).x0 ≤ alo (f + k) (dirM h).x (dirM h).d + x ∧ alo (f + k) (dirM h).x (dirM h).d + x ≤ (reachM f l s h).x1 ∧
    (reachM f l s h).y0 ≤ alo (f + k) (dirM h).y (dirM h).d + y ∧ alo (f + k) (dirM h).y (dirM h).d + y ≤ (reachM f l s h).y1 := by
  obtain ⟨d1, d2, d3, d4, d5, d6, d7⟩ := dir_ok h
  have mx := @alo_mono (dirM h).x (dirM h).d (by omega)
  have my := @alo_mono (dirM h).y (dirM h).d (by omega)
  have e : reachM f l s h = endsM f l s h := if_neg hf
  rw [e]
  simp only [endsM]
  refine ⟨?_, ?_, ?_, ?_⟩
  · rcases mx with m | m
    · have := m (f - l) (f + k) (by omega); have := m (f + k) (f + l) (by omega); omega
    · have := m (f - l) (f + k) (by omega); have := m (f + k) (f + l) (by omega); omega
  · rcases mx with m | m
    · have := m (f - l) (f + k) (by omega); have := m (f + k) (f + l) (by omega); omega
    · have := m (f - l) (f + k) (by omega); have := m (f + k) (f + l) (by omega); omega
  · rcases my with m | m
    · have := m (f - l) (f + k) (by omega); have := m (f + k) (f + l) (by omega); omega
    · have := m (f - l) (f + k) (by omega); have := m (f + k) (f + l) (by omega); omega
  · rcases my with m | m
    · have := m (f - l) (f + k) (by omega); have := m (f + k) (f + l) (by omega); omega
    · have := m (f - l) (f + k) (by omega); have := m (f + k) (f + l) (by omega); omega
/-- the mark after a turn with errors is one of the turned arc -/
theorem turned_mem {a : Arc} (ha : a.ok) {h t n k : Int} (hn : 0 ≤ n ∧ n ≤ 8) (hk : -n ≤ k ∧ k ≤ n) (hm : a.mem h = true) : (turnedM a t n).mem (h + t + k) = true := by
  rw [turned_is ha hn.1]
  obtain ⟨a1, a2, a3, a4, a5⟩ := ha
  simp only [Arc.mem, decide_eq_true_eq] at hm
  split
  · simp only [Arc.mem, decide_eq_true_eq]; omega
  · simp only [Arc.mem, decide_eq_true_eq]; omega
end Go.Proofs.Ytmpmggbcmioipaa
