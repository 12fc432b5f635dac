import Derived.Test.YtokhaefcnbiadaaMX
import Derived.Test.YtokhaefcnbiadaaMO
set_option linter.all false
namespace Go.Proofs.Ytokhaefcnbiadaa
open Go Go.K
/-! ### plain: a block less, a block more -/
theorem vis_app (p : Prob) (a b : List Blc) : visAll p (a ++ b) = visAll p a ++ visAll p b := List.flatMap_append
theorem cells_len (p : Prob) (b : Blc) : (cellsOf p b).length = htM p b * wdM p b := by simp [cellsOf, cellsN]
theorem cells_pos {p : Prob} (h : p.ok) {b : Blc} (hb : blkOk p b) : 1 ≤ (cellsOf p b).length := by
  have h2 := blkW h hb
  have h4 : 1 * 1 ≤ htM p b * wdM p b := Nat.mul_le_mul h2.h1 h2.w1
  rw [cells_len]; omega
def cntS (p : Prob) (bl : List Blc) : Nat → Int
  | 0 => 0
  | k + 1 => cntS p bl k + countM p (bl.getD k Blc.z)
theorem cntS_len {p : Prob} {bl : List Blc} (h : p.ok) (hv : ∀ i, i < bl.length → blkOk p (bl.getD i Blc.z)) : ∀ k, k ≤ bl.length → cntS p bl k = (((visAll p (bl.take k)).length : Nat) : Int)
  | 0, _ => rfl
  | k + 1, hk => by
    unfold cntS countM
    rw [cntS_len h hv k (by omega), if_pos ⟨h, hv k (by omega)⟩, take_getD (by omega) Blc.z, vis_app, List.length_append]
    have e : visAll p [bl.getD k Blc.z] = cellsOf p (bl.getD k Blc.z) := by unfold visAll; simp
    rw [e, cells_len, Int.natCast_add, Int.natCast_mul, Int.mul_comm]
theorem cntS_in {p : Prob} {bl : List Blc} (h : p.ok) (hv : ∀ i, i < bl.length → blkOk p (bl.getD i Blc.z)) {k : Nat} (hk : k ≤ bl.length) (hp : partM p bl = true) : 0 ≤ cntS p bl k ∧ cntS p bl k ≤ ((p.N : Nat) : Int) := by
  rw [cntS_len h hv k hk]
  have h1 : visAll p bl = visAll p (bl.take k) ++ visAll p (bl.drop k) := by rw [← vis_app, List.take_append_drop]
  unfold partM at hp
  rw [decide_eq_true_eq, h1, List.length_append] at hp
  have := hp.2
  omega
theorem cntS_all {p : Prob} {bl : List Blc} (h : p.ok) (hv : ∀ i, i < bl.length → blkOk p (bl.getD i Blc.z)) (hp : partM p bl = true) : cntS p bl bl.length = ((p.N : Nat) : Int) := by
  rw [cntS_len h hv _ (Nat.le_refl _), List.take_length]
  unfold partM at hp
  rw [decide_eq_true_eq] at hp
  rw [hp.2]
theorem N_pos {p : Prob} (h : p.ok) : 1 ≤ p.N := by
  obtain ⟨hs, hk, hn, r0, r1, k1, k2⟩ := winOk h
  have hS : 1 ≤ p.S := by omega
  have : 1 * (1 * 1) ≤ p.S * (p.S * p.K) := Nat.mul_le_mul hS (Nat.mul_le_mul hS k1)
  exact this
theorem part_pos {p : Prob} {bl : List Blc} (h : p.ok) (hp : partM p bl = true) : bl ≠ [] := by
  rintro rfl
  unfold partM at hp
  rw [decide_eq_true_eq] at hp
  have := hp.2
  have h0 : (visAll p []).length = 0 := rfl
  have := N_pos h
  omega
theorem split_at {α : Type} (l : List α) (d : α) {k : Nat} (hk : k < l.length) : l = l.take k ++ ([l.getD k d] ++ l.drop (k + 1)) := by
  rw [← List.append_assoc, ← take_getD hk d, List.take_append_drop]
theorem vis_less {p : Prob} (bl : List Blc) {k : Nat} (hk : k < bl.length) : (visAll p bl).length = (visAll p (bl.take k ++ bl.drop (k + 1))).length + (cellsOf p (bl.getD k Blc.z)).length := by
  have e : visAll p [bl.getD k Blc.z] = cellsOf p (bl.getD k Blc.z) := by unfold visAll; simp
  have := congrArg (visAll p) (split_at bl Blc.z hk)
  rw [vis_app, vis_app, e] at this
  rw [this, vis_app]
  simp only [List.length_append]
  omega
theorem getD_less {α : Type} (l : List α) (d : α) {k i : Nat} (hi : i < (l.take k ++ l.drop (k + 1)).length) (hk : k < l.length) : ∃ j, j < l.length ∧ (l.take k ++ l.drop (k + 1)).getD i d = l.getD j d := by
  rw [List.length_append, List.length_take, List.length_drop] at hi
  by_cases h : i < k
  · refine ⟨i, by omega, ?_⟩
    rw [List.getD_eq_getElem?_getD, List.getElem?_append_left (by rw [List.length_take]; omega), List.getElem?_take, if_pos h, ← List.getD_eq_getElem?_getD]
  · refine ⟨i + 1, by omega, ?_⟩
    have hl : (l.take k).length = k := by rw [List.length_take]; omega
    rw [List.getD_eq_getElem?_getD, List.getElem?_append_right (by omega), List.getElem?_drop, hl, ← List.getD_eq_getElem?_getD]
    congr 1; omega
theorem less_len {α : Type} (l : List α) {k : Nat} (hk : k < l.length) : (l.take k ++ l.drop (k + 1)).length = l.length - 1 := by
  rw [List.length_append, List.length_take, List.length_drop]; omega
theorem less_11 {p : Prob} {m : Mat} (hz : checkM p m = 0) {k : Nat} (hk : k < m.l.length) : checkM p ⟨m.b, m.px, m.py, m.ph, m.sc, m.l.take k ++ m.l.drop (k + 1)⟩ = 11 := by
  obtain ⟨h1, h2, h3, h4, h5⟩ := check_zero.1 hz
  refine check_11 h1 h2 h3 ?_ ?_ ?_
  · show ((m.l.take k ++ m.l.drop (k + 1)).length : Int) ≤ 16384
    rw [less_len _ hk]; omega
  · intro i hi
    obtain ⟨j, hj, e⟩ := getD_less m.l Blc.z hi hk
    show blkOk p ((m.l.take k ++ m.l.drop (k + 1)).getD i Blc.z)
    rw [e]; exact h5.ok j hj
  · intro hp
    have hp2 := h5.pa
    unfold partM at hp hp2
    rw [decide_eq_true_eq] at hp hp2
    have := vis_less (p := p) m.l hk
    have := cells_pos h1 (h5.ok k hk)
    have q := hp.2
    have q2 := hp2.2
    have e : (visAll p (Mat.mk m.b m.px m.py m.ph m.sc (m.l.take k ++ m.l.drop (k + 1))).l).length = (visAll p (m.l.take k ++ m.l.drop (k + 1))).length := rfl
    omega
theorem more_11 {p : Prob} {m : Mat} (hz : checkM p m = 0) {k : Nat} (hk : k < m.l.length) (hl : m.l.length ≤ 400) : checkM p ⟨m.b, m.px, m.py, m.ph, m.sc, m.l ++ [m.l.getD k Blc.z]⟩ = 11 := by
  obtain ⟨h1, h2, h3, h4, h5⟩ := check_zero.1 hz
  refine check_11 h1 h2 h3 ?_ ?_ ?_
  · show ((m.l ++ [m.l.getD k Blc.z]).length : Int) ≤ 16384
    rw [List.length_append, List.length_singleton]; omega
  · intro i hi
    show blkOk p ((m.l ++ [m.l.getD k Blc.z]).getD i Blc.z)
    by_cases h : i < m.l.length
    · rw [List.getD_eq_getElem?_getD, List.getElem?_append_left h, ← List.getD_eq_getElem?_getD]; exact h5.ok i h
    · have : (Mat.mk m.b m.px m.py m.ph m.sc (m.l ++ [m.l.getD k Blc.z])).l.length = m.l.length + 1 := by simp
      have e : i = m.l.length := by omega
      subst e
      rw [List.getD_eq_getElem?_getD, List.getElem?_append_right (Nat.le_refl _), Nat.sub_self]
      exact h5.ok k hk
  · intro hp
    have hp2 := h5.pa
    unfold partM at hp hp2
    rw [decide_eq_true_eq] at hp hp2
    have := cells_pos h1 (h5.ok k hk)
    have q := hp.2
    have q2 := hp2.2
    have e : visAll p [m.l.getD k Blc.z] = cellsOf p (m.l.getD k Blc.z) := by unfold visAll; simp
    rw [show visAll p (Mat.mk m.b m.px m.py m.ph m.sc (m.l ++ [m.l.getD k Blc.z])).l = visAll p m.l ++ cellsOf p (m.l.getD k Blc.z) by rw [← e]; exact vis_app _ _ _, List.length_append] at q
    omega
end Go.Proofs.Ytokhaefcnbiadaa
