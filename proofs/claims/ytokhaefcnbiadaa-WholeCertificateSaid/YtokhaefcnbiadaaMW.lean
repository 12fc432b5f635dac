import Derived.Test.YtokhaefcnbiadaaMN
import Derived.Test.YtokhaefcnbiadaaMS
set_option linter.all false
namespace Go.Proofs.Ytokhaefcnbiadaa
open Go Go.K
/-! ### plain: each candidate in one block -/
/-- How many of the first blocks have a candidate. -/
def belC (bl : List Blc) (c : Cnd) : Nat → Nat
  | 0 => 0
  | k + 1 => belC bl c k + if belM (bl.getD k Blc.z) c then 1 else 0
theorem belC_le (bl : List Blc) (c : Cnd) : ∀ k, belC bl c k ≤ k
  | 0 => Nat.le_refl _
  | k + 1 => by
    have := belC_le bl c k
    unfold belC
    split <;> omega
theorem cells_count {p : Prob} {b : Blc} (h : p.ok) (hb : blkOk p b) {j : Nat} (hj : j < p.N) : (cellsOf p b).count j = if belM b (cndAt p j) then 1 else 0 := by
  rw [(cells_nodup h hb).count]
  by_cases hm : belM b (cndAt p j)
  · rw [if_pos hm, if_pos ((mem_cells h hb hj).2 hm)]
  · rw [if_neg hm, if_neg (fun h' => hm ((mem_cells h hb hj).1 h'))]
theorem vis_count {p : Prob} {bl : List Blc} (h : p.ok) (hv : ∀ i, i < bl.length → blkOk p (bl.getD i Blc.z)) {j : Nat} (hj : j < p.N) : ∀ k, k ≤ bl.length → ((bl.take k).flatMap (cellsOf p)).count j = belC bl (cndAt p j) k
  | 0, _ => by simp [belC]
  | k + 1, hk => by
    rw [take_getD (by omega) Blc.z, List.flatMap_append, List.count_append, vis_count h hv hj k (by omega)]
    simp only [List.flatMap_cons, List.flatMap_nil, List.append_nil]
    rw [cells_count h (hv k (by omega)) hj]; rfl
theorem part_perm {p : Prob} {bl : List Blc} (h : p.ok) (hv : ∀ i, i < bl.length → blkOk p (bl.getD i Blc.z)) : partM p bl = true ↔ (visAll p bl).Perm (List.range p.N) := by
  unfold partM
  rw [decide_eq_true_eq]
  constructor
  · rintro ⟨hn, hl⟩
    rw [List.perm_ext_iff_of_nodup hn List.nodup_range]
    intro a
    rw [List.mem_range]
    refine ⟨fun ha => visAll_lt h hv a ha, fun ha => ?_⟩
    by_cases hm : a ∈ visAll p bl
    · exact hm
    · have := nodup_le p.N (a :: visAll p bl) (List.nodup_cons.2 ⟨hm, hn⟩) (fun x hx => by
        rcases List.mem_cons.1 hx with rfl | hx
        · exact ha
        · exact visAll_lt h hv x hx)
      rw [List.length_cons, hl] at this
      omega
  · intro hp
    exact ⟨hp.nodup_iff.2 List.nodup_range, by rw [hp.length_eq, List.length_range]⟩
theorem part_one {p : Prob} {bl : List Blc} (h : p.ok) (hv : ∀ i, i < bl.length → blkOk p (bl.getD i Blc.z)) : partM p bl = true ↔ ∀ j, j < p.N → belC bl (cndAt p j) bl.length = 1 := by
  rw [part_perm h hv, List.perm_iff_count]
  have hc : ∀ j, j < p.N → (visAll p bl).count j = belC bl (cndAt p j) bl.length := fun j hj => by
    have := vis_count h hv hj bl.length (Nat.le_refl _)
    rwa [List.take_length] at this
  constructor
  · intro hp j hj
    have := hp j
    rw [List.count_range, if_pos hj] at this
    rw [← hc j hj]; exact this
  · intro hp j
    rw [List.count_range]
    by_cases hj : j < p.N
    · rw [if_pos hj]; exact (hc j hj).trans (hp j hj)
    · rw [if_neg hj]; exact List.count_eq_zero_of_not_mem fun hm => hj (visAll_lt h hv j hm)
theorem in_cnd {p : Prob} (h : p.ok) {c : Cnd} (hc : inW p c) : ∃ j, j < p.N ∧ cndAt p j = c := by
  obtain ⟨hs, hk, hn, r0, r1, k1, k2⟩ := winOk h
  obtain ⟨c1, c2, c3, c4, c5, c6⟩ := hc
  refine ⟨ix p.S c.k.toNat (c.y + p.re).toNat (c.x + p.re).toNat, ix_lt (by omega) (by omega) (by omega), ?_⟩
  rw [cnd_at p (by omega) (by omega)]
  cases c
  simp only [Cnd.mk.injEq] at *
  omega
end Go.Proofs.Ytokhaefcnbiadaa
