import Derived.Test.YtmpmggbcmioipaaF3
set_option linter.all false
namespace Go.Proofs.Ytmpmggbcmioipaa
/-! ### the list with a pair replaced by its hull -/
def okAll (l : List Box) : Prop := ∀ b ∈ l, b.ok
theorem okAll_at {l : List Box} (h : okAll l) {i : Nat} (hi : i < l.length) : (l.getD i Box.zero).ok := h _ (getD_memB hi)
def sqz (l : List Box) : List Box := match pick l with
  | none => l
  | some p => (l.set p.1 (hB l p.1 p.2)).eraseIdx p.2
def itM : Nat → List Box → List Box
  | 0, l => l
  | m + 1, l => sqz (itM m l)
theorem sqz_len {l : List Box} (h2 : 2 ≤ l.length) : (sqz l).length + 1 = l.length := by
  obtain ⟨a, b, hp, hab, hb⟩ := pick_some h2
  unfold sqz
  rw [hp]
  simp only
  rw [List.length_eraseIdx_of_lt (by rw [List.length_set]; exact hb), List.length_set]
  omega
theorem sqz_ok {l : List Box} (h : okAll l) (h2 : 2 ≤ l.length) : okAll (sqz l) := by
  obtain ⟨a, b, hp, hab, hb⟩ := pick_some h2
  intro x hx
  unfold sqz at hx
  rw [hp] at hx
  simp only at hx
  have hx2 := List.mem_of_mem_eraseIdx hx
  rcases List.mem_or_eq_of_mem_set hx2 with h3 | rfl
  · exact h x h3
  · exact hullB_ok (okAll_at h (by omega)) (okAll_at h hb)
theorem sqz_within {l : List Box} (h : okAll l) (h2 : 2 ≤ l.length) {x : Box} (hx : x ∈ l) : ∃ y ∈ sqz l, x.within y := by
  obtain ⟨a, b, hp, hab, hb⟩ := pick_some h2
  have ha : a < l.length := by omega
  have hs : sqz l = (l.set a (hB l a b)).eraseIdx b := by unfold sqz; rw [hp]
  rw [hs]
  have hmemH : hB l a b ∈ (l.set a (hB l a b)).eraseIdx b := by
    rw [List.mem_eraseIdx_iff_getElem]
    exact ⟨a, by rw [List.length_set]; exact ha, by omega, by simp⟩
  obtain ⟨i, hi, rfl⟩ := List.getElem_of_mem hx
  have gE : ∀ {i} (hi : i < l.length), l[i] = l.getD i Box.zero := fun {i} hi => by rw [List.getD_eq_getElem?_getD, List.getElem?_eq_getElem hi]; rfl
  by_cases e1 : i = a
  · subst e1
    refine ⟨_, hmemH, ?_⟩
    rw [gE hi]
    exact hullB_left (okAll_at h ha) (okAll_at h hb)
  · by_cases e2 : i = b
    · subst e2
      refine ⟨_, hmemH, ?_⟩
      rw [gE hi]
      exact hullB_right (okAll_at h ha) (okAll_at h hb)
    · refine ⟨l[i], ?_, within_refl (h _ hx)⟩
      rw [List.mem_eraseIdx_iff_getElem]
      refine ⟨i, by rw [List.length_set]; exact hi, e2, ?_⟩
      rw [List.getElem_set_ne (fun h => e1 h.symm)]
theorem itM_all {l : List Box} (h : okAll l) : ∀ m, m + 1 ≤ l.length → okAll (itM m l) ∧ (itM m l).length + m = l.length
  | 0, _ => ⟨h, rfl⟩
  | m + 1, hm => by
    obtain ⟨h1, h2⟩ := itM_all h m (by omega)
    have h3 := sqz_len (l := itM m l) (by omega)
    exact ⟨sqz_ok h1 (by omega), by show (sqz (itM m l)).length + (m + 1) = l.length; omega⟩
theorem itM_within {l : List Box} (h : okAll l) {x : Box} (hx : x ∈ l) : ∀ m, m + 1 ≤ l.length → ∃ y ∈ itM m l, x.within y
  | 0, _ => ⟨x, hx, within_refl (h x hx)⟩
  | m + 1, hm => by
    obtain ⟨y, hy, hw⟩ := itM_within h hx m (by omega)
    obtain ⟨h1, h2⟩ := itM_all h m (by omega)
    obtain ⟨z, hz, hw2⟩ := sqz_within h1 (by omega) hy
    exact ⟨z, hz, within_trans hw hw2⟩
end Go.Proofs.Ytmpmggbcmioipaa
