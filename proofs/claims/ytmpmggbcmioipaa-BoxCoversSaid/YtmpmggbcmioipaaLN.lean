import Derived.Test.YtmpmggbcmioipaaM2
set_option linter.all false
namespace Go.Proofs.Ytmpmggbcmioipaa
open Go Go.K
set_option maxRecDepth 20000
set_option maxHeartbeats 4000000
structure Halves (b c d : Box) : Prop where
  okc : c.ok
  okd : d.ok
  vol : c.vol + d.vol = b.vol
  cin : c.within b
  din : d.within b
  nil : meetB c d = []
  has : ∀ p, b.has p ↔ (c.has p ∨ d.has p)
  few : ∀ p, ¬ (c.has p ∧ d.has p)
theorem vol_is {b : Box} (h : b.ok) : b.vol = bw b * bh b * b.c := by unfold Box.vol; rw [if_pos h]; rfl
theorem meet_nil {a b : Arc} (h : ∀ x, ¬ (a.mem x = true ∧ b.mem x = true)) : meetM a b = [] := by
  match hm : meetM a b with
  | [] => rfl
  | r :: l =>
    have ok : r.ok := meet_ok (both_per a b) r (by have : r ∈ meetM a b := by rw [hm]; exact List.mem_cons_self ..
                                                   exact this)
    have hc := cover (both_per a b) r.f
    have e : meetP (both a b) = r :: l := hm
    obtain ⟨r1, r2, r3, r4, r5⟩ := ok
    have hr : r.mem r.f = true := by simp only [Arc.mem, decide_eq_true_eq]; omega
    rw [e, List.countP_cons, if_pos hr] at hc
    have hb : both a b r.f = false := by
      cases hb : both a b r.f with
      | false => rfl
      | true => simp only [both, Bool.and_eq_true] at hb; exact absurd hb (h _)
    rw [hb] at hc
    simp at hc
theorem half_mem {f c x : Int} (h1 : 1 ≤ c) (h2 : c ≤ 256) : (x - f) % 256 < c ↔ ((x - f) % 256 < c / 2 ∨ (x - (f + c / 2) % 256) % 256 < c - c / 2) := by
  have e : (x - (f + c / 2) % 256) % 256 = ((x - f) % 256 - c / 2) % 256 := by omega
  rw [e]
  have := Int.emod_nonneg (x - f) (show (256 : Int) ≠ 0 by decide)
  have := Int.emod_lt_of_pos (x - f) (show (0 : Int) < 256 by decide)
  generalize (x - f) % 256 = y at *
  by_cases hy : y < c / 2
  · have e2 : (y - c / 2) % 256 = y - c / 2 + 256 := by omega
    rw [e2]; omega
  · have e2 : (y - c / 2) % 256 = y - c / 2 := by omega
    rw [e2]; omega
theorem halves {b : Box} (h : b.ok) (h1 : ¬ b.one) : ∃ c d, splitM b = ⟨c, d, true⟩ ∧ Halves b c d := by
  have F := box_facts h
  have p1 := F.pw; have p2 := F.ph; have p3 := F.pc
  have no : ¬ (bw b = 1 ∧ bh b = 1 ∧ b.c = 1) := h1
  have hv := vol_is h
  have ex : bw b = b.x1 - b.x0 + 1 := rfl
  have ey : bh b = b.y1 - b.y0 + 1 := rfl
  have h' := h
  obtain ⟨a1, a2, a3, a4, a5, a6, c1, c2, c3, c4, c5⟩ := h
  simp only [Box.arc] at c1 c2 c3 c4 c5
  by_cases k2 : sy b ≤ sx b ∧ sh b ≤ sx b
  · have hw : 2 ≤ bw b := by
      obtain ⟨k3, k4⟩ := k2
      unfold sx sy at k3
      unfold sx sh at k4
      by_cases e1 : bw b = 1
      · rw [if_pos e1] at k3 k4
        have e2 : bh b = 1 := by
          by_cases e : bh b = 1
          · exact e
          · rw [if_neg e] at k3; omega
        have e3 : b.c = 1 := by
          by_cases e : b.c = 1
          · exact e
          · rw [if_neg e] at k4; omega
        exact absurd ⟨e1, e2, e3⟩ no
      · omega
    refine ⟨_, _, split_x h' h1 k2, ?_⟩
    have ok1 : (Box.mk b.x0 b.y0 (b.x0 + bw b / 2 - 1) b.y1 b.f b.c).ok := by
      refine ⟨?_, ?_, ?_, a4, a5, a6, c1, c2, c3, c4, c5⟩ <;> simp only <;> omega
    have ok2 : (Box.mk (b.x0 + bw b / 2) b.y0 b.x1 b.y1 b.f b.c).ok := by
      refine ⟨?_, ?_, ?_, a4, a5, a6, c1, c2, c3, c4, c5⟩ <;> simp only <;> omega
    refine ⟨ok1, ok2, ?_, ?_, ?_, ?_, ?_, ?_⟩
    · rw [vol_is ok1, vol_is ok2, hv]
      simp only [bw, bh]
      rw [← Int.add_mul, ← Int.add_mul]
      congr 2; omega
    · rw [within_iff ok1]; refine ⟨h', ?_, ?_, ?_, ?_, fun x hx => hx⟩ <;> simp only <;> omega
    · rw [within_iff ok2]; refine ⟨h', ?_, ?_, ?_, ?_, fun x hx => hx⟩ <;> simp only <;> omega
    · refine meetB_none (.inr (.inr (.inl ?_))); simp only; omega
    · intro p
      constructor
      · rintro ⟨_, m1, m2, m3, m4, m5⟩
        by_cases hx : p.x ≤ b.x0 + bw b / 2 - 1
        · exact .inl ⟨ok1, m1, hx, m3, m4, m5⟩
        · refine .inr ⟨ok2, ?_, m2, m3, m4, m5⟩; simp only; omega
      · rintro (⟨_, m1, m2, m3, m4, m5⟩ | ⟨_, m1, m2, m3, m4, m5⟩)
        · simp only at m1 m2; exact ⟨h', by omega, by omega, m3, m4, m5⟩
        · simp only at m1 m2; exact ⟨h', by omega, by omega, m3, m4, m5⟩
    · rintro p ⟨⟨_, m1, m2, _⟩, ⟨_, n1, n2, _⟩⟩
      simp only at m1 m2 n1 n2; omega
  · by_cases k3 : sh b ≤ sy b
    · have hw : 2 ≤ bh b := by
        unfold sx sy sh at k2
        unfold sy sh at k3
        by_cases e2 : bh b = 1
        · rw [if_pos e2] at k2 k3
          have e3 : b.c = 1 := by
            by_cases e : b.c = 1
            · exact e
            · rw [if_neg e] at k3; omega
          rw [if_pos e3] at k2
          split at k2 <;> omega
        · omega
      refine ⟨_, _, split_y h' h1 k2 k3, ?_⟩
      have ok1 : (Box.mk b.x0 b.y0 b.x1 (b.y0 + bh b / 2 - 1) b.f b.c).ok := by
        refine ⟨a1, a2, a3, ?_, ?_, ?_, c1, c2, c3, c4, c5⟩ <;> simp only <;> omega
      have ok2 : (Box.mk b.x0 (b.y0 + bh b / 2) b.x1 b.y1 b.f b.c).ok := by
        refine ⟨a1, a2, a3, ?_, ?_, ?_, c1, c2, c3, c4, c5⟩ <;> simp only <;> omega
      refine ⟨ok1, ok2, ?_, ?_, ?_, ?_, ?_, ?_⟩
      · rw [vol_is ok1, vol_is ok2, hv]
        simp only [bw, bh]
        rw [← Int.add_mul, ← Int.mul_add]
        congr 2; omega
      · rw [within_iff ok1]; refine ⟨h', ?_, ?_, ?_, ?_, fun x hx => hx⟩ <;> simp only <;> omega
      · rw [within_iff ok2]; refine ⟨h', ?_, ?_, ?_, ?_, fun x hx => hx⟩ <;> simp only <;> omega
      · refine meetB_none (.inr (.inr (.inr ?_))); simp only; omega
      · intro p
        constructor
        · rintro ⟨_, m1, m2, m3, m4, m5⟩
          by_cases hx : p.y ≤ b.y0 + bh b / 2 - 1
          · exact .inl ⟨ok1, m1, m2, m3, hx, m5⟩
          · refine .inr ⟨ok2, m1, m2, ?_, m4, m5⟩; simp only; omega
        · rintro (⟨_, m1, m2, m3, m4, m5⟩ | ⟨_, m1, m2, m3, m4, m5⟩)
          · simp only at m3 m4; exact ⟨h', m1, m2, by omega, by omega, m5⟩
          · simp only at m3 m4; exact ⟨h', m1, m2, by omega, by omega, m5⟩
      · rintro p ⟨⟨_, _, _, m1, m2, _⟩, ⟨_, _, _, n1, n2, _⟩⟩
        simp only at m1 m2 n1 n2; omega
    · have hw : 2 ≤ b.c := by
        unfold sy sh at k3
        by_cases e3 : b.c = 1
        · rw [if_pos e3] at k3
          split at k3 <;> omega
        · omega
      refine ⟨_, _, split_h h' h1 k2 k3, ?_⟩
      have ok1 : (Box.mk b.x0 b.y0 b.x1 b.y1 b.f (b.c / 2)).ok := by
        refine ⟨a1, a2, a3, a4, a5, a6, ?_, ?_, ?_, ?_, ?_⟩ <;> simp only [Box.arc] <;> omega
      have ok2 : (Box.mk b.x0 b.y0 b.x1 b.y1 ((b.f + b.c / 2) % 256) (b.c - b.c / 2)).ok := by
        refine ⟨a1, a2, a3, a4, a5, a6, ?_, ?_, ?_, ?_, ?_⟩ <;> simp only [Box.arc] <;> omega
      have mm : ∀ x, b.arc.mem x = true ↔ ((Arc.mk b.f (b.c / 2)).mem x = true ∨ (Arc.mk ((b.f + b.c / 2) % 256) (b.c - b.c / 2)).mem x = true) := by
        intro x
        simp only [Box.arc, Arc.mem, decide_eq_true_eq]
        exact Iff.trans decide_eq_true_iff (half_mem (x := x) (f := b.f) c3 c4)
      have mn : ∀ x, ¬ ((Arc.mk b.f (b.c / 2)).mem x = true ∧ (Arc.mk ((b.f + b.c / 2) % 256) (b.c - b.c / 2)).mem x = true) := by
        intro x
        simp only [Arc.mem, decide_eq_true_eq]
        omega
      refine ⟨ok1, ok2, ?_, ?_, ?_, ?_, ?_, ?_⟩
      · rw [vol_is ok1, vol_is ok2, hv]
        simp only [bw, bh]
        rw [← Int.mul_add]
        congr 1; omega
      · rw [within_iff ok1]; exact ⟨h', Int.le_refl _, Int.le_refl _, Int.le_refl _, Int.le_refl _, fun x hx => (mm x).2 (.inl hx)⟩
      · rw [within_iff ok2]; exact ⟨h', Int.le_refl _, Int.le_refl _, Int.le_refl _, Int.le_refl _, fun x hx => (mm x).2 (.inr hx)⟩
      · unfold meetB
        split
        · rfl
        · rw [show meetM (Box.mk b.x0 b.y0 b.x1 b.y1 b.f (b.c / 2)).arc (Box.mk b.x0 b.y0 b.x1 b.y1 ((b.f + b.c / 2) % 256) (b.c - b.c / 2)).arc = [] from meet_nil mn]; rfl
      · intro p
        constructor
        · rintro ⟨_, m1, m2, m3, m4, m5⟩
          rcases (mm p.h).1 m5 with m5 | m5
          · exact .inl ⟨ok1, m1, m2, m3, m4, m5⟩
          · exact .inr ⟨ok2, m1, m2, m3, m4, m5⟩
        · rintro (⟨_, m1, m2, m3, m4, m5⟩ | ⟨_, m1, m2, m3, m4, m5⟩)
          · exact ⟨h', m1, m2, m3, m4, (mm p.h).2 (.inl m5)⟩
          · exact ⟨h', m1, m2, m3, m4, (mm p.h).2 (.inr m5)⟩
      · rintro p ⟨⟨_, _, _, _, _, m5⟩, ⟨_, _, _, _, _, n5⟩⟩
        exact mn p.h ⟨m5, n5⟩
end Go.Proofs.Ytmpmggbcmioipaa
