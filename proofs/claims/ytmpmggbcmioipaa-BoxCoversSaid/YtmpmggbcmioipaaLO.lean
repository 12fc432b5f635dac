import Derived.Test.YtmpmggbcmioipaaLN
set_option linter.all false
namespace Go.Proofs.Ytmpmggbcmioipaa
open Go Go.K
set_option maxRecDepth 20000
set_option maxHeartbeats 4000000
def sumV : List Box → Int
  | [] => 0
  | b :: l => b.vol + sumV l
theorem sumV_append : ∀ (l m : List Box), sumV (l ++ m) = sumV l + sumV m
  | [], m => by simp [sumV]
  | a :: r, m => by simp only [List.cons_append, sumV, sumV_append r m]; omega
theorem sumV_bound : ∀ {l : List Box}, 0 ≤ sumV l ∧ sumV l ≤ 1125900980584704 * l.length
  | [] => by simp [sumV]
  | a :: r => by
    have ih := @sumV_bound r
    have := @vol_le a
    simp only [sumV, List.length_cons]
    omega
theorem mul3_eq {W H S w h c : Int} (h1 : 1 ≤ W) (h2 : W ≤ w) (h3 : 1 ≤ H) (h4 : H ≤ h) (h5 : 0 ≤ S) (h6 : S ≤ c) (h7 : 1 ≤ c) (e : W * H * S = w * h * c) : W = w ∧ H = h ∧ S = c := by
  have a1 : W * H ≤ w * h := Int.mul_le_mul h2 h4 (by omega) (by omega)
  have p1 : 1 ≤ W * H := by have := Int.mul_le_mul h1 h3 (by omega) (by omega); omega
  have a2 : W * H * S ≤ W * H * c := Int.mul_le_mul_of_nonneg_left h6 (by omega)
  have a3 : W * H * c ≤ w * h * c := Int.mul_le_mul_of_nonneg_right a1 (by omega)
  have e1 : W * H * S = W * H * c := by omega
  have e2 : W * H * c = w * h * c := by omega
  have f1 : S = c := Int.eq_of_mul_eq_mul_left (by omega) e1
  have f2 : W * H = w * h := Int.eq_of_mul_eq_mul_right (by omega) e2
  have b1 : W * H ≤ W * h := Int.mul_le_mul_of_nonneg_left h4 (by omega)
  have b2 : W * h ≤ w * h := Int.mul_le_mul_of_nonneg_right h2 (by omega)
  have f3 : H = h := Int.eq_of_mul_eq_mul_left (a := W) (by omega) (by omega)
  have f4 : W = w := Int.eq_of_mul_eq_mul_right (a := h) (by omega) (by omega)
  exact ⟨f4, f3, f1⟩
structure Meets (a b : Box) (L : List Box) : Prop where
  few : L.length ≤ 2
  oks : ∀ c ∈ L, c.within a ∧ c.within b
  cnt : ∀ p, L.countP (fun c => decide (c.has p)) = if a.has p ∧ b.has p then 1 else 0
  sum : a.within b ↔ (a.ok ∧ sumV L = a.vol)
theorem meets {a b : Box} : Meets a b (meetB a b) := by
  by_cases h : ¬ a.ok ∨ ¬ b.ok ∨ min a.x1 b.x1 < max a.x0 b.x0 ∨ min a.y1 b.y1 < max a.y0 b.y0
  · rw [meetB_none h]
    refine ⟨by simp, by simp, fun p => ?_, ?_⟩
    · rw [if_neg]; rfl
      rintro ⟨⟨h1, h2, h3, h4, h5, _⟩, ⟨k1, k2, k3, k4, k5, _⟩⟩
      rcases h with h | h | h | h
      · exact h h1
      · exact h k1
      · omega
      · omega
    · constructor
      · rintro ⟨h1, h2, h3, h4, h5, h6, _⟩
        obtain ⟨q1, q2, q3, q4, q5, q6, q7⟩ := id h1
        rcases h with h | h | h | h
        · exact absurd h1 h
        · exact absurd h2 h
        · omega
        · omega
      · rintro ⟨h1, h2⟩
        have := vol_pos h1
        simp only [sumV] at h2; omega
  · rw [meetB_some h]
    have ha : a.ok := Classical.byContradiction fun k => h (.inl k)
    have hb : b.ok := Classical.byContradiction fun k => h (.inr (.inl k))
    have hx : max a.x0 b.x0 ≤ min a.x1 b.x1 := by have := fun k => h (.inr (.inr (.inl k))); omega
    have hy : max a.y0 b.y0 ≤ min a.y1 b.y1 := by have := fun k => h (.inr (.inr (.inr k))); omega
    have few := meet_few a.arc b.arc ha.2.2.2.2.2.2 hb.2.2.2.2.2.2
    have oks : ∀ r ∈ meetM a.arc b.arc, r.ok := meet_ok (both_per a.arc b.arc)
    have cov := cover (both_per a.arc b.arc)
    have isum := @inside_sum a.arc b.arc ha.2.2.2.2.2.2
    have sle := @sum_le a.arc b.arc ha.2.2.2.2.2.2
    have em : meetP (both a.arc b.arc) = meetM a.arc b.arc := rfl
    rw [em] at cov
    have mok : ∀ r : Arc, r.ok → (mkB a b r).ok := by
      intro r hr
      obtain ⟨a1, a2, a3, a4, a5, a6, a7⟩ := ha
      obtain ⟨b1, b2, b3, b4, b5, b6, b7⟩ := hb
      refine ⟨?_, ?_, ?_, ?_, ?_, ?_, hr⟩ <;> simp only [mkB] <;> omega
    have inn : ∀ r ∈ meetM a.arc b.arc, ∀ x, r.mem x = true → both a.arc b.arc x = true := by
      intro r hr x hx
      have := cov x
      cases hbo : both a.arc b.arc x with
      | true => rfl
      | false =>
        rw [hbo] at this
        simp only [Bool.false_eq_true, if_false, List.countP_eq_zero] at this
        exact absurd hx (this r hr)
    have hasr : ∀ r : Arc, r.ok → ∀ p : Pose, (mkB a b r).has p ↔ (max a.x0 b.x0 ≤ p.x ∧ p.x ≤ min a.x1 b.x1 ∧ max a.y0 b.y0 ≤ p.y ∧ p.y ≤ min a.y1 b.y1 ∧ r.mem p.h = true) :=
      fun r hr p => ⟨fun k => k.2, fun k => ⟨mok r hr, k⟩⟩
    generalize meetM a.arc b.arc = L at *
    refine ⟨by rw [List.length_map]; exact few, ?_, ?_, ?_⟩
    · intro c hc
      obtain ⟨r, hr, rfl⟩ := List.mem_map.1 hc
      have ok := mok r (oks r hr)
      have ii := inn r hr
      constructor
      · rw [within_iff ok]
        refine ⟨ha, ?_, ?_, ?_, ?_, fun x hx => ?_⟩
        · simp only [mkB]; omega
        · simp only [mkB]; omega
        · simp only [mkB]; omega
        · simp only [mkB]; omega
        · have := ii x hx; simp only [both, Bool.and_eq_true] at this; exact this.1
      · rw [within_iff ok]
        refine ⟨hb, ?_, ?_, ?_, ?_, fun x hx => ?_⟩
        · simp only [mkB]; omega
        · simp only [mkB]; omega
        · simp only [mkB]; omega
        · simp only [mkB]; omega
        · have := ii x hx; simp only [both, Bool.and_eq_true] at this; exact this.2
    · intro p
      rw [List.countP_map]
      by_cases hin : max a.x0 b.x0 ≤ p.x ∧ p.x ≤ min a.x1 b.x1 ∧ max a.y0 b.y0 ≤ p.y ∧ p.y ≤ min a.y1 b.y1
      · have e : L.countP ((fun c => decide (c.has p)) ∘ mkB a b) = L.countP (fun r => r.mem p.h) := by
          apply List.countP_congr
          intro r hr
          simp only [Function.comp, decide_eq_true_eq]
          rw [hasr r (oks r hr) p]
          exact ⟨fun k => k.2.2.2.2, fun k => ⟨hin.1, hin.2.1, hin.2.2.1, hin.2.2.2, k⟩⟩
        rw [e, cov]
        obtain ⟨i1, i2, i3, i4⟩ := hin
        by_cases hbo : both a.arc b.arc p.h = true
        · rw [if_pos hbo, if_pos]
          simp only [both, Bool.and_eq_true] at hbo
          exact ⟨⟨ha, by omega, by omega, by omega, by omega, hbo.1⟩, ⟨hb, by omega, by omega, by omega, by omega, hbo.2⟩⟩
        · rw [if_neg hbo, if_neg]
          rintro ⟨k1, k2⟩
          apply hbo
          simp only [both, Bool.and_eq_true]
          exact ⟨k1.2.2.2.2.2, k2.2.2.2.2.2⟩
      · rw [if_neg, List.countP_eq_zero]
        · intro r hr
          simp only [Function.comp, decide_eq_true_eq]
          rw [hasr r (oks r hr) p]
          rintro ⟨k1, k2, k3, k4, k5⟩
          exact hin ⟨k1, k2, k3, k4⟩
        · rintro ⟨⟨_, k2, k3, k4, k5, _⟩, ⟨_, l2, l3, l4, l5, _⟩⟩
          exact hin ⟨by omega, by omega, by omega, by omega⟩
    · have hs : sumV (L.map (mkB a b)) = (min a.x1 b.x1 - max a.x0 b.x0 + 1) * (min a.y1 b.y1 - max a.y0 b.y0 + 1) * sumC L := by
        clear few inn cov isum sle em
        induction L with
        | nil => simp [sumV, sumC]
        | cons r l ih =>
          have hr := oks r (List.mem_cons_self ..)
          simp only [List.map_cons, sumV, sumC]
          rw [ih fun x hx => oks x (List.mem_cons_of_mem _ hx), vol_is (mok r hr)]
          exact (Int.mul_add _ _ _).symm
      have sb := sumC_bound oks
      have va := vol_is ha
      rw [hs, va, within_iff ha]
      have hic : insideA a.arc b.arc ↔ sumC L = a.c := isum.symm
      have sle' : sumC L ≤ a.c := sle
      rw [hic]
      obtain ⟨a1, a2, a3, a4, a5, a6, a7⟩ := id ha
      have a8 : 1 ≤ a.c := a7.2.2.1
      constructor
      · rintro ⟨_, k1, k2, k3, k4, k5⟩
        refine ⟨ha, ?_⟩
        rw [k5]
        have e1 : min a.x1 b.x1 - max a.x0 b.x0 + 1 = bw a := by unfold bw; omega
        have e2 : min a.y1 b.y1 - max a.y0 b.y0 + 1 = bh a := by unfold bh; omega
        rw [e1, e2]
      · rintro ⟨_, k⟩
        obtain ⟨e1, e2, e3⟩ := mul3_eq (by omega) (by unfold bw; omega) (by omega) (by unfold bh; omega) sb.1 sle' a8 k
        unfold bw at e1
        unfold bh at e2
        exact ⟨hb, by omega, by omega, by omega, by omega, e3⟩
end Go.Proofs.Ytmpmggbcmioipaa
