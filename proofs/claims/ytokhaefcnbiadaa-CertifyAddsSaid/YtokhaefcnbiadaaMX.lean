import Derived.Test.YtokhaefcnbiadaaMW
import Derived.Test.YtokhaefcnbiadaaPI
set_option linter.all false
namespace Go.Proofs.Ytokhaefcnbiadaa
open Go Go.K
/-! ### plain: a bound is not below a score -/
theorem smN_mono {g k : Nat → Int} : ∀ n : Nat, (∀ i, i < n → g i ≤ k i) → smN g n ≤ smN k n
  | 0, _ => Int.le_refl _
  | n + 1, h => by
    have h1 := smN_mono n fun i hi => h i (by omega)
    have h2 := h n (by omega)
    show smN g n + g n ≤ smN k n + k n
    omega
theorem far_no {x : Int} (h : -32768 ≤ x ∧ x ≤ 32768) : farM x = false := by
  unfold farM
  rw [Bool.or_eq_false_iff, decide_eq_false_iff_not, decide_eq_false_iff_not]; omega
theorem maxM_at {f : Fld} {l x y : Int} (h0 : 0 ≤ l) (h6 : l ≤ 6) (hx : -32768 ≤ x ∧ x ≤ 32768) (hy : -32768 ≤ y ∧ y ≤ 32768) : maxM f l x y = atM (lvf f l.toNat) x y := by
  unfold maxM
  rw [if_neg]
  rw [far_no hx, far_no hy]
  simp
  omega
theorem max_le {f : Fld} (h : f.ok) (hb : bytesL f.v) {l x y u v : Int} (h0 : 0 ≤ l) (h6 : l ≤ 6) (hx : -32000 ≤ x ∧ x ≤ 32000) (hy : -32000 ≤ y ∧ y ≤ 32000) (hu : x ≤ u ∧ u < x + szM l) (hv : y ≤ v ∧ v < y + szM l) : maxM f 0 u v ≤ maxM f l x y := by
  have hz := sz_in h0 h6
  rw [maxM_at h0 h6 (by omega) (by omega), maxM_at (by omega) (by omega) (by omega) (by omega)]
  have s1 := lvf_max h hb l.toNat x y
  have s0 := lvf_max h hb 0 u v
  rcases s0.att with e | ⟨i, j, i0, i1, j0, j1, e⟩
  · rw [show (0 : Int).toNat = 0 from rfl, e]; exact s1.pos
  · rw [show (0 : Int).toNat = 0 from rfl, ← e]
    have e1 : (2 : Int) ^ 0 = 1 := rfl
    rw [e1] at i1 j1
    have es : (2 : Int) ^ l.toNat = szM l := rfl
    have := s1.all (u + i - x) (v + j - y) (by omega) (by omega) (by omega) (by omega)
    rwa [show x + (u + i - x) = u + i by omega, show y + (v + j - y) = v + j by omega] at this
theorem bound_le {p : Prob} (h : p.ok) (hb : bytesL p.f.v) {b : Blc} (hk : blkOk p b) {c : Cnd} (hc : inW p c) (hm : belM b c) : boundM p (toB c) ≤ boundM p b := by
  obtain ⟨m1, m2, m3, m4, m5⟩ := hm
  obtain ⟨⟨c1, c2, c3, c4, c5, c6⟩, l0, l6⟩ := hk
  obtain ⟨d1, d2, d3, d4, d5, d6⟩ := hc
  simp only at c1 c2 c3 c4 c5 c6
  have hr := h.2.2.2.2.2.1
  have e : endsM p (toB c).k = endsM p b.k := by show endsM p c.k = _; rw [m1]
  unfold boundM boundN
  rw [e]
  refine smN_mono _ fun i _ => ?_
  have he := ends_at h b.k i
  unfold cellB
  show maxM p.f 0 (_ + c.x) (_ + c.y) ≤ _
  exact max_le h.1 hb l0 l6 (by omega) (by omega) (by omega) (by omega)
theorem belC_pos {bl : List Blc} {c : Cnd} : ∀ {n : Nat}, 1 ≤ belC bl c n → ∃ k, k < n ∧ belM (bl.getD k Blc.z) c
  | 0, h => absurd h (by unfold belC; omega)
  | n + 1, h => by
    by_cases hm : belM (bl.getD n Blc.z) c
    · exact ⟨n, by omega, hm⟩
    · unfold belC at h
      rw [if_neg hm] at h
      obtain ⟨k, k1, k2⟩ := belC_pos (n := n) (by omega)
      exact ⟨k, by omega, k2⟩
theorem bef_corner {b : Blc} {c d : Cnd} (hm : belM b c) (h : befM c d) : befM ⟨b.k, b.y, b.x⟩ d := by
  obtain ⟨m1, m2, m3, m4, m5⟩ := hm
  unfold befM at *
  simp only
  omega
/-- The certificate is accepted. -/
structure Good (p : Prob) (m : Mat) : Prop where
  ok : allOk p m
  pa : partM p m.l = true
  no : noBad p m
theorem check_zero {p : Prob} {m : Mat} : checkM p m = 0 ↔ p.ok ∧ inW p m.b ∧ (poseOk p m ∧ m.sc = boundM p (toB m.b)) ∧ (m.l.length : Int) ≤ 16384 ∧ Good p m := by
  unfold checkM
  by_cases h1 : p.ok
  · rw [if_pos h1]
    by_cases h2 : inW p m.b
    · rw [if_pos h2]
      unfold check1
      by_cases h3 : poseOk p m ∧ m.sc = boundM p (toB m.b)
      · rw [if_pos h3]
        unfold check2
        by_cases h4 : (m.l.length : Int) ≤ 16384
        · rw [if_pos h4]
          unfold check3
          by_cases h5 : allOk p m
          · rw [if_pos h5]
            by_cases h6 : partM p m.l = true
            · rw [if_pos h6]
              by_cases h7 : noBad p m
              · rw [if_pos h7]; exact ⟨fun _ => ⟨h1, h2, h3, h4, h5, h6, h7⟩, fun _ => rfl⟩
              · rw [if_neg h7]; exact ⟨fun h => (by cases h), fun h => absurd h.2.2.2.2.no h7⟩
            · rw [if_neg h6]; exact ⟨fun h => (by cases h), fun h => absurd h.2.2.2.2.pa h6⟩
          · rw [if_neg h5]; exact ⟨fun h => (by cases h), fun h => absurd h.2.2.2.2.ok h5⟩
        · rw [if_neg h4]; exact ⟨fun h => (by cases h), fun h => absurd h.2.2.2.1 h4⟩
      · rw [if_neg h3]; exact ⟨fun h => (by cases h), fun h => absurd h.2.2.1 h3⟩
    · rw [if_neg h2]; exact ⟨fun h => (by cases h), fun h => absurd h.2.1 h2⟩
  · rw [if_neg h1]; exact ⟨fun h => (by cases h), fun h => absurd h.1 h1⟩
theorem check_11 {p : Prob} {m : Mat} (h1 : p.ok) (h2 : inW p m.b) (h3 : poseOk p m ∧ m.sc = boundM p (toB m.b)) (h4 : (m.l.length : Int) ≤ 16384) (h5 : allOk p m) (h6 : ¬ partM p m.l = true) : checkM p m = 11 := by
  unfold checkM check1 check2
  rw [if_pos h1, if_pos h2, if_pos h3, if_pos h4]
  exact check3_11 h5 h6
theorem sound {p : Prob} {m : Mat} {c : Cnd} (h : p.ok) (hb : bytesL p.f.v) (ha : allOk p m) (hp : partM p m.l = true) (hn : noBad p m) (hc : inW p c) : boundM p (toB c) < m.sc ∨ boundM p (toB c) = m.sc ∧ ¬ befM c m.b := by
  obtain ⟨j, hj, rfl⟩ := in_cnd h hc
  obtain ⟨k, hk, hm⟩ := belC_pos (by rw [(part_one h ha).1 hp j hj]; exact Nat.le_refl _)
  have h1 := bound_le h hb (ha k hk) hc hm
  have h2 := hn k hk
  unfold badB at h2
  by_cases hlt : boundM p (toB (cndAt p j)) < m.sc
  · exact .inl hlt
  · right
    have h3 : ¬ m.sc < boundM p (m.l.getD k Blc.z) := fun h => h2 (.inl h)
    exact ⟨by omega, fun hbf => h2 (.inr ⟨by omega, bef_corner hm hbf⟩)⟩
end Go.Proofs.Ytokhaefcnbiadaa
