set_option linter.all false
namespace Go.Proofs.Ytmpmggbcmioipaa
structure Vec where
  (x y d : Int)
def Vec.ok (v : Vec) : Prop := 1 ≤ v.d ∧ v.d ≤ 67108864 ∧ -v.d ≤ v.x ∧ v.x ≤ v.d ∧ -v.d ≤ v.y ∧ v.y ≤ v.d ∧ v.x * v.x + v.y * v.y = v.d * v.d
instance decVecOk (v : Vec) : Decidable v.ok := by unfold Vec.ok; infer_instance
instance decVecEq : DecidableEq Vec := fun a b => if h : a.x = b.x ∧ a.y = b.y ∧ a.d = b.d then .isTrue (by cases a; cases b; simp_all) else .isFalse (fun e => h (by subst e; exact ⟨rfl, rfl, rfl⟩))
def g3 (x y d : Int) : Nat := Nat.gcd (Nat.gcd d.natAbs x.natAbs) y.natAbs
def low (x y d : Int) : Vec := ⟨x / g3 x y d, y / g3 x y d, d / g3 x y d⟩
theorem sq_nonneg (a : Int) : 0 ≤ a * a := by
  rcases Int.le_total 0 a with h | h
  · exact Int.mul_nonneg h h
  · exact Int.mul_nonneg_of_nonpos_of_nonpos h h
theorem sq_lt {a b : Int} (h0 : 0 ≤ a) (h : a < b) : a * a < b * b := by
  have h1 : a * a ≤ a * b := Int.mul_le_mul_of_nonneg_left (by omega) h0
  have h2 : a * b < b * b := Int.mul_lt_mul_of_pos_right h (by omega)
  omega
theorem g3_x (x y d : Int) : (g3 x y d : Int) ∣ x := Int.ofNat_dvd_left.2 (Nat.dvd_trans (Nat.gcd_dvd_left _ _) (Nat.gcd_dvd_right _ _))
theorem g3_y (x y d : Int) : (g3 x y d : Int) ∣ y := Int.ofNat_dvd_left.2 (Nat.gcd_dvd_right _ _)
theorem g3_d (x y d : Int) : (g3 x y d : Int) ∣ d := Int.ofNat_dvd_left.2 (Nat.dvd_trans (Nat.gcd_dvd_left _ _) (Nat.gcd_dvd_left _ _))
theorem g3_greatest {x y d : Int} {k : Nat} (hx : (k : Int) ∣ x) (hy : (k : Int) ∣ y) (hd : (k : Int) ∣ d) : k ∣ g3 x y d :=
  Nat.dvd_gcd (Nat.dvd_gcd (Int.ofNat_dvd_left.1 hd) (Int.ofNat_dvd_left.1 hx)) (Int.ofNat_dvd_left.1 hy)
theorem g3_pos {x y d : Int} (hd : 0 < d) : 0 < g3 x y d := Nat.gcd_pos_of_pos_left _ (Nat.gcd_pos_of_pos_left _ (by omega))
theorem g3_mul (k : Nat) (x y d : Int) : g3 (k * x) (k * y) (k * d) = k * g3 x y d := by
  unfold g3
  simp only [Int.natAbs_mul, Int.natAbs_natCast, Nat.gcd_mul_left]
/-- in lowest terms -/
structure Vec.Low (v : Vec) : Prop where
  pos : 0 < v.d
  one : g3 v.x v.y v.d = 1
theorem low_spec {x y d : Int} (hd : 0 < d) : (low x y d).Low ∧ x = g3 x y d * (low x y d).x ∧ y = g3 x y d * (low x y d).y ∧ d = g3 x y d * (low x y d).d := by
  have hg : (0 : Int) < g3 x y d := by have := g3_pos (x := x) (y := y) hd; omega
  have ex := Int.mul_ediv_cancel' (g3_x x y d)
  have ey := Int.mul_ediv_cancel' (g3_y x y d)
  have ed := Int.mul_ediv_cancel' (g3_d x y d)
  refine ⟨⟨?_, ?_⟩, ex.symm, ey.symm, ed.symm⟩
  · show 0 < d / (g3 x y d : Int)
    refine Int.pos_of_mul_pos_right (a := (g3 x y d : Int)) ?_ hg
    rw [ed]; exact hd
  · show g3 (x / g3 x y d) (y / g3 x y d) (d / g3 x y d) = 1
    have := g3_mul (g3 x y d) (x / g3 x y d) (y / g3 x y d) (d / g3 x y d)
    rw [ex, ey, ed] at this
    have hp : 0 < g3 x y d := by omega
    exact Nat.eq_of_mul_eq_mul_left hp (by omega)
theorem low_unique {v w : Vec} (hv : v.Low) (hw : w.Low) (hx : v.x * w.d = w.x * v.d) (hy : v.y * w.d = w.y * v.d) : v = w := by
  have side : ∀ {v w : Vec}, v.Low → w.Low → v.x * w.d = w.x * v.d → v.y * w.d = w.y * v.d → v.d ∣ w.d := by
    intro v w hv hw hx hy
    have p1 := hv.pos; have p2 := hw.pos
    obtain ⟨m, hm⟩ : ∃ m : Nat, v.d = m := ⟨v.d.toNat, by omega⟩
    obtain ⟨n, hn⟩ : ∃ n : Nat, w.d = n := ⟨w.d.toNat, by omega⟩
    have h1 : (m : Int) ∣ n * v.x := ⟨w.x, by rw [← hm, ← hn, Int.mul_comm, hx, Int.mul_comm]⟩
    have h2 : (m : Int) ∣ n * v.y := ⟨w.y, by rw [← hm, ← hn, Int.mul_comm, hy, Int.mul_comm]⟩
    have h3 : (m : Int) ∣ n * v.d := ⟨n, by rw [hm, Int.mul_comm]⟩
    have := g3_greatest h1 h2 h3
    rw [g3_mul, hv.one, Nat.mul_one] at this
    rw [hm, hn]
    exact Int.natCast_dvd_natCast.2 this
  have d1 := side hv hw hx hy
  have d2 := side hw hv hx.symm hy.symm
  have p1 := hv.pos; have p2 := hw.pos
  have ed : v.d = w.d := Int.dvd_antisymm (by omega) (by omega) d1 d2
  have ex : v.x = w.x := Int.eq_of_mul_eq_mul_right (a := w.d) (by omega) (by rw [hx, ed])
  have ey : v.y = w.y := Int.eq_of_mul_eq_mul_right (a := w.d) (by omega) (by rw [hy, ed])
  cases v; cases w; simp_all
theorem low_eq {x y d a b c : Int} (hd : 0 < d) (hc : 0 < c) (hx : x * c = a * d) (hy : y * c = b * d) : low x y d = low a b c := by
  obtain ⟨h1, e1, e2, e3⟩ := low_spec (x := x) (y := y) hd
  obtain ⟨h2, f1, f2, f3⟩ := low_spec (x := a) (y := b) hc
  have hg : (0 : Int) < g3 x y d := by have := g3_pos (x := x) (y := y) hd; omega
  have hk : (0 : Int) < g3 a b c := by have := g3_pos (x := a) (y := b) hc; omega
  have hgk : (g3 x y d : Int) * g3 a b c ≠ 0 := Int.ne_of_gt (Int.mul_pos hg hk)
  generalize (g3 x y d : Int) = g at *
  generalize (g3 a b c : Int) = k at *
  refine low_unique h1 h2 ?_ ?_
  · refine Int.eq_of_mul_eq_mul_left hgk ?_
    have : x * c = g * (low x y d).x * (k * (low a b c).d) := by rw [← e1, ← f3]
    have : a * d = k * (low a b c).x * (g * (low x y d).d) := by rw [← f1, ← e3]
    grind
  · refine Int.eq_of_mul_eq_mul_left hgk ?_
    have : y * c = g * (low x y d).y * (k * (low a b c).d) := by rw [← e2, ← f3]
    have : b * d = k * (low a b c).y * (g * (low x y d).d) := by rw [← f2, ← e3]
    grind
/-- the rational point of a vector in lowest terms is that of the vector -/
theorem low_ratio {x y d : Int} (hd : 0 < d) : (low x y d).x * d = x * (low x y d).d ∧ (low x y d).y * d = y * (low x y d).d := by
  obtain ⟨h1, e1, e2, e3⟩ := low_spec (x := x) (y := y) hd
  generalize (g3 x y d : Int) = g at *
  generalize low x y d = v at *
  constructor
  · rw [e3, e1]; grind
  · rw [e3, e2]; grind
theorem low_le {x y d : Int} (hd : 0 < d) : 1 ≤ (low x y d).d ∧ (low x y d).d ≤ d := by
  obtain ⟨h1, e1, e2, e3⟩ := low_spec (x := x) (y := y) hd
  have hg : (0 : Int) < g3 x y d := by have := g3_pos (x := x) (y := y) hd; omega
  have hp := h1.pos
  refine ⟨by omega, ?_⟩
  generalize (g3 x y d : Int) = g at *
  generalize low x y d = v at *
  rw [e3]
  have := Int.mul_le_mul_of_nonneg_right (show 1 ≤ g by omega) (show 0 ≤ v.d by omega)
  rw [Int.one_mul] at this; exact this
theorem low_circle {x y d : Int} (hd : 0 < d) (h : x * x + y * y = d * d) : (low x y d).x * (low x y d).x + (low x y d).y * (low x y d).y = (low x y d).d * (low x y d).d := by
  obtain ⟨h1, e1, e2, e3⟩ := low_spec (x := x) (y := y) hd
  have hg : (0 : Int) < g3 x y d := by have := g3_pos (x := x) (y := y) hd; omega
  generalize (g3 x y d : Int) = g at *
  generalize low x y d = v at *
  refine Int.eq_of_mul_eq_mul_left (a := g * g) (Int.ne_of_gt (Int.mul_pos hg hg)) ?_
  rw [e1, e2, e3] at h
  grind
/-- what lies on the circle is bounded -/
theorem circle_le {x y d : Int} (hd : 0 ≤ d) (h : x * x + y * y = d * d) : -d ≤ x ∧ x ≤ d := by
  have key : ∀ {x y d : Int}, 0 ≤ d → x * x + y * y = d * d → x ≤ d := by
    intro x y d hd h
    apply Int.not_lt.1
    intro hc
    have h1 : d * d ≤ d * x := Int.mul_le_mul_of_nonneg_left (by omega) hd
    have h2 : d * x < x * x := Int.mul_lt_mul_of_pos_right hc (by omega)
    have h3 : 0 ≤ y * y := sq_nonneg _
    omega
  refine ⟨?_, key hd h⟩
  have := key (x := -x) (y := y) hd (by rw [Int.neg_mul_neg]; exact h)
  omega
theorem low_ok {v : Vec} (h : v.ok) : (low v.x v.y v.d).ok := by
  obtain ⟨h1, h2, h3, h4, h5, h6, h7⟩ := h
  have hc := low_circle (by omega) h7
  have hl := low_le (x := v.x) (y := v.y) (d := v.d) (by omega)
  have b1 := circle_le (by omega) hc
  have b2 := circle_le (x := (low v.x v.y v.d).y) (y := (low v.x v.y v.d).x) (d := (low v.x v.y v.d).d) (by omega) (by rw [Int.add_comm]; exact hc)
  exact ⟨hl.1, by omega, b1.1, b1.2, b2.1, b2.2, hc⟩

/-! ### turning -/
def mulV (a b : Vec) : Vec := ⟨a.x * b.x - a.y * b.y, a.x * b.y + a.y * b.x, a.d * b.d⟩
def lowV (v : Vec) : Vec := low v.x v.y v.d
theorem mul_circle {a b : Vec} (ha : a.x * a.x + a.y * a.y = a.d * a.d) (hb : b.x * b.x + b.y * b.y = b.d * b.d) : (mulV a b).x * (mulV a b).x + (mulV a b).y * (mulV a b).y = (mulV a b).d * (mulV a b).d := by
  simp only [mulV]; grind
theorem mul_comm' (a b : Vec) : mulV a b = mulV b a := by simp only [mulV, Vec.mk.injEq]; refine ⟨?_, ?_, ?_⟩ <;> grind
theorem mul_assoc' (a b c : Vec) : mulV (mulV a b) c = mulV a (mulV b c) := by simp only [mulV, Vec.mk.injEq]; refine ⟨?_, ?_, ?_⟩ <;> grind
theorem lowV_mul {p w : Vec} (hp : 0 < p.d) (hw : 0 < w.d) : lowV (mulV (lowV p) w) = lowV (mulV p w) := by
  obtain ⟨h1, e1, e2, e3⟩ := low_spec (x := p.x) (y := p.y) hp
  have hl := low_le (x := p.x) (y := p.y) hp
  have e : low p.x p.y p.d = lowV p := rfl
  have hr := low_ratio (x := p.x) (y := p.y) hp
  rw [e] at hr hl h1
  obtain ⟨r1, r2⟩ := hr
  refine low_eq ?_ ?_ ?_ ?_
  · exact Int.mul_pos (by omega) hw
  · exact Int.mul_pos hp hw
  · simp only [mulV]; grind
  · simp only [mulV]; grind

/-! ### comparing -/
def half (v : Vec) : Int := if v.y > 0 ∨ v.y = 0 ∧ v.x > 0 then 0 else 1
def cross (a b : Vec) : Int := a.x * b.y - a.y * b.x
def sgn3 (a b : Int) : Int := if a < b then -1 else if b < a then 1 else 0
def cmpM (a b : Vec) : Int := if half a ≠ half b then sgn3 (half a) (half b) else - sgn3 (cross a b) 0
theorem cross_neg (a b : Vec) : cross b a = - cross a b := by unfold cross; grind
theorem cmp_anti (a b : Vec) : cmpM b a = - cmpM a b := by
  unfold cmpM
  rw [cross_neg a b]
  generalize half a = p
  generalize half b = q
  generalize cross a b = c
  unfold sgn3
  by_cases h1 : p = q
  · rw [if_neg (show ¬ q ≠ p by omega), if_neg (show ¬ p ≠ q by omega)]
    by_cases h2 : c < 0
    · rw [if_neg (show ¬ -c < 0 by omega), if_pos (show 0 < -c by omega), if_pos h2]; omega
    · by_cases h3 : 0 < c
      · rw [if_pos (show -c < 0 by omega), if_neg h2, if_pos h3]
      · rw [if_neg (show ¬ -c < 0 by omega), if_neg (show ¬ 0 < -c by omega), if_neg h2, if_neg h3]; omega
  · rw [if_pos (show q ≠ p by omega), if_pos (show p ≠ q by omega)]
    by_cases h2 : p < q
    · rw [if_neg (show ¬ q < p by omega), if_pos h2, if_pos h2]; omega
    · rw [if_pos (show q < p by omega), if_neg h2, if_pos (show q < p by omega)]
theorem trans0 {a b c : Vec} (ha : a.y > 0 ∨ a.y = 0 ∧ a.x > 0) (hb : b.y > 0 ∨ b.y = 0 ∧ b.x > 0) (hc : c.y > 0 ∨ c.y = 0 ∧ c.x > 0) (h1 : 0 ≤ cross a b) (h2 : 0 ≤ cross b c) : 0 ≤ cross a c := by
  rcases hb with hb | ⟨hb, hb2⟩
  · have e : cross a c * b.y = cross a b * c.y + cross b c * a.y := by unfold cross; grind
    have h3 : 0 ≤ cross a b * c.y := Int.mul_nonneg h1 (by omega)
    have h4 : 0 ≤ cross b c * a.y := Int.mul_nonneg h2 (by omega)
    apply Int.not_lt.1
    intro hn
    have : cross a c * b.y < 0 := Int.mul_neg_of_neg_of_pos hn hb
    omega
  · have e : cross a b = - (a.y * b.x) := by unfold cross; rw [hb]; grind
    have h3 : a.y = 0 := by
      rcases ha with ha | ha
      · have := Int.mul_pos ha hb2; omega
      · exact ha.1
    have e2 : cross a c = a.x * c.y := by unfold cross; rw [h3]; grind
    rw [e2]
    exact Int.mul_nonneg (by omega) (by omega)
def negV (v : Vec) : Vec := ⟨-v.x, -v.y, v.d⟩
theorem cross_negV (a b : Vec) : cross (negV a) (negV b) = cross a b := by unfold cross negV; grind
theorem not_zero {v : Vec} (h : v.ok) : v.x ≠ 0 ∨ v.y ≠ 0 := by
  obtain ⟨h1, h2, h3, h4, h5, h6, h7⟩ := h
  by_cases hx : v.x = 0
  · right
    intro hy
    rw [hx, hy] at h7
    have := Int.mul_pos (show 0 < v.d by omega) (show 0 < v.d by omega)
    omega
  · exact .inl hx
theorem trans_same {a b c : Vec} (ha : a.ok) (hb : b.ok) (hc : c.ok) (e1 : half a = half b) (e2 : half b = half c) (h1 : 0 ≤ cross a b) (h2 : 0 ≤ cross b c) : 0 ≤ cross a c := by
  have za := not_zero ha; have zb := not_zero hb; have zc := not_zero hc
  by_cases h : a.y > 0 ∨ a.y = 0 ∧ a.x > 0
  · have hb' : b.y > 0 ∨ b.y = 0 ∧ b.x > 0 := by
      unfold half at e1; rw [if_pos h] at e1; split at e1
      · assumption
      · omega
    have hc' : c.y > 0 ∨ c.y = 0 ∧ c.x > 0 := by
      unfold half at e2; rw [if_pos hb'] at e2; split at e2
      · assumption
      · omega
    exact trans0 h hb' hc' h1 h2
  · have hb' : ¬ (b.y > 0 ∨ b.y = 0 ∧ b.x > 0) := by
      unfold half at e1; rw [if_neg h] at e1; split at e1
      · omega
      · assumption
    have hc' : ¬ (c.y > 0 ∨ c.y = 0 ∧ c.x > 0) := by
      unfold half at e2; rw [if_neg hb'] at e2; split at e2
      · omega
      · assumption
    rw [← cross_negV]
    rw [← cross_negV] at h1 h2
    refine trans0 (b := negV b) ?_ ?_ ?_ h1 h2 <;> simp only [negV] <;> omega
theorem cmp_le_iff (a b : Vec) : cmpM a b ≤ 0 ↔ half a < half b ∨ (half a = half b ∧ 0 ≤ cross a b) := by
  unfold cmpM sgn3
  split <;> split <;> first | omega | (split <;> omega)
theorem cmp_trans {a b c : Vec} (ha : a.ok) (hb : b.ok) (hc : c.ok) (h1 : cmpM a b ≤ 0) (h2 : cmpM b c ≤ 0) : cmpM a c ≤ 0 := by
  rw [cmp_le_iff] at *
  rcases h1 with h1 | ⟨h1, k1⟩
  · left; rcases h2 with h2 | ⟨h2, k2⟩ <;> omega
  · rcases h2 with h2 | ⟨h2, k2⟩
    · left; omega
    · exact .inr ⟨h1.trans h2, trans_same ha hb hc h1 h2 k1 k2⟩
theorem cmp_zero_iff (a b : Vec) : cmpM a b = 0 ↔ half a = half b ∧ cross a b = 0 := by
  unfold cmpM sgn3
  split <;> split <;> first | omega | (split <;> omega)
theorem half_ratio {a b : Vec} (ha : 0 < a.d) (hb : 0 < b.d) (hx : a.x * b.d = b.x * a.d) (hy : a.y * b.d = b.y * a.d) : half a = half b ∧ cross a b = 0 := by
  have sg : ∀ {p q d e : Int}, 0 < d → 0 < e → p * e = q * d → (p > 0 ↔ q > 0) ∧ (p = 0 ↔ q = 0) := by
    intro p q d e hd he h
    constructor
    · constructor
      · intro hp
        apply Int.not_le.1; intro hq
        have := Int.mul_pos hp he
        have := Int.mul_nonpos_of_nonpos_of_nonneg hq (Int.le_of_lt hd)
        omega
      · intro hq
        apply Int.not_le.1; intro hp
        have := Int.mul_pos hq hd
        have := Int.mul_nonpos_of_nonpos_of_nonneg hp (Int.le_of_lt he)
        omega
    · constructor
      · intro hp; subst hp
        rw [Int.zero_mul] at h
        rcases Int.mul_eq_zero.1 h.symm with h | h
        · exact h
        · omega
      · intro hq; subst hq
        rw [Int.zero_mul] at h
        rcases Int.mul_eq_zero.1 h with h | h
        · exact h
        · omega
  obtain ⟨x1, x2⟩ := sg ha hb hx
  obtain ⟨y1, y2⟩ := sg ha hb hy
  constructor
  · unfold half; split <;> split <;> omega
  · refine Int.eq_of_mul_eq_mul_left (a := a.d * b.d) (Int.ne_of_gt (Int.mul_pos ha hb)) ?_
    unfold cross; grind
theorem ratio_of_cmp {a b : Vec} (ha : a.ok) (hb : b.ok) (h : cmpM a b = 0) : a.x * b.d = b.x * a.d ∧ a.y * b.d = b.y * a.d := by
  rw [cmp_zero_iff] at h
  obtain ⟨h1, h2⟩ := h
  have za := not_zero ha; have zb := not_zero hb
  obtain ⟨a1, a2, a3, a4, a5, a6, a7⟩ := ha
  obtain ⟨b1, b2, b3, b4, b5, b6, b7⟩ := hb
  have hc : a.x * b.y = a.y * b.x := by unfold cross at h2; omega
  have hdot : (a.x * b.x + a.y * b.y) * (a.x * b.x + a.y * b.y) = (a.d * b.d) * (a.d * b.d) := by grind
  have hpos : 0 < a.d * b.d := Int.mul_pos (by omega) (by omega)
  have hdp : 0 ≤ a.x * b.x + a.y * b.y := by
    unfold half at h1
    by_cases h : a.y > 0 ∨ a.y = 0 ∧ a.x > 0
    · rw [if_pos h] at h1
      split at h1
      · rename_i hb'
        have hyy : 0 ≤ a.y * b.y := Int.mul_nonneg (by omega) (by omega)
        rcases h with h | ⟨h, h'⟩
        · rcases hb' with hb' | ⟨hb', hb''⟩
          · have : 0 ≤ a.x * b.x := by
              apply Int.not_lt.1; intro hn
              have k1 : (a.x * b.x) * (a.y * b.y) < 0 := Int.mul_neg_of_neg_of_pos hn (Int.mul_pos h hb')
              have k2 : (a.x * b.x) * (a.y * b.y) = (a.x * b.y) * (a.x * b.y) := by grind
              have k3 : 0 ≤ (a.x * b.y) * (a.x * b.y) := sq_nonneg _
              omega
            omega
          · rw [hb', Int.mul_zero] at hc
            rcases Int.mul_eq_zero.1 hc.symm with hc | hc <;> omega
        · rcases hb' with hb' | ⟨hb', hb''⟩
          · rw [h, Int.zero_mul] at hc
            rcases Int.mul_eq_zero.1 hc with hc | hc <;> omega
          · have := Int.mul_pos h' hb''; omega
      · omega
    · rw [if_neg h] at h1
      split at h1
      · omega
      · rename_i hb'
        have hyy : 0 ≤ a.y * b.y := Int.mul_nonneg_of_nonpos_of_nonpos (by omega) (by omega)
        by_cases hay : a.y < 0
        · by_cases hby : b.y < 0
          · have : 0 ≤ a.x * b.x := by
              apply Int.not_lt.1; intro hn
              have k1 : (a.x * b.x) * (a.y * b.y) < 0 := Int.mul_neg_of_neg_of_pos hn (Int.mul_pos_of_neg_of_neg hay hby)
              have k2 : (a.x * b.x) * (a.y * b.y) = (a.x * b.y) * (a.x * b.y) := by grind
              have k3 : 0 ≤ (a.x * b.y) * (a.x * b.y) := sq_nonneg _
              omega
            omega
          · have hb0 : b.y = 0 := by omega
            rw [hb0, Int.mul_zero] at hc
            rcases Int.mul_eq_zero.1 hc.symm with hc | hc <;> omega
        · have ha0 : a.y = 0 := by omega
          rw [ha0, Int.zero_mul] at hc
          rcases Int.mul_eq_zero.1 hc with hc | hc
          · omega
          · have := Int.mul_pos_of_neg_of_neg (show a.x < 0 by omega) (show b.x < 0 by omega); omega
  have hd : a.x * b.x + a.y * b.y = a.d * b.d := by
    rcases Int.lt_trichotomy (a.x * b.x + a.y * b.y) (a.d * b.d) with hl | hl | hl
    · have := sq_lt hdp hl; omega
    · exact hl
    · have := sq_lt (by omega) hl; omega
  constructor
  · refine Int.eq_of_mul_eq_mul_left (a := b.d) (by omega) ?_; grind
  · refine Int.eq_of_mul_eq_mul_left (a := b.d) (by omega) ?_; grind
theorem cmp_zero_low {a b : Vec} (ha : a.ok) (hb : b.ok) : cmpM a b = 0 ↔ lowV a = lowV b := by
  have p1 : 0 < a.d := by have := ha.1; omega
  have p2 : 0 < b.d := by have := hb.1; omega
  constructor
  · intro h
    obtain ⟨h1, h2⟩ := ratio_of_cmp ha hb h
    exact low_eq p1 p2 h1 h2
  · intro h
    rw [cmp_zero_iff]
    have ra := low_ratio (x := a.x) (y := a.y) p1
    have rb := low_ratio (x := b.x) (y := b.y) p2
    have la := (low_le (x := a.x) (y := a.y) p1).1
    have e1 : low a.x a.y a.d = lowV a := rfl
    have e2 : low b.x b.y b.d = lowV b := rfl
    rw [e1] at ra la; rw [e2, ← h] at rb
    refine half_ratio p1 p2 ?_ ?_
    · refine Int.eq_of_mul_eq_mul_left (a := (lowV a).d) (by omega) ?_; grind
    · refine Int.eq_of_mul_eq_mul_left (a := (lowV a).d) (by omega) ?_; grind
end Go.Proofs.Ytmpmggbcmioipaa
