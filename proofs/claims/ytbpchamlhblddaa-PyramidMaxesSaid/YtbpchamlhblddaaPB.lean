import Derived.Test.YtbpchamlhblddaaPA
set_option linter.all false
namespace Go.Proofs.Ytbpchamlhblddaa
/-! PLAIN: sums, peaks -/
def sumN (g : Nat → Int) : Nat → Int
  | 0 => 0
  | n + 1 => sumN g n + g n
theorem sumN_bound {g : Nat → Int} {m : Int} (hm : 0 ≤ m) : ∀ (n : Nat), (∀ i, i < n → 0 ≤ g i ∧ g i ≤ m) → 0 ≤ sumN g n ∧ sumN g n ≤ n * m
  | 0, _ => by simp [sumN]
  | n + 1, h => by
    have h1 := sumN_bound hm n fun i hi => h i (by omega)
    have h2 := h n (by omega)
    simp only [sumN]
    rw [show ((n + 1 : Nat) : Int) * m = n * m + m by rw [Int.natCast_add, Int.add_mul]; simp]
    omega
theorem sumN_congr {g k : Nat → Int} : ∀ (n : Nat), (∀ i, i < n → g i = k i) → sumN g n = sumN k n
  | 0, _ => rfl
  | n + 1, h => by simp only [sumN]; rw [sumN_congr n fun i hi => h i (by omega), h n (by omega)]
theorem sumN_add (g k : Nat → Int) : ∀ n : Nat, sumN (fun i => g i + k i) n = sumN g n + sumN k n
  | 0 => rfl
  | n + 1 => by simp only [sumN]; rw [sumN_add g k n]; omega
theorem sumN_zero : ∀ n : Nat, sumN (fun _ => 0) n = 0
  | 0 => rfl
  | n + 1 => by simp only [sumN]; rw [sumN_zero n]; rfl
/-- a part of the terms -/
theorem sumN_part (g : Nat → Int) {lo hi : Nat} (h : lo ≤ hi) : ∀ n : Nat, sumN (fun i => if lo ≤ i ∧ i < hi then g i else 0) n = sumN g (min n hi) - sumN g (min n lo)
  | 0 => by simp [sumN]
  | n + 1 => by
    have ih := sumN_part g h n
    simp only [sumN, ih]
    by_cases h1 : n < lo
    · rw [if_neg (by omega), show min (n + 1) hi = n + 1 by omega, show min n hi = n by omega, show min (n + 1) lo = n + 1 by omega, show min n lo = n by omega]
      simp only [sumN]; omega
    · by_cases h2 : n < hi
      · rw [if_pos (by omega), show min (n + 1) hi = n + 1 by omega, show min n hi = n by omega, show min (n + 1) lo = lo by omega, show min n lo = lo by omega]
        simp only [sumN]; omega
      · rw [if_neg (by omega), show min (n + 1) hi = hi by omega, show min n hi = hi by omega, show min (n + 1) lo = lo by omega, show min n lo = lo by omega]
        omega
theorem sumN_sub (g k : Nat → Int) (n : Nat) : sumN (fun i => g i - k i) n = sumN g n - sumN k n := by
  induction n with
  | zero => rfl
  | succ n ih => simp only [sumN]; rw [ih]; omega
theorem sumN_one (g : Nat → Int) {k : Nat} (hg : ∀ i, i ≠ k → g i = 0) : ∀ n : Nat, sumN g n = if k < n then g k else 0
  | 0 => rfl
  | n + 1 => by
    simp only [sumN]
    rw [sumN_one g hg n]
    by_cases h : k < n
    · rw [if_pos h, if_pos (by omega), hg n (by omega)]; omega
    · rw [if_neg h]
      by_cases h2 : k = n
      · subst h2; rw [if_pos (by omega)]; omega
      · rw [if_neg (by omega), hg n (by omega)]; omega
def Fld.W (f : Fld) : Nat := f.w.toNat
def Fld.H (f : Fld) : Nat := f.h.toNat
def cellV (f : Fld) (j i : Nat) : Int := f.v.getD (j * f.W + i) 0
def rowS (f : Fld) (j c : Nat) : Int := sumN (cellV f j) c
def preS (f : Fld) (r c : Nat) : Int := sumN (fun j => rowS f j c) r
theorem preS_zero_r (f : Fld) (c : Nat) : preS f 0 c = 0 := rfl
theorem preS_zero_c (f : Fld) (r : Nat) : preS f r 0 = 0 := sumN_zero r
theorem preS_step (f : Fld) (r c : Nat) : preS f (r + 1) (c + 1) = cellV f r c + preS f (r + 1) c + preS f r (c + 1) - preS f r c := by
  simp only [preS, sumN, rowS]; omega
theorem cell_byte {f : Fld} (h : bytesL f.v) (j i : Nat) : 0 ≤ cellV f j i ∧ cellV f j i ≤ 255 := getD_byte h _
theorem preS_bound {f : Fld} (h : bytesL f.v) {r c : Nat} (hr : r ≤ 64) (hc : c ≤ 64) : 0 ≤ preS f r c ∧ preS f r c ≤ 1044480 := by
  have h1 := sumN_bound (g := fun j => rowS f j c) (m := 16320) (by omega) r fun j _ => by
    have := sumN_bound (g := cellV f j) (m := 255) (by omega) c fun i _ => cell_byte h j i
    refine ⟨this.1, ?_⟩
    show sumN (cellV f j) c ≤ 16320
    omega
  unfold preS
  omega
/-! the sums that are kept -/
def sumsL (f : Fld) (i : Nat) : List Int := (List.range ((f.W + 1) * (f.H + 1))).map fun q =>
  if q / (f.W + 1) = 0 ∨ q % (f.W + 1) = 0 ∨ (q / (f.W + 1) - 1) * f.W + (q % (f.W + 1) - 1) < i then preS f (q / (f.W + 1)) (q % (f.W + 1)) else 0
theorem sumsL_len (f : Fld) (i : Nat) : (sumsL f i).length = (f.W + 1) * (f.H + 1) := by simp [sumsL]
theorem sumsL_get (f : Fld) (i : Nat) {q : Nat} (h : q < (f.W + 1) * (f.H + 1)) : (sumsL f i).getD q 0 = if q / (f.W + 1) = 0 ∨ q % (f.W + 1) = 0 ∨ (q / (f.W + 1) - 1) * f.W + (q % (f.W + 1) - 1) < i then preS f (q / (f.W + 1)) (q % (f.W + 1)) else 0 := by
  simp [sumsL, List.getD_eq_getElem?_getD, h]
theorem dm {w r c : Nat} (h : c < w) : (r * w + c) / w = r ∧ (r * w + c) % w = c := by
  constructor
  · rw [Nat.mul_comm, Nat.mul_add_div (by omega), Nat.div_eq_of_lt h, Nat.add_zero]
  · rw [Nat.mul_comm, Nat.mul_add_mod, Nat.mod_eq_of_lt h]
theorem lt_mul {w h r c : Nat} (hr : r < h) (hc : c < w) : r * w + c < w * h := by
  have := Nat.mul_le_mul_right w (Nat.succ_le_of_lt hr)
  rw [Nat.succ_mul, Nat.mul_comm h w] at this
  omega
theorem sumsL_at (f : Fld) (i : Nat) {r c : Nat} (hr : r ≤ f.H) (hc : c ≤ f.W) (hd : r = 0 ∨ c = 0 ∨ (r - 1) * f.W + (c - 1) < i) : (sumsL f i).getD (r * (f.W + 1) + c) 0 = preS f r c := by
  obtain ⟨d1, d2⟩ := dm (w := f.W + 1) (r := r) (c := c) (by omega)
  rw [sumsL_get f i (lt_mul (by omega) (by omega)), d1, d2, if_pos hd]
theorem sumsL_zero (f : Fld) : sumsL f 0 = List.replicate ((f.W + 1) * (f.H + 1)) 0 := by
  refine List.ext_getElem (by simp [sumsL]) fun q h1 h2 => ?_
  simp only [sumsL, List.getElem_map, List.getElem_range, List.getElem_replicate]
  split
  · rename_i h
    rcases h with h | h | h
    · rw [h]; rfl
    · rw [h]; exact preS_zero_c f _
    · omega
  · rfl
theorem sumsL_succ (f : Fld) {r c : Nat} (hr : r < f.H) (hc : c < f.W) : (sumsL f (r * f.W + c)).set ((r + 1) * (f.W + 1) + (c + 1)) (preS f (r + 1) (c + 1)) = sumsL f (r * f.W + c + 1) := by
  refine List.ext_getElem (by simp [sumsL]) fun q h1 h2 => ?_
  rw [List.getElem_set]
  obtain ⟨d1, d2⟩ := dm (w := f.W + 1) (r := r + 1) (c := c + 1) (by omega)
  split
  · rename_i e
    subst e
    simp only [sumsL, List.getElem_map, List.getElem_range, d1, d2]
    rw [if_pos (.inr (.inr (by simp)))]
  · rename_i e
    simp only [sumsL, List.getElem_map, List.getElem_range]
    by_cases hz : q / (f.W + 1) = 0 ∨ q % (f.W + 1) = 0
    · rw [if_pos (by rcases hz with h | h <;> simp [h]), if_pos (by rcases hz with h | h <;> simp [h])]
    · have hne : (q / (f.W + 1) - 1) * f.W + (q % (f.W + 1) - 1) ≠ r * f.W + c := by
        intro h
        have hm := Nat.mod_lt q (show 0 < f.W + 1 by omega)
        obtain ⟨a1, a2⟩ := dm (w := f.W) (r := q / (f.W + 1) - 1) (c := q % (f.W + 1) - 1) (by omega)
        obtain ⟨b1, b2⟩ := dm (w := f.W) (r := r) (c := c) hc
        rw [h] at a1 a2
        have hq := Nat.div_add_mod' q (f.W + 1)
        apply e
        have z1 : q / (f.W + 1) ≠ 0 := fun h => hz (.inl h)
        have z2 : q % (f.W + 1) ≠ 0 := fun h => hz (.inr h)
        have y1 := a1.symm.trans b1
        have y2 := a2.symm.trans b2
        generalize q / (f.W + 1) = u at *
        generalize q % (f.W + 1) = v at *
        rw [← hq, show u = r + 1 by omega, show v = c + 1 by omega]
      by_cases hlt : (q / (f.W + 1) - 1) * f.W + (q % (f.W + 1) - 1) < r * f.W + c
      · rw [if_pos (.inr (.inr hlt)), if_pos (.inr (.inr (by omega)))]
      · rw [if_neg (by intro h; rcases h with h | h | h; exact hz (.inl h); exact hz (.inr h); exact hlt h), if_neg (by intro h; rcases h with h | h | h; exact hz (.inl h); exact hz (.inr h); omega)]
/-! the sum over a rectangle -/
structure Rc where
  (x0 y0 x1 y1 : Int)
def farM (n : Int) : Bool := decide (n < -32768) || decide (32768 < n)
def clipM (n m : Int) : Int := min (max n 0) m
def Rc.empty (r : Rc) : Prop := r.x1 < r.x0 ∨ r.y1 < r.y0 ∨ (farM r.x0 || farM r.y0 || farM r.x1 || farM r.y1) = true
instance decRcEmpty (r : Rc) : Decidable r.empty := by unfold Rc.empty; infer_instance
def preI (f : Fld) (y x : Int) : Int := preS f y.toNat x.toNat
def boxS (f : Fld) (x0 x1 y0 y1 : Int) : Int := preI f y1 x1 - preI f y1 x0 - preI f y0 x1 + preI f y0 x0
def sumM (f : Fld) (r : Rc) : Int :=
  if r.empty then 0 else boxS f (clipM (r.x0 - f.x) f.w) (clipM (r.x1 - f.x + 1) f.w) (clipM (r.y0 - f.y) f.h) (clipM (r.y1 - f.y + 1) f.h)
def inR (f : Fld) (r : Rc) (j i : Nat) : Prop := r.x0 ≤ f.x + i ∧ f.x + i ≤ r.x1 ∧ r.y0 ≤ f.y + j ∧ f.y + j ≤ r.y1
instance decInR (f : Fld) (r : Rc) (j i : Nat) : Decidable (inR f r j i) := by unfold inR; infer_instance
def rowR (f : Fld) (r : Rc) (j : Nat) : Nat → Int := sumN fun i => if inR f r j i then cellV f j i else 0
def sumR (f : Fld) (r : Rc) : Int := sumN (fun j => rowR f r j f.W) f.H
theorem sum_box (f : Fld) (r : Rc) (hw : 0 ≤ f.w) (hh : 0 ≤ f.h) (hx : r.x0 ≤ r.x1) (hy : r.y0 ≤ r.y1) :
    sumR f r = boxS f (clipM (r.x0 - f.x) f.w) (clipM (r.x1 - f.x + 1) f.w) (clipM (r.y0 - f.y) f.h) (clipM (r.y1 - f.y + 1) f.h) := by
  have row : ∀ j : Nat, rowR f r j f.W = if (clipM (r.y0 - f.y) f.h).toNat ≤ j ∧ j < (clipM (r.y1 - f.y + 1) f.h).toNat ∨ ¬ j < f.H ∧ (r.y0 ≤ f.y + j ∧ f.y + j ≤ r.y1) then rowS f j (clipM (r.x1 - f.x + 1) f.w).toNat - rowS f j (clipM (r.x0 - f.x) f.w).toNat else 0 := by
    intro j
    have key : rowR f r j f.W = if r.y0 ≤ f.y + j ∧ f.y + j ≤ r.y1 then rowS f j (clipM (r.x1 - f.x + 1) f.w).toNat - rowS f j (clipM (r.x0 - f.x) f.w).toNat else 0 := by
      split
      · rename_i hj
        have e : rowR f r j f.W = sumN (fun i => if (clipM (r.x0 - f.x) f.w).toNat ≤ i ∧ i < (clipM (r.x1 - f.x + 1) f.w).toNat then cellV f j i else 0) f.W := by
          refine sumN_congr _ fun i hi => ?_
          have hiff : inR f r j i ↔ (clipM (r.x0 - f.x) f.w).toNat ≤ i ∧ i < (clipM (r.x1 - f.x + 1) f.w).toNat := by
            unfold inR clipM
            unfold Fld.W at hi
            omega
          by_cases h : inR f r j i
          · rw [if_pos h, if_pos (hiff.1 h)]
          · rw [if_neg h, if_neg (fun k => h (hiff.2 k))]
        rw [e, sumN_part _ (by unfold clipM; omega)]
        unfold rowS
        rw [show min f.W (clipM (r.x1 - f.x + 1) f.w).toNat = (clipM (r.x1 - f.x + 1) f.w).toNat by unfold clipM Fld.W; omega, show min f.W (clipM (r.x0 - f.x) f.w).toNat = (clipM (r.x0 - f.x) f.w).toNat by unfold clipM Fld.W; omega]
      · rename_i hj
        have e : rowR f r j f.W = sumN (fun _ => 0) f.W := by
          refine sumN_congr _ fun i _ => if_neg fun h => hj ⟨h.2.2.1, h.2.2.2⟩
        rw [e, sumN_zero]
    rw [key]
    by_cases hj : r.y0 ≤ f.y + j ∧ f.y + j ≤ r.y1
    · rw [if_pos hj, if_pos (by unfold clipM Fld.H; omega)]
    · rw [if_neg hj, if_neg (by unfold clipM Fld.H; omega)]
  unfold sumR
  have e : sumN (fun j => rowR f r j f.W) f.H = sumN (fun j => if (clipM (r.y0 - f.y) f.h).toNat ≤ j ∧ j < (clipM (r.y1 - f.y + 1) f.h).toNat then rowS f j (clipM (r.x1 - f.x + 1) f.w).toNat - rowS f j (clipM (r.x0 - f.x) f.w).toNat else 0) f.H := by
    refine sumN_congr _ fun j hj => ?_
    rw [row j]
    by_cases h : (clipM (r.y0 - f.y) f.h).toNat ≤ j ∧ j < (clipM (r.y1 - f.y + 1) f.h).toNat
    · rw [if_pos (.inl h), if_pos h]
    · rw [if_neg (fun k => by rcases k with k | k; exact h k; exact k.1 hj), if_neg h]
  rw [e, sumN_part _ (by unfold clipM; omega), show min f.H (clipM (r.y1 - f.y + 1) f.h).toNat = (clipM (r.y1 - f.y + 1) f.h).toNat by unfold clipM Fld.H; omega, show min f.H (clipM (r.y0 - f.y) f.h).toNat = (clipM (r.y0 - f.y) f.h).toNat by unfold clipM Fld.H; omega]
  rw [sumN_sub, sumN_sub]
  unfold boxS preI preS
  omega
/-! the first greatest value -/
structure Pk (l : List Int) (n : Nat) (i : Nat) (b : Int) : Prop where
  all : ∀ j, j < n → l.getD j 0 ≤ b
  at_ : (b = 0 ∧ i = 0) ∨ (0 < b ∧ i < n ∧ l.getD i 0 = b ∧ ∀ j, j < i → l.getD j 0 < b)
theorem Pk.uniq {l : List Int} {n i j : Nat} {b c : Int} (h : Pk l n i b) (g : Pk l n j c) : i = j ∧ b = c := by
  rcases h.at_ with ⟨h1, h2⟩ | ⟨h1, h2, h3, h4⟩ <;> rcases g.at_ with ⟨g1, g2⟩ | ⟨g1, g2, g3, g4⟩
  · omega
  · have := h.all j g2; omega
  · have := g.all i h2; omega
  · have e1 := h.all j g2
    have e2 := g.all i h2
    have hb : b = c := by omega
    refine ⟨?_, hb⟩
    rcases Nat.lt_trichotomy i j with hl | hl | hl
    · have := g4 i hl; omega
    · exact hl
    · have := h4 j hl; omega
theorem Pk.step {l : List Int} {n i : Nat} {b : Int} (h : Pk l n i b) (h0 : 0 ≤ b) : (b < l.getD n 0 → Pk l (n + 1) n (l.getD n 0)) ∧ (¬ b < l.getD n 0 → Pk l (n + 1) i b) := by
  constructor
  · intro hb
    refine ⟨fun j hj => ?_, .inr ⟨by omega, by omega, rfl, fun j hj => ?_⟩⟩
    · by_cases e : j = n
      · subst e; omega
      · have := h.all j (by omega); omega
    · have := h.all j hj; omega
  · intro hb
    refine ⟨fun j hj => ?_, ?_⟩
    · by_cases e : j = n
      · subst e; omega
      · exact h.all j (by omega)
    · rcases h.at_ with h1 | ⟨h1, h2, h3, h4⟩
      · exact .inl h1
      · exact .inr ⟨h1, by omega, h3, h4⟩
def cntN (l : List Int) (v : Int) : Nat → Nat
  | 0 => 0
  | n + 1 => cntN l v n + if v ≤ l.getD n 0 then 1 else 0
theorem cnt_le (l : List Int) (v : Int) : ∀ n : Nat, cntN l v n ≤ n
  | 0 => Nat.le_refl _
  | n + 1 => by have := cnt_le l v n; simp only [cntN]; split <;> omega
theorem cnt_pos {l : List Int} {v : Int} {k : Nat} : ∀ {n : Nat}, k < n → v ≤ l.getD k 0 → 1 ≤ cntN l v n
  | 0, h, _ => by omega
  | n + 1, h, hv => by
    simp only [cntN]
    by_cases e : k = n
    · subst e; rw [if_pos hv]; omega
    · have := cnt_pos (l := l) (v := v) (n := n) (by omega) hv; omega
end Go.Proofs.Ytbpchamlhblddaa
