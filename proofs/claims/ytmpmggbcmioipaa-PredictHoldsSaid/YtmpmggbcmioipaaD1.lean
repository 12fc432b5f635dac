import Derived.Test.YtmpmggbcmioipaaP4
import Derived.Test.YtmpmggbcmioipaaP6
set_option linter.all false
namespace Go.Proofs.Ytmpmggbcmioipaa
structure Rect where
  (x0 y0 x1 y1 : Int)
def Rect.zero : Rect := ⟨0, 0, 0, 0⟩
def Rect.un (a b : Rect) : Rect := ⟨min a.x0 b.x0, min a.y0 b.y0, max a.x1 b.x1, max a.y1 b.y1⟩
/-- the displacement along a coordinate v of d, over a length -/
def alo (n v d : Int) : Int := max 0 n * v / d
def aheadM (h n : Int) : Int × Int := (alo n (dirM h).x (dirM h).d, alo n (dirM h).y (dirM h).d)
theorem alo_up {v d : Int} (hd : 0 < d) (hv : 0 ≤ v) {m n : Int} (h : m ≤ n) : alo m v d ≤ alo n v d := by
  unfold alo
  exact Int.ediv_le_ediv hd (Int.mul_le_mul_of_nonneg_right (by omega) hv)
theorem alo_down {v d : Int} (hd : 0 < d) (hv : v ≤ 0) {m n : Int} (h : m ≤ n) : alo n v d ≤ alo m v d := by
  unfold alo
  refine Int.ediv_le_ediv hd ?_
  have := Int.mul_le_mul_of_nonneg_right (show max 0 m ≤ max 0 n by omega) (show 0 ≤ -v by omega)
  rw [Int.mul_neg, Int.mul_neg] at this
  omega
theorem alo_mono {v d : Int} (hd : 0 < d) : (∀ m n, m ≤ n → alo m v d ≤ alo n v d) ∨ (∀ m n, m ≤ n → alo n v d ≤ alo m v d) := by
  by_cases hv : 0 ≤ v
  · exact .inl fun m n h => alo_up hd hv h
  · exact .inr fun m n h => alo_down hd (by omega) h
theorem mono_ends {g : Int → Int} (hg : (∀ m n, m ≤ n → g m ≤ g n) ∨ (∀ m n, m ≤ n → g n ≤ g m)) {a b c : Int} (h1 : a ≤ b) (h2 : b ≤ c) :
    min (min (g a) (g b)) (g c) = min (g a) (g c) ∧ max (max (g a) (g b)) (g c) = max (g a) (g c) := by
  rcases hg with hg | hg
  · have := hg a b h1; have := hg b c h2; omega
  · have := hg a b h1; have := hg b c h2; omega
theorem alo_between {v d : Int} (hd : 0 < d) (h1 : -d ≤ v) (h2 : v ≤ d) {n : Int} : -(max 0 n) ≤ alo n v d ∧ alo n v d ≤ max 0 n := by
  unfold alo
  have hm : 0 ≤ max 0 n := by omega
  have p1 : max 0 n * v ≤ max 0 n * d := Int.mul_le_mul_of_nonneg_left h2 hm
  have p2 : max 0 n * (-d) ≤ max 0 n * v := Int.mul_le_mul_of_nonneg_left h1 hm
  constructor
  · rw [Int.le_ediv_iff_mul_le hd]; rw [Int.mul_neg] at p2; rw [Int.neg_mul]; exact p2
  · exact Int.ediv_le_of_le_mul hd p1
structure Mot where
  (f l s : Int)
/-- the least rectangle of the displacements with a new heading -/
def endsM (f l s h : Int) : Rect :=
  ⟨min (alo (f - l) (dirM h).x (dirM h).d) (alo (f + l) (dirM h).x (dirM h).d) - s, min (alo (f - l) (dirM h).y (dirM h).d) (alo (f + l) (dirM h).y (dirM h).d) - s,
   max (alo (f - l) (dirM h).x (dirM h).d) (alo (f + l) (dirM h).x (dirM h).d) + s, max (alo (f - l) (dirM h).y (dirM h).d) (alo (f + l) (dirM h).y (dirM h).d) + s⟩
def reachM (f l s h : Int) : Rect := if f = 0 then Rect.zero else endsM f l s h
/-- the union of the reaches of the first n + 1 marks of an arc -/
def reachU (f l s : Int) (a : Arc) : Nat → Rect
  | 0 => reachM f l s (a.f % 256)
  | n + 1 => (reachU f l s a n).un (reachM f l s ((a.f + (n + 1 : Nat)) % 256))
def reachA (f l s : Int) (a : Arc) : Rect := reachU f l s a (a.c - 1).toNat
def Rect.sub (a b : Rect) : Prop := b.x0 ≤ a.x0 ∧ b.y0 ≤ a.y0 ∧ a.x1 ≤ b.x1 ∧ a.y1 ≤ b.y1
theorem sub_refl (a : Rect) : a.sub a := by unfold Rect.sub; omega
theorem sub_trans {a b c : Rect} (h : a.sub b) (k : b.sub c) : a.sub c := by unfold Rect.sub at *; omega
theorem sub_left (a b : Rect) : a.sub (a.un b) := by unfold Rect.sub Rect.un; simp only; omega
theorem sub_right (a b : Rect) : b.sub (a.un b) := by unfold Rect.sub Rect.un; simp only; omega
theorem un_sub {a b c : Rect} (h : a.sub c) (k : b.sub c) : (a.un b).sub c := by unfold Rect.sub Rect.un at *; simp only; omega
theorem reachU_has (f l s : Int) (a : Arc) : ∀ (n : Nat) {i : Nat}, i ≤ n → (reachM f l s ((a.f + i) % 256)).sub (reachU f l s a n)
  | 0, i, h => by
    obtain rfl : i = 0 := by omega
    rw [show a.f + ((0 : Nat) : Int) = a.f by omega]; exact sub_refl _
  | n + 1, i, h => by
    by_cases e : i = n + 1
    · subst e; exact sub_right _ _
    · exact sub_trans (reachU_has f l s a n (by omega)) (sub_left _ _)
theorem reachU_least {f l s : Int} {a : Arc} {c : Rect} : ∀ (n : Nat), (∀ i : Nat, i ≤ n → (reachM f l s ((a.f + i) % 256)).sub c) → (reachU f l s a n).sub c
  | 0, h => by have := h 0 (Nat.le_refl _); rw [show a.f + ((0 : Nat) : Int) = a.f by omega] at this; exact this
  | n + 1, h => un_sub (reachU_least n fun i hi => h i (by omega)) (h (n + 1) (Nat.le_refl _))
theorem reach_has {f l s : Int} {a : Arc} (ha : a.ok) {h : Int} (hm : a.mem h = true) : (reachM f l s (h % 256)).sub (reachA f l s a) := by
  obtain ⟨a1, a2, a3, a4, a5⟩ := ha
  simp only [Arc.mem, decide_eq_true_eq] at hm
  have := reachU_has f l s a (a.c - 1).toNat (i := ((h - a.f) % 256).toNat) (by omega)
  rw [show (a.f + (((h - a.f) % 256).toNat : Nat)) % 256 = h % 256 by omega] at this
  exact this
theorem reach_least {f l s : Int} {a : Arc} (ha : a.ok) {c : Rect} (h : ∀ x, 0 ≤ x → x < 256 → a.mem x = true → (reachM f l s x).sub c) : (reachA f l s a).sub c := by
  obtain ⟨a1, a2, a3, a4, a5⟩ := ha
  refine reachU_least _ fun i hi => h _ (by omega) (by omega) ?_
  simp only [Arc.mem, decide_eq_true_eq]
  omega
theorem reachM_small {f l s h : Int} (hf : 0 ≤ f ∧ f ≤ 32) (hl : 0 ≤ l ∧ l ≤ 16) (hs : 0 ≤ s ∧ s ≤ 8) :
    -56 ≤ (reachM f l s h).x0 ∧ (reachM f l s h).x0 ≤ (reachM f l s h).x1 ∧ (reachM f l s h).x1 ≤ 56 ∧ -56 ≤ (reachM f l s h).y0 ∧ (reachM f l s h).y0 ≤ (reachM f l s h).y1 ∧ (reachM f l s h).y1 ≤ 56 := by
  unfold reachM
  split
  · simp [Rect.zero]
  · obtain ⟨d1, d2, d3, d4, d5, d6, d7⟩ := dir_ok h
    have b1 := alo_between (n := f - l) (show 0 < (dirM h).d by omega) d3 d4
    have b2 := alo_between (n := f + l) (show 0 < (dirM h).d by omega) d3 d4
    have b3 := alo_between (n := f - l) (show 0 < (dirM h).d by omega) d5 d6
    have b4 := alo_between (n := f + l) (show 0 < (dirM h).d by omega) d5 d6
    simp only [endsM]
    omega
theorem reachU_small {f l s : Int} {a : Arc} (hf : 0 ≤ f ∧ f ≤ 32) (hl : 0 ≤ l ∧ l ≤ 16) (hs : 0 ≤ s ∧ s ≤ 8) : ∀ n,
    -56 ≤ (reachU f l s a n).x0 ∧ (reachU f l s a n).x0 ≤ (reachU f l s a n).x1 ∧ (reachU f l s a n).x1 ≤ 56 ∧ -56 ≤ (reachU f l s a n).y0 ∧ (reachU f l s a n).y0 ≤ (reachU f l s a n).y1 ∧ (reachU f l s a n).y1 ≤ 56
  | 0 => reachM_small hf hl hs
  | n + 1 => by
    have h1 := reachU_small (a := a) hf hl hs n
    have h2 := reachM_small (h := (a.f + (n + 1 : Nat)) % 256) hf hl hs
    simp only [reachU, Rect.un]
    omega
end Go.Proofs.Ytmpmggbcmioipaa
