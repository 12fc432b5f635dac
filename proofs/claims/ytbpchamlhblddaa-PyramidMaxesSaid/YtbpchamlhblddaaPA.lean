import Derived.Test.YtbpchamlhblddaaK14
set_option linter.all false
namespace Go.Proofs.Ytbpchamlhblddaa
/-! PLAIN: fields, squares, levels -/
structure Fld where
  (x y w h : Int)
  v : List Int
def Fld.ok (f : Fld) : Prop := 0 ≤ f.w ∧ f.w ≤ 64 ∧ 0 ≤ f.h ∧ f.h ≤ 64 ∧ (f.w = 0 ↔ f.h = 0) ∧ (f.v.length : Int) = f.w * f.h ∧ -16384 ≤ f.x ∧ f.x ≤ 16384 ∧ -16384 ≤ f.y ∧ f.y ≤ 16384 ∧ (f.w = 0 → f.x = 0 ∧ f.y = 0)
instance decFldOk (f : Fld) : Decidable f.ok := by unfold Fld.ok; infer_instance
def bytesL (l : List Int) : Prop := ∀ b ∈ l, 0 ≤ b ∧ b ≤ 255
/-- a field or a level of one -/
def Fld.fine (f : Fld) : Prop := 0 ≤ f.w ∧ f.w ≤ 128 ∧ 0 ≤ f.h ∧ f.h ≤ 128 ∧ (f.v.length : Int) = f.w * f.h ∧ -32768 ≤ f.x ∧ f.x ≤ 32768 ∧ -32768 ≤ f.y ∧ f.y ≤ 32768 ∧ bytesL f.v
theorem ok_fine {f : Fld} (h : f.ok) (hb : bytesL f.v) : f.fine := by
  obtain ⟨h1, h2, h3, h4, h5, h6, h7, h8, h9, h10, h11⟩ := h
  exact ⟨h1, by omega, h3, by omega, h6, by omega, by omega, by omega, by omega, hb⟩
def inF (f : Fld) (x y : Int) : Prop := 0 ≤ x - f.x ∧ x - f.x < f.w ∧ 0 ≤ y - f.y ∧ y - f.y < f.h
instance decInF (f : Fld) (x y : Int) : Decidable (inF f x y) := by unfold inF; infer_instance
def atM (f : Fld) (x y : Int) : Int := if inF f x y then f.v.getD ((y - f.y) * f.w + (x - f.x)).toNat 0 else 0
theorem getD_byte {l : List Int} (h : bytesL l) (i : Nat) : 0 ≤ l.getD i 0 ∧ l.getD i 0 ≤ 255 := by
  rw [List.getD_eq_getElem?_getD]
  cases hi : l[i]? with
  | none => simp
  | some b => exact h b (List.mem_of_getElem? hi)
theorem at_byte {f : Fld} (h : bytesL f.v) (x y : Int) : 0 ≤ atM f x y ∧ atM f x y ≤ 255 := by
  unfold atM; split
  · exact getD_byte h _
  · omega
theorem mul_in {w h i j : Int} (hi : 0 ≤ i) (hi2 : i < w) (hj : 0 ≤ j) (hj2 : j < h) : 0 ≤ j * w + i ∧ j * w + i < w * h := by
  have h1 : 0 ≤ j * w := Int.mul_nonneg hj (by omega)
  have h2 : (j + 1) * w ≤ h * w := Int.mul_le_mul_of_nonneg_right (by omega) (by omega)
  rw [Int.add_mul, Int.one_mul] at h2
  rw [Int.mul_comm w h]
  omega
theorem mul_small {a b n m : Int} (ha : 0 ≤ a) (ha2 : a ≤ n) (hb : 0 ≤ b) (hb2 : b ≤ m) : 0 ≤ a * b ∧ a * b ≤ n * m :=
  ⟨Int.mul_nonneg ha hb, Int.mul_le_mul ha2 hb2 hb (by omega)⟩
/-! levels -/
def m4 (f : Fld) (k x y : Int) : Int := max (max (max (atM f x y) (atM f (x + k) y)) (atM f x (y + k))) (atM f (x + k) (y + k))
def raiseL (f : Fld) (k : Int) (n : Nat) : List Int := (List.range n).map fun i : Nat => m4 f k (f.x - k + i % (f.w + k)) (f.y - k + i / (f.w + k))
def raiseM (f : Fld) (k : Int) : Fld := ⟨f.x - k, f.y - k, f.w + k, f.h + k, raiseL f k ((f.w + k) * (f.h + k)).toNat⟩
theorem raiseL_len (f : Fld) (k : Int) (n : Nat) : (raiseL f k n).length = n := by simp [raiseL]
theorem raiseL_get (f : Fld) (k : Int) {i n : Nat} (h : i < n) : (raiseL f k n).getD i 0 = m4 f k (f.x - k + i % (f.w + k)) (f.y - k + i / (f.w + k)) := by
  simp [raiseL, List.getD_eq_getElem?_getD, h]
theorem m4_byte {f : Fld} (h : bytesL f.v) (k x y : Int) : 0 ≤ m4 f k x y ∧ m4 f k x y ≤ 255 := by
  have h1 := at_byte h x y
  have h2 := at_byte h (x + k) y
  have h3 := at_byte h x (y + k)
  have h4 := at_byte h (x + k) (y + k)
  unfold m4
  omega
theorem raise_bytes {f : Fld} (h : bytesL f.v) (k : Int) : bytesL (raiseM f k).v := by
  intro b hb
  obtain ⟨i, _, rfl⟩ := List.mem_map.1 hb
  exact m4_byte h _ _ _
theorem at_out {f : Fld} {x y : Int} (h : ¬ inF f x y) : atM f x y = 0 := if_neg h
theorem at_raise {f : Fld} {k : Int} (hk : 0 < k) (hw : 0 ≤ f.w) (hh : 0 ≤ f.h) (x y : Int) : atM (raiseM f k) x y = m4 f k x y := by
  by_cases hin : inF (raiseM f k) x y
  · have h0 := hin
    unfold inF at h0
    simp only [raiseM] at h0
    obtain ⟨h1, h2, h3, h4⟩ := h0
    obtain ⟨q1, q2⟩ := mul_in h1 h2 h3 h4
    unfold atM
    rw [if_pos hin]
    simp only [raiseM]
    rw [raiseL_get f k (by omega)]
    have e0 : ((((y - (f.y - k)) * (f.w + k) + (x - (f.x - k))).toNat : Nat) : Int) = (y - (f.y - k)) * (f.w + k) + (x - (f.x - k)) := by omega
    rw [e0]
    have e1 : ((y - (f.y - k)) * (f.w + k) + (x - (f.x - k))) % (f.w + k) = x - (f.x - k) := by
      rw [Int.add_comm, Int.add_mul_emod_self_right]
      exact Int.emod_eq_of_lt h1 h2
    have e2 : ((y - (f.y - k)) * (f.w + k) + (x - (f.x - k))) / (f.w + k) = y - (f.y - k) := by
      rw [Int.add_comm, Int.add_mul_ediv_right _ _ (by omega), Int.ediv_eq_zero_of_lt h1 h2]
      omega
    rw [e1, e2, show f.x - k + (x - (f.x - k)) = x by omega, show f.y - k + (y - (f.y - k)) = y by omega]
  · rw [at_out hin]
    have h0 := hin
    unfold inF at h0
    simp only [raiseM] at h0
    have o1 : ¬ inF f x y := fun h => h0 (by unfold inF at h; omega)
    have o2 : ¬ inF f (x + k) y := fun h => h0 (by unfold inF at h; omega)
    have o3 : ¬ inF f x (y + k) := fun h => h0 (by unfold inF at h; omega)
    have o4 : ¬ inF f (x + k) (y + k) := fun h => h0 (by unfold inF at h; omega)
    unfold m4
    rw [at_out o1, at_out o2, at_out o3, at_out o4]
    omega
def lev (f : Fld) : Nat → Fld
  | 0 => f
  | n + 1 => raiseM (lev f n) (2 ^ n)
theorem two_pos (n : Nat) : (0 : Int) < 2 ^ n := Int.pow_pos (by omega)
theorem lev_dims (f : Fld) : ∀ n : Nat, (lev f n).w = f.w + (2 ^ n - 1) ∧ (lev f n).h = f.h + (2 ^ n - 1) ∧ (lev f n).x = f.x - (2 ^ n - 1) ∧ (lev f n).y = f.y - (2 ^ n - 1)
  | 0 => by simp [lev]
  | n + 1 => by
    obtain ⟨h1, h2, h3, h4⟩ := lev_dims f n
    simp only [lev, raiseM, h1, h2, h3, h4, Int.pow_succ]
    omega
theorem lev_bytes {f : Fld} (h : bytesL f.v) : ∀ n : Nat, bytesL (lev f n).v
  | 0 => h
  | n + 1 => raise_bytes (lev_bytes h n) _
theorem pow_le6 {n : Nat} (h : n ≤ 6) : (2 : Int) ^ n ≤ 64 ∧ (1 : Int) ≤ 2 ^ n := by
  have : n = 0 ∨ n = 1 ∨ n = 2 ∨ n = 3 ∨ n = 4 ∨ n = 5 ∨ n = 6 := by omega
  rcases this with rfl | rfl | rfl | rfl | rfl | rfl | rfl <;> decide
theorem lev_fine {f : Fld} (h : f.ok) (hb : bytesL f.v) {n : Nat} (hn : n ≤ 6) : (lev f n).fine := by
  obtain ⟨h1, h2, h3, h4, h5, h6, h7, h8, h9, h10, h11⟩ := id h
  obtain ⟨p1, p2⟩ := pow_le6 hn
  obtain ⟨d1, d2, d3, d4⟩ := lev_dims f n
  refine ⟨by omega, by omega, by omega, by omega, ?_, by omega, by omega, by omega, by omega, lev_bytes hb n⟩
  cases n with
  | zero => exact h6
  | succ n =>
    simp only [lev, raiseM] at d1 d2 ⊢
    rw [raiseL_len]
    have := (mul_small (a := (lev f n).w + 2 ^ n) (b := (lev f n).h + 2 ^ n) (n := 128) (m := 128) (by omega) (by omega) (by omega) (by omega)).1
    omega
theorem at_lev {f : Fld} (hw : 0 ≤ f.w) (hh : 0 ≤ f.h) (n : Nat) (x y : Int) : atM (lev f (n + 1)) x y = m4 (lev f n) (2 ^ n) x y := by
  obtain ⟨d1, d2, _, _⟩ := lev_dims f n
  have := two_pos n
  exact at_raise this (by omega) (by omega) x y
/-- m is the greatest value of a square -/
structure SqMax (f : Fld) (k x y m : Int) : Prop where
  pos : 0 ≤ m
  all : ∀ i j : Int, 0 ≤ i → i < k → 0 ≤ j → j < k → atM f (x + i) (y + j) ≤ m
  att : m = 0 ∨ ∃ i j : Int, 0 ≤ i ∧ i < k ∧ 0 ≤ j ∧ j < k ∧ atM f (x + i) (y + j) = m
theorem SqMax.uniq {f : Fld} {k x y m n : Int} (h : SqMax f k x y m) (g : SqMax f k x y n) : m = n := by
  have key : ∀ {a b : Int}, SqMax f k x y a → SqMax f k x y b → a ≤ b := by
    intro a b ha hb
    rcases ha.att with e | ⟨i, j, h1, h2, h3, h4, e⟩
    · rw [e]; exact hb.pos
    · rw [← e]; exact hb.all i j h1 h2 h3 h4
  exact Int.le_antisymm (key h g) (key g h)
theorem sq_four {f : Fld} {k x y a b c d : Int} (ha : SqMax f k x y a) (hb : SqMax f k (x + k) y b) (hc : SqMax f k x (y + k) c) (hd : SqMax f k (x + k) (y + k) d) :
    SqMax f (2 * k) x y (max (max (max a b) c) d) := by
  have p1 := ha.pos; have p2 := hb.pos; have p3 := hc.pos; have p4 := hd.pos
  refine ⟨by omega, fun i j i0 i1 j0 j1 => ?_, ?_⟩
  · by_cases hi : i < k <;> by_cases hj : j < k
    · have := ha.all i j i0 hi j0 hj; omega
    · have := hc.all i (j - k) i0 hi (by omega) (by omega)
      rw [show y + k + (j - k) = y + j by omega] at this; omega
    · have := hb.all (i - k) j (by omega) (by omega) j0 hj
      rw [show x + k + (i - k) = x + i by omega] at this; omega
    · have := hd.all (i - k) (j - k) (by omega) (by omega) (by omega) (by omega)
      rw [show x + k + (i - k) = x + i by omega, show y + k + (j - k) = y + j by omega] at this; omega
  · have hm : max (max (max a b) c) d = a ∨ max (max (max a b) c) d = b ∨ max (max (max a b) c) d = c ∨ max (max (max a b) c) d = d := by omega
    rcases hm with e | e | e | e
    · rw [e]
      rcases ha.att with h | ⟨i, j, h1, h2, h3, h4, h5⟩
      · exact .inl h
      · exact .inr ⟨i, j, h1, by omega, h3, by omega, h5⟩
    · rw [e]
      rcases hb.att with h | ⟨i, j, h1, h2, h3, h4, h5⟩
      · exact .inl h
      · exact .inr ⟨k + i, j, by omega, by omega, h3, by omega, by rw [← h5]; congr 1; omega⟩
    · rw [e]
      rcases hc.att with h | ⟨i, j, h1, h2, h3, h4, h5⟩
      · exact .inl h
      · exact .inr ⟨i, k + j, h1, by omega, by omega, by omega, by rw [← h5]; congr 1; omega⟩
    · rw [e]
      rcases hd.att with h | ⟨i, j, h1, h2, h3, h4, h5⟩
      · exact .inl h
      · exact .inr ⟨k + i, k + j, by omega, by omega, by omega, by omega, by rw [← h5]; congr 1 <;> omega⟩
theorem lev_max {f : Fld} (hb : bytesL f.v) (hw : 0 ≤ f.w) (hh : 0 ≤ f.h) : ∀ (n : Nat) (x y : Int), SqMax f (2 ^ n) x y (atM (lev f n) x y)
  | 0, x, y => by
    simp only [lev, Int.pow_zero]
    refine ⟨(at_byte hb x y).1, fun i j i0 i1 j0 j1 => ?_, .inr ⟨0, 0, by omega, by omega, by omega, by omega, by simp⟩⟩
    obtain rfl : i = 0 := by omega
    obtain rfl : j = 0 := by omega
    simp
  | n + 1, x, y => by
    rw [at_lev hw hh, Int.pow_succ, Int.mul_comm]
    exact sq_four (lev_max hb hw hh n _ _) (lev_max hb hw hh n _ _) (lev_max hb hw hh n _ _) (lev_max hb hw hh n _ _)
/-! fields that are moved -/
theorem raiseL_move {f g : Fld} (hw : g.w = f.w) (hat : ∀ i j : Int, atM g (g.x + i) (g.y + j) = atM f (f.x + i) (f.y + j)) (k : Int) (n : Nat) : raiseL g k n = raiseL f k n := by
  unfold raiseL
  refine List.map_congr_left fun i _ => ?_
  have e : ∀ p q : Int, m4 g k (g.x + p) (g.y + q) = m4 f k (f.x + p) (f.y + q) := by
    intro p q
    unfold m4
    rw [Int.add_assoc, Int.add_assoc, hat, hat, hat, hat, ← Int.add_assoc, ← Int.add_assoc]
  have := e (-k + i % (f.w + k)) (-k + i / (f.w + k))
  rw [hw]
  rw [show g.x - k + (i : Int) % (f.w + k) = g.x + (-k + i % (f.w + k)) by omega, show g.y - k + (i : Int) / (f.w + k) = g.y + (-k + i / (f.w + k)) by omega, this]
  congr 1 <;> omega
theorem at_eq {f g : Fld} {x y x' y' : Int} (hw : g.w = f.w) (hh : g.h = f.h) (hv : g.v = f.v) (hx : x' - g.x = x - f.x) (hy : y' - g.y = y - f.y) : atM g x' y' = atM f x y := by
  have e : inF g x' y' ↔ inF f x y := by unfold inF; rw [hx, hy, hw, hh]
  unfold atM
  by_cases h : inF f x y
  · rw [if_pos h, if_pos (e.2 h), hx, hy, hw, hv]
  · rw [if_neg h, if_neg (fun k => h (e.1 k))]
theorem lev_move {f g : Fld} (hw : g.w = f.w) (hh : g.h = f.h) (hv : g.v = f.v) : ∀ n : Nat, (lev g n).w = (lev f n).w ∧ (lev g n).h = (lev f n).h ∧ (lev g n).v = (lev f n).v ∧ (lev g n).x - g.x = (lev f n).x - f.x ∧ (lev g n).y - g.y = (lev f n).y - f.y
  | 0 => by simp [lev, hw, hh, hv]
  | n + 1 => by
    obtain ⟨h1, h2, h3, h4, h5⟩ := lev_move hw hh hv n
    simp only [lev, raiseM, h1, h2]
    refine ⟨trivial, trivial, ?_, by omega, by omega⟩
    exact raiseL_move h1 (fun i j => at_eq h1 h2 h3 (by omega) (by omega)) _ _
theorem at_move {f g : Fld} (hw : g.w = f.w) (hh : g.h = f.h) (hv : g.v = f.v) (n : Nat) (i j : Int) : atM (lev g n) (g.x + i) (g.y + j) = atM (lev f n) (f.x + i) (f.y + j) := by
  obtain ⟨h1, h2, h3, h4, h5⟩ := lev_move hw hh hv n
  exact at_eq h1 h2 h3 (by omega) (by omega)
end Go.Proofs.Ytbpchamlhblddaa
