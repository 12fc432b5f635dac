import Derived.Test.YtmpmggbcmioipaaP2
set_option linter.all false
namespace Go.Proofs.Ytmpmggbcmioipaa
structure Box where
  (x0 y0 x1 y1 f c : Int)
structure Pose where
  (x y h : Int)
def Box.arc (b : Box) : Arc := ⟨b.f, b.c⟩
def Box.ok (b : Box) : Prop := -1048576 ≤ b.x0 ∧ b.x0 ≤ b.x1 ∧ b.x1 ≤ 1048576 ∧ -1048576 ≤ b.y0 ∧ b.y0 ≤ b.y1 ∧ b.y1 ≤ 1048576 ∧ b.arc.ok
instance decBoxOk (b : Box) : Decidable b.ok := by unfold Box.ok; infer_instance
def Box.zero : Box := ⟨0, 0, 0, 0, 0, 0⟩
def Box.has (b : Box) (p : Pose) : Prop := b.ok ∧ b.x0 ≤ p.x ∧ p.x ≤ b.x1 ∧ b.y0 ≤ p.y ∧ p.y ≤ b.y1 ∧ b.arc.mem p.h = true
instance decBoxHas (b : Box) (p : Pose) : Decidable (b.has p) := by unfold Box.has; infer_instance
def Box.vol (b : Box) : Int := if b.ok then (b.x1 - b.x0 + 1) * (b.y1 - b.y0 + 1) * b.c else 0
def hullB (a b : Box) : Box := ⟨min a.x0 b.x0, min a.y0 b.y0, max a.x1 b.x1, max a.y1 b.y1, (hullM a.arc b.arc).f, (hullM a.arc b.arc).c⟩
def meetB (a b : Box) : List Box :=
  if ¬ a.ok ∨ ¬ b.ok ∨ min a.x1 b.x1 < max a.x0 b.x0 ∨ min a.y1 b.y1 < max a.y0 b.y0 then [] else
    (meetM a.arc b.arc).map fun r => ⟨max a.x0 b.x0, max a.y0 b.y0, min a.x1 b.x1, min a.y1 b.y1, r.f, r.c⟩
/-- every mark of the one is one of the other -/
def insideN (a b : Arc) (n : Nat) : Bool := (List.range n).all fun i : Nat => b.mem (a.f + i)
theorem insideN_iff {a b : Arc} (ha : a.ok) : insideN a b a.c.toNat = true ↔ insideA a b := by
  obtain ⟨a1, a2, a3, a4, a5⟩ := ha
  unfold insideN insideA
  rw [List.all_eq_true]
  constructor
  · intro h x hx
    simp only [Arc.mem, decide_eq_true_eq] at hx
    have := h ((x - a.f) % 256).toNat (List.mem_range.2 (by omega))
    rw [(mem_per b).at (g := x) (by omega)] at this
    exact this
  · intro h i hi
    have := List.mem_range.1 hi
    refine h _ ?_
    simp only [Arc.mem, decide_eq_true_eq]
    omega
def Box.within (a b : Box) : Prop := a.ok ∧ b.ok ∧ b.x0 ≤ a.x0 ∧ a.x1 ≤ b.x1 ∧ b.y0 ≤ a.y0 ∧ a.y1 ≤ b.y1 ∧ insideN a.arc b.arc a.c.toNat = true
instance decWithin (a b : Box) : Decidable (a.within b) := by unfold Box.within; infer_instance
theorem within_iff {a b : Box} (ha : a.ok) : (a.within b) ↔ (b.ok ∧ b.x0 ≤ a.x0 ∧ a.x1 ≤ b.x1 ∧ b.y0 ≤ a.y0 ∧ a.y1 ≤ b.y1 ∧ insideA a.arc b.arc) := by
  unfold Box.within
  have e : a.c = a.arc.c := rfl
  rw [e, insideN_iff ha.2.2.2.2.2.2]
  constructor
  · exact fun h => h.2
  · exact fun h => ⟨ha, h⟩
theorem hullB_ok {a b : Box} (ha : a.ok) (hb : b.ok) : (hullB a b).ok := by
  have h := hull_ok ha.2.2.2.2.2.2 hb.2.2.2.2.2.2
  obtain ⟨a1, a2, a3, a4, a5, a6, a7⟩ := ha
  obtain ⟨b1, b2, b3, b4, b5, b6, b7⟩ := hb
  refine ⟨?_, ?_, ?_, ?_, ?_, ?_, h⟩ <;> simp only [hullB] <;> omega
theorem hullB_left {a b : Box} (ha : a.ok) (hb : b.ok) : a.within (hullB a b) := by
  rw [within_iff ha]
  refine ⟨hullB_ok ha hb, ?_, ?_, ?_, ?_, fun h hm => hull_left ha.2.2.2.2.2.2 hb.2.2.2.2.2.2 h hm⟩ <;> simp only [hullB] <;> omega
theorem hullB_right {a b : Box} (ha : a.ok) (hb : b.ok) : b.within (hullB a b) := by
  rw [within_iff hb]
  refine ⟨hullB_ok ha hb, ?_, ?_, ?_, ?_, fun h hm => hull_right ha.2.2.2.2.2.2 hb.2.2.2.2.2.2 h hm⟩ <;> simp only [hullB] <;> omega
theorem within_trans {a b c : Box} (h : a.within b) (k : b.within c) : a.within c := by
  have h' := (within_iff h.1).1 h
  have k' := (within_iff k.1).1 k
  rw [within_iff h.1]
  obtain ⟨h1, h2, h3, h4, h5, h6⟩ := h'
  obtain ⟨k1, k2, k3, k4, k5, k6⟩ := k'
  exact ⟨k1, by omega, by omega, by omega, by omega, fun x hx => k6 x (h6 x hx)⟩
theorem within_has {a b : Box} (h : a.within b) {p : Pose} (hp : a.has p) : b.has p := by
  obtain ⟨h1, h2, h3, h4, h5, h6⟩ := (within_iff h.1).1 h
  obtain ⟨k1, k2, k3, k4, k5, k6⟩ := hp
  exact ⟨h1, by omega, by omega, by omega, by omega, h6 _ k6⟩
theorem within_refl {a : Box} (h : a.ok) : a.within a := by
  rw [within_iff h]
  exact ⟨h, by omega, by omega, by omega, by omega, fun x hx => hx⟩
theorem hullB_comm {a b : Box} (ha : a.ok) (hb : b.ok) : hullB a b = hullB b a := by
  unfold hullB
  rw [hull_comm ha.2.2.2.2.2.2 hb.2.2.2.2.2.2]
  simp only [Box.mk.injEq, and_self, and_true]
  refine ⟨?_, ?_, ?_, ?_⟩ <;> omega
theorem hullB_self {a : Box} (ha : a.ok) : hullB a a = a := by
  unfold hullB
  rw [hull_self ha.2.2.2.2.2.2]
  cases a
  simp [Box.arc]
theorem vol_pos {b : Box} (h : b.ok) : 0 < b.vol := by
  unfold Box.vol
  rw [if_pos h]
  obtain ⟨a1, a2, a3, a4, a5, a6, c1, c2, c3, c4, c5⟩ := h
  have h3 : 1 ≤ b.c := c3
  exact Int.mul_pos (Int.mul_pos (by omega) (by omega)) (by omega)
theorem vol_le {b : Box} : 0 ≤ b.vol ∧ b.vol ≤ 1125900980584704 := by
  unfold Box.vol
  split
  · rename_i h
    obtain ⟨a1, a2, a3, a4, a5, a6, c1, c2, c3, c4, c5⟩ := h
    have h3 : 1 ≤ b.c := c3
    have h4 : b.c ≤ 256 := c4
    have p1 : 0 ≤ (b.x1 - b.x0 + 1) * (b.y1 - b.y0 + 1) := Int.mul_nonneg (by omega) (by omega)
    have p2 : (b.x1 - b.x0 + 1) * (b.y1 - b.y0 + 1) ≤ 2097153 * 2097153 := Int.mul_le_mul (by omega) (by omega) (by omega) (by omega)
    have p3 : (b.x1 - b.x0 + 1) * (b.y1 - b.y0 + 1) * b.c ≤ (2097153 * 2097153) * 256 := Int.mul_le_mul p2 h4 (by omega) (by omega)
    exact ⟨Int.mul_nonneg p1 (by omega), by omega⟩
  · omega
end Go.Proofs.Ytmpmggbcmioipaa
