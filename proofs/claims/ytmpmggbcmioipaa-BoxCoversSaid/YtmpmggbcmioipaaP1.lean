set_option linter.all false
namespace Go.Proofs.Ytmpmggbcmioipaa
structure Arc where
  (f c : Int)
def Arc.ok (a : Arc) : Prop := 0 ≤ a.f ∧ a.f < 256 ∧ 1 ≤ a.c ∧ a.c ≤ 256 ∧ (a.f = 0 ∨ a.c < 256)
instance decArcOk (a : Arc) : Decidable a.ok := by unfold Arc.ok; infer_instance
def Arc.mem (a : Arc) (h : Int) : Bool := decide ((h - a.f) % 256 < a.c)

/-! ### hull -/
def cov (s : Int) (a : Arc) : Int := (a.f - s) % 256 + a.c
def hullStep (a b : Arc) (best : Arc) (s : Int) : Arc :=
  let n := max (cov s a) (cov s b)
  if n < best.c ∨ (n = best.c ∧ n < 256 ∧ s < best.f) then ⟨s, n⟩ else best
def hullM (a b : Arc) : Arc := hullStep a b (hullStep a b ⟨0, 256⟩ a.f) b.f
/-- need, mark by mark -/
def needR (a b : Arc) (s : Int) : Nat → Nat
  | 0 => 0
  | i + 1 => if (a.mem (s + i) || b.mem (s + i)) then i + 1 else needR a b s i
def hullR (a b : Arc) : Nat → Arc
  | 0 => ⟨0, 256⟩
  | k + 1 => let best := hullR a b k
    let s : Int := 255 - k
    let n : Int := needR a b s 256
    if n < 256 ∧ n ≤ best.c then ⟨s, n⟩ else best
theorem needR_le (a b : Arc) (s : Int) : ∀ i, needR a b s i ≤ i
  | 0 => Nat.le_refl _
  | i + 1 => by unfold needR; split; exact Nat.le_refl _; have := needR_le a b s i; omega
theorem needR_stop {a b : Arc} {s : Int} {N : Nat} : ∀ {i : Nat}, N ≤ i → (∀ j, N ≤ j → j < i → (a.mem (s + j) || b.mem (s + j)) = false) → needR a b s i = needR a b s N
  | 0, h, _ => by have : N = 0 := by omega
                  subst this; rfl
  | i + 1, h, hj => by
    by_cases e : N = i + 1
    · subst e; rfl
    · rw [needR, if_neg (by rw [hj i (by omega) (by omega)]; decide)]
      exact needR_stop (by omega) fun j h1 h2 => hj j h1 (by omega)
theorem need_eq {a b : Arc} (ha : a.ok) (hb : b.ok) (s : Int) : (needR a b s 256 : Int) = min 256 (max (cov s a) (cov s b)) := by
  obtain ⟨a1, a2, a3, a4, a5⟩ := ha
  obtain ⟨b1, b2, b3, b4, b5⟩ := hb
  obtain ⟨N, hN⟩ : ∃ N : Nat, (N : Int) = min 256 (max (cov s a) (cov s b)) := ⟨(min 256 (max (cov s a) (cov s b))).toNat, by unfold cov; omega⟩
  unfold cov at hN
  have hpos : 0 < N := by omega
  have hle : N ≤ 256 := by omega
  obtain ⟨M, rfl⟩ : ∃ M, N = M + 1 := ⟨N - 1, by omega⟩
  have h1 : needR a b s 256 = needR a b s (M + 1) := by
    refine needR_stop hle fun j h1 h2 => ?_
    simp only [Arc.mem, Bool.or_eq_false_iff, decide_eq_false_iff_not]
    constructor <;> omega
  have h2 : needR a b s (M + 1) = M + 1 := by
    rw [needR, if_pos]
    simp only [Arc.mem, Bool.or_eq_true, decide_eq_true_eq]
    omega
  rw [h1, h2]
  unfold cov
  exact hN
theorem dominated {a b : Arc} (ha : a.ok) (hb : b.ok) (s : Int) (hs : 0 ≤ s ∧ s < 256) (h : max (cov s a) (cov s b) < 256) :
    (max (cov a.f a) (cov a.f b) < max (cov s a) (cov s b) ∨ (a.f = s)) ∨ (max (cov b.f a) (cov b.f b) < max (cov s a) (cov s b) ∨ b.f = s) := by
  obtain ⟨a1, a2, a3, a4, a5⟩ := ha
  obtain ⟨b1, b2, b3, b4, b5⟩ := hb
  unfold cov at *
  by_cases e : (a.f - s) % 256 ≤ (b.f - s) % 256
  · left
    by_cases e2 : a.f = s
    · exact .inr e2
    · left; omega
  · right
    by_cases e2 : b.f = s
    · exact .inr e2
    · left; omega
def key (a b : Arc) (s : Int) : Int := max (cov s a) (cov s b)
theorem key_pos {a b : Arc} (ha : a.ok) (s : Int) : 1 ≤ key a b s := by
  obtain ⟨a1, a2, a3, a4, a5⟩ := ha
  unfold key cov; omega
/-- best among the starts of a set -/
structure Best (a b : Arc) (S : Int → Prop) (r : Arc) : Prop where
  is : r = ⟨0, 256⟩ ∨ (S r.f ∧ r.c = key a b r.f ∧ r.c < 256)
  le : ∀ s, S s → key a b s < 256 → r.c < key a b s ∨ (r.c = key a b s ∧ r.f ≤ s)
theorem best_unique {a b : Arc} {S T : Int → Prop} {r t : Arc} (hr : Best a b S r) (ht : Best a b T t) (hTS : ∀ s, T s → S s)
    (hd : ∀ s, S s → key a b s < 256 → ∃ u, T u ∧ (key a b u < key a b s ∨ (u = s))) : r = t := by
  obtain ⟨rf, rc⟩ := r
  obtain ⟨tf, tc⟩ := t
  have h1 := hr.is; have h2 := ht.is
  simp only [Arc.mk.injEq] at *
  rcases h1 with h1 | ⟨h1, h3, h4⟩
  · rcases h2 with h2 | ⟨h5, h6, h7⟩
    · omega
    · have := hr.le _ (hTS _ h5) (by omega); simp only at this; omega
  · obtain ⟨u, hu1, hu2⟩ := hd rf h1 (by omega)
    have hu3 : key a b u < 256 := by rcases hu2 with hu2 | rfl <;> omega
    have k1 := ht.le u hu1 hu3
    simp only at k1
    rcases h2 with h2 | ⟨h5, h6, h7⟩
    · omega
    · have k2 := hr.le _ (hTS _ h5) (by omega)
      have k3 := hr.le _ (hTS _ hu1) hu3
      simp only at k2 k3
      rcases hu2 with hu2 | rfl <;> omega
theorem hullM_best {a b : Arc} (ha : a.ok) (hb : b.ok) : Best a b (fun s => s = a.f ∨ s = b.f) (hullM a b) := by
  have e1 : hullM a b = hullStep a b (hullStep a b ⟨0, 256⟩ a.f) b.f := rfl
  have hka : max (cov a.f a) (cov a.f b) = key a b a.f := rfl
  have hkb : max (cov b.f a) (cov b.f b) = key a b b.f := rfl
  have pa := key_pos (b := b) ha a.f
  have pb := key_pos (b := b) ha b.f
  obtain ⟨a1, a2, a3, a4, a5⟩ := ha
  obtain ⟨b1, b2, b3, b4, b5⟩ := hb
  rw [e1]
  unfold hullStep
  simp only [hka, hkb]
  by_cases c1 : key a b a.f < 256
  · rw [if_pos (show key a b a.f < 256 ∨ _ from .inl c1)]
    split
    · rename_i h
      dsimp only at h
      refine ⟨.inr ⟨.inr rfl, rfl, by dsimp only; omega⟩, ?_⟩
      rintro s (rfl | rfl) h2 <;> dsimp only <;> omega
    · rename_i h
      dsimp only at h
      refine ⟨.inr ⟨.inl rfl, rfl, by dsimp only; omega⟩, ?_⟩
      rintro s (rfl | rfl) h2 <;> dsimp only <;> omega
  · have c2 : ¬ (key a b a.f < 256 ∨ key a b a.f = 256 ∧ key a b a.f < 256 ∧ a.f < 0) := by omega
    rw [if_neg c2]
    split
    · rename_i h
      dsimp only at h
      refine ⟨.inr ⟨.inr rfl, rfl, by dsimp only; omega⟩, ?_⟩
      rintro s (rfl | rfl) h2 <;> dsimp only <;> omega
    · rename_i h
      dsimp only at h
      refine ⟨.inl rfl, ?_⟩
      rintro s (rfl | rfl) h2 <;> dsimp only <;> omega
theorem hullR_best {a b : Arc} (ha : a.ok) (hb : b.ok) : ∀ k : Nat, k ≤ 256 → Best a b (fun s => 256 - (k : Int) ≤ s ∧ s < 256) (hullR a b k)
  | 0, _ => ⟨.inl rfl, fun s h => by omega⟩
  | k + 1, hk => by
    have ih := hullR_best ha hb k (by omega)
    have hn := need_eq ha hb (255 - k)
    have hkk : max (cov (255 - k) a) (cov (255 - k) b) = key a b (255 - k) := rfl
    rw [hkk] at hn
    unfold hullR
    simp only [hn]
    generalize hullR a b k = best at *
    obtain ⟨i1, i2⟩ := ih
    split
    · rename_i h
      refine ⟨.inr ⟨⟨by simp only; omega, by simp only; omega⟩, by simp only; omega, by simp only; omega⟩, ?_⟩
      rintro s ⟨h1, h2⟩ h3
      simp only
      by_cases e : s = 255 - k
      · subst e; omega
      · have := i2 s ⟨by omega, h2⟩ h3; omega
    · rename_i h
      refine ⟨?_, ?_⟩
      · rcases i1 with i1 | ⟨⟨i1, i3⟩, i4⟩
        · exact .inl i1
        · exact .inr ⟨⟨by omega, i3⟩, i4⟩
      · rintro s ⟨h1, h2⟩ h3
        by_cases e : s = 255 - k
        · subst e; omega
        · exact i2 s ⟨by omega, h2⟩ h3
theorem hull_eq {a b : Arc} (ha : a.ok) (hb : b.ok) : hullR a b 256 = hullM a b :=
  best_unique (hullR_best ha hb 256 (Nat.le_refl _)) (hullM_best ha hb)
    (fun s hs => by
      obtain ⟨a1, a2, a3, a4, a5⟩ := ha
      obtain ⟨b1, b2, b3, b4, b5⟩ := hb
      rcases hs with rfl | rfl <;> constructor <;> omega)
    (fun s hs hk => by
      rcases dominated ha hb s ⟨by omega, hs.2⟩ hk with h | h
      · exact ⟨a.f, .inl rfl, h⟩
      · exact ⟨b.f, .inr rfl, h⟩)
theorem hull_ok {a b : Arc} (ha : a.ok) (hb : b.ok) : (hullM a b).ok := by
  have h := hullM_best ha hb
  have hp := key_pos (b := b) ha (hullM a b).f
  obtain ⟨a1, a2, a3, a4, a5⟩ := ha
  obtain ⟨b1, b2, b3, b4, b5⟩ := hb
  rcases h.is with e | ⟨e1, e2, e3⟩
  · rw [e]; unfold Arc.ok; simp
  · unfold Arc.ok
    rcases e1 with e1 | e1 <;> omega
theorem hull_left {a b : Arc} (ha : a.ok) (hb : b.ok) (h : Int) (hm : a.mem h = true) : (hullM a b).mem h = true := by
  have hh := hullM_best ha hb
  rcases hh.is with e | ⟨e1, e2, e3⟩
  · rw [e]; simp only [Arc.mem, decide_eq_true_eq]; omega
  · obtain ⟨a1, a2, a3, a4, a5⟩ := ha
    obtain ⟨b1, b2, b3, b4, b5⟩ := hb
    simp only [Arc.mem, decide_eq_true_eq] at *
    unfold key cov at e2
    rcases e1 with e1 | e1 <;> rw [e1] at e2 ⊢ <;> omega
theorem hull_right {a b : Arc} (ha : a.ok) (hb : b.ok) (h : Int) (hm : b.mem h = true) : (hullM a b).mem h = true := by
  have hh := hullM_best ha hb
  rcases hh.is with e | ⟨e1, e2, e3⟩
  · rw [e]; simp only [Arc.mem, decide_eq_true_eq]; omega
  · obtain ⟨a1, a2, a3, a4, a5⟩ := ha
    obtain ⟨b1, b2, b3, b4, b5⟩ := hb
    simp only [Arc.mem, decide_eq_true_eq] at *
    unfold key cov at e2
    rcases e1 with e1 | e1 <;> rw [e1] at e2 ⊢ <;> omega
theorem hull_comm {a b : Arc} (ha : a.ok) (hb : b.ok) : hullM a b = hullM b a := by
  refine best_unique (S := fun s => s = a.f ∨ s = b.f) (T := fun s => s = a.f ∨ s = b.f) (hullM_best ha hb) ?_ (fun s h => h) (fun s h _ => ⟨s, h, .inr rfl⟩)
  have h := hullM_best hb ha
  have hk : ∀ s, key b a s = key a b s := fun s => by unfold key; omega
  refine ⟨?_, ?_⟩
  · rcases h.is with e | ⟨e1, e2, e3⟩
    · exact .inl e
    · exact .inr ⟨e1.symm, by rw [← hk]; exact e2, e3⟩
  · intro s hs h2
    rw [← hk] at h2 ⊢
    exact h.le s hs.symm h2
theorem hull_self {a : Arc} (ha : a.ok) : hullM a a = a := by
  obtain ⟨a1, a2, a3, a4, a5⟩ := ha
  obtain ⟨f, c⟩ := a
  simp only at *
  unfold hullM hullStep cov
  simp only [Int.sub_self, Int.zero_emod, Int.zero_add, Int.max_self]
  by_cases e : c < 256
  · rw [if_pos (show c < 256 ∨ _ from .inl e)]
    simp
  · obtain rfl : c = 256 := by omega
    obtain rfl : f = 0 := by omega
    simp
end Go.Proofs.Ytmpmggbcmioipaa
