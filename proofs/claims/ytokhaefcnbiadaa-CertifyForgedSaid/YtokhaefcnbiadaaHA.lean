import Derived.Test.YtokhaefcnbiadaaK14
set_option linter.all false
namespace Go.Proofs.Ytokhaefcnbiadaa
structure Arc where
  (f c : Int)
def Arc.ok (a : Arc) : Prop := 0 ≤ a.f ∧ a.f < 256 ∧ 1 ≤ a.c ∧ a.c ≤ 256 ∧ (a.f = 0 ∨ a.c < 256)
instance decArcOk (a : Arc) : Decidable a.ok := by unfold Arc.ok; infer_instance
def Arc.mem (a : Arc) (h : Int) : Bool := decide ((h - a.f) % 256 < a.c)

/-! ### hull -/
def cov (s : Int) (a : Arc) : Int := (a.f - s) % 256 + a.c
def hullStep (a b : Arc) (best : Arc) (s : Int) : Arc :=
  let n := max (cov s a) (cov s b)
  if n < best.c ∨ (n = best.c ∧ n < 256 ∧ s < best.f) then ⟨s, n⟩ else best
def hullM (a b : Arc) : Arc := hullStep a b (hullStep a b ⟨0, 256⟩ a.f) b.f
/-- need, mark by mark -/
def needR (a b : Arc) (s : Int) : Nat → Nat
  | 0 => 0
  | i + 1 => if (a.mem (s + i) || b.mem (s + i)) then i + 1 else needR a b s i
def hullR (a b : Arc) : Nat → Arc
  | 0 => ⟨0, 256⟩
  | k + 1 => let best := hullR a b k
    let s : Int := 255 - k
    let n : Int := needR a b s 256
    if n < 256 ∧ n ≤ best.c then ⟨s, n⟩ else best
theorem needR_le (a b : Arc) (s : Int) : ∀ i, needR a b s i ≤ i
  | 0 => Nat.le_refl _
  | i + 1 => by unfold needR; split; exact Nat.le_refl _; have := needR_le a b s i; omega
theorem needR_stop {a b : Arc} {s : Int} {N : Nat} : ∀ {i : Nat}, N ≤ i → (∀ j, N ≤ j → j < i → (a.mem (s + j) || b.mem (s + j)) = false) → needR a b s i = needR a b s N
  | 0, h, _ => by have : N = 0 := by omega
                  subst this; rfl
  | i + 1, h, hj => by
    by_cases e : N = i + 1
    · subst e; rfl
    · rw [needR, if_neg (by rw [hj i (by omega) (by omega)]; decide)]
      exact needR_stop (by omega) fun j h1 h2 => hj j h1 (by omega)
theorem need_eq {a b : Arc} (ha : a.ok) (hb : b.ok) (s : Int) : (needR a b s 256 : Int) = min 256 (max (cov s a) (cov s b)) := by
  obtain ⟨a1, a2, a3, a4, a5⟩ := ha
  obtain ⟨b1, b2, b3, b4, b5⟩ := hb
  obtain ⟨N, hN⟩ : ∃ N : Nat, (N : Int) = min 256 (max (cov s a) (cov s b)) := ⟨(min 256 (max (cov s a) (cov s b))).toNat, by unfold cov; omega⟩
  unfold cov at hN
  have hpos : 0 < N := by omega
  have hle : N ≤ 256 := by omega
  obtain ⟨M, rfl⟩ : ∃ M, N = M + 1 := ⟨N - 1, by omega⟩
  have h1 : needR a b s 256 = needR a b s (M + 1) := by
    refine needR_stop hle fun j h1 h2 => ?_
    simp only [Arc.mem, Bool.or_eq_false_iff, decide_eq_false_iff_not]
    constructor <;> omega
  have h2 : needR a b s (M + 1) = M + 1 := by
    rw [needR, if_pos]
    simp only [Arc.mem, Bool.or_eq_true, decide_eq_true_eq]
    omega
  rw [h1, h2]
  unfold cov
  exact hN
theorem dominated {a b : Arc} (ha : a.ok) (hb : b.ok) (s : Int) (hs : 0 ≤ s ∧ s < 256) (h : max (cov s a) (cov s b) < 256) :
    (max (cov a.f a) (cov a.f b) < max (cov s a) (cov s b) ∨ (a.f = s)) ∨ (max (cov b.f a) (cov b.f b) < max (cov s a) (cov s b) ∨ b.f = s) := by
  obtain ⟨a1, a2, a3, a4, a5⟩ := ha
  obtain ⟨b1, b2, b3, b4, b5⟩ := hb
  unfold cov at *
  by_cases e : (a.f - s) % 256 ≤ (b.f - s) % 256
  · left
    by_cases e2 : a.f = s
    · exact .inr e2
    · left; omega
  · right
    by_cases e2 : b.f = s
    · exact .inr e2
    · left; omega
def key (a b : Arc) (s : Int) : Int := max (cov s a) (cov s b)
theorem key_pos {a b : Arc} (ha : a.ok) (s : Int) : 1 ≤ key a b s := by
  obtain ⟨a1, a2, a3, a4, a5⟩ := ha
  unfold key cov; omega
/-- best among the starts of a set -/
structure Best (a b : Arc) (S : Int → Prop) (r : Arc) : Prop where
  is : r = ⟨0, 256⟩ ∨ (S r.f ∧ r.c = key a b r.f ∧ r.c < 256)
  le : ∀ s, S s → key a b s < 256 → r.c < key a b s ∨ (r.c = key a b s ∧ r.f ≤ s)
theorem best_unique {a b : Arc} {S T : Int → Prop} {r t : Arc} (hr : Best a b S r) (ht : Best a b T t) (hTS : ∀ s, T s → S s)
    (hd : ∀ s, S s → key a b s < 256 → ∃ u, T u ∧ (key a b u < key a b s ∨ (u = s))) : r = t := by
  obtain ⟨rf, rc⟩ := r
  obtain ⟨tf, tc⟩ := t
  have h1 := hr.is; have h2 := ht.is
  simp only [Arc.mk.injEq] at *
  rcases h1 with h1 | ⟨h1, h3, h4⟩
  · rcases h2 with h2 | ⟨h5, h6, h7⟩
    · omega
    · have := hr.le _ (hTS _ h5) (by omega); simp only at this; omega
  · obtain ⟨u, hu1, hu2⟩ := hd rf h1 (by omega)
    have hu3 : key a b u < 256 := by rcases hu2 with hu2 | rfl <;> omega
    have k1 := ht.le u hu1 hu3
    simp only at k1
    rcases h2 with h2 | ⟨h5, h6, h7⟩
    · omega
    · have k2 := hr.le _ (hTS _ h5) (by omega)
      have k3 := hr.le _ (hTS _ hu1) hu3
      simp only at k2 k3
      rcases hu2 with hu2 | rfl <;> omega
theorem hullM_best {a b : Arc} (ha : a.ok) (hb : b.ok) : Best a b (fun s => s = a.f ∨ s = b.f) (hullM a b) := by
  have e1 : hullM a b = hullStep a b (hullStep a b ⟨0, 256⟩ a.f) b.f := rfl
  have hka : max (cov a.f a) (cov a.f b) = key a b a.f := rfl
  have hkb : max (cov b.f a) (cov b.f b) = key a b b.f := rfl
  have pa := key_pos (b := b) ha a.f
  have pb := key_pos (b := b) ha b.f
  obtain ⟨a1, a2, a3, a4, a5⟩ := ha
  obtain ⟨b1, b2, b3, b4, b5⟩ := hb
  rw [e1]
  unfold hullStep
  simp only [hka, hkb]
  by_cases c1 : key a b a.f < 256
  · rw [if_pos (show key a b a.f < 256 ∨ _ from .inl c1)]
    split
    · rename_i h
      dsimp only at h
      refine ⟨.inr ⟨.inr rfl, rfl, by dsimp only; omega⟩, ?_⟩
      rintro s (rfl | rfl) h2 <;> dsimp only <;> omega
    · rename_i h
      dsimp only at h
      refine ⟨.inr ⟨.inl rfl, rfl, by dsimp only; omega⟩, ?_⟩
      rintro s (rfl | rfl) h2 <;> dsimp only <;> omega
  · have c2 : ¬ (key a b a.f < 256 ∨ key a b a.f = 256 ∧ key a b a.f < 256 ∧ a.f < 0) := by omega
    rw [if_neg c2]
    split
    · rename_i h
      dsimp only at h
      refine ⟨.inr ⟨.inr rfl, rfl, by dsimp only; omega⟩, ?_⟩
      rintro s (rfl | rfl) h2 <;> dsimp only <;> omega
    · rename_i h
      dsimp only at h
      refine ⟨.inl rfl, ?_⟩
      rintro s (rfl | rfl) h2 <;> dsimp only <;> omega
theorem hullR_best {a b : Arc} (ha : a.ok) (hb : b.ok) : ∀ k : Nat, k ≤ 256 → Best a b (fun s => 256 - (k : Int) ≤ s ∧ s < 256) (hullR a b k)
  | 0, _ => ⟨.inl rfl, fun s h => by omega⟩
  | k + 1, hk => by
    have ih := hullR_best ha hb k (by omega)
    have hn := need_eq ha hb (255 - k)
    have hkk : max (cov (255 - k) a) (cov (255 - k) b) = key a b (255 - k) := rfl
    rw [hkk] at hn
    unfold hullR
    simp only [hn]
    generalize hullR a b k = best at *
    obtain ⟨i1, i2⟩ := ih
    split
    · rename_i h
      refine ⟨.inr ⟨⟨by simp only; omega, by simp only; omega⟩, by simp only; omega, by simp only; omega⟩, ?_⟩
      rintro s ⟨h1, h2⟩ h3
      simp only
      by_cases e : s = 255 - k
      · subst e; omega
      · have := i2 s ⟨by omega, h2⟩ h3; omega
    · rename_i h
      refine ⟨?_, ?_⟩
      · rcases i1 with i1 | ⟨⟨i1, i3⟩, i4⟩
        · exact .inl i1
        · exact .inr ⟨⟨by omega, i3⟩, i4⟩
      · rintro s ⟨h1, h2⟩ h3
        by_cases e : s = 255 - k
        · subst e; omega
        · exact i2 s ⟨by omega, h2⟩ h3
theorem hull_eq {a b : Arc} (ha : a.ok) (hb : b.ok) : hullR a b 256 = hullM a b :=
  best_unique (hullR_best ha hb 256 (Nat.le_refl _)) (hullM_best ha hb)
    (fun s hs => by
      obtain ⟨a1, a2, a3, a4, a5⟩ := ha
      obtain ⟨b1, b2, b3, b4, b5⟩ := hb
      rcases hs with rfl | rfl <;> constructor <;> omega)
    (fun s hs hk => by
      rcases dominated ha hb s ⟨by omega, hs.2⟩ hk with h | h
      · exact ⟨a.f, .inl rfl, h⟩
      · exact ⟨b.f, .inr rfl, h⟩)
theorem hull_ok {a b : Arc} (ha : a.ok) (hb : b.ok) : (hullM a b).ok := by
  have h := hullM_best ha hb
  have hp := key_pos (b := b) ha (hullM a b).f
  obtain ⟨a1, a2, a3, a4, a5⟩ := ha
  obtain ⟨b1, b2, b3, b4, b5⟩ := hb
  rcases h.is with e | ⟨e1, e2, e3⟩
  · rw [e]; unfold Arc.ok; simp
  · unfold Arc.ok
    rcases e1 with e1 | e1 <;> omega
theorem hull_left {a b : Arc} (ha : a.ok) (hb : b.ok) (h : Int) (hm : a.mem h = true) : (hullM a b).mem h = true := by
  have hh := hullM_best ha hb
  rcases hh.is with e | ⟨e1, e2, e3⟩
  · rw [e]; simp only [Arc.mem, decide_eq_true_eq]; omega
  · obtain ⟨a1, a2, a3, a4, a5⟩ := ha
    obtain ⟨b1, b2, b3, b4, b5⟩ := hb
    simp only [Arc.mem, decide_eq_true_eq] at *
    unfold key cov at e2
    rcases e1 with e1 | e1 <;> rw [e1] at e2 ⊢ <;> omega
theorem hull_right {a b : Arc} (ha : a.ok) (hb : b.ok) (h : Int) (hm : b.mem h = true) : (hullM a b).mem h = true := by
  have hh := hullM_best ha hb
  rcases hh.is with e | ⟨e1, e2, e3⟩
  · rw [e]; simp only [Arc.mem, decide_eq_true_eq]; omega
  · obtain ⟨a1, a2, a3, a4, a5⟩ := ha
    obtain ⟨b1, b2, b3, b4, b5⟩ := hb
    simp only [Arc.mem, decide_eq_true_eq] at *
    unfold key cov at e2
    rcases e1 with e1 | e1 <;> rw [e1] at e2 ⊢ <;> omega
theorem hull_comm {a b : Arc} (ha : a.ok) (hb : b.ok) : hullM a b = hullM b a := by
  refine best_unique (S := fun s => s = a.f ∨ s = b.f) (T := fun s => s = a.f ∨ s = b.f) (hullM_best ha hb) ?_ (fun s h => h) (fun s h _ => ⟨s, h, .inr rfl⟩)
  have h := hullM_best hb ha
  have hk : ∀ s, key b a s = key a b s := fun s => by unfold key; omega
  refine ⟨?_, ?_⟩
  · rcases h.is with e | ⟨e1, e2, e3⟩
    · exact .inl e
    · exact .inr ⟨e1.symm, by rw [← hk]; exact e2, e3⟩
  · intro s hs h2
    rw [← hk] at h2 ⊢
    exact h.le s hs.symm h2
theorem hull_self {a : Arc} (ha : a.ok) : hullM a a = a := by
  obtain ⟨a1, a2, a3, a4, a5⟩ := ha
  obtain ⟨f, c⟩ := a
  simp only at *
  unfold hullM hullStep cov
  simp only [Int.sub_self, Int.zero_emod, Int.zero_add, Int.max_self]
  by_cases e : c < 256
  · rw [if_pos (show c < 256 ∨ _ from .inl e)]
    simp
  · obtain rfl : c = 256 := by omega
    obtain rfl : f = 0 := by omega
    simp
/-! ### runs of a periodic set of marks -/
def runF (p : Int → Bool) (h : Int) : Nat → Nat → Nat
  | 0, n => n
  | k + 1, n => if p (h + n) then runF p h k (n + 1) else n
def run (p : Int → Bool) (h : Int) : Nat := runF p h 256 1
def start (p : Int → Bool) (h : Int) : Bool := p h && !p (h - 1)
def runsTo (p : Int → Bool) (i : Nat) : List Arc := ((List.range i).filter fun h : Nat => start p (h : Int)).map fun h : Nat => ⟨(h : Int), (run p (h : Int) : Int)⟩
def meetP (p : Int → Bool) : List Arc := if runsTo p 256 = [] ∧ p 0 = true then [⟨0, 256⟩] else runsTo p 256
structure Per (p : Int → Bool) : Prop where
  per : ∀ h, p (h % 256) = p h
theorem Per.at {p : Int → Bool} (hp : Per p) {h g : Int} (e : h % 256 = g % 256) : p h = p g := by rw [← hp.per h, ← hp.per g, e]
theorem runF_spec {p : Int → Bool} {h : Int} : ∀ (k n : Nat), 1 ≤ n → (∃ j, n ≤ j ∧ j < n + k ∧ p (h + j) = false) →
    n ≤ runF p h k n ∧ p (h + runF p h k n) = false ∧ ∀ j : Nat, n ≤ j → j < runF p h k n → p (h + j) = true
  | 0, n, _, ⟨j, h1, h2, _⟩ => by omega
  | k + 1, n, hn, ⟨j, h1, h2, h3⟩ => by
    unfold runF
    split
    · rename_i hp
      have hj : j ≠ n := by rintro rfl; rw [hp] at h3; cases h3
      obtain ⟨g1, g2, g3⟩ := runF_spec (p := p) (h := h) k (n + 1) (by omega) ⟨j, by omega, by omega, h3⟩
      refine ⟨by omega, g2, fun i hi hi2 => ?_⟩
      by_cases e : i = n
      · subst e; exact hp
      · exact g3 i (by omega) hi2
    · rename_i hp
      exact ⟨Nat.le_refl _, by simpa using hp, fun j h1 h2 => by omega⟩
theorem run_spec {p : Int → Bool} (hp : Per p) {h : Int} (hs : start p h = true) :
    1 ≤ run p h ∧ run p h ≤ 255 ∧ p (h + run p h) = false ∧ ∀ j : Nat, j < run p h → p (h + j) = true := by
  simp only [start, Bool.and_eq_true, Bool.not_eq_true'] at hs
  have hl : p (h + (255 : Nat)) = false := by rw [hp.at (g := h - 1) (by omega)]; exact hs.2
  obtain ⟨h1, h2, h3⟩ := runF_spec (p := p) (h := h) 256 1 (Nat.le_refl _) ⟨255, by omega, by omega, hl⟩
  refine ⟨h1, ?_, h2, fun j hj => ?_⟩
  · rcases Nat.lt_or_ge 255 (run p h) with hc | hc
    · have := h3 255 (by omega) hc
      rw [hl] at this; cases this
    · exact hc
  · by_cases e : j = 0
    · subst e; simpa using hs.1
    · exact h3 j (by omega) hj
theorem run_mem {p : Int → Bool} (hp : Per p) {s : Int} (hs : start p s = true) {h : Int} : (Arc.mk s (run p s)).mem h = true → p h = true := by
  intro hm
  simp only [Arc.mem, decide_eq_true_eq] at hm
  obtain ⟨h1, h2, h3, h4⟩ := run_spec hp hs
  have := h4 ((h - s) % 256).toNat (by omega)
  rw [hp.at (g := h) (by omega)] at this
  exact this
theorem exists_run {p : Int → Bool} (hp : Per p) {h z : Int} (hh : p h = true) (hz : p z = false) :
    ∃ s : Nat, s < 256 ∧ start p s = true ∧ (Arc.mk s (run p s)).mem h = true := by
  have key : ∀ d : Nat, p (h - d) = false → ∃ e : Nat, e < d ∧ start p (h - e) = true ∧ ∀ j : Nat, j ≤ e → p (h - j) = true := by
    intro d
    induction d with
    | zero => intro hd; rw [show h - ((0 : Nat) : Int) = h by omega, hh] at hd; cases hd
    | succ d ih =>
      intro hd
      cases hpd : p (h - d) with
      | false => obtain ⟨e, h1, h2⟩ := ih hpd; exact ⟨e, by omega, h2⟩
      | true =>
        by_cases hall : ∃ j : Nat, j ≤ d ∧ p (h - j) = false
        · obtain ⟨j, h1, h2⟩ := hall
          have hj : j < d := by rcases Nat.lt_or_ge j d with h | h; exact h; obtain rfl : j = d := by omega
                                rw [hpd] at h2; cases h2
          obtain ⟨e, g1, g2, g3⟩ := (by
            clear hpd hd ih
            induction j with
            | zero => rw [show h - ((0 : Nat) : Int) = h by omega, hh] at h2; cases h2
            | succ j ihj =>
              cases hpj : p (h - j) with
              | false => exact ihj (by omega) hpj (by omega)
              | true => exact (by
                  by_cases hb : ∃ i : Nat, i ≤ j ∧ p (h - i) = false
                  · obtain ⟨i, hi, hi2⟩ := hb
                    exact (by
                      have : ∀ m : Nat, m ≤ j → p (h - m) = false → ∃ e : Nat, e < d + 1 ∧ start p (h - e) = true ∧ ∀ j : Nat, j ≤ e → p (h - j) = true := by
                        intro m
                        induction m using Nat.strongRecOn with
                        | _ m ihm =>
                          intro hm hpm
                          by_cases hbb : ∃ i : Nat, i < m ∧ p (h - i) = false
                          · obtain ⟨i, h5, h6⟩ := hbb
                            exact ihm i h5 (by omega) h6
                          · have hm0 : m ≠ 0 := by rintro rfl; rw [show h - ((0 : Nat) : Int) = h by omega, hh] at hpm; cases hpm
                            have hall : ∀ i : Nat, i < m → p (h - i) = true := fun i hi => by
                              cases hq : p (h - i) with
                              | true => rfl
                              | false => exact absurd ⟨i, hi, hq⟩ hbb
                            refine ⟨m - 1, by omega, ?_, fun i hi => hall i (by omega)⟩
                            simp only [start, Bool.and_eq_true, Bool.not_eq_true']
                            refine ⟨hall _ (by omega), ?_⟩
                            rw [show h - ((m - 1 : Nat) : Int) - 1 = h - (m : Int) by omega]
                            exact hpm
                      exact this i hi hi2)
                  · refine ⟨j, by omega, ?_, fun i hi => ?_⟩
                    · simp only [start, Bool.and_eq_true, Bool.not_eq_true']
                      refine ⟨hpj, ?_⟩
                      rw [show h - (j : Int) - 1 = h - ((j + 1 : Nat) : Int) by omega]
                      exact h2
                    · cases hq : p (h - i) with
                      | true => rfl
                      | false => exact absurd ⟨i, hi, hq⟩ hb) : ∃ e : Nat, e < d + 1 ∧ start p (h - e) = true ∧ ∀ j : Nat, j ≤ e → p (h - j) = true)
          exact ⟨e, g1, g2, g3⟩
        · have hall' : ∀ i : Nat, i ≤ d → p (h - i) = true := fun i hi => by
            cases hq : p (h - i) with
            | true => rfl
            | false => exact absurd ⟨i, hi, hq⟩ hall
          refine ⟨d, by omega, ?_, hall'⟩
          simp only [start, Bool.and_eq_true, Bool.not_eq_true']
          refine ⟨hpd, ?_⟩
          rw [show h - (d : Int) - 1 = h - ((d + 1 : Nat) : Int) by omega]
          exact hd
  have hz' : p (h - ((h - z) % 256).toNat) = false := by rw [hp.at (g := z) (by omega)]; exact hz
  obtain ⟨e, he, hst, hall⟩ := key _ hz'
  have hst' : start p ((((h - e) % 256).toNat : Nat) : Int) = true := by
    simp only [start] at hst ⊢
    rw [hp.at (h := ((((h - e) % 256).toNat : Nat) : Int)) (g := h - e) (by omega), hp.at (h := ((((h - e) % 256).toNat : Nat) : Int) - 1) (g := h - e - 1) (by omega)]
    exact hst
  refine ⟨((h - e) % 256).toNat, by omega, hst', ?_⟩
  obtain ⟨h1, h2, h3, h4⟩ := run_spec hp hst'
  have hr : e < run p ((((h - e) % 256).toNat : Nat) : Int) := by
    rcases Nat.lt_or_ge e (run p ((((h - e) % 256).toNat : Nat) : Int)) with hc | hc
    · exact hc
    · have := hall (e - run p ((((h - e) % 256).toNat : Nat) : Int)) (by omega)
      rw [hp.at (g := ((((h - e) % 256).toNat : Nat) : Int) + run p ((((h - e) % 256).toNat : Nat) : Int)) (by omega), h3] at this
      cases this
  simp only [Arc.mem, decide_eq_true_eq]
  omega
theorem run_unique {p : Int → Bool} (hp : Per p) {s t : Nat} (hs : start p s = true) (ht : start p t = true) (hs2 : s < 256) (ht2 : t < 256) {h : Int}
    (hms : (Arc.mk s (run p s)).mem h = true) (hmt : (Arc.mk t (run p t)).mem h = true) : s = t := by
  obtain ⟨s1, s2, s3, s4⟩ := run_spec hp hs
  obtain ⟨t1, t2, t3, t4⟩ := run_spec hp ht
  simp only [Arc.mem, decide_eq_true_eq] at hms hmt
  simp only [start, Bool.and_eq_true, Bool.not_eq_true'] at hs ht
  rcases Int.lt_trichotomy ((h - s) % 256) ((h - t) % 256) with hc | hc | hc
  · have := t4 (((h - t) % 256) - ((h - s) % 256) - 1).toNat (by omega)
    rw [hp.at (g := (s : Int) - 1) (by omega), hs.2] at this; cases this
  · omega
  · have := s4 (((h - s) % 256) - ((h - t) % 256) - 1).toNat (by omega)
    rw [hp.at (g := (t : Int) - 1) (by omega), ht.2] at this; cases this
theorem countP_one {q : Nat → Bool} {k : Nat} : ∀ {n : Nat}, k < n → q k = true → (∀ i, i < n → q i = true → i = k) → (List.range n).countP q = 1
  | 0, h, _, _ => by omega
  | n + 1, h, hk, hu => by
    rw [List.range_succ, List.countP_append, List.countP_singleton]
    by_cases e : k = n
    · subst e
      rw [if_pos hk, List.countP_eq_zero.2]
      intro i hi h2
      have := hu i (by have := List.mem_range.1 hi; omega) h2
      have := List.mem_range.1 hi
      omega
    · rw [countP_one (by omega) hk (fun i hi => hu i (by omega)), if_neg]
      intro hq
      have := hu n (by omega) hq
      omega
theorem cover_runs {p : Int → Bool} (hp : Per p) {z : Int} (hz : p z = false) (h : Int) : (runsTo p 256).countP (fun r => r.mem h) = if p h then 1 else 0 := by
  unfold runsTo
  rw [List.countP_map, List.countP_filter]
  split
  · rename_i hh
    obtain ⟨s, h1, h2, h3⟩ := exists_run hp hh hz
    refine countP_one (k := s) h1 (by simp [h2, h3]) fun i hi hq => ?_
    simp only [Function.comp_apply, Bool.and_eq_true] at hq
    exact run_unique hp hq.2 h2 hi h1 hq.1 h3
  · rename_i hh
    rw [List.countP_eq_zero]
    intro i hi hq
    simp only [Function.comp_apply, Bool.and_eq_true] at hq
    exact hh (run_mem hp hq.2 hq.1)
theorem all_of_no_start {p : Int → Bool} (hp : Per p) (hn : runsTo p 256 = []) (h : Int) : p h = p 0 := by
  cases hz : p 0 with
  | true =>
    cases hh : p h with
    | true => rfl
    | false =>
      obtain ⟨s, h1, h2, _⟩ := exists_run hp hz hh
      have : s ∈ (List.range 256).filter fun h : Nat => start p (h : Int) := List.mem_filter.2 ⟨List.mem_range.2 h1, h2⟩
      rw [runsTo, List.map_eq_nil_iff] at hn
      rw [hn] at this; cases this
  | false =>
    cases hh : p h with
    | false => rfl
    | true =>
      obtain ⟨s, h1, h2, _⟩ := exists_run hp hh hz
      have : s ∈ (List.range 256).filter fun h : Nat => start p (h : Int) := List.mem_filter.2 ⟨List.mem_range.2 h1, h2⟩
      rw [runsTo, List.map_eq_nil_iff] at hn
      rw [hn] at this; cases this
theorem no_full {p : Int → Bool} (hn : runsTo p 256 ≠ []) : ∃ z, p z = false := by
  match hl : (List.range 256).filter fun h : Nat => start p (h : Int) with
  | [] => rw [runsTo, hl] at hn; exact absurd rfl hn
  | s :: r =>
    have : s ∈ (List.range 256).filter fun h : Nat => start p (h : Int) := by rw [hl]; exact List.mem_cons_self ..
    have := (List.mem_filter.1 this).2
    simp only [start, Bool.and_eq_true, Bool.not_eq_true'] at this
    exact ⟨_, this.2⟩
theorem cover {p : Int → Bool} (hp : Per p) (h : Int) : (meetP p).countP (fun r => r.mem h) = if p h then 1 else 0 := by
  unfold meetP
  split
  · rename_i hc
    rw [all_of_no_start hp hc.1 h, hc.2]
    have : (⟨0, 256⟩ : Arc).mem h = true := by simp only [Arc.mem, decide_eq_true_eq]; omega
    simp [this]
  · rename_i hc
    by_cases hn : runsTo p 256 = []
    · have hz : p 0 = false := by
        cases h0 : p 0 with
        | false => rfl
        | true => exact absurd ⟨hn, h0⟩ hc
      rw [hn, all_of_no_start hp hn h, hz]; rfl
    · cases hh : p h with
      | false => rw [cover_runs hp hh h, hh]
      | true =>
        obtain ⟨z, hz⟩ := no_full hn
        rw [cover_runs hp hz h, hh]
theorem meet_ok {p : Int → Bool} (hp : Per p) : ∀ r ∈ meetP p, r.ok := by
  intro r hr
  unfold meetP at hr
  split at hr
  · simp only [List.mem_singleton] at hr
    subst hr; unfold Arc.ok; simp
  · unfold runsTo at hr
    obtain ⟨s, hs, rfl⟩ := List.mem_map.1 hr
    obtain ⟨h1, h2⟩ := List.mem_filter.1 hs
    have := List.mem_range.1 h1
    obtain ⟨r1, r2, r3, r4⟩ := run_spec hp h2
    unfold Arc.ok
    simp only
    omega
/-- how many of the first marks are in a set -/
def cnt (q : Int → Bool) (n : Nat) : Nat := (List.range n).countP fun i : Nat => q i
theorem cnt_succ (q : Int → Bool) (n : Nat) : cnt q (n + 1) = cnt q n + if q n then 1 else 0 := by
  unfold cnt
  rw [List.range_succ, List.countP_append, List.countP_singleton]
theorem cnt_arc {a : Arc} (ha : a.ok) : cnt a.mem 256 = a.c := by
  obtain ⟨a1, a2, a3, a4, a5⟩ := ha
  have key : ∀ n : Nat, n ≤ 256 → (cnt a.mem n : Int) = (if a.f + a.c ≤ 256 then (if (n : Int) ≤ a.f then 0 else min (n - a.f) a.c) else (min (n : Int) (a.f + a.c - 256) + (if (n : Int) ≤ a.f then 0 else n - a.f))) := by
    intro n
    induction n with
    | zero => intro _; simp only [cnt, List.range_zero, List.countP_nil]; omega
    | succ n ih =>
      intro hn
      have ih := ih (by omega)
      rw [cnt_succ]
      have hm : (a.mem n = true) ↔ (n - a.f) % 256 < a.c := by simp [Arc.mem]
      by_cases h : (n - a.f) % 256 < a.c
      · rw [if_pos (hm.2 h)]; omega
      · rw [if_neg (fun h2 => h (hm.1 h2))]; omega
  rw [key 256 (Nat.le_refl _)]
  omega
def sumC : List Arc → Int
  | [] => 0
  | a :: r => a.c + sumC r
def sumN : List Nat → Nat
  | [] => 0
  | a :: r => a + sumN r
theorem sum_cnt : ∀ {l : List Arc}, (∀ r ∈ l, r.ok) → ∀ n : Nat, ((l.map fun a => cnt a.mem n) |> sumN) = sumN ((List.range n).map fun i : Nat => l.countP fun r => r.mem i)
  | l, hl, 0 => by
    simp only [List.range_zero, List.map_nil, sumN, cnt, List.countP_nil]
    clear hl
    induction l with
    | nil => rfl
    | cons a r ih => simp only [List.map_cons, sumN]; rw [ih]
  | l, hl, n + 1 => by
    have ih := sum_cnt hl n
    have hs : ∀ (x y : List Nat), sumN (x ++ y) = sumN x + sumN y := by
      intro x y
      induction x with
      | nil => simp [sumN]
      | cons a r ih => simp only [List.cons_append, sumN, ih]; omega
    rw [List.range_succ, List.map_append, hs, ← ih]
    simp only [List.map_cons, List.map_nil, sumN, Nat.add_zero]
    clear ih hs hl
    induction l with
    | nil => rfl
    | cons a r ih =>
      simp only [List.map_cons, sumN, List.countP_cons]
      rw [ih, cnt_succ]
      omega
theorem sumC_meet {p : Int → Bool} (hp : Per p) : sumC (meetP p) = cnt p 256 := by
  have h1 := sum_cnt (meet_ok hp) 256
  have h2 : ∀ l : List Arc, (∀ r ∈ l, r.ok) → (sumN (l.map fun a => cnt a.mem 256) : Int) = sumC l := by
    intro l hl
    induction l with
    | nil => rfl
    | cons a r ih =>
      have := cnt_arc (hl a (List.mem_cons_self ..))
      simp only [List.map_cons, sumN, sumC]
      rw [← ih fun r hr => hl r (List.mem_cons_of_mem _ hr), Int.natCast_add, this]
  rw [← h2 _ (meet_ok hp), h1]
  have h3 : (fun i : Nat => (meetP p).countP fun r => r.mem i) = fun i : Nat => if p i then 1 else 0 := by
    funext i; exact cover hp i
  rw [h3]
  have h4 : ∀ n : Nat, sumN ((List.range n).map fun i : Nat => if p i then 1 else 0) = cnt p n := by
    intro n
    induction n with
    | zero => rfl
    | succ n ih =>
      have hs : ∀ (x y : List Nat), sumN (x ++ y) = sumN x + sumN y := by
        intro x y
        induction x with
        | nil => simp [sumN]
        | cons a r ih => simp only [List.cons_append, sumN, ih]; omega
      rw [List.range_succ, List.map_append, hs, ih, cnt_succ]
      simp [sumN]
  rw [h4]
theorem cnt_le {p q : Int → Bool} (h : ∀ i, p i = true → q i = true) : ∀ n, cnt p n ≤ cnt q n
  | 0 => Nat.le_refl _
  | n + 1 => by
    rw [cnt_succ, cnt_succ]
    have := cnt_le h n
    by_cases hp : p n = true
    · rw [if_pos hp, if_pos (h n hp)]; omega
    · rw [if_neg hp]; split <;> omega
theorem cnt_lt {p q : Int → Bool} (h : ∀ i, p i = true → q i = true) {k : Nat} (hk : q k = true) (hk2 : p k = false) : ∀ n, k < n → cnt p n < cnt q n
  | 0, h0 => by omega
  | n + 1, h0 => by
    rw [cnt_succ, cnt_succ]
    by_cases e : k = n
    · subst e
      have := cnt_le h k
      rw [hk, hk2]; simp; omega
    · have := cnt_lt h hk hk2 n (by omega)
      by_cases hp : p n = true
      · rw [if_pos hp, if_pos (h n hp)]; omega
      · rw [if_neg hp]; split <;> omega
def both (a b : Arc) (h : Int) : Bool := a.mem h && b.mem h
theorem mem_per (a : Arc) : Per a.mem := ⟨fun h => by simp only [Arc.mem]; rw [Int.sub_emod, Int.emod_emod, ← Int.sub_emod]⟩
theorem both_per (a b : Arc) : Per (both a b) := ⟨fun h => by simp only [both]; rw [(mem_per a).per, (mem_per b).per]⟩
def meetM (a b : Arc) : List Arc := meetP (both a b)
/-- all marks of a are in b -/
def insideA (a b : Arc) : Prop := ∀ h, a.mem h = true → b.mem h = true
theorem inside_sum {a b : Arc} (ha : a.ok) : sumC (meetM a b) = a.c ↔ insideA a b := by
  unfold meetM
  rw [sumC_meet (both_per a b), ← cnt_arc ha]
  constructor
  · intro h x hx
    cases hb : b.mem x with
    | true => rfl
    | false =>
      have h1 : a.mem ((x % 256).toNat : Nat) = true := by rw [(mem_per a).at (g := x) (by omega)]; exact hx
      have h2 : both a b ((x % 256).toNat : Nat) = false := by
        rw [(both_per a b).at (g := x) (by omega)]; simp [both, hb]
      have := cnt_lt (p := both a b) (q := a.mem) (fun i hi => by simp only [both, Bool.and_eq_true] at hi; exact hi.1) h1 h2 256 (by omega)
      omega
  · intro h
    have : both a b = a.mem := by
      funext x
      cases hx : a.mem x with
      | true => simp [both, hx, h x hx]
      | false => simp [both, hx]
    rw [this]
theorem sum_le {a b : Arc} (ha : a.ok) : sumC (meetM a b) ≤ a.c := by
  unfold meetM
  rw [sumC_meet (both_per a b), ← cnt_arc ha]
  have := cnt_le (p := both a b) (q := a.mem) (fun i hi => by simp only [both, Bool.and_eq_true] at hi; exact hi.1) 256
  omega
theorem meet_few (a b : Arc) (ha : a.ok) (hb : b.ok) : (meetM a b).length ≤ 2 := by
  unfold meetM meetP
  split
  · simp
  · unfold runsTo
    rw [List.length_map]
    have ite_of : ∀ (q : Prop) [Decidable q], (q ∧ (if q then 1 else 0 : Nat) = 1) ∨ (¬ q ∧ (if q then 1 else 0 : Nat) = 0) := fun q _ => by by_cases h : q <;> simp [h]
    have key : ∀ n : Nat, n ≤ 256 → ((List.range n).filter fun h : Nat => start (both a b) (h : Int)).length ≤ (if a.f < n then 1 else 0) + (if b.f < n then 1 else 0) := by
      obtain ⟨a1, a2, a3, a4, a5⟩ := ha
      obtain ⟨b1, b2, b3, b4, b5⟩ := hb
      intro n
      induction n with
      | zero => intro _; simp
      | succ n ih =>
        intro hn
        have ih := ih (by omega)
        have i1 := ite_of (a.f < ((n + 1 : Nat) : Int))
        have i2 := ite_of (b.f < ((n + 1 : Nat) : Int))
        have i3 := ite_of (a.f < (n : Int))
        have i4 := ite_of (b.f < (n : Int))
        generalize (if a.f < ((n + 1 : Nat) : Int) then 1 else 0 : Nat) = x1 at *
        generalize (if b.f < ((n + 1 : Nat) : Int) then 1 else 0 : Nat) = x2 at *
        generalize (if a.f < (n : Int) then 1 else 0 : Nat) = x3 at *
        generalize (if b.f < (n : Int) then 1 else 0 : Nat) = x4 at *
        rw [List.range_succ, List.filter_append, List.length_append]
        by_cases hs : start (both a b) (n : Int) = true
        · rw [List.filter_cons_of_pos (p := fun h : Nat => start (both a b) (h : Int)) hs, List.filter_nil]
          simp only [List.length_cons, List.length_nil]
          simp only [start, both, Arc.mem, Bool.and_eq_true, decide_eq_true_eq, Bool.not_eq_true', Bool.and_eq_false_iff, decide_eq_false_iff_not] at hs
          have : a.f = n ∨ b.f = n := by omega
          omega
        · rw [List.filter_cons_of_neg (p := fun h : Nat => start (both a b) (h : Int)) hs, List.filter_nil]
          simp only [List.length_nil]
          omega
    have := key 256 (Nat.le_refl _)
    have i3 := ite_of (a.f < ((256 : Nat) : Int))
    have i4 := ite_of (b.f < ((256 : Nat) : Int))
    omega
structure Vec where
  (x y d : Int)
def Vec.ok (v : Vec) : Prop := 1 ≤ v.d ∧ v.d ≤ 67108864 ∧ -v.d ≤ v.x ∧ v.x ≤ v.d ∧ -v.d ≤ v.y ∧ v.y ≤ v.d ∧ v.x * v.x + v.y * v.y = v.d * v.d
instance decVecOk (v : Vec) : Decidable v.ok := by unfold Vec.ok; infer_instance
instance decVecEq : DecidableEq Vec := fun a b => if h : a.x = b.x ∧ a.y = b.y ∧ a.d = b.d then .isTrue (by cases a; cases b; simp_all) else .isFalse (fun e => h (by subst e; exact ⟨rfl, rfl, rfl⟩))
def g3 (x y d : Int) : Nat := Nat.gcd (Nat.gcd d.natAbs x.natAbs) y.natAbs
def low (x y d : Int) : Vec := ⟨x / g3 x y d, y / g3 x y d, d / g3 x y d⟩
theorem sq_nonneg (a : Int) : 0 ≤ a * a := by
  rcases Int.le_total 0 a with h | h
  · exact Int.mul_nonneg h h
  · exact Int.mul_nonneg_of_nonpos_of_nonpos h h
theorem sq_lt {a b : Int} (h0 : 0 ≤ a) (h : a < b) : a * a < b * b := by
  have h1 : a * a ≤ a * b := Int.mul_le_mul_of_nonneg_left (by omega) h0
  have h2 : a * b < b * b := Int.mul_lt_mul_of_pos_right h (by omega)
  omega
theorem g3_x (x y d : Int) : (g3 x y d : Int) ∣ x := Int.ofNat_dvd_left.2 (Nat.dvd_trans (Nat.gcd_dvd_left _ _) (Nat.gcd_dvd_right _ _))
theorem g3_y (x y d : Int) : (g3 x y d : Int) ∣ y := Int.ofNat_dvd_left.2 (Nat.gcd_dvd_right _ _)
theorem g3_d (x y d : Int) : (g3 x y d : Int) ∣ d := Int.ofNat_dvd_left.2 (Nat.dvd_trans (Nat.gcd_dvd_left _ _) (Nat.gcd_dvd_left _ _))
theorem g3_greatest {x y d : Int} {k : Nat} (hx : (k : Int) ∣ x) (hy : (k : Int) ∣ y) (hd : (k : Int) ∣ d) : k ∣ g3 x y d :=
  Nat.dvd_gcd (Nat.dvd_gcd (Int.ofNat_dvd_left.1 hd) (Int.ofNat_dvd_left.1 hx)) (Int.ofNat_dvd_left.1 hy)
theorem g3_pos {x y d : Int} (hd : 0 < d) : 0 < g3 x y d := Nat.gcd_pos_of_pos_left _ (Nat.gcd_pos_of_pos_left _ (by omega))
theorem g3_mul (k : Nat) (x y d : Int) : g3 (k * x) (k * y) (k * d) = k * g3 x y d := by
  unfold g3
  simp only [Int.natAbs_mul, Int.natAbs_natCast, Nat.gcd_mul_left]
/-- in lowest terms -/
structure Vec.Low (v : Vec) : Prop where
  pos : 0 < v.d
  one : g3 v.x v.y v.d = 1
theorem low_spec {x y d : Int} (hd : 0 < d) : (low x y d).Low ∧ x = g3 x y d * (low x y d).x ∧ y = g3 x y d * (low x y d).y ∧ d = g3 x y d * (low x y d).d := by
  have hg : (0 : Int) < g3 x y d := by have := g3_pos (x := x) (y := y) hd; omega
  have ex := Int.mul_ediv_cancel' (g3_x x y d)
  have ey := Int.mul_ediv_cancel' (g3_y x y d)
  have ed := Int.mul_ediv_cancel' (g3_d x y d)
  refine ⟨⟨?_, ?_⟩, ex.symm, ey.symm, ed.symm⟩
  · show 0 < d / (g3 x y d : Int)
    refine Int.pos_of_mul_pos_right (a := (g3 x y d : Int)) ?_ hg
    rw [ed]; exact hd
  · show g3 (x / g3 x y d) (y / g3 x y d) (d / g3 x y d) = 1
    have := g3_mul (g3 x y d) (x / g3 x y d) (y / g3 x y d) (d / g3 x y d)
    rw [ex, ey, ed] at this
    have hp : 0 < g3 x y d := by omega
    exact Nat.eq_of_mul_eq_mul_left hp (by omega)
theorem low_unique {v w : Vec} (hv : v.Low) (hw : w.Low) (hx : v.x * w.d = w.x * v.d) (hy : v.y * w.d = w.y * v.d) : v = w := by
  have side : ∀ {v w : Vec}, v.Low → w.Low → v.x * w.d = w.x * v.d → v.y * w.d = w.y * v.d → v.d ∣ w.d := by
    intro v w hv hw hx hy
    have p1 := hv.pos; have p2 := hw.pos
    obtain ⟨m, hm⟩ : ∃ m : Nat, v.d = m := ⟨v.d.toNat, by omega⟩
    obtain ⟨n, hn⟩ : ∃ n : Nat, w.d = n := ⟨w.d.toNat, by omega⟩
    have h1 : (m : Int) ∣ n * v.x := ⟨w.x, by rw [← hm, ← hn, Int.mul_comm, hx, Int.mul_comm]⟩
    have h2 : (m : Int) ∣ n * v.y := ⟨w.y, by rw [← hm, ← hn, Int.mul_comm, hy, Int.mul_comm]⟩
    have h3 : (m : Int) ∣ n * v.d := ⟨n, by rw [hm, Int.mul_comm]⟩
    have := g3_greatest h1 h2 h3
    rw [g3_mul, hv.one, Nat.mul_one] at this
    rw [hm, hn]
    exact Int.natCast_dvd_natCast.2 this
  have d1 := side hv hw hx hy
  have d2 := side hw hv hx.symm hy.symm
  have p1 := hv.pos; have p2 := hw.pos
  have ed : v.d = w.d := Int.dvd_antisymm (by omega) (by omega) d1 d2
  have ex : v.x = w.x := Int.eq_of_mul_eq_mul_right (a := w.d) (by omega) (by rw [hx, ed])
  have ey : v.y = w.y := Int.eq_of_mul_eq_mul_right (a := w.d) (by omega) (by rw [hy, ed])
  cases v; cases w; simp_all
theorem low_eq {x y d a b c : Int} (hd : 0 < d) (hc : 0 < c) (hx : x * c = a * d) (hy : y * c = b * d) : low x y d = low a b c := by
  obtain ⟨h1, e1, e2, e3⟩ := low_spec (x := x) (y := y) hd
  obtain ⟨h2, f1, f2, f3⟩ := low_spec (x := a) (y := b) hc
  have hg : (0 : Int) < g3 x y d := by have := g3_pos (x := x) (y := y) hd; omega
  have hk : (0 : Int) < g3 a b c := by have := g3_pos (x := a) (y := b) hc; omega
  have hgk : (g3 x y d : Int) * g3 a b c ≠ 0 := Int.ne_of_gt (Int.mul_pos hg hk)
  generalize (g3 x y d : Int) = g at *
  generalize (g3 a b c : Int) = k at *
  refine low_unique h1 h2 ?_ ?_
  · refine Int.eq_of_mul_eq_mul_left hgk ?_
    have : x * c = g * (low x y d).x * (k * (low a b c).d) := by rw [← e1, ← f3]
    have : a * d = k * (low a b c).x * (g * (low x y d).d) := by rw [← f1, ← e3]
    grind
  · refine Int.eq_of_mul_eq_mul_left hgk ?_
    have : y * c = g * (low x y d).y * (k * (low a b c).d) := by rw [← e2, ← f3]
    have : b * d = k * (low a b c).y * (g * (low x y d).d) := by rw [← f2, ← e3]
    grind
/-- the rational point of a vector in lowest terms is that of the vector -/
theorem low_ratio {x y d : Int} (hd : 0 < d) : (low x y d).x * d = x * (low x y d).d ∧ (low x y d).y * d = y * (low x y d).d := by
  obtain ⟨h1, e1, e2, e3⟩ := low_spec (x := x) (y := y) hd
  generalize (g3 x y d : Int) = g at *
  generalize low x y d = v at *
  constructor
  · rw [e3, e1]; grind
  · rw [e3, e2]; grind
theorem low_le {x y d : Int} (hd : 0 < d) : 1 ≤ (low x y d).d ∧ (low x y d).d ≤ d := by
  obtain ⟨h1, e1, e2, e3⟩ := low_spec (x := x) (y := y) hd
  have hg : (0 : Int) < g3 x y d := by have := g3_pos (x := x) (y := y) hd; omega
  have hp := h1.pos
  refine ⟨by omega, ?_⟩
  generalize (g3 x y d : Int) = g at *
  generalize low x y d = v at *
  rw [e3]
  have := Int.mul_le_mul_of_nonneg_right (show 1 ≤ g by omega) (show 0 ≤ v.d by omega)
  rw [Int.one_mul] at this; exact this
theorem low_circle {x y d : Int} (hd : 0 < d) (h : x * x + y * y = d * d) : (low x y d).x * (low x y d).x + (low x y d).y * (low x y d).y = (low x y d).d * (low x y d).d := by
  obtain ⟨h1, e1, e2, e3⟩ := low_spec (x := x) (y := y) hd
  have hg : (0 : Int) < g3 x y d := by have := g3_pos (x := x) (y := y) hd; omega
  generalize (g3 x y d : Int) = g at *
  generalize low x y d = v at *
  refine Int.eq_of_mul_eq_mul_left (a := g * g) (Int.ne_of_gt (Int.mul_pos hg hg)) ?_
  rw [e1, e2, e3] at h
  grind
/-- what lies on the circle is bounded -/
theorem circle_le {x y d : Int} (hd : 0 ≤ d) (h : x * x + y * y = d * d) : -d ≤ x ∧ x ≤ d := by
  have key : ∀ {x y d : Int}, 0 ≤ d → x * x + y * y = d * d → x ≤ d := by
    intro x y d hd h
    apply Int.not_lt.1
    intro hc
    have h1 : d * d ≤ d * x := Int.mul_le_mul_of_nonneg_left (by omega) hd
    have h2 : d * x < x * x := Int.mul_lt_mul_of_pos_right hc (by omega)
    have h3 : 0 ≤ y * y := sq_nonneg _
    omega
  refine ⟨?_, key hd h⟩
  have := key (x := -x) (y := y) hd (by rw [Int.neg_mul_neg]; exact h)
  omega
theorem low_ok {v : Vec} (h : v.ok) : (low v.x v.y v.d).ok := by
  obtain ⟨h1, h2, h3, h4, h5, h6, h7⟩ := h
  have hc := low_circle (by omega) h7
  have hl := low_le (x := v.x) (y := v.y) (d := v.d) (by omega)
  have b1 := circle_le (by omega) hc
  have b2 := circle_le (x := (low v.x v.y v.d).y) (y := (low v.x v.y v.d).x) (d := (low v.x v.y v.d).d) (by omega) (by rw [Int.add_comm]; exact hc)
  exact ⟨hl.1, by omega, b1.1, b1.2, b2.1, b2.2, hc⟩

/-! ### turning -/
def mulV (a b : Vec) : Vec := ⟨a.x * b.x - a.y * b.y, a.x * b.y + a.y * b.x, a.d * b.d⟩
def lowV (v : Vec) : Vec := low v.x v.y v.d
theorem mul_circle {a b : Vec} (ha : a.x * a.x + a.y * a.y = a.d * a.d) (hb : b.x * b.x + b.y * b.y = b.d * b.d) : (mulV a b).x * (mulV a b).x + (mulV a b).y * (mulV a b).y = (mulV a b).d * (mulV a b).d := by
  simp only [mulV]; grind
theorem mul_comm' (a b : Vec) : mulV a b = mulV b a := by simp only [mulV, Vec.mk.injEq]; refine ⟨?_, ?_, ?_⟩ <;> grind
theorem mul_assoc' (a b c : Vec) : mulV (mulV a b) c = mulV a (mulV b c) := by simp only [mulV, Vec.mk.injEq]; refine ⟨?_, ?_, ?_⟩ <;> grind
theorem lowV_mul {p w : Vec} (hp : 0 < p.d) (hw : 0 < w.d) : lowV (mulV (lowV p) w) = lowV (mulV p w) := by
  obtain ⟨h1, e1, e2, e3⟩ := low_spec (x := p.x) (y := p.y) hp
  have hl := low_le (x := p.x) (y := p.y) hp
  have e : low p.x p.y p.d = lowV p := rfl
  have hr := low_ratio (x := p.x) (y := p.y) hp
  rw [e] at hr hl h1
  obtain ⟨r1, r2⟩ := hr
  refine low_eq ?_ ?_ ?_ ?_
  · exact Int.mul_pos (by omega) hw
  · exact Int.mul_pos hp hw
  · simp only [mulV]; grind
  · simp only [mulV]; grind

/-! ### comparing -/
def half (v : Vec) : Int := if v.y > 0 ∨ v.y = 0 ∧ v.x > 0 then 0 else 1
def cross (a b : Vec) : Int := a.x * b.y - a.y * b.x
def sgn3 (a b : Int) : Int := if a < b then -1 else if b < a then 1 else 0
def cmpM (a b : Vec) : Int := if half a ≠ half b then sgn3 (half a) (half b) else - sgn3 (cross a b) 0
theorem cross_neg (a b : Vec) : cross b a = - cross a b := by unfold cross; grind
theorem cmp_anti (a b : Vec) : cmpM b a = - cmpM a b := by
  unfold cmpM
  rw [cross_neg a b]
  generalize half a = p
  generalize half b = q
  generalize cross a b = c
  unfold sgn3
  by_cases h1 : p = q
  · rw [if_neg (show ¬ q ≠ p by omega), if_neg (show ¬ p ≠ q by omega)]
    by_cases h2 : c < 0
    · rw [if_neg (show ¬ -c < 0 by omega), if_pos (show 0 < -c by omega), if_pos h2]; omega
    · by_cases h3 : 0 < c
      · rw [if_pos (show -c < 0 by omega), if_neg h2, if_pos h3]
      · rw [if_neg (show ¬ -c < 0 by omega), if_neg (show ¬ 0 < -c by omega), if_neg h2, if_neg h3]; omega
  · rw [if_pos (show q ≠ p by omega), if_pos (show p ≠ q by omega)]
    by_cases h2 : p < q
    · rw [if_neg (show ¬ q < p by omega), if_pos h2, if_pos h2]; omega
    · rw [if_pos (show q < p by omega), if_neg h2, if_pos (show q < p by omega)]
theorem trans0 {a b c : Vec} (ha : a.y > 0 ∨ a.y = 0 ∧ a.x > 0) (hb : b.y > 0 ∨ b.y = 0 ∧ b.x > 0) (hc : c.y > 0 ∨ c.y = 0 ∧ c.x > 0) (h1 : 0 ≤ cross a b) (h2 : 0 ≤ cross b c) : 0 ≤ cross a c := by
  rcases hb with hb | ⟨hb, hb2⟩
  · have e : cross a c * b.y = cross a b * c.y + cross b c * a.y := by unfold cross; grind
    have h3 : 0 ≤ cross a b * c.y := Int.mul_nonneg h1 (by omega)
    have h4 : 0 ≤ cross b c * a.y := Int.mul_nonneg h2 (by omega)
    apply Int.not_lt.1
    intro hn
    have : cross a c * b.y < 0 := Int.mul_neg_of_neg_of_pos hn hb
    omega
  · have e : cross a b = - (a.y * b.x) := by unfold cross; rw [hb]; grind
    have h3 : a.y = 0 := by
      rcases ha with ha | ha
      · have := Int.mul_pos ha hb2; omega
      · exact ha.1
    have e2 : cross a c = a.x * c.y := by unfold cross; rw [h3]; grind
    rw [e2]
    exact Int.mul_nonneg (by omega) (by omega)
def negV (v : Vec) : Vec := ⟨-v.x, -v.y, v.d⟩
theorem cross_negV (a b : Vec) : cross (negV a) (negV b) = cross a b := by unfold cross negV; grind
theorem not_zero {v : Vec} (h : v.ok) : v.x ≠ 0 ∨ v.y ≠ 0 := by
  obtain ⟨h1, h2, h3, h4, h5, h6, h7⟩ := h
  by_cases hx : v.x = 0
  · right
    intro hy
    rw [hx, hy] at h7
    have := Int.mul_pos (show 0 < v.d by omega) (show 0 < v.d by omega)
    omega
  · exact .inl hx
theorem trans_same {a b c : Vec} (ha : a.ok) (hb : b.ok) (hc : c.ok) (e1 : half a = half b) (e2 : half b = half c) (h1 : 0 ≤ cross a b) (h2 : 0 ≤ cross b c) : 0 ≤ cross a c := by
  have za := not_zero ha; have zb := not_zero hb; have zc := not_zero hc
  by_cases h : a.y > 0 ∨ a.y = 0 ∧ a.x > 0
  · have hb' : b.y > 0 ∨ b.y = 0 ∧ b.x > 0 := by
      unfold half at e1; rw [if_pos h] at e1; split at e1
      · assumption
      · omega
    have hc' : c.y > 0 ∨ c.y = 0 ∧ c.x > 0 := by
      unfold half at e2; rw [if_pos hb'] at e2; split at e2
      · assumption
      · omega
    exact trans0 h hb' hc' h1 h2
  · have hb' : ¬ (b.y > 0 ∨ b.y = 0 ∧ b.x > 0) := by
      unfold half at e1; rw [if_neg h] at e1; split at e1
      · omega
      · assumption
    have hc' : ¬ (c.y > 0 ∨ c.y = 0 ∧ c.x > 0) := by
      unfold half at e2; rw [if_neg hb'] at e2; split at e2
      · omega
      · assumption
    rw [← cross_negV]
    rw [← cross_negV] at h1 h2
    refine trans0 (b := negV b) ?_ ?_ ?_ h1 h2 <;> simp only [negV] <;> omega
theorem cmp_le_iff (a b : Vec) : cmpM a b ≤ 0 ↔ half a < half b ∨ (half a = half b ∧ 0 ≤ cross a b) := by
  unfold cmpM sgn3
  split <;> split <;> first | omega | (split <;> omega)
theorem cmp_trans {a b c : Vec} (ha : a.ok) (hb : b.ok) (hc : c.ok) (h1 : cmpM a b ≤ 0) (h2 : cmpM b c ≤ 0) : cmpM a c ≤ 0 := by
  rw [cmp_le_iff] at *
  rcases h1 with h1 | ⟨h1, k1⟩
  · left; rcases h2 with h2 | ⟨h2, k2⟩ <;> omega
  · rcases h2 with h2 | ⟨h2, k2⟩
    · left; omega
    · exact .inr ⟨h1.trans h2, trans_same ha hb hc h1 h2 k1 k2⟩
theorem cmp_zero_iff (a b : Vec) : cmpM a b = 0 ↔ half a = half b ∧ cross a b = 0 := by
  unfold cmpM sgn3
  split <;> split <;> first | omega | (split <;> omega)
theorem half_ratio {a b : Vec} (ha : 0 < a.d) (hb : 0 < b.d) (hx : a.x * b.d = b.x * a.d) (hy : a.y * b.d = b.y * a.d) : half a = half b ∧ cross a b = 0 := by
  have sg : ∀ {p q d e : Int}, 0 < d → 0 < e → p * e = q * d → (p > 0 ↔ q > 0) ∧ (p = 0 ↔ q = 0) := by
    intro p q d e hd he h
    constructor
    · constructor
      · intro hp
        apply Int.not_le.1; intro hq
        have := Int.mul_pos hp he
        have := Int.mul_nonpos_of_nonpos_of_nonneg hq (Int.le_of_lt hd)
        omega
      · intro hq
        apply Int.not_le.1; intro hp
        have := Int.mul_pos hq hd
        have := Int.mul_nonpos_of_nonpos_of_nonneg hp (Int.le_of_lt he)
        omega
    · constructor
      · intro hp; subst hp
        rw [Int.zero_mul] at h
        rcases Int.mul_eq_zero.1 h.symm with h | h
        · exact h
        · omega
      · intro hq; subst hq
        rw [Int.zero_mul] at h
        rcases Int.mul_eq_zero.1 h with h | h
        · exact h
        · omega
  obtain ⟨x1, x2⟩ := sg ha hb hx
  obtain ⟨y1, y2⟩ := sg ha hb hy
  constructor
  · unfold half; split <;> split <;> omega
  · refine Int.eq_of_mul_eq_mul_left (a := a.d * b.d) (Int.ne_of_gt (Int.mul_pos ha hb)) ?_
    unfold cross; grind
theorem ratio_of_cmp {a b : Vec} (ha : a.ok) (hb : b.ok) (h : cmpM a b = 0) : a.x * b.d = b.x * a.d ∧ a.y * b.d = b.y * a.d := by
  rw [cmp_zero_iff] at h
  obtain ⟨h1, h2⟩ := h
  have za := not_zero ha; have zb := not_zero hb
  obtain ⟨a1, a2, a3, a4, a5, a6, a7⟩ := ha
  obtain ⟨b1, b2, b3, b4, b5, b6, b7⟩ := hb
  have hc : a.x * b.y = a.y * b.x := by unfold cross at h2; omega
  have hdot : (a.x * b.x + a.y * b.y) * (a.x * b.x + a.y * b.y) = (a.d * b.d) * (a.d * b.d) := by grind
  have hpos : 0 < a.d * b.d := Int.mul_pos (by omega) (by omega)
  have hdp : 0 ≤ a.x * b.x + a.y * b.y := by
    unfold half at h1
    by_cases h : a.y > 0 ∨ a.y = 0 ∧ a.x > 0
    · rw [if_pos h] at h1
      split at h1
      · rename_i hb'
        have hyy : 0 ≤ a.y * b.y := Int.mul_nonneg (by omega) (by omega)
        rcases h with h | ⟨h, h'⟩
        · rcases hb' with hb' | ⟨hb', hb''⟩
          · have : 0 ≤ a.x * b.x := by
              apply Int.not_lt.1; intro hn
              have k1 : (a.x * b.x) * (a.y * b.y) < 0 := Int.mul_neg_of_neg_of_pos hn (Int.mul_pos h hb')
              have k2 : (a.x * b.x) * (a.y * b.y) = (a.x * b.y) * (a.x * b.y) := by grind
              have k3 : 0 ≤ (a.x * b.y) * (a.x * b.y) := sq_nonneg _
              omega
            omega
          · rw [hb', Int.mul_zero] at hc
            rcases Int.mul_eq_zero.1 hc.symm with hc | hc <;> omega
        · rcases hb' with hb' | ⟨hb', hb''⟩
          · rw [h, Int.zero_mul] at hc
            rcases Int.mul_eq_zero.1 hc with hc | hc <;> omega
          · have := Int.mul_pos h' hb''; omega
      · omega
    · rw [if_neg h] at h1
      split at h1
      · omega
      · rename_i hb'
        have hyy : 0 ≤ a.y * b.y := Int.mul_nonneg_of_nonpos_of_nonpos (by omega) (by omega)
        by_cases hay : a.y < 0
        · by_cases hby : b.y < 0
          · have : 0 ≤ a.x * b.x := by
              apply Int.not_lt.1; intro hn
              have k1 : (a.x * b.x) * (a.y * b.y) < 0 := Int.mul_neg_of_neg_of_pos hn (Int.mul_pos_of_neg_of_neg hay hby)
              have k2 : (a.x * b.x) * (a.y * b.y) = (a.x * b.y) * (a.x * b.y) := by grind
              have k3 : 0 ≤ (a.x * b.y) * (a.x * b.y) := sq_nonneg _
              omega
            omega
          · have hb0 : b.y = 0 := by omega
            rw [hb0, Int.mul_zero] at hc
            rcases Int.mul_eq_zero.1 hc.symm with hc | hc <;> omega
        · have ha0 : a.y = 0 := by omega
          rw [ha0, Int.zero_mul] at hc
          rcases Int.mul_eq_zero.1 hc with hc | hc
          · omega
          · have := Int.mul_pos_of_neg_of_neg (show a.x < 0 by omega) (show b.x < 0 by omega); omega
  have hd : a.x * b.x + a.y * b.y = a.d * b.d := by
    rcases Int.lt_trichotomy (a.x * b.x + a.y * b.y) (a.d * b.d) with hl | hl | hl
    · have := sq_lt hdp hl; omega
    · exact hl
    · have := sq_lt (by omega) hl; omega
  constructor
  · refine Int.eq_of_mul_eq_mul_left (a := b.d) (by omega) ?_; grind
  · refine Int.eq_of_mul_eq_mul_left (a := b.d) (by omega) ?_; grind
theorem cmp_zero_low {a b : Vec} (ha : a.ok) (hb : b.ok) : cmpM a b = 0 ↔ lowV a = lowV b := by
  have p1 : 0 < a.d := by have := ha.1; omega
  have p2 : 0 < b.d := by have := hb.1; omega
  constructor
  · intro h
    obtain ⟨h1, h2⟩ := ratio_of_cmp ha hb h
    exact low_eq p1 p2 h1 h2
  · intro h
    rw [cmp_zero_iff]
    have ra := low_ratio (x := a.x) (y := a.y) p1
    have rb := low_ratio (x := b.x) (y := b.y) p2
    have la := (low_le (x := a.x) (y := a.y) p1).1
    have e1 : low a.x a.y a.d = lowV a := rfl
    have e2 : low b.x b.y b.d = lowV b := rfl
    rw [e1] at ra la; rw [e2, ← h] at rb
    refine half_ratio p1 p2 ?_ ?_
    · refine Int.eq_of_mul_eq_mul_left (a := (lowV a).d) (by omega) ?_; grind
    · refine Int.eq_of_mul_eq_mul_left (a := (lowV a).d) (by omega) ?_; grind
def rotV (v : Vec) : Vec := ⟨-v.y, v.x, v.d⟩
def rotN : Nat → Vec → Vec
  | 0, v => v
  | n + 1, v => rotV (rotN n v)
def quart (k : Int) : Vec := low (4096 - k * k) (128 * k) (4096 + k * k)
def dirM (h : Int) : Vec := rotN (h % 256 / 64).toNat (quart (h % 256 % 64))
theorem dir_mod (h : Int) : dirM (h % 256) = dirM h := by unfold dirM; rw [Int.emod_emod]
theorem dir_at (h : Int) : dirM h = dirM (((h % 256).toNat : Nat) : Int) := by rw [← dir_mod h]; congr 1; omega
def dirFacts (i : Nat) : Bool :=
  decide (dirM i).ok && decide ((dirM i).d ≤ 8065) && decide (dirM (i + 64) = rotV (dirM i)) && (i == 255 || cmpM (dirM i) (dirM (i + 1)) == -1)
theorem dir_all : (List.range 256).all dirFacts = true := by decide +kernel
theorem dir_fact (h : Int) : dirFacts (h % 256).toNat = true := List.all_eq_true.1 dir_all _ (List.mem_range.2 (by omega))
theorem dir_ok (h : Int) : (dirM h).ok := by
  have := dir_fact h
  simp only [dirFacts, Bool.and_eq_true, decide_eq_true_eq] at this
  rw [dir_at]; exact this.1.1.1
theorem dir_d (h : Int) : (dirM h).d ≤ 8065 := by
  have := dir_fact h
  simp only [dirFacts, Bool.and_eq_true, decide_eq_true_eq] at this
  rw [dir_at]; exact this.1.1.2
theorem dir_quarter (h : Int) : dirM (h + 64) = rotV (dirM h) := by
  have := dir_fact h
  simp only [dirFacts, Bool.and_eq_true, decide_eq_true_eq] at this
  rw [dir_at h, ← this.1.2, ← dir_mod (h + 64), ← dir_mod (_ + 64)]
  congr 1; omega
theorem dir_rises (h : Int) (h0 : 0 ≤ h) (h1 : h < 255) : cmpM (dirM h) (dirM (h + 1)) = -1 := by
  have := dir_fact h
  simp only [dirFacts, Bool.and_eq_true, decide_eq_true_eq, Bool.or_eq_true, beq_iff_eq] at this
  obtain ⟨n, rfl⟩ := Int.eq_ofNat_of_zero_le h0
  have e : ((n : Int) % 256).toNat = n := by omega
  rw [e] at this
  rcases this.2 with h2 | h2
  · omega
  · exact h2
theorem dir_turns (h k : Int) : dirM (h + 256 * k) = dirM h := by rw [← dir_mod, ← dir_mod h]; congr 1; omega
/-! ### binary search -/
def bsF (q : Nat → Bool) : Nat → Nat → Nat → Nat
  | 0, i, _ => i
  | k + 1, i, j => if i < j then (if q ((i + j) / 2) then bsF q k ((i + j) / 2 + 1) j else bsF q k i ((i + j) / 2)) else i
theorem bsF_spec {q : Nat → Bool} {n : Nat} : ∀ (k i j : Nat), i ≤ j → j - i ≤ k → j ≤ n → (i = 0 ∨ q (i - 1) = true) → (j = n ∨ q j = false) →
    bsF q k i j ≤ n ∧ (bsF q k i j = 0 ∨ q (bsF q k i j - 1) = true) ∧ (bsF q k i j = n ∨ q (bsF q k i j) = false)
  | 0, i, j, h1, h2, h3, h4, h5 => by
    obtain rfl : i = j := by omega
    exact ⟨h3, h4, h5⟩
  | k + 1, i, j, h1, h2, h3, h4, h5 => by
    unfold bsF
    split
    · split
      · rename_i h
        exact bsF_spec k _ j (by omega) (by omega) h3 (.inr (by rw [Nat.add_sub_cancel]; exact h)) h5
      · rename_i h
        exact bsF_spec k i _ (by omega) (by omega) (by omega) h4 (.inr (by simpa using h))
    · obtain rfl : i = j := by omega
      exact ⟨h3, h4, h5⟩
theorem bsF_stop {q : Nat → Bool} : ∀ (k : Nat) {i j : Nat}, j ≤ i → bsF q k i j = i
  | 0, _, _, _ => rfl
  | k + 1, i, j, h => by unfold bsF; rw [if_neg (by omega)]
def floorQ (v : Vec) (i : Nat) : Bool := decide (cmpM (dirM i) v ≤ 0)
def floorM (v : Vec) : Int := (bsF (floorQ v) 256 0 256 : Nat) - 1
theorem dir0_le {v : Vec} (hv : v.ok) : cmpM (dirM 0) v ≤ 0 := by
  have h0 : dirM 0 = ⟨1, 0, 1⟩ := by decide +kernel
  rw [h0, cmp_le_iff]
  have hz := not_zero hv
  have e : half ⟨1, 0, 1⟩ = 0 := by decide
  rw [e]
  unfold half cross
  simp only
  split
  · right; omega
  · left; omega
theorem floor_spec {v : Vec} (hv : v.ok) : 0 ≤ floorM v ∧ floorM v ≤ 255 ∧ cmpM (dirM (floorM v)) v ≤ 0 ∧ (floorM v = 255 ∨ cmpM v (dirM (floorM v + 1)) < 0) := by
  obtain ⟨h1, h2, h3⟩ := bsF_spec (q := floorQ v) (n := 256) 256 0 256 (by omega) (by omega) (by omega) (.inl rfl) (.inl rfl)
  unfold floorM
  generalize bsF (floorQ v) 256 0 256 = r at *
  have hr : r ≠ 0 := by
    rintro rfl
    rcases h3 with h3 | h3
    · omega
    · have := dir0_le hv
      simp only [floorQ, decide_eq_false_iff_not] at h3
      exact h3 this
  refine ⟨by omega, by omega, ?_, ?_⟩
  · rcases h2 with h2 | h2
    · omega
    · simp only [floorQ, decide_eq_true_eq] at h2
      rw [show ((r : Int) - 1) = ((r - 1 : Nat) : Int) by omega]; exact h2
  · rcases h3 with h3 | h3
    · left; omega
    · right
      simp only [floorQ, decide_eq_false_iff_not] at h3
      rw [show ((r : Int) - 1 + 1) = (r : Int) by omega, cmp_anti]
      omega
structure Box where
  (x0 y0 x1 y1 f c : Int)
structure Pose where
  (x y h : Int)
def Box.arc (b : Box) : Arc := ⟨b.f, b.c⟩
def Box.ok (b : Box) : Prop := -1048576 ≤ b.x0 ∧ b.x0 ≤ b.x1 ∧ b.x1 ≤ 1048576 ∧ -1048576 ≤ b.y0 ∧ b.y0 ≤ b.y1 ∧ b.y1 ≤ 1048576 ∧ b.arc.ok
instance decBoxOk (b : Box) : Decidable b.ok := by unfold Box.ok; infer_instance
def Box.zero : Box := ⟨0, 0, 0, 0, 0, 0⟩
def Box.has (b : Box) (p : Pose) : Prop := b.ok ∧ b.x0 ≤ p.x ∧ p.x ≤ b.x1 ∧ b.y0 ≤ p.y ∧ p.y ≤ b.y1 ∧ b.arc.mem p.h = true
instance decBoxHas (b : Box) (p : Pose) : Decidable (b.has p) := by unfold Box.has; infer_instance
def Box.vol (b : Box) : Int := if b.ok then (b.x1 - b.x0 + 1) * (b.y1 - b.y0 + 1) * b.c else 0
def hullB (a b : Box) : Box := ⟨min a.x0 b.x0, min a.y0 b.y0, max a.x1 b.x1, max a.y1 b.y1, (hullM a.arc b.arc).f, (hullM a.arc b.arc).c⟩
def meetB (a b : Box) : List Box :=
  if ¬ a.ok ∨ ¬ b.ok ∨ min a.x1 b.x1 < max a.x0 b.x0 ∨ min a.y1 b.y1 < max a.y0 b.y0 then [] else
    (meetM a.arc b.arc).map fun r => ⟨max a.x0 b.x0, max a.y0 b.y0, min a.x1 b.x1, min a.y1 b.y1, r.f, r.c⟩
/-- every mark of the one is one of the other -/
def insideN (a b : Arc) (n : Nat) : Bool := (List.range n).all fun i : Nat => b.mem (a.f + i)
theorem insideN_iff {a b : Arc} (ha : a.ok) : insideN a b a.c.toNat = true ↔ insideA a b := by
  obtain ⟨a1, a2, a3, a4, a5⟩ := ha
  unfold insideN insideA
  rw [List.all_eq_true]
  constructor
  · intro h x hx
    simp only [Arc.mem, decide_eq_true_eq] at hx
    have := h ((x - a.f) % 256).toNat (List.mem_range.2 (by omega))
    rw [(mem_per b).at (g := x) (by omega)] at this
    exact this
  · intro h i hi
    have := List.mem_range.1 hi
    refine h _ ?_
    simp only [Arc.mem, decide_eq_true_eq]
    omega
def Box.within (a b : Box) : Prop := a.ok ∧ b.ok ∧ b.x0 ≤ a.x0 ∧ a.x1 ≤ b.x1 ∧ b.y0 ≤ a.y0 ∧ a.y1 ≤ b.y1 ∧ insideN a.arc b.arc a.c.toNat = true
instance decWithin (a b : Box) : Decidable (a.within b) := by unfold Box.within; infer_instance
theorem within_iff {a b : Box} (ha : a.ok) : (a.within b) ↔ (b.ok ∧ b.x0 ≤ a.x0 ∧ a.x1 ≤ b.x1 ∧ b.y0 ≤ a.y0 ∧ a.y1 ≤ b.y1 ∧ insideA a.arc b.arc) := by
  unfold Box.within
  have e : a.c = a.arc.c := rfl
  rw [e, insideN_iff ha.2.2.2.2.2.2]
  constructor
  · exact fun h => h.2
  · exact fun h => ⟨ha, h⟩
theorem hullB_ok {a b : Box} (ha : a.ok) (hb : b.ok) : (hullB a b).ok := by
  have h := hull_ok ha.2.2.2.2.2.2 hb.2.2.2.2.2.2
  obtain ⟨a1, a2, a3, a4, a5, a6, a7⟩ := ha
  obtain ⟨b1, b2, b3, b4, b5, b6, b7⟩ := hb
  refine ⟨?_, ?_, ?_, ?_, ?_, ?_, h⟩ <;> simp only [hullB] <;> omega
theorem hullB_left {a b : Box} (ha : a.ok) (hb : b.ok) : a.within (hullB a b) := by
  rw [within_iff ha]
  refine ⟨hullB_ok ha hb, ?_, ?_, ?_, ?_, fun h hm => hull_left ha.2.2.2.2.2.2 hb.2.2.2.2.2.2 h hm⟩ <;> simp only [hullB] <;> omega
theorem hullB_right {a b : Box} (ha : a.ok) (hb : b.ok) : b.within (hullB a b) := by
  rw [within_iff hb]
  refine ⟨hullB_ok ha hb, ?_, ?_, ?_, ?_, fun h hm => hull_right ha.2.2.2.2.2.2 hb.2.2.2.2.2.2 h hm⟩ <;> simp only [hullB] <;> omega
theorem within_trans {a b c : Box} (h : a.within b) (k : b.within c) : a.within c := by
  have h' := (within_iff h.1).1 h
  have k' := (within_iff k.1).1 k
  rw [within_iff h.1]
  obtain ⟨h1, h2, h3, h4, h5, h6⟩ := h'
  obtain ⟨k1, k2, k3, k4, k5, k6⟩ := k'
  exact ⟨k1, by omega, by omega, by omega, by omega, fun x hx => k6 x (h6 x hx)⟩
theorem within_has {a b : Box} (h : a.within b) {p : Pose} (hp : a.has p) : b.has p := by
  obtain ⟨h1, h2, h3, h4, h5, h6⟩ := (within_iff h.1).1 h
  obtain ⟨k1, k2, k3, k4, k5, k6⟩ := hp
  exact ⟨h1, by omega, by omega, by omega, by omega, h6 _ k6⟩
theorem within_refl {a : Box} (h : a.ok) : a.within a := by
  rw [within_iff h]
  exact ⟨h, by omega, by omega, by omega, by omega, fun x hx => hx⟩
theorem hullB_comm {a b : Box} (ha : a.ok) (hb : b.ok) : hullB a b = hullB b a := by
  unfold hullB
  rw [hull_comm ha.2.2.2.2.2.2 hb.2.2.2.2.2.2]
  simp only [Box.mk.injEq, and_self, and_true]
  refine ⟨?_, ?_, ?_, ?_⟩ <;> omega
theorem hullB_self {a : Box} (ha : a.ok) : hullB a a = a := by
  unfold hullB
  rw [hull_self ha.2.2.2.2.2.2]
  cases a
  simp [Box.arc]
theorem vol_pos {b : Box} (h : b.ok) : 0 < b.vol := by
  unfold Box.vol
  rw [if_pos h]
  obtain ⟨a1, a2, a3, a4, a5, a6, c1, c2, c3, c4, c5⟩ := h
  have h3 : 1 ≤ b.c := c3
  exact Int.mul_pos (Int.mul_pos (by omega) (by omega)) (by omega)
theorem vol_le {b : Box} : 0 ≤ b.vol ∧ b.vol ≤ 1125900980584704 := by
  unfold Box.vol
  split
  · rename_i h
    obtain ⟨a1, a2, a3, a4, a5, a6, c1, c2, c3, c4, c5⟩ := h
    have h3 : 1 ≤ b.c := c3
    have h4 : b.c ≤ 256 := c4
    have p1 : 0 ≤ (b.x1 - b.x0 + 1) * (b.y1 - b.y0 + 1) := Int.mul_nonneg (by omega) (by omega)
    have p2 : (b.x1 - b.x0 + 1) * (b.y1 - b.y0 + 1) ≤ 2097153 * 2097153 := Int.mul_le_mul (by omega) (by omega) (by omega) (by omega)
    have p3 : (b.x1 - b.x0 + 1) * (b.y1 - b.y0 + 1) * b.c ≤ (2097153 * 2097153) * 256 := Int.mul_le_mul p2 h4 (by omega) (by omega)
    exact ⟨Int.mul_nonneg p1 (by omega), by omega⟩
  · omega
end Go.Proofs.Ytokhaefcnbiadaa
