import Derived.Test.YtmpmggbcmioipaaP1
set_option linter.all false
namespace Go.Proofs.Ytmpmggbcmioipaa
/-! ### runs of a periodic set of marks -/
def runF (p : Int → Bool) (h : Int) : Nat → Nat → Nat
  | 0, n => n
  | k + 1, n => if p (h + n) then runF p h k (n + 1) else n
def run (p : Int → Bool) (h : Int) : Nat := runF p h 256 1
def start (p : Int → Bool) (h : Int) : Bool := p h && !p (h - 1)
def runsTo (p : Int → Bool) (i : Nat) : List Arc := ((List.range i).filter fun h : Nat => start p (h : Int)).map fun h : Nat => ⟨(h : Int), (run p (h : Int) : Int)⟩
def meetP (p : Int → Bool) : List Arc := if runsTo p 256 = [] ∧ p 0 = true then [⟨0, 256⟩] else runsTo p 256
structure Per (p : Int → Bool) : Prop where
  per : ∀ h, p (h % 256) = p h
theorem Per.at {p : Int → Bool} (hp : Per p) {h g : Int} (e : h % 256 = g % 256) : p h = p g := by rw [← hp.per h, ← hp.per g, e]
theorem runF_spec {p : Int → Bool} {h : Int} : ∀ (k n : Nat), 1 ≤ n → (∃ j, n ≤ j ∧ j < n + k ∧ p (h + j) = false) →
    n ≤ runF p h k n ∧ p (h + runF p h k n) = false ∧ ∀ j : Nat, n ≤ j → j < runF p h k n → p (h + j) = true
  | 0, n, _, ⟨j, h1, h2, _⟩ => by omega
  | k + 1, n, hn, ⟨j, h1, h2, h3⟩ => by
    unfold runF
    split
    · rename_i hp
      have hj : j ≠ n := by rintro rfl; rw [hp] at h3; cases h3
      obtain ⟨g1, g2, g3⟩ := runF_spec (p := p) (h := h) k (n + 1) (by omega) ⟨j, by omega, by omega, h3⟩
      refine ⟨by omega, g2, fun i hi hi2 => ?_⟩
      by_cases e : i = n
      · subst e; exact hp
      · exact g3 i (by omega) hi2
    · rename_i hp
      exact ⟨Nat.le_refl _, by simpa using hp, fun j h1 h2 => by omega⟩
theorem run_spec {p : Int → Bool} (hp : Per p) {h : Int} (hs : start p h = true) :
    1 ≤ run p h ∧ run p h ≤ 255 ∧ p (h + run p h) = false ∧ ∀ j : Nat, j < run p h → p (h + j) = true := by
  simp only [start, Bool.and_eq_true, Bool.not_eq_true'] at hs
  have hl : p (h + (255 : Nat)) = false := by rw [hp.at (g := h - 1) (by omega)]; exact hs.2
  obtain ⟨h1, h2, h3⟩ := runF_spec (p := p) (h := h) 256 1 (Nat.le_refl _) ⟨255, by omega, by omega, hl⟩
  refine ⟨h1, ?_, h2, fun j hj => ?_⟩
  · rcases Nat.lt_or_ge 255 (run p h) with hc | hc
    · have := h3 255 (by omega) hc
      rw [hl] at this; cases this
    · exact hc
  · by_cases e : j = 0
    · subst e; simpa using hs.1
    · exact h3 j (by omega) hj
theorem run_mem {p : Int → Bool} (hp : Per p) {s : Int} (hs : start p s = true) {h : Int} : (Arc.mk s (run p s)).mem h = true → p h = true := by
  intro hm
  simp only [Arc.mem, decide_eq_true_eq] at hm
  obtain ⟨h1, h2, h3, h4⟩ := run_spec hp hs
  have := h4 ((h - s) % 256).toNat (by omega)
  rw [hp.at (g := h) (by omega)] at this
  exact this
theorem exists_run {p : Int → Bool} (hp : Per p) {h z : Int} (hh : p h = true) (hz : p z = false) :
    ∃ s : Nat, s < 256 ∧ start p s = true ∧ (Arc.mk s (run p s)).mem h = true := by
  have key : ∀ d : Nat, p (h - d) = false → ∃ e : Nat, e < d ∧ start p (h - e) = true ∧ ∀ j : Nat, j ≤ e → p (h - j) = true := by
    intro d
    induction d with
    | zero => intro hd; rw [show h - ((0 : Nat) : Int) = h by omega, hh] at hd; cases hd
    | succ d ih =>
      intro hd
      cases hpd : p (h - d) with
      | false => obtain ⟨e, h1, h2⟩ := ih hpd; exact ⟨e, by omega, h2⟩
      | true =>
        by_cases hall : ∃ j : Nat, j ≤ d ∧ p (h - j) = false
        · obtain ⟨j, h1, h2⟩ := hall
          have hj : j < d := by rcases Nat.lt_or_ge j d with h | h; exact h; obtain rfl : j = d := by omega
                                rw [hpd] at h2; cases h2
          obtain ⟨e, g1, g2, g3⟩ := (by
            clear hpd hd ih
            induction j with
            | zero => rw [show h - ((0 : Nat) : Int) = h by omega, hh] at h2; cases h2
            | succ j ihj =>
              cases hpj : p (h - j) with
              | false => exact ihj (by omega) hpj (by omega)
              | true => exact (by
                  by_cases hb : ∃ i : Nat, i ≤ j ∧ p (h - i) = false
                  · obtain ⟨i, hi, hi2⟩ := hb
                    exact (by
                      have : ∀ m : Nat, m ≤ j → p (h - m) = false → ∃ e : Nat, e < d + 1 ∧ start p (h - e) = true ∧ ∀ j : Nat, j ≤ e → p (h - j) = true := by
                        intro m
                        induction m using Nat.strongRecOn with
                        | _ m ihm =>
                          intro hm hpm
                          by_cases hbb : ∃ i : Nat, i < m ∧ p (h - i) = false
                          · obtain ⟨i, h5, h6⟩ := hbb
                            exact ihm i h5 (by omega) h6
                          · have hm0 : m ≠ 0 := by rintro rfl; rw [show h - ((0 : Nat) : Int) = h by omega, hh] at hpm; cases hpm
                            have hall : ∀ i : Nat, i < m → p (h - i) = true := fun i hi => by
                              cases hq : p (h - i) with
                              | true => rfl
                              | false => exact absurd ⟨i, hi, hq⟩ hbb
                            refine ⟨m - 1, by omega, ?_, fun i hi => hall i (by omega)⟩
                            simp only [start, Bool.and_eq_true, Bool.not_eq_true']
                            refine ⟨hall _ (by omega), ?_⟩
                            rw [show h - ((m - 1 : Nat) : Int) - 1 = h - (m : Int) by omega]
                            exact hpm
                      exact this i hi hi2)
                  · refine ⟨j, by omega, ?_, fun i hi => ?_⟩
                    · simp only [start, Bool.and_eq_true, Bool.not_eq_true']
                      refine ⟨hpj, ?_⟩
                      rw [show h - (j : Int) - 1 = h - ((j + 1 : Nat) : Int) by omega]
                      exact h2
                    · cases hq : p (h - i) with
                      | true => rfl
                      | false => exact absurd ⟨i, hi, hq⟩ hb) : ∃ e : Nat, e < d + 1 ∧ start p (h - e) = true ∧ ∀ j : Nat, j ≤ e → p (h - j) = true)
          exact ⟨e, g1, g2, g3⟩
        · have hall' : ∀ i : Nat, i ≤ d → p (h - i) = true := fun i hi => by
            cases hq : p (h - i) with
            | true => rfl
            | false => exact absurd ⟨i, hi, hq⟩ hall
          refine ⟨d, by omega, ?_, hall'⟩
          simp only [start, Bool.and_eq_true, Bool.not_eq_true']
          refine ⟨hpd, ?_⟩
          rw [show h - (d : Int) - 1 = h - ((d + 1 : Nat) : Int) by omega]
          exact hd
  have hz' : p (h - ((h - z) % 256).toNat) = false := by rw [hp.at (g := z) (by omega)]; exact hz
  obtain ⟨e, he, hst, hall⟩ := key _ hz'
  have hst' : start p ((((h - e) % 256).toNat : Nat) : Int) = true := by
    simp only [start] at hst ⊢
    rw [hp.at (h := ((((h - e) % 256).toNat : Nat) : Int)) (g := h - e) (by omega), hp.at (h := ((((h - e) % 256).toNat : Nat) : Int) - 1) (g := h - e - 1) (by omega)]
    exact hst
  refine ⟨((h - e) % 256).toNat, by omega, hst', ?_⟩
  obtain ⟨h1, h2, h3, h4⟩ := run_spec hp hst'
  have hr : e < run p ((((h - e) % 256).toNat : Nat) : Int) := by
    rcases Nat.lt_or_ge e (run p ((((h - e) % 256).toNat : Nat) : Int)) with hc | hc
    · exact hc
    · have := hall (e - run p ((((h - e) % 256).toNat : Nat) : Int)) (by omega)
      rw [hp.at (g := ((((h - e) % 256).toNat : Nat) : Int) + run p ((((h - e) % 256).toNat : Nat) : Int)) (by omega), h3] at this
      cases this
  simp only [Arc.mem, decide_eq_true_eq]
  omega
theorem run_unique {p : Int → Bool} (hp : Per p) {s t : Nat} (hs : start p s = true) (ht : start p t = true) (hs2 : s < 256) (ht2 : t < 256) {h : Int}
    (hms : (Arc.mk s (run p s)).mem h = true) (hmt : (Arc.mk t (run p t)).mem h = true) : s = t := by
  obtain ⟨s1, s2, s3, s4⟩ := run_spec hp hs
  obtain ⟨t1, t2, t3, t4⟩ := run_spec hp ht
  simp only [Arc.mem, decide_eq_true_eq] at hms hmt
  simp only [start, Bool.and_eq_true, Bool.not_eq_true'] at hs ht
  rcases Int.lt_trichotomy ((h - s) % 256) ((h - t) % 256) with hc | hc | hc
  · have := t4 (((h - t) % 256) - ((h - s) % 256) - 1).toNat (by omega)
    rw [hp.at (g := (s : Int) - 1) (by omega), hs.2] at this; cases this
  · omega
  · have := s4 (((h - s) % 256) - ((h - t) % 256) - 1).toNat (by omega)
    rw [hp.at (g := (t : Int) - 1) (by omega), ht.2] at this; cases this
theorem countP_one {q : Nat → Bool} {k : Nat} : ∀ {n : Nat}, k < n → q k = true → (∀ i, i < n → q i = true → i = k) → (List.range n).countP q = 1
  | 0, h, _, _ => by omega
  | n + 1, h, hk, hu => by
    rw [List.range_succ, List.countP_append, List.countP_singleton]
    by_cases e : k = n
    · subst e
      rw [if_pos hk, List.countP_eq_zero.2]
      intro i hi h2
      have := hu i (by have := List.mem_range.1 hi; omega) h2
      have := List.mem_range.1 hi
      omega
    · rw [countP_one (by omega) hk (fun i hi => hu i (by omega)), if_neg]
      intro hq
      have := hu n (by omega) hq
      omega
theorem cover_runs {p : Int → Bool} (hp : Per p) {z : Int} (hz : p z = false) (h : Int) : (runsTo p 256).countP (fun r => r.mem h) = if p h then 1 else 0 := by
  unfold runsTo
  rw [List.countP_map, List.countP_filter]
  split
  · rename_i hh
    obtain ⟨s, h1, h2, h3⟩ := exists_run hp hh hz
    refine countP_one (k := s) h1 (by simp [h2, h3]) fun i hi hq => ?_
    simp only [Function.comp_apply, Bool.and_eq_true] at hq
    exact run_unique hp hq.2 h2 hi h1 hq.1 h3
  · rename_i hh
    rw [List.countP_eq_zero]
    intro i hi hq
    simp only [Function.comp_apply, Bool.and_eq_true] at hq
    exact hh (run_mem hp hq.2 hq.1)
theorem all_of_no_start {p : Int → Bool} (hp : Per p) (hn : runsTo p 256 = []) (h : Int) : p h = p 0 := by
  cases hz : p 0 with
  | true =>
    cases hh : p h with
    | true => rfl
    | false =>
      obtain ⟨s, h1, h2, _⟩ := exists_run hp hz hh
      have : s ∈ (List.range 256).filter fun h : Nat => start p (h : Int) := List.mem_filter.2 ⟨List.mem_range.2 h1, h2⟩
      rw [runsTo, List.map_eq_nil_iff] at hn
      rw [hn] at this; cases this
  | false =>
    cases hh : p h with
    | false => rfl
    | true =>
      obtain ⟨s, h1, h2, _⟩ := exists_run hp hh hz
      have : s ∈ (List.range 256).filter fun h : Nat => start p (h : Int) := List.mem_filter.2 ⟨List.mem_range.2 h1, h2⟩
      rw [runsTo, List.map_eq_nil_iff] at hn
      rw [hn] at this; cases this
theorem no_full {p : Int → Bool} (hn : runsTo p 256 ≠ []) : ∃ z, p z = false := by
  match hl : (List.range 256).filter fun h : Nat => start p (h : Int) with
  | [] => rw [runsTo, hl] at hn; exact absurd rfl hn
  | s :: r =>
    have : s ∈ (List.range 256).filter fun h : Nat => start p (h : Int) := by rw [hl]; exact List.mem_cons_self ..
    have := (List.mem_filter.1 this).2
    simp only [start, Bool.and_eq_true, Bool.not_eq_true'] at this
    exact ⟨_, this.2⟩
theorem cover {p : Int → Bool} (hp : Per p) (h : Int) : (meetP p).countP (fun r => r.mem h) = if p h then 1 else 0 := by
  unfold meetP
  split
  · rename_i hc
    rw [all_of_no_start hp hc.1 h, hc.2]
    have : (⟨0, 256⟩ : Arc).mem h = true := by simp only [Arc.mem, decide_eq_true_eq]; omega
    simp [this]
  · rename_i hc
    by_cases hn : runsTo p 256 = []
    · have hz : p 0 = false := by
        cases h0 : p 0 with
        | false => rfl
        | true => exact absurd ⟨hn, h0⟩ hc
      rw [hn, all_of_no_start hp hn h, hz]; rfl
    · cases hh : p h with
      | false => rw [cover_runs hp hh h, hh]
      | true =>
        obtain ⟨z, hz⟩ := no_full hn
        rw [cover_runs hp hz h, hh]
theorem meet_ok {p : Int → Bool} (hp : Per p) : ∀ r ∈ meetP p, r.ok := by
  intro r hr
  unfold meetP at hr
  split at hr
  · simp only [List.mem_singleton] at hr
    subst hr; unfold Arc.ok; simp
  · unfold runsTo at hr
    obtain ⟨s, hs, rfl⟩ := List.mem_map.1 hr
    obtain ⟨h1, h2⟩ := List.mem_filter.1 hs
    have := List.mem_range.1 h1
    obtain ⟨r1, r2, r3, r4⟩ := run_spec hp h2
    unfold Arc.ok
    simp only
    omega
/-- how many of the first marks are in a set -/
def cnt (q : Int → Bool) (n : Nat) : Nat := (List.range n).countP fun i : Nat => q i
theorem cnt_succ (q : Int → Bool) (n : Nat) : cnt q (n + 1) = cnt q n + if q n then 1 else 0 := by
  unfold cnt
  rw [List.range_succ, List.countP_append, List.countP_singleton]
theorem cnt_arc {a : Arc} (ha : a.ok) : cnt a.mem 256 = a.c := by
  obtain ⟨a1, a2, a3, a4, a5⟩ := ha
  have key : ∀ n : Nat, n ≤ 256 → (cnt a.mem n : Int) = (if a.f + a.c ≤ 256 then (if (n : Int) ≤ a.f then 0 else min (n - a.f) a.c) else (min (n : Int) (a.f + a.c - 256) + (if (n : Int) ≤ a.f then 0 else n - a.f))) := by
    intro n
    induction n with
    | zero => intro _; simp only [cnt, List.range_zero, List.countP_nil]; omega
    | succ n ih =>
      intro hn
      have ih := ih (by omega)
      rw [cnt_succ]
      have hm : (a.mem n = true) ↔ (n - a.f) % 256 < a.c := by simp [Arc.mem]
      by_cases h : (n - a.f) % 256 < a.c
      · rw [if_pos (hm.2 h)]; omega
      · rw [if_neg (fun h2 => h (hm.1 h2))]; omega
  rw [key 256 (Nat.le_refl _)]
  omega
def sumC : List Arc → Int
  | [] => 0
  | a :: r => a.c + sumC r
def sumN : List Nat → Nat
  | [] => 0
  | a :: r => a + sumN r
theorem sum_cnt : ∀ {l : List Arc}, (∀ r ∈ l, r.ok) → ∀ n : Nat, ((l.map fun a => cnt a.mem n) |> sumN) = sumN ((List.range n).map fun i : Nat => l.countP fun r => r.mem i)
  | l, hl, 0 => by
    simp only [List.range_zero, List.map_nil, sumN, cnt, List.countP_nil]
    clear hl
    induction l with
    | nil => rfl
    | cons a r ih => simp only [List.map_cons, sumN]; rw [ih]
  | l, hl, n + 1 => by
    have ih := sum_cnt hl n
    have hs : ∀ (x y : List Nat), sumN (x ++ y) = sumN x + sumN y := by
      intro x y
      induction x with
      | nil => simp [sumN]
      | cons a r ih => simp only [List.cons_append, sumN, ih]; omega
    rw [List.range_succ, List.map_append, hs, ← ih]
    simp only [List.map_cons, List.map_nil, sumN, Nat.add_zero]
    clear ih hs hl
    induction l with
    | nil => rfl
    | cons a r ih =>
      simp only [List.map_cons, sumN, List.countP_cons]
      rw [ih, cnt_succ]
      omega
theorem sumC_meet {p : Int → Bool} (hp : Per p) : sumC (meetP p) = cnt p 256 := by
  have h1 := sum_cnt (meet_ok hp) 256
  have h2 : ∀ l : List Arc, (∀ r ∈ l, r.ok) → (sumN (l.map fun a => cnt a.mem 256) : Int) = sumC l := by
    intro l hl
    induction l with
    | nil => rfl
    | cons a r ih =>
      have := cnt_arc (hl a (List.mem_cons_self ..))
      simp only [List.map_cons, sumN, sumC]
      rw [← ih fun r hr => hl r (List.mem_cons_of_mem _ hr), Int.natCast_add, this]
  rw [← h2 _ (meet_ok hp), h1]
  have h3 : (fun i : Nat => (meetP p).countP fun r => r.mem i) = fun i : Nat => if p i then 1 else 0 := by
    funext i; exact cover hp i
  rw [h3]
  have h4 : ∀ n : Nat, sumN ((List.range n).map fun i : Nat => if p i then 1 else 0) = cnt p n := by
    intro n
    induction n with
    | zero => rfl
    | succ n ih =>
      have hs : ∀ (x y : List Nat), sumN (x ++ y) = sumN x + sumN y := by
        intro x y
        induction x with
        | nil => simp [sumN]
        | cons a r ih => simp only [List.cons_append, sumN, ih]; omega
      rw [List.range_succ, List.map_append, hs, ih, cnt_succ]
      simp [sumN]
  rw [h4]
theorem cnt_le {p q : Int → Bool} (h : ∀ i, p i = true → q i = true) : ∀ n, cnt p n ≤ cnt q n
  | 0 => Nat.le_refl _
  | n + 1 => by
    rw [cnt_succ, cnt_succ]
    have := cnt_le h n
    by_cases hp : p n = true
    · rw [if_pos hp, if_pos (h n hp)]; omega
    · rw [if_neg hp]; split <;> omega
theorem cnt_lt {p q : Int → Bool} (h : ∀ i, p i = true → q i = true) {k : Nat} (hk : q k = true) (hk2 : p k = false) : ∀ n, k < n → cnt p n < cnt q n
  | 0, h0 => by omega
  | n + 1, h0 => by
    rw [cnt_succ, cnt_succ]
    by_cases e : k = n
    · subst e
      have := cnt_le h k
      rw [hk, hk2]; simp; omega
    · have := cnt_lt h hk hk2 n (by omega)
      by_cases hp : p n = true
      · rw [if_pos hp, if_pos (h n hp)]; omega
      · rw [if_neg hp]; split <;> omega
def both (a b : Arc) (h : Int) : Bool := a.mem h && b.mem h
theorem mem_per (a : Arc) : Per a.mem := ⟨fun h => by simp only [Arc.mem]; rw [Int.sub_emod, Int.emod_emod, ← Int.sub_emod]⟩
theorem both_per (a b : Arc) : Per (both a b) := ⟨fun h => by simp only [both]; rw [(mem_per a).per, (mem_per b).per]⟩
def meetM (a b : Arc) : List Arc := meetP (both a b)
/-- all marks of a are in b -/
def insideA (a b : Arc) : Prop := ∀ h, a.mem h = true → b.mem h = true
theorem inside_sum {a b : Arc} (ha : a.ok) : sumC (meetM a b) = a.c ↔ insideA a b := by
  unfold meetM
  rw [sumC_meet (both_per a b), ← cnt_arc ha]
  constructor
  · intro h x hx
    cases hb : b.mem x with
    | true => rfl
    | false =>
      have h1 : a.mem ((x % 256).toNat : Nat) = true := by rw [(mem_per a).at (g := x) (by omega)]; exact hx
      have h2 : both a b ((x % 256).toNat : Nat) = false := by
        rw [(both_per a b).at (g := x) (by omega)]; simp [both, hb]
      have := cnt_lt (p := both a b) (q := a.mem) (fun i hi => by simp only [both, Bool.and_eq_true] at hi; exact hi.1) h1 h2 256 (by omega)
      omega
  · intro h
    have : both a b = a.mem := by
      funext x
      cases hx : a.mem x with
      | true => simp [both, hx, h x hx]
      | false => simp [both, hx]
    rw [this]
theorem sum_le {a b : Arc} (ha : a.ok) : sumC (meetM a b) ≤ a.c := by
  unfold meetM
  rw [sumC_meet (both_per a b), ← cnt_arc ha]
  have := cnt_le (p := both a b) (q := a.mem) (fun i hi => by simp only [both, Bool.and_eq_true] at hi; exact hi.1) 256
  omega
theorem meet_few (a b : Arc) (ha : a.ok) (hb : b.ok) : (meetM a b).length ≤ 2 := by
  unfold meetM meetP
  split
  · simp
  · unfold runsTo
    rw [List.length_map]
    have ite_of : ∀ (q : Prop) [Decidable q], (q ∧ (if q then 1 else 0 : Nat) = 1) ∨ (¬ q ∧ (if q then 1 else 0 : Nat) = 0) := fun q _ => by by_cases h : q <;> simp [h]
    have key : ∀ n : Nat, n ≤ 256 → ((List.range n).filter fun h : Nat => start (both a b) (h : Int)).length ≤ (if a.f < n then 1 else 0) + (if b.f < n then 1 else 0) := by
      obtain ⟨a1, a2, a3, a4, a5⟩ := ha
      obtain ⟨b1, b2, b3, b4, b5⟩ := hb
      intro n
      induction n with
      | zero => intro _; simp
      | succ n ih =>
        intro hn
        have ih := ih (by omega)
        have i1 := ite_of (a.f < ((n + 1 : Nat) : Int))
        have i2 := ite_of (b.f < ((n + 1 : Nat) : Int))
        have i3 := ite_of (a.f < (n : Int))
        have i4 := ite_of (b.f < (n : Int))
        generalize (if a.f < ((n + 1 : Nat) : Int) then 1 else 0 : Nat) = x1 at *
        generalize (if b.f < ((n + 1 : Nat) : Int) then 1 else 0 : Nat) = x2 at *
        generalize (if a.f < (n : Int) then 1 else 0 : Nat) = x3 at *
        generalize (if b.f < (n : Int) then 1 else 0 : Nat) = x4 at *
        rw [List.range_succ, List.filter_append, List.length_append]
        by_cases hs : start (both a b) (n : Int) = true
        · rw [List.filter_cons_of_pos (p := fun h : Nat => start (both a b) (h : Int)) hs, List.filter_nil]
          simp only [List.length_cons, List.length_nil]
          simp only [start, both, Arc.mem, Bool.and_eq_true, decide_eq_true_eq, Bool.not_eq_true', Bool.and_eq_false_iff, decide_eq_false_iff_not] at hs
          have : a.f = n ∨ b.f = n := by omega
          omega
        · rw [List.filter_cons_of_neg (p := fun h : Nat => start (both a b) (h : Int)) hs, List.filter_nil]
          simp only [List.length_nil]
          omega
    have := key 256 (Nat.le_refl _)
    have i3 := ite_of (a.f < ((256 : Nat) : Int))
    have i4 := ite_of (b.f < ((256 : Nat) : Int))
    omega
end Go.Proofs.Ytmpmggbcmioipaa
