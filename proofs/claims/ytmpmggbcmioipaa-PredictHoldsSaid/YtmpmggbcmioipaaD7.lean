import Derived.Test.YtmpmggbcmioipaaD6
set_option linter.all false
namespace Go.Proofs.Ytmpmggbcmioipaa
open Go Go.K
set_option maxRecDepth 20000
set_option maxHeartbeats 4000000
/-- a pose of a box, by a number -/
def poseAt (b : Box) (k h : Int) : Pose :=
  ⟨if k = 1 ∨ k = 3 then b.x1 else if k = 4 then (b.x0 + b.x1) / 2 else b.x0, if k = 2 ∨ k = 3 then b.y1 else if k = 4 then (b.y0 + b.y1) / 2 else b.y0, (b.f + h.tmod b.c) % 256⟩
theorem pose_has {b : Box} (hb : b.ok) (k : Int) {h : Int} (hh : 0 ≤ h) : b.has (poseAt b k h) ∧ 0 ≤ (poseAt b k h).h ∧ (poseAt b k h).h < 256 := by
  obtain ⟨b1, b2, b3, b4, b5, b6, c1, c2, c3, c4, c5⟩ := id hb
  simp only [Box.arc] at c1 c2 c3 c4 c5
  have t1 : h.tmod b.c = h % b.c := Int.tmod_eq_emod_of_nonneg hh
  have t2 := Int.emod_nonneg h (show b.c ≠ 0 by omega)
  have t3 := Int.emod_lt_of_pos h (show 0 < b.c by omega)
  unfold poseAt
  rw [t1]
  refine ⟨⟨hb, ?_, ?_, ?_, ?_, ?_⟩, ?_, ?_⟩
  · simp only; split
    · omega
    · split <;> omega
  · simp only; split
    · omega
    · split <;> omega
  · simp only; split
    · omega
    · split <;> omega
  · simp only; split
    · omega
    · split <;> omega
  · show decide (((b.f + h % b.c) % 256 - b.f) % 256 < b.c) = true
    rw [decide_eq_true_eq]
    generalize h % b.c = i at *
    omega
  · show 0 ≤ (b.f + h % b.c) % 256; omega
  · show (b.f + h % b.c) % 256 < 256; omega
def insideB (a b : Box) : Prop := (b.x0 ≤ a.x0 ∧ a.x1 ≤ b.x1 ∧ b.y0 ≤ a.y0 ∧ a.y1 ≤ b.y1) ∧ (b.c = 256 ∨ (a.f - b.f) % 256 + a.c ≤ b.c)
theorem turned_is {a : Arc} (ha : a.ok) {t n : Int} (hn : 0 ≤ n) : turnedM a t n = if 256 ≤ a.c + 2 * n then ⟨0, 256⟩ else ⟨(a.f + t - n) % 256, a.c + 2 * n⟩ := by
  obtain ⟨a1, a2, a3, a4, a5⟩ := ha
  unfold turnedM
  by_cases h1 : 256 ≤ a.c
  · have e : arcM (a.f + t % 256) a.c = ⟨0, 256⟩ := if_pos h1
    rw [e, if_pos (by omega)]
    exact if_pos (by simp only; omega)
  · have e : arcM (a.f + t % 256) a.c = ⟨(a.f + t % 256) % 256, a.c⟩ := if_neg h1
    rw [e]
    by_cases h2 : 256 ≤ a.c + 2 * n
    · rw [if_pos h2]; exact if_pos h2
    · rw [if_neg h2]
      refine Eq.trans (if_neg h2) ?_
      simp only [Arc.mk.injEq, and_true]
      omega
/-- an arc in another one, as the law says it -/
def inArc (a b : Arc) : Prop := b.c = 256 ∨ (a.f - b.f) % 256 + a.c ≤ b.c
theorem inArc_mem {a b : Arc} (ha : a.ok) (hb : b.ok) (h : inArc a b) {x : Int} (hx : a.mem x = true) : b.mem x = true := by
  obtain ⟨a1, a2, a3, a4, a5⟩ := ha
  obtain ⟨b1, b2, b3, b4, b5⟩ := hb
  unfold inArc at h
  simp only [Arc.mem, decide_eq_true_eq] at *
  omega
theorem turned_one {a : Arc} (ha : a.ok) {h t n : Int} (hn : 0 ≤ n ∧ n ≤ 8) (h0 : 0 ≤ h ∧ h < 256) (hm : a.mem h = true) : inArc (turnedM ⟨h, 1⟩ t n) (turnedM a t n) := by
  rw [turned_is ha hn.1, turned_is (a := ⟨h, 1⟩) ⟨h0.1, h0.2, show (1 : Int) ≤ 1 from Int.le_refl _, show (1 : Int) ≤ 256 by omega, .inr (show (1 : Int) < 256 by omega)⟩ hn.1]
  obtain ⟨a1, a2, a3, a4, a5⟩ := ha
  simp only [Arc.mem, decide_eq_true_eq] at hm
  simp only
  rw [if_neg (by omega)]
  unfold inArc
  split
  · exact .inl rfl
  · simp only; omega
theorem turned_more {a : Arc} (ha : a.ok) {t n m : Int} (hn : 0 ≤ n ∧ n ≤ m ∧ m ≤ n + 1) : inArc (turnedM a t n) (turnedM a t m) := by
  rw [turned_is ha hn.1, turned_is ha (show 0 ≤ m by omega)]
  obtain ⟨a1, a2, a3, a4, a5⟩ := ha
  unfold inArc
  by_cases h1 : 256 ≤ a.c + 2 * m
  · rw [if_pos h1]; exact .inl rfl
  · rw [if_neg h1, if_neg (by omega)]; simp only; omega
theorem reachM_more {f l s l' s' h : Int} (hl : l ≤ l') (hs : s ≤ s') (h0 : 0 ≤ l) (h1 : 0 ≤ s) : (reachM f l s h).sub (reachM f l' s' h) := by
  unfold reachM
  split
  · exact sub_refl _
  · obtain ⟨d1, d2, d3, d4, d5, d6, d7⟩ := dir_ok h
    have mx := @alo_mono (dirM h).x (dirM h).d (by omega)
    have my := @alo_mono (dirM h).y (dirM h).d (by omega)
    have key : ∀ g : Int → Int, ((∀ m n, m ≤ n → g m ≤ g n) ∨ (∀ m n, m ≤ n → g n ≤ g m)) → min (g (f - l')) (g (f + l')) ≤ min (g (f - l)) (g (f + l)) ∧ max (g (f - l)) (g (f + l)) ≤ max (g (f - l')) (g (f + l')) := by
      intro g hg
      rcases hg with hg | hg
      · have := hg (f - l') (f - l) (by omega); have := hg (f - l) (f + l) (by omega); have := hg (f + l) (f + l') (by omega); omega
      · have := hg (f - l') (f - l) (by omega); have := hg (f - l) (f + l) (by omega); have := hg (f + l) (f + l') (by omega); omega
    have kx := key (fun k => alo k (dirM h).x (dirM h).d) mx
    have ky := key (fun k => alo k (dirM h).y (dirM h).d) my
    unfold Rect.sub endsM
    simp only
    omega
theorem reachA_sub {f l s l' s' : Int} {a b : Arc} (ha : a.ok) (hb : b.ok) (hin : inArc a b) (hl : l ≤ l') (hs : s ≤ s') (h0 : 0 ≤ l) (h1 : 0 ≤ s) : (reachA f l s a).sub (reachA f l' s' b) := by
  refine reach_least ha fun x x0 x1 hx => ?_
  have k := reach_has (f := f) (l := l') (s := s') hb (inArc_mem ha hb hin hx)
  rw [show x % 256 = x by omega] at k
  exact sub_trans (reachM_more hl hs h0 h1) k
theorem resB_sub {b1 b2 : Box} {r1 r2 : Rect} {a1 a2 : Arc} (hx : b2.x0 ≤ b1.x0 ∧ b1.x1 ≤ b2.x1 ∧ b2.y0 ≤ b1.y0 ∧ b1.y1 ≤ b2.y1) (hr : r1.sub r2) (ha : inArc a1 a2) : insideB (outB b1 r1 a1) (outB b2 r2 a2) := by
  unfold Rect.sub at hr
  refine ⟨?_, ha⟩
  simp only [outB]; omega
theorem outB_ok {b1 b2 : Box} {r1 r2 : Rect} {a1 a2 : Arc} (hb : b1.ok) (hr1 : r1.fit) (hx : b2.x0 ≤ b1.x0 ∧ b1.x1 ≤ b2.x1 ∧ b2.y0 ≤ b1.y0 ∧ b1.y1 ≤ b2.y1) (hr : r1.sub r2) (ha : a1.ok) (h : (outB b2 r2 a2).ok) : (outB b1 r1 a1).ok := by
  obtain ⟨h1, h2, h3, h4, h5, h6, _⟩ := h
  obtain ⟨k1, k2, k3, k4, k5, k6, _⟩ := hb
  obtain ⟨f1, f2, f3, f4, f5, f6⟩ := hr1
  unfold Rect.sub at hr
  simp only [outB] at h1 h2 h3 h4 h5 h6
  refine ⟨?_, ?_, ?_, ?_, ?_, ?_, ha⟩ <;> simp only [outB] <;> omega
end Go.Proofs.Ytmpmggbcmioipaa
