import Derived.Test.YtmpmggbcmioipaaD8
set_option linter.all false
namespace Go.Proofs.Ytmpmggbcmioipaa
open Go Go.K
set_option maxRecDepth 20000
set_option maxHeartbeats 4000000
def onlyB (p : Pose) : Box := ⟨p.x, p.y, p.x, p.y, p.h, 1⟩
def moreB (d : Bounds) : Bounds := ⟨min (d.t + 1) 8, min (d.l + 1) 16, min (d.s + 1) 8, d.r⟩
theorem only_ok {b : Box} {p : Pose} (hp : b.has p) (h0 : 0 ≤ p.h ∧ p.h < 256) : (onlyB p).ok := by
  obtain ⟨⟨b1, b2, b3, b4, b5, b6, _⟩, h1, h2, h3, h4, h5⟩ := hp
  refine ⟨?_, ?_, ?_, ?_, ?_, ?_, h0.1, h0.2, show (1 : Int) ≤ 1 from Int.le_refl _, show (1 : Int) ≤ 256 by omega, .inr (show (1 : Int) < 256 by omega)⟩ <;> simp only [onlyB] <;> omega
theorem more_ok {d : Bounds} (h : d.ok) : (moreB d).ok := by
  obtain ⟨b1, b2, b3, b4, b5, b6, b7, b8⟩ := h
  refine ⟨?_, ?_, ?_, ?_, ?_, ?_, b7, b8⟩ <;> simp only [moreB] <;> omega
theorem mono_facts {b : Box} {c : Cmd} {d : Bounds} {p : Pose} (h : b.ok ∧ c.ok ∧ d.ok) (hp : b.has p) (h0 : 0 ≤ p.h ∧ p.h < 256)
    (ho : (outB b (reachA c.f d.l d.s (turnedM b.arc c.t d.t)) (turnedM b.arc c.t d.t)).ok) :
    ∃ w o, imageM b c d = ⟨w, 0⟩ ∧ w.ok ∧ imageM (onlyB p) c d = ⟨o, 0⟩ ∧ o.ok ∧ insideB o w ∧
      (imageM b c (moreB d) = ⟨Box.zero, 2⟩ ∨ ∃ l, imageM b c (moreB d) = ⟨l, 0⟩ ∧ l.ok ∧ insideB w l) := by
  obtain ⟨hb, hc, hd⟩ := h
  have hd' := more_ok hd
  have ok1 := only_ok hp h0
  have ha : b.arc.ok := hb.2.2.2.2.2.2
  have ha1 : (onlyB p).arc.ok := ok1.2.2.2.2.2.2
  obtain ⟨d1, d2, d3, d4, d5, d6, d7, d8⟩ := id hd
  have k0 := turned_ok ha (t := c.t) (n := d.t) d1
  have k1 := turned_ok ha1 (t := c.t) (n := d.t) d1
  have k2 := turned_ok ha (t := c.t) (n := (moreB d).t) hd'.1
  have i1 : inArc (turnedM (onlyB p).arc c.t d.t) (turnedM b.arc c.t d.t) := turned_one ha ⟨d1, d2⟩ h0 hp.2.2.2.2.2
  have i2 : inArc (turnedM b.arc c.t d.t) (turnedM b.arc c.t (moreB d).t) := turned_more ha ⟨d1, by simp only [moreB]; omega, by simp only [moreB]; omega⟩
  have s1 := reachA_sub (f := c.f) k1 k0 i1 (Int.le_refl d.l) (Int.le_refl d.s) d3 d5
  have s2 := reachA_sub (f := c.f) (l := d.l) (s := d.s) (l' := (moreB d).l) (s' := (moreB d).s) k0 k2 i2 (by simp only [moreB]; omega) (by simp only [moreB]; omega) d3 d5
  have x1 : b.x0 ≤ (onlyB p).x0 ∧ (onlyB p).x1 ≤ b.x1 ∧ b.y0 ≤ (onlyB p).y0 ∧ (onlyB p).y1 ≤ b.y1 := ⟨hp.2.1, hp.2.2.1, hp.2.2.2.1, hp.2.2.2.2.1⟩
  have x2 : b.x0 ≤ b.x0 ∧ b.x1 ≤ b.x1 ∧ b.y0 ≤ b.y0 ∧ b.y1 ≤ b.y1 := by omega
  have f1 := @reachA_fit c d (turnedM (onlyB p).arc c.t d.t) hc hd
  have o1 := outB_ok ok1 f1 x1 s1 k1 ho
  refine ⟨_, _, ?_, ho, ?_, o1, resB_sub x1 s1 i1, ?_⟩
  · unfold imageM resB; rw [if_pos ⟨hb, hc, hd⟩, if_pos ho]
  · unfold imageM resB; rw [if_pos ⟨ok1, hc, hd⟩, if_pos o1]
  · unfold imageM resB
    rw [if_pos ⟨hb, hc, hd'⟩]
    by_cases o2 : (outB b (reachA c.f (moreB d).l (moreB d).s (turnedM b.arc c.t (moreB d).t)) (turnedM b.arc c.t (moreB d).t)).ok
    · rw [if_pos o2]; exact .inr ⟨_, rfl, o2, resB_sub x2 s2 i2⟩
    · rw [if_neg o2]; exact .inl rfl
end Go.Proofs.Ytmpmggbcmioipaa
