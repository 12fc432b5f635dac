import Derived.Test.YtmpmggbcmioipaaD6
set_option linter.all false
namespace Go.Proofs.Ytmpmggbcmioipaa
open Go Go.K
set_option maxRecDepth 20000
set_option maxHeartbeats 4000000
/-! images, mark by mark -/
def markB (b : Box) (c : Cmd) (d : Bounds) (h : Int) : Box := outB b (reachM c.f d.l d.s h) ⟨h, 1⟩
def capR (b : Box) : Rect := ⟨-1048576 - b.x0, -1048576 - b.y0, 1048576 - b.x1, 1048576 - b.y1⟩
theorem outB_iff {b : Box} {r : Rect} {a : Arc} (hb : b.ok) (hr : r.fit) (ha : a.ok) : (outB b r a).ok ↔ r.sub (capR b) := by
  obtain ⟨b1, b2, b3, b4, b5, b6, _⟩ := hb
  obtain ⟨r1, r2, r3, r4, r5, r6⟩ := hr
  constructor
  · rintro ⟨h1, h2, h3, h4, h5, h6, _⟩
    simp only [outB] at h1 h2 h3 h4 h5 h6
    simp only [Rect.sub, capR]; omega
  · intro h
    simp only [Rect.sub, capR] at h
    refine ⟨?_, ?_, ?_, ?_, ?_, ?_, ha⟩ <;> simp only [outB] <;> omega
theorem mark_arc {h : Int} (hh : 0 ≤ h ∧ h < 256) : (Arc.mk h 1).ok := ⟨hh.1, hh.2, show (1 : Int) ≤ 1 from Int.le_refl _, show (1 : Int) ≤ 256 by omega, .inr (show (1 : Int) < 256 by omega)⟩
theorem reachA_one (f l s : Int) {h : Int} (hh : 0 ≤ h ∧ h < 256) : reachA f l s ⟨h, 1⟩ = reachM f l s h := by
  unfold reachA
  show reachU f l s ⟨h, 1⟩ 0 = _
  unfold reachU
  rw [show h % 256 = h by omega]
theorem reachM_fit {c : Cmd} {d : Bounds} {h : Int} (hc : c.ok) (hd : d.ok) : (reachM c.f d.l d.s h).fit := by
  obtain ⟨c1, c2, c3, c4⟩ := hc
  obtain ⟨b1, b2, b3, b4, b5, b6, b7, b8⟩ := hd
  exact reachM_small ⟨c3, c4⟩ ⟨b3, b4⟩ ⟨b5, b6⟩
theorem marks_ok {b : Box} {c : Cmd} {d : Bounds} {a : Arc} (hb : b.ok) (hc : c.ok) (hd : d.ok) (ha : a.ok) :
    (outB b (reachA c.f d.l d.s a) a).ok ↔ ∀ i : Nat, i < a.c.toNat → (markB b c d ((a.f + i) % 256)).ok := by
  have hp := ha.2.2.1
  rw [outB_iff hb (reachA_fit hc hd) ha]
  constructor
  · intro h i hi
    unfold markB
    rw [outB_iff hb (reachM_fit hc hd) (mark_arc (by omega))]
    exact sub_trans (reachU_has _ _ _ a _ (by omega)) h
  · intro h
    refine reachU_least _ fun i hi => ?_
    have := h i (by omega)
    unfold markB at this
    rwa [outB_iff hb (reachM_fit hc hd) (mark_arc (by omega))] at this
def imagesL (b : Box) (c : Cmd) (d : Bounds) (a : Arc) (i : Nat) : List Box := (List.range i).map fun j : Nat => markB b c d ((a.f + j) % 256)
theorem imagesL_succ (b : Box) (c : Cmd) (d : Bounds) (a : Arc) (i : Nat) : (imagesL b c d a (i + 1)).map encBox = (imagesL b c d a i).map encBox ++ [encBox (markB b c d ((a.f + i) % 256))] := by
  unfold imagesL; rw [List.range_succ, List.map_append, List.map_append]; rfl
theorem imagesL_len (b : Box) (c : Cmd) (d : Bounds) (a : Arc) (i : Nat) : (imagesL b c d a i).length = i := by simp [imagesL]
theorem imagesL_get (b : Box) (c : Cmd) (d : Bounds) (a : Arc) {i n : Nat} (h : i < n) : (imagesL b c d a n).getD i Box.zero = markB b c d ((a.f + i) % 256) := by
  simp [imagesL, List.getD_eq_getElem?_getD, h]
structure BsR where
  l : List Box
  e : Int
def encBs (r : BsR) : V := .tup [.sl (r.l.map encBox), .int .i64 r.e]
def imgA (b : Box) (c : Cmd) (d : Bounds) : Arc := turnedM b.arc c.t d.t
def imagesM (b : Box) (c : Cmd) (d : Bounds) : BsR :=
  if b.ok ∧ c.ok ∧ d.ok then (if (outB b (reachA c.f d.l d.s (imgA b c d)) (imgA b c d)).ok then ⟨imagesL b c d (imgA b c d) (imgA b c d).c.toNat, 0⟩ else ⟨[], 2⟩) else ⟨[], 1⟩
end Go.Proofs.Ytmpmggbcmioipaa
