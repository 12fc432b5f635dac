/-
  A SECOND ENGINE, PART 22: a rest of code that sees nothing of the caller's is run as if alone.
-/
import Derived.Test.YtbpchamlhblddaaK21
set_option linter.all false
namespace Go.K
open Go Go.RowKit
section
variable {P : Program} {B : Nat} {w0 : World} {E0 E : Ext} {L0 L : List Loc} {s : St} {a : Act} {w : World} {m : Nat}
/-- Slots that a rest still looks at: held as they are, and none leads to the run's own. -/
def pureTm (tm : List (Nat × V)) : List (Nat × V) → Prop
  | [] => True
  | p :: r => lk tm p.1 = p.2 ∧ vmap (fun _ => none) p.2 = some p.2 ∧ pureTm tm r
theorem pureTm_is {k : Nat} {u : Value} {tm : List (Nat × V)} (hx : (lk tm k).Is E L u) : ∀ {tm' : List (Nat × V)}, pureTm tm tm' → (lk tm' k).Is E [] u
  | [], _ => by unfold lk V.Is; trivial
  | p :: r, h => by
    obtain ⟨h0, h1, h2⟩ := h
    unfold lk
    by_cases e : p.1 = k
    · rw [if_pos e]
      rw [e] at h0
      rw [h0] at hx
      exact (vmap_is (E' := E) (L := L) (g := fun _ => none) (fun y y' u h1 hy hyi => by cases hy) E.le_refl h1 hx).1
    · rw [if_neg e]
      exact pureTm_is hx h2
/-- The state after such a rest: two slots, held whole, and the caller's things as they were. -/
def After (Q : Exit → St → Prop) (t1 t2 : Nat) (F : List Own) : Exit → St → Prop
  | e, s' => ∃ y1 y2, dv 4 s'.ow (lk s'.tm t1) = some y1 ∧ dv 4 s'.ow (lk s'.tm t2) = some y2 ∧ Q e ⟨s'.n, [(t1, y1), (t2, y2)], F⟩
theorem ev_rest {c : Code} {Q : Exit → St → Prop} (tm : List (Nat × V)) (t1 t2 : Nat) (htm : pureTm s.tm tm) (h : EV P 0 c (After Q t1 t2 s.ow) ⟨s.n, tm, []⟩) : EV P m c Q s := by
  rintro B w0 E0 L0 a w hm ⟨E, L, R⟩
  have R0 : RepE w.heap.size w E E [] [] ⟨s.n, tm, []⟩ a w :=
    { defers := R.defers, le := E.le_refl, low := fun _ _ => rfl, inn := R.inn, below := Below.refl _ w, base := Nat.le_refl _, lto := Locs.to_refl [], len := rfl, size := R.size, tmps := fun k => pureTm_is (R.tmps k) htm, owns := by simp, apart := by simp }
  refine wp_mono (h w.heap.size w E [] a w (Nat.le_refl 0) ⟨E, [], R0⟩) fun e a' w' hq => ?_
  obtain ⟨s', ⟨y1, y2, d1, d2, hQ⟩, E', L', R'⟩ := hq
  obtain ⟨E1, f1, f2, f3, f4, f5⟩ := R'.frzE (fun _ => True)
  have hdv : ∀ {x y : V} {u : Value}, dv 4 s'.ow x = some y → x.Is E' L' u → y.Is E1 [] u := fun hy hx => (dv_is R' f1 (fun id ty v sz rows g cap cur => f4 id ty v sz rows g cap cur trivial) 4 hy hx).1
  have hle : E.le E1 := Ext.le_trans R'.le f1
  have hlow : ∀ b, b < w.heap.size → E1 b = E b := fun b hb => (f2 b hb).trans (R'.low b hb)
  have R2 : RepE B w0 E0 E1 L0 L ⟨s.n, s.tm, s.ow⟩ a w' := by
    refine R.upd hle (fun b hbB => hlow b (by have := R.base; omega)) f3 (R'.below.mono R.base) (Locs.to_refl L) R.len (fun id oo l ho hl => ?_) R.apart
    refine (R.owns id oo l ho hl).keep hle (Locs.to_refl L) (fun g hg => ?_)
    obtain ⟨_, h2, h3⟩ := (R.owns id oo l ho hl).lt g hg
    exact ⟨R'.below.block g h2, fun h => (hlow g h2).trans h⟩
  refine ⟨_, hQ, E1, L, { defers := R'.defers, le := R2.le, low := R2.low, inn := R2.inn, below := R2.below, base := R2.base, lto := R2.lto, len := R2.len, size := R'.size, tmps := fun k => ?_, owns := R2.owns, apart := R2.apart }⟩
  show (lk [(t1, y1), (t2, y2)] k).Is E1 L _
  unfold lk
  by_cases e1 : t1 = k
  · subst e1
    rw [if_pos rfl]
    exact (hdv d1 (R'.tmps _)).mono (E' := E1) E1.le_refl (Locs.nil_to _)
  · rw [if_neg e1]
    unfold lk
    by_cases e2 : t2 = k
    · subst e2
      rw [if_pos rfl]
      exact (hdv d2 (R'.tmps _)).mono (E' := E1) E1.le_refl (Locs.nil_to _)
    · rw [if_neg e2]
      unfold lk V.Is; trivial
end
end Go.K
