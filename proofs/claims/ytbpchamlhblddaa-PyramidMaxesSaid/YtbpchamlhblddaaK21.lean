/-
  A SECOND ENGINE, PART 21: a frozen thing taken for what it is; a step behind the last one.
-/
import Derived.Test.YtbpchamlhblddaaK17
set_option linter.all false
namespace Go.K
open Go Go.RowKit
section
variable {P : Program} {B : Nat} {w0 : World} {E0 E : Ext} {L0 L : List Loc} {s : St} {a : Act} {w : World} {m : Nat}
/-- A value that leads into a frozen thing, held whole. -/
theorem ev_see {c : Code} {Q : Exit → St → Prop} (t : Nat) {y : V} (hy : fv s.ow (lk s.tm t) = some y) (h : EV P m c Q ⟨s.n, (t, y) :: s.tm, s.ow⟩) : EV P m c Q s := by
  rintro B w0 E0 L0 a w hm ⟨E, L, R⟩
  refine h B w0 E0 L0 a w hm ⟨E, L, { R with tmps := fun k => ?_, size := R.size, len := R.len, owns := R.owns, apart := R.apart }⟩
  show (lk ((t, y) :: s.tm) k).Is E L _
  unfold lk
  have hk := R.tmps k
  by_cases e : t = k
  · subst e
    rw [if_pos rfl]
    exact (fv_is R hy hk).1.mono (E' := E) E.le_refl (Locs.nil_to _)
  · rw [if_neg e]
    cases hs : s.tm <;> (rw [hs] at hk; exact hk)
def Hid (p : Prop) : Prop := p
/-- At the end of a code, a thing of one's own is given up, and a slot that leads into it holds it whole. -/
def FzSee (Q : Exit → St → Prop) (s : St) : Prop := ∃ id ty v sz rows rs t y, s.ow[id]? = some (.blk ty v sz rows) ∧ vrows (fv s.ow) rows = some rs ∧
  fv (s.ow.set id (.froz ty v sz rs)) (lk s.tm t) = some y ∧ Q .normal ⟨s.n, (t, y) :: s.tm, s.ow.set id (.froz ty v sz rs)⟩
theorem RepE.see (R : RepE B w0 E0 E L0 L s a w) (t : Nat) {y : V} (hy : fv s.ow (lk s.tm t) = some y) : RepE B w0 E0 E L0 L ⟨s.n, (t, y) :: s.tm, s.ow⟩ a w := by
  refine { R with tmps := fun k => ?_, size := R.size, len := R.len, owns := R.owns, apart := R.apart }
  show (lk ((t, y) :: s.tm) k).Is E L _
  unfold lk
  have hk := R.tmps k
  by_cases e : t = k
  · subst e
    rw [if_pos rfl]
    exact (fv_is R hy hk).1.mono (E' := E) E.le_refl (Locs.nil_to _)
  · rw [if_neg e]
    cases hs : s.tm <;> (rw [hs] at hk; exact hk)
theorem ev_fzend {c : Code} {Q : Exit → St → Prop} (h : ∀ K : St → Prop, Hid (∀ s, FzSee Q s → K s) → EV P m c (thenQ K Q) s) : EV P m c Q s := by
  intro B w0 E0 L0 a w hm R
  refine wp_mono (h (FzSee Q) (fun _ h => h) B w0 E0 L0 a w hm R) fun e a' w' hq => ?_
  obtain ⟨s', hq, R'⟩ := hq
  cases e with
  | normal =>
    obtain ⟨id, ty, v, sz, rows, rs, t, y, h1, h2, h3, h4⟩ := hq
    obtain ⟨E, L, R1⟩ := R'
    obtain ⟨E1, f1, R2⟩ := R1.fz h1 h2
    exact ⟨_, h4, E1, L, R2.see t h3⟩
  | exit id => exact ⟨s', hq, R'⟩
  | goto l => exact ⟨s', hq, R'⟩
  | ret => exact ⟨s', hq, R'⟩
  | panic c => exact ⟨s', hq, R'⟩
  | outgrown => exact ⟨s', hq, R'⟩
end
end Go.K
