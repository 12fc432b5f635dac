import Derived.Test.YtbibplkhhdomnaaGreatRows
import Derived.WalkKit
import Derived.ProofKit
import Derived.JoinedOf
set_option linter.all false
namespace Go.Proofs.YtbibplkhhdomnaaGreat
open Go
theorem ws_cons (c : Char) (r : List Char) : wordsSigns (c :: r) = if c = Char.ofNat 32 then [] :: wordsSigns r else (match wordsSigns r with | w :: ws => (c :: w) :: ws | [] => [[c]]) := by
  by_cases h : c = Char.ofNat 32
  · subst h; rw [if_pos rfl]; rfl
  · rw [if_neg h]
    rw [wordsSigns]
    · rfl
    · intro h2; exact h (h2.trans (by decide))
theorem ws_ne : ∀ l : List Char, wordsSigns l ≠ []
  | [] => by unfold wordsSigns; exact List.cons_ne_nil _ _
  | c :: r => by
    rw [ws_cons]; split
    · exact List.cons_ne_nil _ _
    · split <;> exact List.cons_ne_nil _ _
theorem ws_append : ∀ (a b : List Char), wordsSigns (a ++ Char.ofNat 32 :: b) = wordsSigns a ++ wordsSigns b
  | [], b => by rw [List.nil_append, ws_cons, if_pos rfl]; rfl
  | c :: r, b => by
    rw [List.cons_append, ws_cons, ws_cons, ws_append r b]
    split
    · rfl
    · cases h : wordsSigns r with
      | nil => exact absurd h (ws_ne r)
      | cons w ws => rfl
def nsA : List Nat := [104, 97, 114, 110, 101, 115, 115, 32, 56, 56, 101, 50, 97, 50, 51, 97, 53, 49, 54, 49, 99, 53, 53, 54, 51, 51, 98, 54, 50, 57, 98, 100, 53, 50, 49, 51, 51, 54, 51, 98, 102, 57, 102, 51, 54, 50, 98, 100, 50, 50, 52, 50, 49, 51, 57, 48, 52, 100, 48, 48, 51, 53, 55, 98, 51, 54, 55, 51, 51, 99, 100, 51, 32, 99, 117, 116, 32, 97, 116]
def nsB : List Nat := [119, 97, 121, 102, 105, 110, 100, 101, 114, 47, 119, 97, 121, 102, 105, 110, 100, 101, 114, 116, 111, 112, 46, 87, 104, 111, 108, 101, 77, 97, 116, 99, 104]
set_option maxRecDepth 100000
theorem ini : Tryz.pinned.checked.prog.initOrder = String.ofList (nsA.map Char.ofNat ++ Char.ofNat 32 :: nsB.map Char.ofNat) := by kernel_rfl
theorem wsi : wordsSigns Tryz.pinned.checked.prog.initOrder.toList = wordsSigns (nsA.map Char.ofNat) ++ wordsSigns (nsB.map Char.ofNat) := by
  rw [ini, String.toList_ofList, ws_append]
theorem wsb : behindMainWord (wordsSigns Tryz.pinned.checked.prog.initOrder.toList) = "cut".toList :: "at".toList :: wordsSigns (nsB.map Char.ofNat) := by
  rw [wsi]
  generalize wordsSigns (nsB.map Char.ofNat) = R
  kernel_rfl
theorem strip0 (R : List (List Char)) : stripLifts liftWords ("cut".toList :: "at".toList :: R) = ([], "cut".toList :: "at".toList :: R) := by kernel_rfl
section
variable {P : Program} {R : List (List Char)} (h : behindMainWord (wordsSigns P.initOrder.toList) = "cut".toList :: "at".toList :: R)
include h
theorem head_of : P.headLifts = [] := by
  unfold Program.headLifts
  rw [h]
  simp only [strip0]
  first | rfl | kernel_rfl | decide
theorem may_of (h1 : P.laysLater = false) (h2 : P.bearsReflect = false) (h3 : P.doorFits [] = true) : P.mayEnter = true := by
  unfold Program.mayEnter
  rw [h]
  simp only [strip0, h1, h2, h3]
  first | rfl | kernel_rfl | decide
theorem lif_of : P.liftsFinal = false := by
  have h0 := head_of h
  unfold Program.liftsFinal
  rw [h, h0]
  first | rfl | kernel_rfl | decide
theorem mak_of : P.make = some .cut := by
  have h0 := head_of h
  unfold Program.make
  rw [h]
  first | rfl | kernel_rfl | decide
end
theorem mayE : Tryz.pinned.checked.prog.mayEnter = true := may_of wsb (by kernel_rfl) (by kernel_rfl) (by kernel_rfl)
theorem lif0 : Tryz.pinned.checked.prog.liftsFinal = false := lif_of wsb
theorem mak0 : Tryz.pinned.checked.prog.make = some .cut := mak_of wsb
theorem laid0 : laidOutB Tryz.pinned.checked.prog = true := by kernel_rfl
theorem maps0 : mapsRowed Tryz.pinned.checked.prog = true := by kernel_rfl
theorem stop0 : (Tryz.pinned.checked.prog.stops == []) = true := by kernel_rfl
theorem knob0 : (Tryz.pinned.checked.prog.stopKnobs == []) = true := by kernel_rfl
theorem keys0 : Tryz.pinned.checked.prog.plainKeys = false := by kernel_rfl
theorem heard0 : Tryz.pinned.checked.prog.stopsHeard = true := by kernel_rfl
end Go.Proofs.YtbibplkhhdomnaaGreat
