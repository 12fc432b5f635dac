/-
  Facts on this seat's whole program that each of its rows asks for. Conditions: none.
-/
import Derived.Test.YtbpchamlhblddaaRows
import Derived.WalkKit
import Derived.ProofKit
import Derived.JoinedOf
set_option linter.all false
namespace Go.Proofs.Ytbpchamlhblddaa
open Go
theorem ws_cons (c : Char) (r : List Char) : wordsSigns (c :: r) = if c = Char.ofNat 32 then [] :: wordsSigns r else (match wordsSigns r with | w :: ws => (c :: w) :: ws | [] => [[c]]) := by
  by_cases h : c = Char.ofNat 32
  · subst h; rw [if_pos rfl]; rfl
  · rw [if_neg h]
    rw [wordsSigns]
    · rfl
    · intro h2; exact h (h2.trans (by decide))
theorem ws_ne : ∀ l : List Char, wordsSigns l ≠ []
  | [] => by unfold wordsSigns; exact List.cons_ne_nil _ _
  | c :: r => by
    rw [ws_cons]; split
    · exact List.cons_ne_nil _ _
    · split <;> exact List.cons_ne_nil _ _
theorem ws_append : ∀ (a b : List Char), wordsSigns (a ++ Char.ofNat 32 :: b) = wordsSigns a ++ wordsSigns b
  | [], b => by rw [List.nil_append, ws_cons, if_pos rfl]; rfl
  | c :: r, b => by
    rw [List.cons_append, ws_cons, ws_cons, ws_append r b]
    split
    · rfl
    · cases h : wordsSigns r with
      | nil => exact absurd h (ws_ne r)
      | cons w ws => rfl
def nsA : List Nat := [104, 97, 114, 110, 101, 115, 115, 32, 50, 55, 51, 54, 53, 49, 101, 100, 100, 50, 97, 97, 99, 55, 98, 50, 55, 51, 48, 51, 97, 49, 50, 97, 48, 52, 53, 100, 54, 53, 98, 51, 102, 55, 50, 100, 48, 54, 100, 52, 102, 48, 54, 56, 49, 50, 102, 49, 49, 53, 48, 101, 50, 99, 52, 55, 52, 101, 55, 54, 99, 51, 52, 50, 32, 99, 117, 116, 32, 97, 116]
def nsB : List Nat := [119, 97, 121, 102, 105, 110, 100, 101, 114, 47, 119, 97, 121, 102, 105, 110, 100, 101, 114, 108, 97, 119, 49, 56, 46, 80, 121, 114, 97, 109, 105, 100, 83, 117, 109, 115, 32, 119, 97, 121, 102, 105, 110, 100, 101, 114, 47, 119, 97, 121, 102, 105, 110, 100, 101, 114, 108, 97, 119, 49, 56, 46, 80, 121, 114, 97, 109, 105, 100, 81, 117, 97, 114, 116, 101, 114, 115, 32, 119, 97, 121, 102, 105, 110, 100, 101, 114, 47, 119, 97, 121, 102, 105, 110, 100, 101, 114, 108, 97, 119, 49, 56, 46, 80, 121, 114, 97, 109, 105, 100, 67, 117, 116, 115, 32, 119, 97, 121, 102, 105, 110, 100, 101, 114, 47, 119, 97, 121, 102, 105, 110, 100, 101, 114, 108, 97, 119, 49, 56, 46, 80, 121, 114, 97, 109, 105, 100, 77, 111, 118, 101, 115, 32, 119, 97, 121, 102, 105, 110, 100, 101, 114, 47, 119, 97, 121, 102, 105, 110, 100, 101, 114, 108, 97, 119, 49, 56, 46, 80, 121, 114, 97, 109, 105, 100, 77, 97, 120, 101, 115, 32, 119, 97, 121, 102, 105, 110, 100, 101, 114, 47, 119, 97, 121, 102, 105, 110, 100, 101, 114, 108, 97, 119, 49, 56, 46, 80, 121, 114, 97, 109, 105, 100, 65, 116, 116, 97, 105, 110, 101, 100, 32, 119, 97, 121, 102, 105, 110, 100, 101, 114, 47, 119, 97, 121, 102, 105, 110, 100, 101, 114, 108, 97, 119, 49, 56, 46, 80, 121, 114, 97, 109, 105, 100, 80, 101, 97, 107, 115, 32, 119, 97, 121, 102, 105, 110, 100, 101, 114, 47, 119, 97, 121, 102, 105, 110, 100, 101, 114, 108, 97, 119, 49, 56, 46, 80, 121, 114, 97, 109, 105, 100, 82, 105, 115, 101, 115]
set_option maxRecDepth 100000
theorem ini : Try.pinned.checked.prog.initOrder = String.ofList (nsA.map Char.ofNat ++ Char.ofNat 32 :: nsB.map Char.ofNat) := by kernel_rfl
theorem wsi : wordsSigns Try.pinned.checked.prog.initOrder.toList = wordsSigns (nsA.map Char.ofNat) ++ wordsSigns (nsB.map Char.ofNat) := by
  rw [ini, String.toList_ofList, ws_append]
theorem wsb : behindMainWord (wordsSigns Try.pinned.checked.prog.initOrder.toList) = "cut".toList :: "at".toList :: wordsSigns (nsB.map Char.ofNat) := by
  rw [wsi]
  generalize wordsSigns (nsB.map Char.ofNat) = R
  kernel_rfl
theorem strip0 (R : List (List Char)) : stripLifts liftWords ("cut".toList :: "at".toList :: R) = ([], "cut".toList :: "at".toList :: R) := by kernel_rfl
section
variable {P : Program} {R : List (List Char)} (h : behindMainWord (wordsSigns P.initOrder.toList) = "cut".toList :: "at".toList :: R)
include h
theorem head_of : P.headLifts = [] := by
  unfold Program.headLifts
  rw [h]
  simp only [strip0]
  first | rfl | kernel_rfl | decide
theorem may_of (h1 : P.laysLater = false) (h2 : P.bearsReflect = false) (h3 : P.doorFits [] = true) : P.mayEnter = true := by
  unfold Program.mayEnter
  rw [h]
  simp only [strip0, h1, h2, h3]
  first | rfl | kernel_rfl | decide
theorem lif_of : P.liftsFinal = false := by
  have h0 := head_of h
  unfold Program.liftsFinal
  rw [h, h0]
  first | rfl | kernel_rfl | decide
theorem mak_of : P.make = some .cut := by
  have h0 := head_of h
  unfold Program.make
  rw [h]
  first | rfl | kernel_rfl | decide
end
theorem mayE : Try.pinned.checked.prog.mayEnter = true := may_of wsb (by kernel_rfl) (by kernel_rfl) (by kernel_rfl)
theorem lif0 : Try.pinned.checked.prog.liftsFinal = false := lif_of wsb
theorem mak0 : Try.pinned.checked.prog.make = some .cut := mak_of wsb
theorem laid0 : laidOutB Try.pinned.checked.prog = true := by kernel_rfl
theorem maps0 : mapsRowed Try.pinned.checked.prog = true := by kernel_rfl
theorem stop0 : (Try.pinned.checked.prog.stops == []) = true := by kernel_rfl
theorem knob0 : (Try.pinned.checked.prog.stopKnobs == []) = true := by kernel_rfl
theorem keys0 : Try.pinned.checked.prog.plainKeys = true := by kernel_rfl
theorem heard0 : Try.pinned.checked.prog.stopsHeard = true := by kernel_rfl
end Go.Proofs.Ytbpchamlhblddaa
