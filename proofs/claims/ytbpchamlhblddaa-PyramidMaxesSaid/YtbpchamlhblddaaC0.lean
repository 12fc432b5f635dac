/-
  The readers of the laws' arguments: what an argument's reading says of its value.
-/
import Derived.Test.YtbpchamlhblddaaRows
import Derived.Test.YtbpchamlhblddaaK16
import Derived.Test.YtbpchamlhblddaaPC
set_option linter.all false
namespace Go.Proofs.Ytbpchamlhblddaa
open Go Go.K Go.ChangeShapes Go.WideShapes Go.ChangeAt Go.RowKit
set_option maxRecDepth 100000
set_option linter.unusedVariables false
def encRcR (r : Rc) : List V := [.int .i64 r.x0, .int .i64 r.y0, .int .i64 r.x1, .int .i64 r.y1]
theorem len_byte (a : Int) : (enB a).length = Try.prog.cellsOf 5 := by
  have : Try.prog.cellsOf 5 = 1 := by kernel_rfl
  rw [this]; rfl
theorem pos_byte : 0 < Try.prog.cellsOf 5 := by
  have : Try.prog.cellsOf 5 = 1 := by kernel_rfl
  rw [this]; decide
theorem rd_bytes : Rd Try.prog 22 (fun l : List Int => [.sl (l.map enB)]) (fun l => l.length ≤ maxLen ∧ ∀ a ∈ l, inKind .u8 a) :=
  rd_slice Try.underlying22 (rd_int Try.underlying5) len_byte pos_byte
def fldOk (f : Fld) : Prop := inKind .i64 f.x ∧ inKind .i64 f.y ∧ inKind .i64 f.w ∧ inKind .i64 f.h ∧ (f.v.length ≤ maxLen ∧ ∀ a ∈ f.v, inKind .u8 a)
theorem rd_field : Rd Try.prog 24 encF fldOk :=
  rd_to (rd_struct Try.underlying24 (by kernel_rfl) (rdf_cons (k := 1) rfl (rd_int Try.underlying3) (by kernel_rfl) (rdf_cons (k := 1) rfl (rd_int Try.underlying3) (by kernel_rfl) (rdf_cons (k := 1) rfl (rd_int Try.underlying3) (by kernel_rfl) (rdf_cons (k := 1) rfl (rd_int Try.underlying3) (by kernel_rfl) (rdf_cons (k := 1) rfl rd_bytes (by kernel_rfl) rdf_nil))))))
    (fun p : Int × Int × Int × Int × List Int × Unit => ⟨p.1, p.2.1, p.2.2.1, p.2.2.2.1, p.2.2.2.2.1⟩) (fun _ => rfl) (fun a h => ⟨h.1, h.2.1, h.2.2.1, h.2.2.2.1, h.2.2.2.2.1⟩)
theorem rd_rc : Rd Try.prog 26 encRcR (fun b => (inKind .i64 b.x0) ∧ (inKind .i64 b.y0) ∧ (inKind .i64 b.x1) ∧ (inKind .i64 b.y1)) :=
  rd_to (rd_struct Try.underlying26 (by kernel_rfl) (rdf_cons (k := 1) rfl (rd_int Try.underlying3) (by kernel_rfl) (rdf_cons (k := 1) rfl (rd_int Try.underlying3) (by kernel_rfl) (rdf_cons (k := 1) rfl (rd_int Try.underlying3) (by kernel_rfl) (rdf_cons (k := 1) rfl (rd_int Try.underlying3) (by kernel_rfl) rdf_nil)))))
    (fun p : Int × Int × Int × Int × Unit => ⟨p.1, p.2.1, p.2.2.1, p.2.2.2.1⟩) (fun _ => rfl) (fun a h => ⟨h.1, h.2.1, h.2.2.1, h.2.2.2.1⟩)
theorem rd_cell : Rd Try.prog 37 (fun p : Int × Int => [.int .i64 p.1, .int .i64 p.2]) (fun b => (inKind .i64 b.1) ∧ (inKind .i64 b.2)) :=
  rd_to (rd_struct Try.underlying37 (by kernel_rfl) (rdf_cons (k := 1) rfl (rd_int Try.underlying3) (by kernel_rfl) (rdf_cons (k := 1) rfl (rd_int Try.underlying3) (by kernel_rfl) rdf_nil)))
    (fun p : Int × Int × Unit => (p.1, p.2.1)) (fun _ => rfl) (fun a h => ⟨h.1, h.2.1⟩)
theorem byt {f : Fld} (h : fldOk f) : bytesL f.v := fun b hb => by
  have := h.2.2.2.2.2 b hb
  have e1 : IntKind.u8.min = 0 := rfl
  have e2 : IntKind.u8.max = 255 := rfl
  unfold inKind at this
  omega
theorem inI_of {x : Int} (h : inKind .i64 x) : -9223372036854775808 ≤ x ∧ x ≤ 9223372036854775807 := by
  have e1 : IntKind.i64.min = -9223372036854775808 := rfl
  have e2 : IntKind.i64.max = 9223372036854775807 := rfl
  unfold inKind at h
  omega
end Go.Proofs.Ytbpchamlhblddaa
