/-
  The readers of the laws' arguments: what an argument's reading says of its value.
-/
import Derived.Test.YtnkiejbkfafciaaRows
import Derived.Test.YtnkiejbkfafciaaK15
import Derived.Test.YtnkiejbkfafciaaA1
set_option linter.all false
namespace Go.Proofs.Ytnkiejbkfafciaa
open Go Go.K Go.ChangeShapes Go.WideShapes Go.ChangeAt Go.RowKit
set_option maxRecDepth 100000
set_option linter.unusedVariables false
theorem rd_sig : Rd Try.prog 33 encSig (fun _ => True) :=
  rd_to (rd_struct Try.underlying33 (by kernel_rfl) (rdf_cons (k := 1) rfl (rd_bool Try.underlying4) (by kernel_rfl) (rdf_cons (k := 1) rfl (rd_bool Try.underlying4) (by kernel_rfl) (rdf_cons (k := 1) rfl (rd_bool Try.underlying4) (by kernel_rfl) (rdf_cons (k := 1) rfl (rd_bool Try.underlying4) (by kernel_rfl) (rdf_cons (k := 1) rfl (rd_bool Try.underlying4) (by kernel_rfl) rdf_nil))))))
    (fun p : Bool × Bool × Bool × Bool × Bool × Unit => ⟨p.1, p.2.1, p.2.2.1, p.2.2.2.1, p.2.2.2.2.1⟩) (fun _ => rfl) (fun _ _ => trivial)
theorem rd_cmd : Rd Try.prog 24 encCmd (fun c => inKind .i64 c.t ∧ inKind .i64 c.f) :=
  rd_to (rd_struct Try.underlying24 (by kernel_rfl) (rdf_cons (k := 1) rfl (rd_int Try.underlying3) (by kernel_rfl) (rdf_cons (k := 1) rfl (rd_int Try.underlying3) (by kernel_rfl) rdf_nil)))
    (fun p : Int × Int × Unit => ⟨p.1, p.2.1⟩) (fun _ => rfl) (fun a h => ⟨h.1, h.2.1⟩)
theorem len_sig (s : Sig) : (encSig s).length = Try.prog.cellsOf 33 := by
  have : Try.prog.cellsOf 33 = 5 := by kernel_rfl
  rw [this]; rfl
theorem pos_sig : 0 < Try.prog.cellsOf 33 := by
  have : Try.prog.cellsOf 33 = 5 := by kernel_rfl
  rw [this]; decide
end Go.Proofs.Ytnkiejbkfafciaa
