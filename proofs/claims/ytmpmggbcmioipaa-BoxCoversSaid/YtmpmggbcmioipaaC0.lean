/-
  The readers of the laws' arguments: what an argument's reading says of its value.
-/
import Derived.Test.YtmpmggbcmioipaaRows
import Derived.Test.YtmpmggbcmioipaaK16
import Derived.Test.YtmpmggbcmioipaaH8
set_option linter.all false
namespace Go.Proofs.Ytmpmggbcmioipaa
open Go Go.K Go.ChangeShapes Go.WideShapes Go.ChangeAt Go.RowKit
set_option maxRecDepth 100000
set_option linter.unusedVariables false

theorem rd_box : Rd Try.prog 33 encBox (fun b => (inKind .i64 b.x0) ∧ (inKind .i64 b.y0) ∧ (inKind .i64 b.x1) ∧ (inKind .i64 b.y1) ∧ (inKind .i64 b.f) ∧ (inKind .i64 b.c)) :=
  rd_to (rd_struct Try.underlying33 (by kernel_rfl) (rdf_cons (k := 1) rfl (rd_int Try.underlying3) (by kernel_rfl) (rdf_cons (k := 1) rfl (rd_int Try.underlying3) (by kernel_rfl) (rdf_cons (k := 1) rfl (rd_int Try.underlying3) (by kernel_rfl) (rdf_cons (k := 1) rfl (rd_int Try.underlying3) (by kernel_rfl) (rdf_cons (k := 1) rfl (rd_int Try.underlying3) (by kernel_rfl) (rdf_cons (k := 1) rfl (rd_int Try.underlying3) (by kernel_rfl) rdf_nil)))))))
    (fun p : Int × Int × Int × Int × Int × Int × Unit => ⟨p.1, p.2.1, p.2.2.1, p.2.2.2.1, p.2.2.2.2.1, p.2.2.2.2.2.1⟩) (fun _ => rfl) (fun a h => ⟨h.1, h.2.1, h.2.2.1, h.2.2.2.1, h.2.2.2.2.1, h.2.2.2.2.2.1⟩)

theorem len_box (a : Box) : (encBox a).length = Try.prog.cellsOf 33 := by
  have : Try.prog.cellsOf 33 = 6 := by kernel_rfl
  rw [this]; rfl
theorem pos_box : 0 < Try.prog.cellsOf 33 := by
  have : Try.prog.cellsOf 33 = 6 := by kernel_rfl
  rw [this]; decide

theorem rd_pose : Rd Try.prog 24 encPose (fun b => (inKind .i64 b.x) ∧ (inKind .i64 b.y) ∧ (inKind .i64 b.h)) :=
  rd_to (rd_struct Try.underlying24 (by kernel_rfl) (rdf_cons (k := 1) rfl (rd_int Try.underlying3) (by kernel_rfl) (rdf_cons (k := 1) rfl (rd_int Try.underlying3) (by kernel_rfl) (rdf_cons (k := 1) rfl (rd_int Try.underlying3) (by kernel_rfl) rdf_nil))))
    (fun p : Int × Int × Int × Unit => ⟨p.1, p.2.1, p.2.2.1⟩) (fun _ => rfl) (fun a h => ⟨h.1, h.2.1, h.2.2.1⟩)

theorem rd_arc : Rd Try.prog 74 encArc (fun b => (inKind .i64 b.f) ∧ (inKind .i64 b.c)) :=
  rd_to (rd_struct Try.underlying74 (by kernel_rfl) (rdf_cons (k := 1) rfl (rd_int Try.underlying3) (by kernel_rfl) (rdf_cons (k := 1) rfl (rd_int Try.underlying3) (by kernel_rfl) rdf_nil)))
    (fun p : Int × Int × Unit => ⟨p.1, p.2.1⟩) (fun _ => rfl) (fun a h => ⟨h.1, h.2.1⟩)

theorem rd_vec : Rd Try.prog 104 encVec (fun b => (inKind .i64 b.x) ∧ (inKind .i64 b.y) ∧ (inKind .i64 b.d)) :=
  rd_to (rd_struct Try.underlying104 (by kernel_rfl) (rdf_cons (k := 1) rfl (rd_int Try.underlying3) (by kernel_rfl) (rdf_cons (k := 1) rfl (rd_int Try.underlying3) (by kernel_rfl) (rdf_cons (k := 1) rfl (rd_int Try.underlying3) (by kernel_rfl) rdf_nil))))
    (fun p : Int × Int × Int × Unit => ⟨p.1, p.2.1, p.2.2.1⟩) (fun _ => rfl) (fun a h => ⟨h.1, h.2.1, h.2.2.1⟩)

theorem rd_cmd : Rd Try.prog 35 encCmd (fun b => (inKind .i64 b.t) ∧ (inKind .i64 b.f)) :=
  rd_to (rd_struct Try.underlying35 (by kernel_rfl) (rdf_cons (k := 1) rfl (rd_int Try.underlying3) (by kernel_rfl) (rdf_cons (k := 1) rfl (rd_int Try.underlying3) (by kernel_rfl) rdf_nil)))
    (fun p : Int × Int × Unit => ⟨p.1, p.2.1⟩) (fun _ => rfl) (fun a h => ⟨h.1, h.2.1⟩)

theorem rd_bounds : Rd Try.prog 37 encBounds (fun b => (inKind .i64 b.t) ∧ (inKind .i64 b.l) ∧ (inKind .i64 b.s) ∧ (inKind .i64 b.r)) :=
  rd_to (rd_struct Try.underlying37 (by kernel_rfl) (rdf_cons (k := 1) rfl (rd_int Try.underlying3) (by kernel_rfl) (rdf_cons (k := 1) rfl (rd_int Try.underlying3) (by kernel_rfl) (rdf_cons (k := 1) rfl (rd_int Try.underlying3) (by kernel_rfl) (rdf_cons (k := 1) rfl (rd_int Try.underlying3) (by kernel_rfl) rdf_nil)))))
    (fun p : Int × Int × Int × Int × Unit => ⟨p.1, p.2.1, p.2.2.1, p.2.2.2.1⟩) (fun _ => rfl) (fun a h => ⟨h.1, h.2.1, h.2.2.1, h.2.2.2.1⟩)

theorem rd_slip : Rd Try.prog 41 encSlip (fun b => (inKind .i64 b.t) ∧ (inKind .i64 b.l) ∧ (inKind .i64 b.x) ∧ (inKind .i64 b.y)) :=
  rd_to (rd_struct Try.underlying41 (by kernel_rfl) (rdf_cons (k := 1) rfl (rd_int Try.underlying3) (by kernel_rfl) (rdf_cons (k := 1) rfl (rd_int Try.underlying3) (by kernel_rfl) (rdf_cons (k := 1) rfl (rd_int Try.underlying3) (by kernel_rfl) (rdf_cons (k := 1) rfl (rd_int Try.underlying3) (by kernel_rfl) rdf_nil)))))
    (fun p : Int × Int × Int × Int × Unit => ⟨p.1, p.2.1, p.2.2.1, p.2.2.2.1⟩) (fun _ => rfl) (fun a h => ⟨h.1, h.2.1, h.2.2.1, h.2.2.2.1⟩)

theorem rd_go : Rd Try.prog 39 encGo (fun b => (inKind .i64 b.c.t ∧ inKind .i64 b.c.f) ∧ (inKind .i64 b.b.t ∧ inKind .i64 b.b.l ∧ inKind .i64 b.b.s ∧ inKind .i64 b.b.r)) :=
  rd_to (rd_struct Try.underlying39 (by kernel_rfl) (rdf_cons (k := 2) rfl rd_cmd (by kernel_rfl) (rdf_cons (k := 4) rfl rd_bounds (by kernel_rfl) rdf_nil)))
    (fun p : Cmd × Bounds × Unit => ⟨p.1, p.2.1⟩) (fun _ => rfl) (fun a h => ⟨h.1, h.2.1⟩)

theorem rd_try : Rd Try.prog 43 encTry (fun b => (inKind .u8 b.k) ∧ (inKind .u8 b.h) ∧ (inKind .i64 b.e.t ∧ inKind .i64 b.e.l ∧ inKind .i64 b.e.x ∧ inKind .i64 b.e.y)) :=
  rd_to (rd_struct Try.underlying43 (by kernel_rfl) (rdf_cons (k := 1) rfl (rd_int Try.underlying5) (by kernel_rfl) (rdf_cons (k := 1) rfl (rd_int Try.underlying5) (by kernel_rfl) (rdf_cons (k := 4) rfl rd_slip (by kernel_rfl) rdf_nil))))
    (fun p : Int × Int × Slip × Unit => ⟨p.1, p.2.1, p.2.2.1⟩) (fun _ => rfl) (fun a h => ⟨h.1, h.2.1, h.2.2.1⟩)

theorem rd_lb : Rd Try.prog 58 encLb (fun b => (inKind .i64 b.b.t ∧ inKind .i64 b.b.l ∧ inKind .i64 b.b.s ∧ inKind .i64 b.b.r)) :=
  rd_to (rd_struct Try.underlying58 (by kernel_rfl) (rdf_cons (k := 4) rfl rd_bounds (by kernel_rfl) (rdf_cons (k := 1) rfl (rd_bool Try.underlying4) (by kernel_rfl) rdf_nil)))
    (fun p : Bounds × Bool × Unit => ⟨p.1, p.2.1⟩) (fun _ => rfl) (fun a h => h.1)

end Go.Proofs.Ytmpmggbcmioipaa
