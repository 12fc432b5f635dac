import Derived.Test.YtbibplkhhdomnaaGreatW28
import Derived.Test.YtbibplkhhdomnaaGreatW41
set_option linter.all false
namespace Go.Proofs.YtbibplkhhdomnaaGreat
open Go Go.K Go.ChangeShapes Go.WideShapes Go.ChangeAt Go.RowKit
set_option maxRecDepth 100000
theorem len_pose (a : Cnd) : (enC a).length = Tryz.prog.cellsOf 43 := by
  have : Tryz.prog.cellsOf 43 = 3 := by kernel_rfl
  rw [this]; rfl
theorem pos_pose : 0 < Tryz.prog.cellsOf 43 := by
  have : Tryz.prog.cellsOf 43 = 3 := by kernel_rfl
  rw [this]; decide
theorem len_scan (a : List Bem) : (encS a).length = Tryz.prog.cellsOf 24 := by
  have : Tryz.prog.cellsOf 24 = 1 := by kernel_rfl
  rw [this]; rfl
theorem pos_scan : 0 < Tryz.prog.cellsOf 24 := by
  have : Tryz.prog.cellsOf 24 = 1 := by kernel_rfl
  rw [this]; decide
theorem rd_sea : Rd Tryz.prog 30 encSea (fun q => (q.s.length ≤ maxLen ∧ ∀ a ∈ q.s, bemOk a) ∧ prOk (q.cx, q.cy) ∧ prOk (q.fr, q.ct) ∧ inKind .i64 q.re) :=
  rd_to (rd_struct Tryz.underlying30 (by kernel_rfl) (rdf_cons (k := 1) rfl rd_scan (by kernel_rfl) (rdf_cons (k := 2) rfl rd_point (by kernel_rfl) (rdf_cons (k := 2) rfl rd_arc2 (by kernel_rfl) (rdf_cons (k := 1) rfl (rd_int Tryz.underlying3) (by kernel_rfl) rdf_nil)))))
    (fun p : List Bem × (Int × Int) × (Int × Int) × Int × Unit => ⟨p.1, p.2.1.1, p.2.1.2, p.2.2.1.1, p.2.2.1.2, p.2.2.2.1⟩) (fun _ => rfl) (fun a h => ⟨h.1, h.2.1, h.2.2.1, h.2.2.2.1⟩)
end Go.Proofs.YtbibplkhhdomnaaGreat
