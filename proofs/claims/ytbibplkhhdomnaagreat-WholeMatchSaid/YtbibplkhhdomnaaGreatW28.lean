import Derived.Test.YtbibplkhhdomnaaGreatRows
import Derived.Test.YtbibplkhhdomnaaGreatW11
import Derived.Test.YtbibplkhhdomnaaGreatW23
set_option linter.all false
namespace Go.Proofs.YtbibplkhhdomnaaGreat
open Go Go.K Go.ChangeShapes Go.WideShapes Go.ChangeAt Go.RowKit
set_option maxRecDepth 100000
set_option linter.unusedVariables false
def fldOk (f : Fld) : Prop := inKind .i64 f.x ∧ inKind .i64 f.y ∧ inKind .i64 f.w ∧ inKind .i64 f.h ∧ (f.v.length ≤ maxLen ∧ ∀ a ∈ f.v, inKind .u8 a)
def bemOk (b : Bem) : Prop := inKind .i64 b.m ∧ inKind .i64 b.r
theorem rd_beam : Rd Tryz.prog 54 enBm bemOk :=
  rd_to (rd_struct Tryz.underlying54 (by kernel_rfl) (rdf_cons (k := 1) rfl (rd_int Tryz.underlying3) (by kernel_rfl) (rdf_cons (k := 1) rfl (rd_int Tryz.underlying3) (by kernel_rfl) rdf_nil)))
    (fun p : Int × Int × Unit => ⟨p.1, p.2.1⟩) (fun _ => rfl) (fun a h => ⟨h.1, h.2.1⟩)
theorem len_beam (a : Bem) : (enBm a).length = Tryz.prog.cellsOf 54 := by
  have : Tryz.prog.cellsOf 54 = 2 := by kernel_rfl
  rw [this]; rfl
theorem pos_beam : 0 < Tryz.prog.cellsOf 54 := by
  have : Tryz.prog.cellsOf 54 = 2 := by kernel_rfl
  rw [this]; decide
theorem rd_scan : Rd Tryz.prog 24 (fun l : List Bem => [.sl (l.map enBm)]) (fun l => l.length ≤ maxLen ∧ ∀ a ∈ l, bemOk a) :=
  rd_slice Tryz.underlying24 rd_beam len_beam pos_beam
def prOk (b : Int × Int) : Prop := inKind .i64 b.1 ∧ inKind .i64 b.2
theorem rd_point : Rd Tryz.prog 26 (fun p : Int × Int => [.int .i64 p.1, .int .i64 p.2]) prOk :=
  rd_to (rd_struct Tryz.underlying26 (by kernel_rfl) (rdf_cons (k := 1) rfl (rd_int Tryz.underlying3) (by kernel_rfl) (rdf_cons (k := 1) rfl (rd_int Tryz.underlying3) (by kernel_rfl) rdf_nil)))
    (fun p : Int × Int × Unit => (p.1, p.2.1)) (fun _ => rfl) (fun a h => ⟨h.1, h.2.1⟩)
theorem rd_arc2 : Rd Tryz.prog 28 (fun p : Int × Int => [.int .i64 p.1, .int .i64 p.2]) prOk :=
  rd_to (rd_struct Tryz.underlying28 (by kernel_rfl) (rdf_cons (k := 1) rfl (rd_int Tryz.underlying3) (by kernel_rfl) (rdf_cons (k := 1) rfl (rd_int Tryz.underlying3) (by kernel_rfl) rdf_nil)))
    (fun p : Int × Int × Unit => (p.1, p.2.1)) (fun _ => rfl) (fun a h => ⟨h.1, h.2.1⟩)
def proOk (p : Prob) : Prop := fldOk p.f ∧ (p.s.length ≤ maxLen ∧ ∀ a ∈ p.s, bemOk a) ∧ prOk (p.cx, p.cy) ∧ prOk (p.fr, p.ct) ∧ inKind .i64 p.re
def cndOk (c : Cnd) : Prop := inKind .i64 c.k ∧ inKind .i64 c.y ∧ inKind .i64 c.x
def blcOk (b : Blc) : Prop := inKind .i64 b.k ∧ inKind .i64 b.y ∧ inKind .i64 b.x ∧ inKind .i64 b.l
theorem rd_pose3 : Rd Tryz.prog 43 enC cndOk :=
  rd_to (rd_struct Tryz.underlying43 (by kernel_rfl) (rdf_cons (k := 1) rfl (rd_int Tryz.underlying3) (by kernel_rfl) (rdf_cons (k := 1) rfl (rd_int Tryz.underlying3) (by kernel_rfl) (rdf_cons (k := 1) rfl (rd_int Tryz.underlying3) (by kernel_rfl) rdf_nil))))
    (fun p : Int × Int × Int × Unit => ⟨p.1, p.2.1, p.2.2.1⟩) (fun _ => rfl) (fun a h => ⟨h.1, h.2.1, h.2.2.1⟩)
def matOk (m : Mat) : Prop := cndOk m.b ∧ cndOk ⟨m.px, m.py, m.ph⟩ ∧ inKind .i64 m.sc ∧ (m.l.length ≤ maxLen ∧ ∀ a ∈ m.l, blcOk a)
end Go.Proofs.YtbibplkhhdomnaaGreat
