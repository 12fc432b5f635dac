/-
  The readers of the laws' arguments: what an argument's reading says of its value.
-/
import Derived.Test.YtokhaefcnbiadaaRows
import Derived.Test.YtokhaefcnbiadaaK16
import Derived.Test.YtokhaefcnbiadaaMJ
set_option linter.all false
namespace Go.Proofs.Ytokhaefcnbiadaa
open Go Go.K Go.ChangeShapes Go.WideShapes Go.ChangeAt Go.RowKit
set_option maxRecDepth 100000
set_option linter.unusedVariables false
theorem len_byte (a : Int) : (enB a).length = Try.prog.cellsOf 5 := by
  have : Try.prog.cellsOf 5 = 1 := by kernel_rfl
  rw [this]; rfl
theorem pos_byte : 0 < Try.prog.cellsOf 5 := by
  have : Try.prog.cellsOf 5 = 1 := by kernel_rfl
  rw [this]; decide
theorem rd_bytes : Rd Try.prog 22 (fun l : List Int => [.sl (l.map enB)]) (fun l => l.length ≤ maxLen ∧ ∀ a ∈ l, inKind .u8 a) :=
  rd_slice Try.underlying22 (rd_int Try.underlying5) len_byte pos_byte
def fldOk (f : Fld) : Prop := inKind .i64 f.x ∧ inKind .i64 f.y ∧ inKind .i64 f.w ∧ inKind .i64 f.h ∧ (f.v.length ≤ maxLen ∧ ∀ a ∈ f.v, inKind .u8 a)
theorem rd_field : Rd Try.prog 24 encF fldOk :=
  rd_to (rd_struct Try.underlying24 (by kernel_rfl) (rdf_cons (k := 1) rfl (rd_int Try.underlying3) (by kernel_rfl) (rdf_cons (k := 1) rfl (rd_int Try.underlying3) (by kernel_rfl) (rdf_cons (k := 1) rfl (rd_int Try.underlying3) (by kernel_rfl) (rdf_cons (k := 1) rfl (rd_int Try.underlying3) (by kernel_rfl) (rdf_cons (k := 1) rfl rd_bytes (by kernel_rfl) rdf_nil))))))
    (fun p : Int × Int × Int × Int × List Int × Unit => ⟨p.1, p.2.1, p.2.2.1, p.2.2.2.1, p.2.2.2.2.1⟩) (fun _ => rfl) (fun a h => ⟨h.1, h.2.1, h.2.2.1, h.2.2.2.1, h.2.2.2.2.1⟩)
def bemOk (b : Bem) : Prop := inKind .i64 b.m ∧ inKind .i64 b.r
theorem rd_beam : Rd Try.prog 81 enBm bemOk :=
  rd_to (rd_struct Try.underlying81 (by kernel_rfl) (rdf_cons (k := 1) rfl (rd_int Try.underlying3) (by kernel_rfl) (rdf_cons (k := 1) rfl (rd_int Try.underlying3) (by kernel_rfl) rdf_nil)))
    (fun p : Int × Int × Unit => ⟨p.1, p.2.1⟩) (fun _ => rfl) (fun a h => ⟨h.1, h.2.1⟩)
theorem len_beam (a : Bem) : (enBm a).length = Try.prog.cellsOf 81 := by
  have : Try.prog.cellsOf 81 = 2 := by kernel_rfl
  rw [this]; rfl
theorem pos_beam : 0 < Try.prog.cellsOf 81 := by
  have : Try.prog.cellsOf 81 = 2 := by kernel_rfl
  rw [this]; decide
theorem rd_scan : Rd Try.prog 25 (fun l : List Bem => [.sl (l.map enBm)]) (fun l => l.length ≤ maxLen ∧ ∀ a ∈ l, bemOk a) :=
  rd_slice Try.underlying25 rd_beam len_beam pos_beam
def prOk (b : Int × Int) : Prop := inKind .i64 b.1 ∧ inKind .i64 b.2
theorem rd_point : Rd Try.prog 27 (fun p : Int × Int => [.int .i64 p.1, .int .i64 p.2]) prOk :=
  rd_to (rd_struct Try.underlying27 (by kernel_rfl) (rdf_cons (k := 1) rfl (rd_int Try.underlying3) (by kernel_rfl) (rdf_cons (k := 1) rfl (rd_int Try.underlying3) (by kernel_rfl) rdf_nil)))
    (fun p : Int × Int × Unit => (p.1, p.2.1)) (fun _ => rfl) (fun a h => ⟨h.1, h.2.1⟩)
theorem rd_arc2 : Rd Try.prog 29 (fun p : Int × Int => [.int .i64 p.1, .int .i64 p.2]) prOk :=
  rd_to (rd_struct Try.underlying29 (by kernel_rfl) (rdf_cons (k := 1) rfl (rd_int Try.underlying3) (by kernel_rfl) (rdf_cons (k := 1) rfl (rd_int Try.underlying3) (by kernel_rfl) rdf_nil)))
    (fun p : Int × Int × Unit => (p.1, p.2.1)) (fun _ => rfl) (fun a h => ⟨h.1, h.2.1⟩)
def proOk (p : Prob) : Prop := fldOk p.f ∧ (p.s.length ≤ maxLen ∧ ∀ a ∈ p.s, bemOk a) ∧ prOk (p.cx, p.cy) ∧ prOk (p.fr, p.ct) ∧ inKind .i64 p.re
theorem rd_prob : Rd Try.prog 31 encP proOk :=
  rd_to (rd_struct Try.underlying31 (by kernel_rfl) (rdf_cons (k := 5) rfl rd_field (by kernel_rfl) (rdf_cons (k := 1) rfl rd_scan (by kernel_rfl) (rdf_cons (k := 2) rfl rd_point (by kernel_rfl) (rdf_cons (k := 2) rfl rd_arc2 (by kernel_rfl) (rdf_cons (k := 1) rfl (rd_int Try.underlying3) (by kernel_rfl) rdf_nil))))))
    (fun p : Fld × List Bem × (Int × Int) × (Int × Int) × Int × Unit => ⟨p.1, p.2.1, p.2.2.1.1, p.2.2.1.2, p.2.2.2.1.1, p.2.2.2.1.2, p.2.2.2.2.1⟩) (fun _ => rfl) (fun a h => ⟨h.1, h.2.1, h.2.2.1, h.2.2.2.1, h.2.2.2.2.1⟩)
def cndOk (c : Cnd) : Prop := inKind .i64 c.k ∧ inKind .i64 c.y ∧ inKind .i64 c.x
theorem rd_cnd : Rd Try.prog 33 enC cndOk :=
  rd_to (rd_struct Try.underlying33 (by kernel_rfl) (rdf_cons (k := 1) rfl (rd_int Try.underlying3) (by kernel_rfl) (rdf_cons (k := 1) rfl (rd_int Try.underlying3) (by kernel_rfl) (rdf_cons (k := 1) rfl (rd_int Try.underlying3) (by kernel_rfl) rdf_nil))))
    (fun p : Int × Int × Int × Unit => ⟨p.1, p.2.1, p.2.2.1⟩) (fun _ => rfl) (fun a h => ⟨h.1, h.2.1, h.2.2.1⟩)
def blcOk (b : Blc) : Prop := inKind .i64 b.k ∧ inKind .i64 b.y ∧ inKind .i64 b.x ∧ inKind .i64 b.l
theorem rd_blc : Rd Try.prog 56 enBl blcOk :=
  rd_to (rd_struct Try.underlying56 (by kernel_rfl) (rdf_cons (k := 1) rfl (rd_int Try.underlying3) (by kernel_rfl) (rdf_cons (k := 1) rfl (rd_int Try.underlying3) (by kernel_rfl) (rdf_cons (k := 1) rfl (rd_int Try.underlying3) (by kernel_rfl) (rdf_cons (k := 1) rfl (rd_int Try.underlying3) (by kernel_rfl) rdf_nil)))))
    (fun p : Int × Int × Int × Int × Unit => ⟨p.1, p.2.1, p.2.2.1, p.2.2.2.1⟩) (fun _ => rfl) (fun a h => ⟨h.1, h.2.1, h.2.2.1, h.2.2.2.1⟩)
theorem len_blc (a : Blc) : (enBl a).length = Try.prog.cellsOf 56 := by
  have : Try.prog.cellsOf 56 = 4 := by kernel_rfl
  rw [this]; rfl
theorem pos_blc : 0 < Try.prog.cellsOf 56 := by
  have : Try.prog.cellsOf 56 = 4 := by kernel_rfl
  rw [this]; decide
theorem rd_blcs : Rd Try.prog 34 (fun l : List Blc => [.sl (l.map enBl)]) (fun l => l.length ≤ maxLen ∧ ∀ a ∈ l, blcOk a) :=
  rd_slice Try.underlying34 rd_blc len_blc pos_blc
theorem rd_pose3 : Rd Try.prog 39 enC cndOk :=
  rd_to (rd_struct Try.underlying39 (by kernel_rfl) (rdf_cons (k := 1) rfl (rd_int Try.underlying3) (by kernel_rfl) (rdf_cons (k := 1) rfl (rd_int Try.underlying3) (by kernel_rfl) (rdf_cons (k := 1) rfl (rd_int Try.underlying3) (by kernel_rfl) rdf_nil))))
    (fun p : Int × Int × Int × Unit => ⟨p.1, p.2.1, p.2.2.1⟩) (fun _ => rfl) (fun a h => ⟨h.1, h.2.1, h.2.2.1⟩)
def matOk (m : Mat) : Prop := cndOk m.b ∧ cndOk ⟨m.px, m.py, m.ph⟩ ∧ inKind .i64 m.sc ∧ (m.l.length ≤ maxLen ∧ ∀ a ∈ m.l, blcOk a)
theorem rd_mat : Rd Try.prog 41 encM matOk :=
  rd_to (rd_struct Try.underlying41 (by kernel_rfl) (rdf_cons (k := 3) rfl rd_cnd (by kernel_rfl) (rdf_cons (k := 3) rfl rd_pose3 (by kernel_rfl) (rdf_cons (k := 1) rfl (rd_int Try.underlying3) (by kernel_rfl) (rdf_cons (k := 1) rfl rd_blcs (by kernel_rfl) rdf_nil)))))
    (fun p : Cnd × Cnd × Int × List Blc × Unit => ⟨p.1, p.2.1.k, p.2.1.y, p.2.1.x, p.2.2.1, p.2.2.2.1⟩) (fun _ => rfl) (fun a h => ⟨h.1, h.2.1, h.2.2.1, h.2.2.2.1⟩)
theorem byt {f : Fld} (h : fldOk f) : bytesL f.v := fun b hb => by
  have := h.2.2.2.2.2 b hb
  have e1 : IntKind.u8.min = 0 := rfl
  have e2 : IntKind.u8.max = 255 := rfl
  unfold inKind at this
  omega
theorem inI_of {x : Int} (h : inKind .i64 x) : -9223372036854775808 ≤ x ∧ x ≤ 9223372036854775807 := by
  have e1 : IntKind.i64.min = -9223372036854775808 := rfl
  have e2 : IntKind.i64.max = 9223372036854775807 := rfl
  unfold inKind at h
  omega
theorem u16_of {x : Int} (h : inKind .u16 x) : 0 ≤ x ∧ x ≤ 65535 := by
  have e1 : IntKind.u16.min = 0 := rfl
  have e2 : IntKind.u16.max = 65535 := rfl
  unfold inKind at h
  omega
theorem u8_of {x : Int} (h : inKind .u8 x) : 0 ≤ x ∧ x ≤ 255 := by
  have e1 : IntKind.u8.min = 0 := rfl
  have e2 : IntKind.u8.max = 255 := rfl
  unfold inKind at h
  omega
theorem i8_of {x : Int} (h : inKind .i8 x) : -128 ≤ x ∧ x ≤ 127 := by
  have e1 : IntKind.i8.min = -128 := rfl
  have e2 : IntKind.i8.max = 127 := rfl
  unfold inKind at h
  omega
end Go.Proofs.Ytokhaefcnbiadaa
