import Derived.Test.YtokhaefcnbiadaaC0
import Derived.Test.YtokhaefcnbiadaaNT
set_option linter.all false
namespace Go.Proofs.Ytokhaefcnbiadaa
open Go Go.K Go.ChangeShapes Go.WideShapes Go.ChangeAt Go.RowKit
set_option maxRecDepth 100000
theorem rd_clm : Rd Try.prog 36 encClm (fun c => cndOk c.b ∧ inKind .i64 c.s ∧ (c.l.length ≤ maxLen ∧ ∀ a ∈ c.l, blcOk a)) :=
  rd_to (rd_struct Try.underlying36 (by kernel_rfl) (rdf_cons (k := 3) rfl rd_cnd (by kernel_rfl) (rdf_cons (k := 1) rfl (rd_int Try.underlying3) (by kernel_rfl) (rdf_cons (k := 1) rfl (rd_bool Try.underlying4) (by kernel_rfl) (rdf_cons (k := 1) rfl rd_blcs (by kernel_rfl) rdf_nil)))))
    (fun p : Cnd × Int × Bool × List Blc × Unit => ⟨p.1, p.2.1, p.2.2.1, p.2.2.2.1⟩) (fun _ => rfl) (fun a h => ⟨h.1, h.2.1, h.2.2.2.1⟩)
end Go.Proofs.Ytokhaefcnbiadaa
