/-
  The law MonitorSplits returns true for every input, and each argument reads behind the call as it read before. Conditions: none beyond the row's own.
-/
import Derived.Test.YtnkiejbkfafciaaRows
import Derived.Test.YtnkiejbkfafciaaK15
import Derived.Test.YtnkiejbkfafciaaC0
import Derived.Test.YtnkiejbkfafciaaL9
set_option linter.all false
namespace Go.Proofs.Ytnkiejbkfafciaa
open Go Go.K Go.ChangeShapes Go.WideShapes Go.ChangeAt Go.RowKit
set_option maxRecDepth 100000
namespace MonitorSplits
theorem own : ownKnob Try.prog.godebug = none := by kernel_rfl
theorem lifted (os : Os) (started : os.Started) (H : Type) (enc : TypeId × Value → H) :
    ReturnsInHanded {} Try.checked os 9 .any (Rows.monitorSplitsSpec.pre6 enc Try.prog Try.f9 Rows.monitorSplitsRow.domain false) (Rows.monitorSplitsSpec.post enc Try.prog Try.f9 false true false false) := by
  refine returnsInHanded_of_change (C := Try.checked) own started (by kernel_rfl) Try.func9
    (ChangeSpec.witness6 (enc := enc) (C := Try.checked) false ⟨#[], #[.int .i64 0, .slice none 0 0, .int .i64 0], []⟩ 8 (by kernel_rfl) (by kernel_rfl) (by kernel_rfl) (by kernel_rfl)) ?_
  intro W base args ds gs before hval0 hW hcnd _
  have hval : ∀ (j : Nat) t v, Try.f9.params[j]? = some t → args[j]? = some v → Value.okWide Try.prog W .any base t v := hval0
  have hW' := hW
  obtain ⟨p, q, hA0, hV, rfl, hfz, hnd⟩ := hW
  have hA : DataW.TrodAll enc Try.prog W 0 (fun _ => true) true [3, 22, 3] args.toList ds p := hA0
  obtain ⟨v0, vs0, d0, ds0, p0, q0, hargs, rfl, rfl, h0, r0⟩ := trodAll_cons hA
  obtain ⟨v1, vs1, d1, ds1, p1, q1, rfl, rfl, rfl, h1, r1⟩ := trodAll_cons r0
  obtain ⟨v2, vs2, d2, ds2, p2, q2, rfl, rfl, rfl, h2, r2⟩ := trodAll_cons r1
  obtain ⟨rfl, rfl, rfl⟩ := trodAll_nil r2
  obtain rfl : args = #[v0, v1, v2] := by cases args; simp_all
  obtain ⟨rfl, rfl⟩ := trodVars_none hV
  obtain ⟨x0, w0, i0⟩ := arg_int Try.underlying3 (hval 0 3 v0 rfl rfl) h0
  obtain ⟨x1, w1, i1⟩ := arg_slice Try.underlying22 rd_sig len_sig pos_sig (hval 1 22 v1 rfl rfl) h1
  obtain ⟨x2, w2, i2⟩ := arg_int Try.underlying3 (hval 2 3 v2 rfl rfl) h2
  refine (calls_true (splits_pure x0 x1 x2) (all_cons i0 (all_cons i1 (all_cons i2 all_nil)))).mono fun e W' he => ?_
  obtain ⟨rfl, hb⟩ := he
  exact ⟨_, rfl, post_law (by kernel_rfl) (by kernel_rfl) rfl hW' hb rfl Try.underlying4 rfl⟩
theorem over : Rows.monitorSplitsRow.holds Try.pinned (OpenSpec.ofChange Rows.monitorSplitsSpec) :=
  OpenClaim.holds_of_wide 9 Try.f9 rfl rfl rfl rfl rfl rfl rfl ⟨rfl, rfl, rfl, rfl, rfl⟩ rfl rfl rfl rfl rfl (by kernel_rfl) Try.func9 (by kernel_rfl)
    (of_decide_eq_true (by kernel_rfl)) (by unfold Func.isWrapper; first | (rw [if_pos (by decide +kernel)]; kernel_rfl) | (rw [if_neg (by decide +kernel)]; exact ⟨rfl, rfl⟩))
    (fun os started H enc _ => lifted os started H enc)
theorem proved : Rows.MonitorSplitsSaid := over
#print axioms proved
end MonitorSplits
end Go.Proofs.Ytnkiejbkfafciaa
