/-
  The law PyramidMaxes returns true for every input, and each argument reads behind the call as it read before. Conditions: none beyond the row's own.
-/
import Derived.Test.YtbpchamlhblddaaRows
import Derived.Test.YtbpchamlhblddaaK16
import Derived.Test.YtbpchamlhblddaaC0
import Derived.Test.YtbpchamlhblddaaCI
import Derived.Test.YtbpchamlhblddaaPZ
set_option linter.all false
namespace Go.Proofs.Ytbpchamlhblddaa
open Go Go.K Go.ChangeShapes Go.WideShapes Go.ChangeAt Go.RowKit
set_option maxRecDepth 100000
set_option maxHeartbeats 4000000
namespace PyramidMaxes
theorem own : ownKnob Try.prog.godebug = none := by kernel_rfl
theorem lifted (os : Os) (started : os.Started) (H : Type) (enc : TypeId × Value → H) :
    ReturnsInHanded {} Try.checked os 7 .any (Rows.pyramidMaxesSpec.pre6 enc Try.prog Try.f7 Rows.pyramidMaxesRow.domain false) (Rows.pyramidMaxesSpec.post enc Try.prog Try.f7 false true false false) := by
  refine returnsInHanded_of_change (C := Try.checked) own started (by kernel_rfl) Try.func7
    (ChangeSpec.witness6 (enc := enc) (C := Try.checked) false ⟨#[], #[.agg #[.int .i64 0, .int .i64 0, .int .i64 0, .int .i64 0, .slice none 0 0], .int .i64 0, .agg #[.int .i64 0, .int .i64 0]], []⟩ 8 (by kernel_rfl) (by kernel_rfl) (by kernel_rfl) (by kernel_rfl)) ?_
  intro W base args ds gs before hval0 hW hcnd _
  have hval : ∀ (j : Nat) t v, Try.f7.params[j]? = some t → args[j]? = some v → Value.okWide Try.prog W .any base t v := hval0
  have hW' := hW
  obtain ⟨p, q, hA0, hV, rfl, hfz, hnd⟩ := hW
  have hA : DataW.TrodAll enc Try.prog W 0 (fun _ => true) true [24, 3, 37] args.toList ds p := hA0
  obtain ⟨v0, vs0, d0, ds0, p0, q0, hargs, rfl, rfl, h0, r0⟩ := trodAll_cons hA
  obtain ⟨v1, vs1, d1, ds1, p1, q1, rfl, rfl, rfl, h1, r1⟩ := trodAll_cons r0
  obtain ⟨v2, vs2, d2, ds2, p2, q2, rfl, rfl, rfl, h2, r2⟩ := trodAll_cons r1
  obtain ⟨rfl, rfl, rfl⟩ := trodAll_nil r2
  obtain rfl : args = #[v0, v1, v2] := by cases args; simp_all
  obtain ⟨rfl, rfl⟩ := trodVars_none hV
  obtain ⟨x0, w0, i0⟩ := arg_struct Try.underlying24 rd_field (hval 0 24 v0 rfl rfl) h0
  obtain ⟨x1, w1, i1⟩ := arg_int Try.underlying3 (hval 1 3 v1 rfl rfl) h1
  obtain ⟨x2, w2, i2⟩ := arg_struct Try.underlying37 rd_cell (hval 2 37 v2 rfl rfl) h2
  refine (calls_true (maxes_pure x0 x1 x2.1 x2.2 (byt w0) (inI_of w2.1) (inI_of w2.2)) (all_cons i0 (all_cons i1 (all_cons i2 all_nil)))).mono fun e W' he => ?_
  obtain ⟨rfl, hb⟩ := he
  exact ⟨_, rfl, post_law (by kernel_rfl) (by kernel_rfl) rfl hW' hb rfl Try.underlying4 rfl⟩
theorem k10 : (Rows.pyramidMaxesRow.inPlace == Try.pinned.checked.prog.inPlace 7) = true := by kernel_rfl
theorem k11 : (Rows.pyramidMaxesRow.unfollowed == Try.pinned.checked.prog.unfollowed 7) = true := by kernel_rfl
theorem k12 : (Rows.pyramidMaxesRow.recurses == Try.pinned.checked.prog.recurses 7) = true := by kernel_rfl
theorem k13 : (Rows.pyramidMaxesRow.named == Try.pinned.checked.prog.varsNamed 7) = true := by kernel_rfl
theorem joined : joinedFacts Try.pinned.checked.prog 7 Try.f7 Rows.pyramidMaxesSpec Rows.pyramidMaxesRow = true := by
  unfold joinedFacts
  simp only [Bool.and_eq_true]
  exact ⟨⟨⟨⟨⟨⟨⟨⟨⟨⟨⟨⟨⟨⟨⟨⟨⟨⟨⟨⟨⟨⟨⟨⟨⟨⟨⟨⟨⟨⟨⟨(by kernel_rfl), laid0⟩, maps0⟩, (by kernel_rfl)⟩, (by kernel_rfl)⟩, (by kernel_rfl)⟩, stop0⟩, (by kernel_rfl)⟩, knob0⟩, k10⟩, k11⟩, k12⟩, k13⟩, (by kernel_rfl)⟩, (by kernel_rfl)⟩, (by kernel_rfl)⟩, (by kernel_rfl)⟩, (by kernel_rfl)⟩, (by kernel_rfl)⟩, (by kernel_rfl)⟩, (by kernel_rfl)⟩, (by kernel_rfl)⟩, (by rw [keys0]; rfl)⟩, (by kernel_rfl)⟩, heard0⟩, mayE⟩, (by rw [lif0]; rfl)⟩, (by rw [mak0]; rfl)⟩, (by kernel_rfl)⟩, (by kernel_rfl)⟩, (by kernel_rfl)⟩, (by kernel_rfl)⟩
theorem over : Rows.pyramidMaxesRow.holds Try.pinned (OpenSpec.ofChange Rows.pyramidMaxesSpec) :=
  OpenClaim.holds_of_wide 7 Try.f7 rfl rfl rfl rfl rfl rfl rfl ⟨rfl, rfl, rfl, rfl, rfl⟩ rfl rfl rfl rfl rfl (by kernel_rfl) Try.func7 joined
    (of_decide_eq_true (by kernel_rfl)) (by unfold Func.isWrapper; first | (rw [if_pos (by decide +kernel)]; kernel_rfl) | (rw [if_neg (by decide +kernel)]; exact ⟨rfl, rfl⟩))
    (fun os started H enc _ => lifted os started H enc)
theorem proved : Rows.PyramidMaxesSaid := over
#print axioms proved
end PyramidMaxes
end Go.Proofs.Ytbpchamlhblddaa
