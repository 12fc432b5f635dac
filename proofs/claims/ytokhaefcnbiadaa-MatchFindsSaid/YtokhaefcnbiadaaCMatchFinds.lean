/-
  The law MatchFinds returns true for every input, and each argument reads behind the call as it read before. Conditions: none beyond the row's own.
-/
import Derived.Test.YtokhaefcnbiadaaRows
import Derived.Test.YtokhaefcnbiadaaK16
import Derived.Test.YtokhaefcnbiadaaC0
import Derived.Test.YtokhaefcnbiadaaCI
import Derived.Test.YtokhaefcnbiadaaNP
set_option linter.all false
namespace Go.Proofs.Ytokhaefcnbiadaa
open Go Go.K Go.ChangeShapes Go.WideShapes Go.ChangeAt Go.RowKit
set_option maxRecDepth 100000
set_option maxHeartbeats 4000000
namespace MatchFinds
theorem own : ownKnob Try.prog.godebug = none := by kernel_rfl
theorem lifted (os : Os) (started : os.Started) (H : Type) (enc : TypeId × Value → H) :
    ReturnsInHanded {} Try.checked os 12 .any (Rows.matchFindsSpec.pre6 enc Try.prog Try.f12 Rows.matchFindsRow.domain false) (Rows.matchFindsSpec.post enc Try.prog Try.f12 false true false false) := by
  refine returnsInHanded_of_change (C := Try.checked) own started (by kernel_rfl) Try.func12
    (ChangeSpec.witness6 (enc := enc) (C := Try.checked) false ⟨#[], #[.agg #[.int .i64 0, .int .i64 0, .int .i64 0, .int .i64 0, .slice none 0 0, .slice none 0 0, .int .i64 0, .int .i64 0, .int .i64 0, .int .i64 0, .int .i64 0]], []⟩ 8 (by kernel_rfl) (by kernel_rfl) (by kernel_rfl) (by kernel_rfl)) ?_
  intro W base args ds gs before hval0 hW hcnd _
  have hval : ∀ (j : Nat) t v, Try.f12.params[j]? = some t → args[j]? = some v → Value.okWide Try.prog W .any base t v := hval0
  have hW' := hW
  obtain ⟨p, q, hA0, hV, rfl, hfz, hnd⟩ := hW
  have hA : DataW.TrodAll enc Try.prog W 0 (fun _ => true) true [31] args.toList ds p := hA0
  obtain ⟨v0, vs0, d0, ds0, p0, q0, hargs, rfl, rfl, h0, r0⟩ := trodAll_cons hA
  obtain ⟨rfl, rfl, rfl⟩ := trodAll_nil r0
  obtain rfl : args = #[v0] := by cases args; simp_all
  obtain ⟨rfl, rfl⟩ := trodVars_none hV
  obtain ⟨x0, w0, i0⟩ := arg_struct Try.underlying31 rd_prob (hval 0 31 v0 rfl rfl) h0
  refine (calls_true (mfinds_law x0 (byt w0.1)) (all_cons i0 all_nil)).mono fun e W' he => ?_
  obtain ⟨rfl, hb⟩ := he
  exact ⟨_, rfl, post_law (by kernel_rfl) (by kernel_rfl) rfl hW' hb rfl Try.underlying4 rfl⟩
theorem k10 : (Rows.matchFindsRow.inPlace == Try.pinned.checked.prog.inPlace 12) = true := by kernel_rfl
theorem k11 : (Rows.matchFindsRow.unfollowed == Try.pinned.checked.prog.unfollowed 12) = true := by kernel_rfl
theorem k12 : (Rows.matchFindsRow.recurses == Try.pinned.checked.prog.recurses 12) = true := by kernel_rfl
theorem k13 : (Rows.matchFindsRow.named == Try.pinned.checked.prog.varsNamed 12) = true := by kernel_rfl
theorem joined : joinedFacts Try.pinned.checked.prog 12 Try.f12 Rows.matchFindsSpec Rows.matchFindsRow = true := by
  unfold joinedFacts
  simp only [Bool.and_eq_true]
  exact ⟨⟨⟨⟨⟨⟨⟨⟨⟨⟨⟨⟨⟨⟨⟨⟨⟨⟨⟨⟨⟨⟨⟨⟨⟨⟨⟨⟨⟨⟨⟨(by kernel_rfl), laid0⟩, maps0⟩, (by kernel_rfl)⟩, (by kernel_rfl)⟩, (by kernel_rfl)⟩, stop0⟩, (by kernel_rfl)⟩, knob0⟩, k10⟩, k11⟩, k12⟩, k13⟩, (by kernel_rfl)⟩, (by kernel_rfl)⟩, (by kernel_rfl)⟩, (by kernel_rfl)⟩, (by kernel_rfl)⟩, (by kernel_rfl)⟩, (by kernel_rfl)⟩, (by kernel_rfl)⟩, (by kernel_rfl)⟩, (by rw [keys0]; rfl)⟩, (by kernel_rfl)⟩, heard0⟩, mayE⟩, (by rw [lif0]; rfl)⟩, (by rw [mak0]; rfl)⟩, (by kernel_rfl)⟩, (by kernel_rfl)⟩, (by kernel_rfl)⟩, (by kernel_rfl)⟩
theorem over : Rows.matchFindsRow.holds Try.pinned (OpenSpec.ofChange Rows.matchFindsSpec) :=
  OpenClaim.holds_of_wide 12 Try.f12 rfl rfl rfl rfl rfl rfl rfl ⟨rfl, rfl, rfl, rfl, rfl⟩ rfl rfl rfl rfl rfl (by kernel_rfl) Try.func12 joined
    (of_decide_eq_true (by kernel_rfl)) (by unfold Func.isWrapper; first | (rw [if_pos (by decide +kernel)]; kernel_rfl) | (rw [if_neg (by decide +kernel)]; exact ⟨rfl, rfl⟩))
    (fun os started H enc _ => lifted os started H enc)
theorem proved : Rows.MatchFindsSaid := over
#print axioms proved
end MatchFinds
end Go.Proofs.Ytokhaefcnbiadaa
