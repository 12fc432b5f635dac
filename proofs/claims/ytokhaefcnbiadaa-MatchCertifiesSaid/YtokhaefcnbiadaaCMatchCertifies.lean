/-
  The law MatchCertifies returns true for every input, and each argument reads behind the call as it read before. Conditions: none beyond the row's own.
-/
import Derived.Test.YtokhaefcnbiadaaRows
import Derived.Test.YtokhaefcnbiadaaK16
import Derived.Test.YtokhaefcnbiadaaC0
import Derived.Test.YtokhaefcnbiadaaCI
import Derived.Test.YtokhaefcnbiadaaNQ
set_option linter.all false
namespace Go.Proofs.Ytokhaefcnbiadaa
open Go Go.K Go.ChangeShapes Go.WideShapes Go.ChangeAt Go.RowKit
set_option maxRecDepth 100000
set_option maxHeartbeats 4000000
namespace MatchCertifies
theorem own : ownKnob Try.prog.godebug = none := by kernel_rfl
theorem lifted (os : Os) (started : os.Started) (H : Type) (enc : TypeId × Value → H) :
    ReturnsInHanded {} Try.checked os 14 .any (Rows.matchCertifiesSpec.pre6 enc Try.prog Try.f14 Rows.matchCertifiesRow.domain false) (Rows.matchCertifiesSpec.post enc Try.prog Try.f14 false true false false) := by
  refine returnsInHanded_of_change (C := Try.checked) own started (by kernel_rfl) Try.func14
    (ChangeSpec.witness6 (enc := enc) (C := Try.checked) false ⟨#[], #[.agg #[.int .i64 0, .int .i64 0, .int .i64 0, .int .i64 0, .slice none 0 0, .slice none 0 0, .int .i64 0, .int .i64 0, .int .i64 0, .int .i64 0, .int .i64 0]], []⟩ 8 (by kernel_rfl) (by kernel_rfl) (by kernel_rfl) (by kernel_rfl)) ?_
  intro W base args ds gs before hval0 hW hcnd _
  have hval : ∀ (j : Nat) t v, Try.f14.params[j]? = some t → args[j]? = some v → Value.okWide Try.prog W .any base t v := hval0
  have hW' := hW
  obtain ⟨p, q, hA0, hV, rfl, hfz, hnd⟩ := hW
  have hA : DataW.TrodAll enc Try.prog W 0 (fun _ => true) true [31] args.toList ds p := hA0
  obtain ⟨v0, vs0, d0, ds0, p0, q0, hargs, rfl, rfl, h0, r0⟩ := trodAll_cons hA
  obtain ⟨rfl, rfl, rfl⟩ := trodAll_nil r0
  obtain rfl : args = #[v0] := by cases args; simp_all
  obtain ⟨rfl, rfl⟩ := trodVars_none hV
  obtain ⟨x0, w0, i0⟩ := arg_struct Try.underlying31 rd_prob (hval 0 31 v0 rfl rfl) h0
  refine (calls_true (mcert_law x0 (byt w0.1)) (all_cons i0 all_nil)).mono fun e W' he => ?_
  obtain ⟨rfl, hb⟩ := he
  exact ⟨_, rfl, post_law (by kernel_rfl) (by kernel_rfl) rfl hW' hb rfl Try.underlying4 rfl⟩
theorem k10 : (Rows.matchCertifiesRow.inPlace == Try.pinned.checked.prog.inPlace 14) = true := by kernel_rfl
theorem k11 : (Rows.matchCertifiesRow.unfollowed == Try.pinned.checked.prog.unfollowed 14) = true := by kernel_rfl
theorem k12 : (Rows.matchCertifiesRow.recurses == Try.pinned.checked.prog.recurses 14) = true := by kernel_rfl
theorem k13 : (Rows.matchCertifiesRow.named == Try.pinned.checked.prog.varsNamed 14) = true := by kernel_rfl
theorem joined : joinedFacts Try.pinned.checked.prog 14 Try.f14 Rows.matchCertifiesSpec Rows.matchCertifiesRow = true := by
  unfold joinedFacts
  simp only [Bool.and_eq_true]
  exact ⟨⟨⟨⟨⟨⟨⟨⟨⟨⟨⟨⟨⟨⟨⟨⟨⟨⟨⟨⟨⟨⟨⟨⟨⟨⟨⟨⟨⟨⟨⟨(by kernel_rfl), laid0⟩, maps0⟩, (by kernel_rfl)⟩, (by kernel_rfl)⟩, (by kernel_rfl)⟩, stop0⟩, (by kernel_rfl)⟩, knob0⟩, k10⟩, k11⟩, k12⟩, k13⟩, (by kernel_rfl)⟩, (by kernel_rfl)⟩, (by kernel_rfl)⟩, (by kernel_rfl)⟩, (by kernel_rfl)⟩, (by kernel_rfl)⟩, (by kernel_rfl)⟩, (by kernel_rfl)⟩, (by kernel_rfl)⟩, (by rw [keys0]; rfl)⟩, (by kernel_rfl)⟩, heard0⟩, mayE⟩, (by rw [lif0]; rfl)⟩, (by rw [mak0]; rfl)⟩, (by kernel_rfl)⟩, (by kernel_rfl)⟩, (by kernel_rfl)⟩, (by kernel_rfl)⟩
theorem over : Rows.matchCertifiesRow.holds Try.pinned (OpenSpec.ofChange Rows.matchCertifiesSpec) :=
  OpenClaim.holds_of_wide 14 Try.f14 rfl rfl rfl rfl rfl rfl rfl ⟨rfl, rfl, rfl, rfl, rfl⟩ rfl rfl rfl rfl rfl (by kernel_rfl) Try.func14 joined
    (of_decide_eq_true (by kernel_rfl)) (by unfold Func.isWrapper; first | (rw [if_pos (by decide +kernel)]; kernel_rfl) | (rw [if_neg (by decide +kernel)]; exact ⟨rfl, rfl⟩))
    (fun os started H enc _ => lifted os started H enc)
theorem proved : Rows.MatchCertifiesSaid := over
#print axioms proved
end MatchCertifies
end Go.Proofs.Ytokhaefcnbiadaa
