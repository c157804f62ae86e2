/- TapeDo is proved: whatever the input, the law returns true and the arguments read behind the call as before. Conditions: none. -/
import Derived.Test.YtpjmbigfgoogaacRows
import Derived.Test.YtpjmbigfgoogaacTp10
import Derived.Test.YtpjmbigfgoogaacAb27
set_option linter.unusedSimpArgs false
set_option linter.unusedVariables false
namespace Go.Proofs.Ytpjmbigfgoogaac.lawTapeDo
open Go.ChangeShapes Go.WideShapes Go.ChangeAt Go.RowKit Go.Ab Go.ChangeMaps

theorem own : ownKnob Try.prog.godebug = none := by kernel_rfl
theorem laidOut : laidOutB Try.prog = true := by kernel_rfl
set_option maxRecDepth 100000 in
theorem lifted (os : Os) (started : os.Started) (H : Type) (enc : TypeId × Value → H) :
    ReturnsInHanded {} Try.checked os 5 .any (Rows.tapeDoSpec.pre6 enc Try.prog Try.f5 Rows.tapeDoRow.domain false) (Rows.tapeDoSpec.post enc Try.prog Try.f5 false true false false) := by
  refine returnsInHanded_of_change (C := Try.checked) own started (by kernel_rfl) Try.func5
    (ChangeSpec.witness6 (enc := enc) (C := Try.checked) false ⟨#[], #[.agg #[.slice none 0 0, .slice none 0 0, .slice none 0 0, .slice none 0 0], .bool false, .slice none 0 0, .int .i64 0], []⟩ 8 (by kernel_rfl) (by kernel_rfl) (by kernel_rfl) (by kernel_rfl)) ?_
  intro W base args ds gs before hval0 hW _ _
  have hval : ∀ (j : Nat) t v, Try.f5.params[j]? = some t → args[j]? = some v → Value.okWide Try.prog W .any base t v := hval0
  have hW' := hW
  obtain ⟨p, q, hA0, hV, rfl, hfz, hnd⟩ := hW
  have hA : DataW.TrodAll enc Try.prog W 0 (fun _ => true) true Try.f5.params.toList args.toList ds p := hA0
  rw [Try.params5] at hA hval
  obtain ⟨v0, v1, v2, v3, d0, d1, d2, d3, p0, p1, p2, p3, rfl, rfl, rfl, h0, h1, h2, h3⟩ := trodAll_four hA
  obtain ⟨x0a, r0⟩ := open_tape (hval 0 27 v0 rfl rfl) h0
  obtain ⟨x1a, r1⟩ := open_bool (hval 1 4 v1 rfl rfl) h1
  obtain ⟨l2, r2⟩ := open_bytes Try.underlying22 Try.underlying5 (by kernel_rfl) (hval 2 22 v2 rfl rfl) h2
  obtain ⟨n3, rfl, rfl, rfl, w3⟩ := open_int Try.underlying3 (hval 3 3 v3 rfl rfl) h3
  refine Calls.mono' (calls_true (tapedo_call x0a x1a l2 n3 (wf_i64 w3).1 (wf_i64 w3).2) rfl (rep4 r0 r1 r2 rep_int)) fun e W' ⟨he, hbel⟩ => ?_
  exact ⟨_, he, post_true (tb := 4) laidOut rfl (fun ds hl => by
      rw [Try.params5] at hl
      match ds, hl with
      | [d0, d1, d2, d3], _ => rfl) (by rw [Try.params5]; decide +kernel) rfl Try.underlying4 hW' hbel⟩
theorem holds : Rows.TapeDoSaid :=
  OpenClaim.holds_of_wide 5 Try.f5 rfl rfl rfl rfl rfl rfl rfl ⟨rfl, rfl, rfl, rfl, rfl⟩ rfl rfl rfl rfl rfl (by kernel_rfl) Try.func5 (by kernel_rfl)
    (of_decide_eq_true (by kernel_rfl)) (by unfold Func.isWrapper; first | (rw [if_pos (by decide +kernel)]; kernel_rfl) | (rw [if_neg (by decide +kernel)]; exact ⟨rfl, rfl⟩))
    (fun os started H enc _ => lifted os started H enc)
end Go.Proofs.Ytpjmbigfgoogaac.lawTapeDo
