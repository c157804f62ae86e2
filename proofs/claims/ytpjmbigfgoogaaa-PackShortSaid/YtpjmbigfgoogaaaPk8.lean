/- PackShort is proved: whatever the two numbers, the law returns true and the arguments read behind the call as before. Conditions: none. -/
import Derived.Test.YtpjmbigfgoogaaaRows
import Derived.Test.YtpjmbigfgoogaaaPk7
import Derived.Test.YtpjmbigfgoogaaaAb25
set_option linter.unusedSimpArgs false
set_option linter.unusedVariables false
namespace Go.Proofs.Ytpjmbigfgoogaaa
open Go.ChangeShapes Go.WideShapes Go.ChangeAt Go.RowKit Go.Ab

theorem own : ownKnob Try.prog.godebug = none := by kernel_rfl
theorem laidOut : laidOutB Try.prog = true := by kernel_rfl
set_option maxRecDepth 100000 in
theorem packShort_lifted (os : Os) (started : os.Started) (H : Type) (enc : TypeId × Value → H) :
    ReturnsInHanded {} Try.checked os 4 .any (Rows.packShortSpec.pre6 enc Try.prog Try.f4 Rows.packShortRow.domain false) (Rows.packShortSpec.post enc Try.prog Try.f4 false true false false) := by
  refine returnsInHanded_of_change (C := Try.checked) own started (by kernel_rfl) Try.func4
    (ChangeSpec.witness6 (enc := enc) (C := Try.checked) false ⟨#[], #[.int .u64 0, .int .u64 0], []⟩ 8 (by kernel_rfl) (by kernel_rfl) (by kernel_rfl) (by kernel_rfl)) ?_
  intro W base args ds gs before hval0 hW _ _
  have hval : ∀ (j : Nat) t v, Try.f4.params[j]? = some t → args[j]? = some v → Value.okWide Try.prog W .any base t v := hval0
  have hW' := hW
  obtain ⟨p, q, hA0, hV, rfl, hfz, hnd⟩ := hW
  have hA : DataW.TrodAll enc Try.prog W 0 (fun _ => true) true Try.f4.params.toList args.toList ds p := hA0
  rw [Try.params4] at hA hval
  obtain ⟨v0, v1, d0, d1, p0, p1, rfl, rfl, rfl, h0, h1⟩ := trodAll_two hA
  obtain ⟨n0, rfl, rfl, rfl, w0⟩ := open_int Try.underlying24 (hval 0 24 v0 rfl rfl) h0
  obtain ⟨n1, rfl, rfl, rfl, w1⟩ := open_int Try.underlying24 (hval 1 24 v1 rfl rfl) h1
  obtain ⟨a, rfl, ha⟩ := wf_u64 w0
  obtain ⟨b, rfl, hb⟩ := wf_u64 w1
  refine Calls.mono' (calls_true (packshort_call a b ha hb) rfl (rep2 rep_int rep_int)) fun e W' ⟨he, hbel⟩ => ?_
  exact ⟨_, he, post_true (tb := 4) laidOut rfl (fun ds hl => by
      rw [Try.params4] at hl
      match ds, hl with
      | [d, d'], _ => rfl) (by rw [Try.params4]; decide +kernel) rfl Try.underlying4 hW' hbel⟩
theorem packShort_holds : Rows.PackShortSaid :=
  OpenClaim.holds_of_wide 4 Try.f4 rfl rfl rfl rfl rfl rfl rfl ⟨rfl, rfl, rfl, rfl, rfl⟩ rfl rfl rfl rfl rfl (by kernel_rfl) Try.func4 (by kernel_rfl)
    (of_decide_eq_true (by kernel_rfl)) (by unfold Func.isWrapper; first | (rw [if_pos (by decide +kernel)]; kernel_rfl) | (rw [if_neg (by decide +kernel)]; exact ⟨rfl, rfl⟩))
    (fun os started H enc _ => packShort_lifted os started H enc)
end Go.Proofs.Ytpjmbigfgoogaaa
