/- MailApart is proved: whatever the input, the law returns true and the arguments read behind the call as before. Conditions: none. -/
import Derived.Test.YtcikejikpnjilaaRows
import Derived.Test.YtcikejikpnjilaaTPn5
import Derived.Test.YtcikejikpnjilaaTPn5
import Derived.Test.YtcikejikpnjilaaPn6
import Derived.Test.YtcikejikpnjilaaAbG5
set_option linter.unusedSimpArgs false
set_option linter.unusedVariables false
namespace Go.Proofs.Ytcikejikpnjilaa.lawMailApart
open Go.ChangeShapes Go.WideShapes Go.ChangeAt Go.RowKit Go.Ab Go.ChangeMaps

theorem own : ownKnob Try.prog.godebug = none := by kernel_rfl
theorem laidOut : laidOutB Try.prog = true := by kernel_rfl
set_option maxRecDepth 100000 in
theorem lifted (os : Os) (started : os.Started) (H : Type) (enc : TypeId × Value → H) :
    ReturnsInHanded {} Try.checked os 5 .any (Rows.mailApartSpec.pre6 enc Try.prog Try.f5 Rows.mailApartRow.domain false) (Rows.mailApartSpec.post enc Try.prog Try.f5 false true false false) := by
  refine returnsInHanded_of_change_sized (C := Try.checked) own started (by kernel_rfl) Try.func5
    (ChangeSpec.witness6 (enc := enc) (C := Try.checked) false ⟨#[], #[.agg #[.int .i64 0, .int .i64 0, .int .i64 0, .int .i64 0, .int .i64 0, .int .i64 0], .agg #[.int .i64 0, .int .i64 0, .int .i64 0, .slice none 0 0, .int .i64 0, .int .i64 0, .int .i64 0, .int .i64 0, .int .i64 0, .int .i64 0, .slice none 0 0], .agg #[.int .i64 0, .int .i64 0, .int .i64 0, .slice none 0 0, .int .i64 0, .int .i64 0, .int .i64 0, .int .i64 0, .int .i64 0, .int .i64 0, .slice none 0 0], .int .u16 0], []⟩ 8 (by kernel_rfl) (by kernel_rfl) (by kernel_rfl) (by kernel_rfl)) ?_
  intro W base args ds gs before hval0 hW _ hz0 _
  have hval : ∀ (j : Nat) t v, Try.f5.params[j]? = some t → args[j]? = some v → Value.okWide Try.prog W .any base t v := hval0
  have hW' := hW
  obtain ⟨p, q, hA0, hV, rfl, hfz, hnd⟩ := hW
  have hA : DataW.TrodAll enc Try.prog W 0 (fun _ => true) true Try.f5.params.toList args.toList ds p := hA0
  have hz : (DataW.weightsEach Try.prog (Try.f5.params.toList ++ (ChangeSpec.plain Rows.mailApartSpec).varTypes Try.prog) (ds ++ gs)).all (· ≤ reachBytes) = true := hz0
  rw [Try.params5] at hA hval hz
  obtain ⟨v0, v1, v2, v3, d0, d1, d2, d3, p0, p1, p2, p3, rfl, rfl, rfl, h0, h1, h2, h3⟩ := trodAll_four hA
  obtain ⟨x0, q0, r0⟩ := conf_opener.arg ti23 (fun a => ⟨_, rfl⟩) (hval 0 23 v0 rfl rfl) h0 (size_at hz (j := 0) rfl rfl)
  obtain ⟨x1, q1, r1⟩ := mail_opener.arg ti35 (fun a => ⟨_, rfl⟩) (hval 1 35 v1 rfl rfl) h1 (size_at hz (j := 1) rfl rfl)
  obtain ⟨x2, q2, r2⟩ := mail_opener.arg ti35 (fun a => ⟨_, rfl⟩) (hval 2 35 v2 rfl rfl) h2 (size_at hz (j := 2) rfl rfl)
  obtain ⟨x3, q3, r3⟩ := u16_opener.arg ti43 (fun a cs => nofun) (hval 3 43 v3 rfl rfl) h3 (size_at hz (j := 3) rfl rfl)
  refine Calls.mono' (calls_true (apart16_call x0 x1 x2 x3 q3 q1.1 q2.1 q1.2 q2.2) rfl (rep4 r0 r1 r2 r3)) fun e W' ⟨he, hbel⟩ => ?_
  exact ⟨_, he, post_true (tb := 4) laidOut rfl (fun ds hl => by
      rw [Try.params5] at hl
      match ds, hl with
      | [d0, d1, d2, d3], _ => rfl) (by rw [Try.params5]; decide +kernel) rfl Try.underlying4 hW' hbel⟩
theorem holds : Rows.MailApartSaid :=
  OpenClaim.holds_of_wide 5 Try.f5 rfl rfl rfl rfl rfl rfl rfl ⟨rfl, rfl, rfl, rfl, rfl⟩ rfl rfl rfl rfl rfl (by kernel_rfl) Try.func5 (by kernel_rfl)
    (of_decide_eq_true (by kernel_rfl)) (by unfold Func.isWrapper; first | (rw [if_pos (by decide +kernel)]; kernel_rfl) | (rw [if_neg (by decide +kernel)]; exact ⟨rfl, rfl⟩))
    (fun os started H enc _ => lifted os started H enc)
end Go.Proofs.Ytcikejikpnjilaa.lawMailApart
