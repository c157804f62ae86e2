/- BookNew is proved: whatever the input, the law returns true and the .. -/
import Derived.Test.YtkikaagieknpdaaRows
import Derived.Test.YtkikaagieknpdaaTBk39
import Derived.Test.YtkikaagieknpdaaTBk39
import Derived.Test.YtkikaagieknpdaaTBk39
import Derived.Test.YtkikaagieknpdaaAbG4
set_option linter.unusedSimpArgs false
set_option linter.unusedVariables false
namespace Go.Proofs.Ytkikaagieknpdaa.lawBookNew
open Go.ChangeShapes Go.WideShapes Go.ChangeAt Go.RowKit Go.Ab Go.ChangeMaps
theorem own : ownKnob Try.prog.godebug = none := by kernel_rfl
theorem laidOut : laidOutB Try.prog = true := by kernel_rfl
set_option maxRecDepth 100000 in
theorem lifted (os : Os) (started : os.Started) (H : Type) (enc : TypeId × Value → H) :
 ReturnsInHanded {} Try.checked os 3 .any (Rows.bookNewSpec.pre6 enc Try.prog Try.f3 Rows.bookNewRow.domain false) (Rows.bookNewSpec.post enc Try.prog Try.f3 false true false false) := by
 refine returnsInHanded_of_change_sized (C := Try.checked) own started (by kernel_rfl) Try.func3
  (ChangeSpec.witness6 (enc := enc) (C := Try.checked) false ⟨#[], #[.agg #[.int .i64 0, .int .i64 0, .int .i64 0, .int .i64 0, .int .i64 0, .int .i64 0], .int .i64 0], []⟩ 8 (by kernel_rfl) (by kernel_rfl) (by kernel_rfl) (by kernel_rfl)) ?_
 intro W base args ds gs before hval0 hW _ hz0 _
 have hval : ∀ (j : Nat) t v, Try.f3.params[j]? = some t → args[j]? = some v → Value.okWide Try.prog W .any base t v := hval0
 have hW' := hW
 obtain ⟨p, q, hA0, hV, rfl, hfz, hnd⟩ := hW
 have hA : DataW.TrodAll enc Try.prog W 0 (fun _ => true) true Try.f3.params.toList args.toList ds p := hA0
 have hz : (DataW.weightsEach Try.prog (Try.f3.params.toList ++ (ChangeSpec.plain Rows.bookNewSpec).varTypes Try.prog) (ds ++ gs)).all (· ≤ reachBytes) = true := hz0
 rw [Try.params3] at hA hval hz
 obtain ⟨v0, v1, d0, d1, p0, p1, rfl, rfl, rfl, h0, h1⟩ := trodAll_two hA
 obtain ⟨x0, q0, r0⟩ := conf_opener.arg ti23 (fun a => ⟨_, rfl⟩) (hval 0 23 v0 rfl rfl) h0 (size_at hz (j := 0) rfl rfl)
 obtain ⟨x1, q1, r1⟩ := int_opener.arg ti3 (fun a cs => nofun) (hval 1 3 v1 rfl rfl) h1 (size_at hz (j := 1) rfl rfl)
 refine Calls.mono' (calls_true (bnew17_call x0 x1) rfl (rep2 r0 r1)) fun e W' ⟨he, hbel⟩ => ?_
 exact ⟨_, he, post_true (tb := 4) laidOut rfl (fun ds hl => by
  rw [Try.params3] at hl
  match ds, hl with
  | [d0, d1], _ => rfl) (by rw [Try.params3]; decide +kernel) rfl Try.underlying4 hW' hbel⟩
theorem holds : Rows.BookNewSaid :=
 OpenClaim.holds_of_wide 3 Try.f3 rfl rfl rfl rfl rfl rfl rfl ⟨rfl, rfl, rfl, rfl, rfl⟩ rfl rfl rfl rfl rfl (by kernel_rfl) Try.func3 (by kernel_rfl)
  (of_decide_eq_true (by kernel_rfl)) (by unfold Func.isWrapper; first | (rw [if_pos (by decide +kernel)]; kernel_rfl) | (rw [if_neg (by decide +kernel)]; exact ⟨rfl, rfl⟩))
  (fun os started H enc _ => lifted os started H enc)
end Go.Proofs.Ytkikaagieknpdaa.lawBookNew
