/- BookBack is proved: whatever the input, the law returns true and the .. -/
import Derived.Test.YtkikaagieknpdaaGreatRows
import Derived.Test.YtkikaagieknpdaaGreatTBk41
import Derived.Test.YtkikaagieknpdaaGreatTBk41
import Derived.Test.YtkikaagieknpdaaGreatTBk41
import Derived.Test.YtkikaagieknpdaaGreatAbG4
set_option linter.unusedSimpArgs false
set_option linter.unusedVariables false
namespace Go.Proofs.YtkikaagieknpdaaGreat.lawBookBack
open Go.ChangeShapes Go.WideShapes Go.ChangeAt Go.RowKit Go.Ab Go.ChangeMaps
theorem own : ownKnob Tryz.prog.godebug = none := by kernel_rfl
theorem laidOut : laidOutB Tryz.prog = true := by kernel_rfl
set_option maxRecDepth 100000 in
theorem lifted (os : Os) (started : os.Started) (H : Type) (enc : TypeId × Value → H) :
 ReturnsInHanded {} Tryz.checked os 4 .any (Rows.bookBackSpec.pre6 enc Tryz.prog Tryz.f4 Rows.bookBackRow.domain false) (Rows.bookBackSpec.post enc Tryz.prog Tryz.f4 false true false false) := by
 refine returnsInHanded_of_change_sized (C := Tryz.checked) own started (by kernel_rfl) Tryz.func4
  (ChangeSpec.witness6 (enc := enc) (C := Tryz.checked) false ⟨#[], #[.agg #[.int .i64 0, .int .i64 0, .int .i64 0, .int .i64 0, .int .i64 0, .int .i64 0], .int .i64 0, .agg #[.int .i64 0, .slice none 0 0, .slice none 0 0, .slice none 0 0, .int .i64 0, .slice none 0 0, .int .i64 0, .int .i64 0, .slice none 0 0, .slice none 0 0, .slice none 0 0, .bool false]], []⟩ 8 (by kernel_rfl) (by kernel_rfl) (by kernel_rfl) (by kernel_rfl)) ?_
 intro W base args ds gs before hval0 hW _ hz0 _
 have hval : ∀ (j : Nat) t v, Tryz.f4.params[j]? = some t → args[j]? = some v → Value.okWide Tryz.prog W .any base t v := hval0
 have hW' := hW
 obtain ⟨p, q, hA0, hV, rfl, hfz, hnd⟩ := hW
 have hA : DataW.TrodAll enc Tryz.prog W 0 (fun _ => true) true Tryz.f4.params.toList args.toList ds p := hA0
 have hz : (DataW.weightsEach Tryz.prog (Tryz.f4.params.toList ++ (ChangeSpec.plain Rows.bookBackSpec).varTypes Tryz.prog) (ds ++ gs)).all (· ≤ reachBytes) = true := hz0
 rw [Tryz.params4] at hA hval hz
 obtain ⟨v0, v1, v2, d0, d1, d2, p0, p1, p2, rfl, rfl, rfl, h0, h1, h2⟩ := trodAll_three hA
 obtain ⟨x0, q0, r0⟩ := conf_opener.arg ti23 (fun a => ⟨_, rfl⟩) (hval 0 23 v0 rfl rfl) h0 (size_at hz (j := 0) rfl rfl)
 obtain ⟨x1, q1, r1⟩ := int_opener.arg ti3 (fun a cs => nofun) (hval 1 3 v1 rfl rfl) h1 (size_at hz (j := 1) rfl rfl)
 obtain ⟨x2, q2, r2⟩ := book_opener.arg ti37 (fun a => ⟨_, rfl⟩) (hval 2 37 v2 rfl rfl) h2 (size_at hz (j := 2) rfl rfl)
 refine Calls.mono' (calls_true (bback_call x0 x1 x2 q2) rfl (rep3 r0 r1 r2)) fun e W' ⟨he, hbel⟩ => ?_
 exact ⟨_, he, post_true (tb := 4) laidOut rfl (fun ds hl => by
  rw [Tryz.params4] at hl
  match ds, hl with
  | [d0, d1, d2], _ => rfl) (by rw [Tryz.params4]; decide +kernel) rfl Tryz.underlying4 hW' hbel⟩
theorem holds : Rows.BookBackSaid :=
 OpenClaim.holds_of_wide 4 Tryz.f4 rfl rfl rfl rfl rfl rfl rfl ⟨rfl, rfl, rfl, rfl, rfl⟩ rfl rfl rfl rfl rfl (by kernel_rfl) Tryz.func4 (by kernel_rfl)
  (of_decide_eq_true (by kernel_rfl)) (by unfold Func.isWrapper; first | (rw [if_pos (by decide +kernel)]; kernel_rfl) | (rw [if_neg (by decide +kernel)]; exact ⟨rfl, rfl⟩))
  (fun os started H enc _ => lifted os started H enc)
end Go.Proofs.YtkikaagieknpdaaGreat.lawBookBack
