/- BookApart is proved: whatever the input, the law returns true and the .. -/
import Derived.Test.YtkikaagieknpdaaGreatRows
import Derived.Test.YtkikaagieknpdaaGreatBk42
import Derived.Test.YtkikaagieknpdaaGreatTBk41
import Derived.Test.YtkikaagieknpdaaGreatTBk41
import Derived.Test.YtkikaagieknpdaaGreatAbG4
set_option linter.unusedSimpArgs false
set_option linter.unusedVariables false
namespace Go.Proofs.YtkikaagieknpdaaGreat.lawBookApart
open Go.ChangeShapes Go.WideShapes Go.ChangeAt Go.RowKit Go.Ab Go.ChangeMaps
theorem own : ownKnob Tryz.prog.godebug = none := by kernel_rfl
theorem laidOut : laidOutB Tryz.prog = true := by kernel_rfl
set_option maxRecDepth 100000 in
theorem lifted (os : Os) (started : os.Started) (H : Type) (enc : TypeId × Value → H) :
 ReturnsInHanded {} Tryz.checked os 5 .any (Rows.bookApartSpec.pre6 enc Tryz.prog Tryz.f5 Rows.bookApartRow.domain false) (Rows.bookApartSpec.post enc Tryz.prog Tryz.f5 false true false false) := by
 refine returnsInHanded_of_change_sized (C := Tryz.checked) own started (by kernel_rfl) Tryz.func5
  (ChangeSpec.witness6 (enc := enc) (C := Tryz.checked) false ⟨#[], #[.agg #[.int .i64 0, .int .i64 0, .int .i64 0, .int .i64 0, .int .i64 0, .int .i64 0], .int .i64 0, .agg #[.int .i64 0, .slice none 0 0, .slice none 0 0, .slice none 0 0, .int .i64 0, .slice none 0 0, .int .i64 0, .int .i64 0, .slice none 0 0, .slice none 0 0, .slice none 0 0, .bool false], .agg #[.int .i64 0, .slice none 0 0, .slice none 0 0, .slice none 0 0, .int .i64 0, .slice none 0 0, .int .i64 0, .int .i64 0, .slice none 0 0, .slice none 0 0, .slice none 0 0, .bool false], .int .u16 0], []⟩ 8 (by kernel_rfl) (by kernel_rfl) (by kernel_rfl) (by kernel_rfl)) ?_
 intro W base args ds gs before hval0 hW _ hz0 _
 have hval : ∀ (j : Nat) t v, Tryz.f5.params[j]? = some t → args[j]? = some v → Value.okWide Tryz.prog W .any base t v := hval0
 have hW' := hW
 obtain ⟨p, q, hA0, hV, rfl, hfz, hnd⟩ := hW
 have hA : DataW.TrodAll enc Tryz.prog W 0 (fun _ => true) true Tryz.f5.params.toList args.toList ds p := hA0
 have hz : (DataW.weightsEach Tryz.prog (Tryz.f5.params.toList ++ (ChangeSpec.plain Rows.bookApartSpec).varTypes Tryz.prog) (ds ++ gs)).all (· ≤ reachBytes) = true := hz0
 rw [Tryz.params5] at hA hval hz
 obtain ⟨v0, v1, v2, v3, v4, d0, d1, d2, d3, d4, p0, p1, p2, p3, p4, rfl, rfl, rfl, h0, h1, h2, h3, h4⟩ := trodAll_five hA
 obtain ⟨x0, q0, r0⟩ := conf_opener.arg ti23 (fun a => ⟨_, rfl⟩) (hval 0 23 v0 rfl rfl) h0 (size_at hz (j := 0) rfl rfl)
 obtain ⟨x1, q1, r1⟩ := int_opener.arg ti3 (fun a cs => nofun) (hval 1 3 v1 rfl rfl) h1 (size_at hz (j := 1) rfl rfl)
 obtain ⟨x2, q2, r2⟩ := book_opener.arg ti37 (fun a => ⟨_, rfl⟩) (hval 2 37 v2 rfl rfl) h2 (size_at hz (j := 2) rfl rfl)
 obtain ⟨x3, q3, r3⟩ := book_opener.arg ti37 (fun a => ⟨_, rfl⟩) (hval 3 37 v3 rfl rfl) h3 (size_at hz (j := 3) rfl rfl)
 obtain ⟨x4, q4, r4⟩ := u16_opener.arg ti47 (fun a cs => nofun) (hval 4 47 v4 rfl rfl) h4 (size_at hz (j := 4) rfl rfl)
 refine Calls.mono' (calls_true (bapart_call x0 x1 x2 x3 x4 q4 q2 q3) rfl (rep5 r0 r1 r2 r3 r4)) fun e W' ⟨he, hbel⟩ => ?_
 exact ⟨_, he, post_true (tb := 4) laidOut rfl (fun ds hl => by
  rw [Tryz.params5] at hl
  match ds, hl with
  | [d0, d1, d2, d3, d4], _ => rfl) (by rw [Tryz.params5]; decide +kernel) rfl Tryz.underlying4 hW' hbel⟩
theorem holds : Rows.BookApartSaid :=
 OpenClaim.holds_of_wide 5 Tryz.f5 rfl rfl rfl rfl rfl rfl rfl ⟨rfl, rfl, rfl, rfl, rfl⟩ rfl rfl rfl rfl rfl (by kernel_rfl) Tryz.func5 (by kernel_rfl)
  (of_decide_eq_true (by kernel_rfl)) (by unfold Func.isWrapper; first | (rw [if_pos (by decide +kernel)]; kernel_rfl) | (rw [if_neg (by decide +kernel)]; exact ⟨rfl, rfl⟩))
  (fun os started H enc _ => lifted os started H enc)
end Go.Proofs.YtkikaagieknpdaaGreat.lawBookApart
