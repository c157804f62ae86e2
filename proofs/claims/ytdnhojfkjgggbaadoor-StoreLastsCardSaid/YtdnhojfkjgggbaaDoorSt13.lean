/- StoreLasts (the tied card) is proved: whatever the input, the law returns true and the arguments read behind the call as before. Conditions: the package variable coffers/crc.half starts as the program's text lays it (the card ties it). -/
import Derived.Test.YtdnhojfkjgggbaaDoorRows
import Derived.Test.YtdnhojfkjgggbaaDoorCards
import Derived.Test.YtdnhojfkjgggbaaDoorTie
import Derived.SevenTiedAt
import Derived.LaidMore
import Derived.ProofKit
import Derived.Test.YtdnhojfkjgggbaaDoorDr1
import Derived.Test.YtdnhojfkjgggbaaDoorSo1
import Derived.Test.YtdnhojfkjgggbaaDoorAbG5
import Derived.Test.YtdnhojfkjgggbaaDoorAbG8
import Derived.Test.YtdnhojfkjgggbaaDoorSt12
set_option linter.unusedSimpArgs false
set_option linter.unusedVariables false
namespace Go.Proofs.YtdnhojfkjgggbaaDoor.lawStoreLasts
open Go.ChangeShapes Go.WideShapes Go.ChangeAt Go.RowKit Go.Ab Go.ChangeMaps

theorem own : ownKnob Tryd.prog.godebug = none := by kernel_rfl
theorem laidOut : laidOutB Tryd.prog = true := by kernel_rfl
set_option maxRecDepth 100000 in
theorem lifted (os : Os) (started : os.Started) (H : Type) (enc : TypeId × Value → H) :
    ReturnsInHanded {} Tryd.checked os 8 .any (fun w args => (Rows.storeLastsSpec.pre enc Tryd.prog Tryd.f8 [] false w args ∧ laidMetH Tryd.prog laidL w) ∧ sizedMet enc Tryd.prog Tryd.f8 (OpenSpec.ofChange Rows.storeLastsSpec) false w args) (Rows.storeLastsSpec.post enc Tryd.prog Tryd.f8 false true false false) := by
  refine returnsInHanded_of_change_and (C := Tryd.checked) (X := fun w _ => laidMetH Tryd.prog laidL w) (fun _ _ _ hh h => h.of_heap hh) own started (by kernel_rfl) Tryd.func8
    (ChangeSpec.witness_shaped (enc := enc) (C := Tryd.checked) (os := os) (X := fun w _ => laidMetH Tryd.prog laidL w) false (World.doorLaid Tryd.prog 400 os) #[.slice none 0 0, .slice none 0 0, .int .i64 0, .int .i64 0] 8 rfl (World.shaped_of_RefB (by kernel_rfl) (by kernel_rfl)) (by kernel_rfl) (by kernel_rfl) (by kernel_rfl) (door_met os _)) ?_
  intro W base args ds gs before hval0 hW _ hz0 hL _
  have hval : ∀ (j : Nat) t v, Tryd.f8.params[j]? = some t → args[j]? = some v → Value.okWide Tryd.prog W .any base t v := hval0
  have hW' := hW
  obtain ⟨p, q, hA0, hV, rfl, hfz, hnd⟩ := hW
  have hA : DataW.TrodAll enc Tryd.prog W 0 (fun _ => true) true Tryd.f8.params.toList args.toList ds p := hA0
  have hz : (DataW.weightsEach Tryd.prog (Tryd.f8.params.toList ++ (ChangeSpec.plain Rows.storeLastsSpec).varTypes Tryd.prog) (ds ++ gs)).all (· ≤ reachBytes) = true := hz0
  rw [Tryd.params8] at hA hval hz
  obtain ⟨v0, v1, v2, v3, d0, d1, d2, d3, p0, p1, p2, p3, rfl, rfl, rfl, h0, h1, h2, h3⟩ := trodAll_four hA
  obtain ⟨x0, q0, r0⟩ := bytesL_openerW.arg ti24 (fun a cs => nofun) (hval 0 24 v0 rfl rfl) h0 (size_at hz (j := 0) rfl rfl)
  obtain ⟨x1, q1, r1⟩ := bytes_openerW.arg ti22 (fun a cs => nofun) (hval 1 22 v1 rfl rfl) h1 (size_at hz (j := 1) rfl rfl)
  obtain ⟨x2, q2, r2⟩ := int_openerW.arg ti3 (fun a cs => nofun) (hval 2 3 v2 rfl rfl) h2 (size_at hz (j := 2) rfl rfl)
  obtain ⟨x3, q3, r3⟩ := int_openerW.arg ti3 (fun a cs => nofun) (hval 3 3 v3 rfl rfl) h3 (size_at hz (j := 3) rfl rfl)
  refine Calls.mono' (calls_true (storelasts_call x0 x1 x2 x3 q0.1 q0.2 q1 q3.1 q3.2) rfl (rep4 r0 r1 r2 r3) (door_glob hL)) fun e W' ⟨he, hbel⟩ => ?_
  exact ⟨_, he, post_true (tb := 4) laidOut rfl (fun ds hl => by
      rw [Tryd.params8] at hl
      match ds, hl with
      | [d0, d1, d2, d3], _ => rfl) (by rw [Tryd.params8]; decide +kernel) rfl Tryd.underlying4 hW' hbel⟩
theorem row : Rows.StoreLastsSaid :=
  OpenClaim.holds_of_wide 8 Tryd.f8 rfl rfl rfl rfl rfl rfl rfl ⟨rfl, rfl, rfl, rfl, rfl⟩ rfl rfl rfl rfl rfl (by kernel_rfl) Tryd.func8 (by kernel_rfl)
    (of_decide_eq_true (by kernel_rfl)) (by unfold Func.isWrapper; first | (rw [if_pos (by decide +kernel)]; kernel_rfl) | (rw [if_neg (by decide +kernel)]; exact ⟨rfl, rfl⟩))
    (fun os started H enc _ => lifted os started H enc)
theorem holds : Rows.StoreLastsCardSaid :=
  Claim7.holds_tied_plain_at .later [] [.data] true (true, "c58982568f54a9f480115ba18d98649343a389df4f8457098e7e1d4c31a6784e") false
    row (fun _ h => by cases h) (by kernel_rfl) (fun _ h => by cases h) storeLasts_row_tie rfl ⟨rfl, rfl⟩ (by kernel_rfl) rfl
    (fun f fn hf hfn => by
      obtain rfl : f = 8 := Option.some.inj ((show Tryd.prog.funcNamed "coffers/cofferslaw09.StoreLasts" = some 8 by kernel_rfl).symm.trans hf) |>.symm
      obtain rfl : fn = Tryd.f8 := (Option.some.inj (Tryd.func8.symm.trans hfn)).symm
      exact ⟨by kernel_rfl, fun j t ht => by
        rw [Tryd.params8] at ht
        have hm : t ∈ [24, 22, 3, 3] := by simpa using Array.mem_of_getElem? ht
        have hall : ([24, 22, 3, 3].all fun u => !Tryd.prog.wantsStandIn u) = true := by kernel_rfl
        exact (show Tryd.prog.wantsStandIn t = false by simpa using List.all_eq_true.1 hall t hm)⟩)
    (by kernel_rfl)
end Go.Proofs.YtdnhojfkjgggbaaDoor.lawStoreLasts
