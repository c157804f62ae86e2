/- What the package's variable holds when the law is called. -/
import Derived.Test.YtdnhojfkjgggbaaDoorRows
import Derived.LaidMore
import Derived.OpenShut
import Derived.ProofKit
import Derived.Test.YtdnhojfkjgggbaaDoorFr8
import Derived.Test.YtdnhojfkjgggbaaDoorAbG5
set_option linter.unusedSimpArgs false
set_option linter.unusedVariables false
set_option maxRecDepth 100000
namespace Go.Proofs.YtdnhojfkjgggbaaDoor
open Go.ChangeShapes Go.WideShapes Go.ChangeAt Go.RowKit Go.Ab Go.ChangeMaps

theorem doorG : Tryd.prog.globalNamed "coffers/crc.half" = some 0 := by kernel_rfl
theorem doorT : (Tryd.prog.globals[0]?).map (·.type) = some 89 := by kernel_rfl
def laidL : List (String × DataW Unit) := [("coffers/crc.half", Rows.laid_coffers_crc_half)]
theorem door_met (os : Os) (args : Array Value) : laidMetH Tryd.prog laidL ((World.doorLaid Tryd.prog 400 os).forCall (fun _ _ => 0) ⟨#[], args, []⟩).memory :=
  laidMetH_of_parts3 (fuel := 8) (laidMet_of_run' 8 (by kernel_rfl) (by kernel_rfl)) (by kernel_rfl) (by kernel_rfl)
theorem door_glob {W : World} (h : laidMetH Tryd.prog laidL W) : GlobOk W := by
  rw [MakeChecks.laidMetH_plain _ _ _ (by kernel_rfl)] at h
  obtain ⟨ps, ⟨g0, t0, cs0, f0, p0, q0, hg0, ht0, hv0, hd0, _, _⟩, _, _⟩ := h
  obtain rfl := Option.some.inj (doorG.symm.trans hg0)
  obtain rfl := Option.some.inj (doorT.symm.trans ht0)
  obtain ⟨xs, m1, rfl, hx1, hlen, hn3, hel⟩ := DataW.trod_array Tryd.underlying89 hd0
  have c3 : Tryd.prog.cellsOf 73 = 1 := by kernel_rfl
  simp only [Prod.mk.injEq] at hx1
  have hx2 : xs.map (·.1) = (match Rows.laid_coffers_crc_half (H := Unit) with | .agg l => l | _ => []) := by
    have := hx1.1
    rw [Rows.laid_coffers_crc_half] at this
    injection this with this
    rw [Rows.laid_coffers_crc_half]
    exact this.symm
  have hcell : ∀ i (hi : i < 16) (n : Int), (match Rows.laid_coffers_crc_half (H := Unit) with | .agg l => l | _ => [])[i]? = some (.lit (.int .u32 n)) → W.cell? ⟨0, i, none⟩ = some (.int .u32 n) := fun i hi n hn => by
    have hxi : i < xs.length := by omega
    have h1 := hel i hi
    rw [List.getElem?_eq_getElem hxi] at h1
    obtain ⟨k, e1, e2, _⟩ := DataW.trod_int Tryd.underlying73 h1
    have hk : k = n := by
      have h2 : (xs.map (·.1))[i]? = some (.lit (.int .u32 k)) := by
        rw [List.getElem?_map, List.getElem?_eq_getElem hxi, e2]; rfl
      rw [hx2, hn] at h2
      injection h2 with h2
      injection h2 with h2
      injection h2 with _ h2
      exact h2.symm
    subst hk
    rw [World.var?_cell hg0 hv0 i]
    rw [c3, Nat.mul_one] at e1
    have h3 : (cs0.toList.drop i)[0]? = some (.int .u32 k) := by
      have := congrArg (fun l : List Value => l[0]?) e1
      simp only [List.getElem?_take] at this
      simpa using this
    rw [List.getElem?_drop] at h3
    simpa using h3
  have hsz : 0 < W.heap.size := by
    have := hcell 0 (by omega) 0 rfl
    simp only [World.cell?] at this
    split at this
    · rename_i hh; exact (Array.getElem?_eq_some_iff.1 hh).1
    · cases this
  intro g vs hm
  rw [GT, List.mem_singleton] at hm
  injection hm with hg hv
  subst hg; subst hv
  refine ⟨hsz, fun i hi => ?_⟩
  have hi16 : i < 16 := hi
  have hcase : i = 0 ∨ i = 1 ∨ i = 2 ∨ i = 3 ∨ i = 4 ∨ i = 5 ∨ i = 6 ∨ i = 7 ∨ i = 8 ∨ i = 9 ∨ i = 10 ∨ i = 11 ∨ i = 12 ∨ i = 13 ∨ i = 14 ∨ i = 15 := by omega
  rcases hcase with rfl | rfl | rfl | rfl | rfl | rfl | rfl | rfl | rfl | rfl | rfl | rfl | rfl | rfl | rfl | rfl <;> exact hcell _ hi16 _ rfl
end Go.Proofs.YtdnhojfkjgggbaaDoor
