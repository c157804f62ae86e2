/-
  No cell of these rows narrows 'for every input' (looked for: loops, veiled, ifaces, maps, wideKeys, modest, calm, conditions, laid).
  DERIVED. THE GIVEN ROWS OF THIS SEAT. 6 by the template 'for every input the law returns true; each argument reads behind the call as it read before'; 0 by the template 'total and deterministic' (their statements: YtblnakmeaokemabTotals.lean).
  GIVEN WITH THE SEED: the statements are not yours to turn. If you find one false, say at which input.
  Laid BY PROGRAM, IN A SANDBOX (cutbox-rows.mjs): the forced cells as the released guide's own fill.sh prints them over the translation f2d0d392829dc41c… (all of the seat's roots in one cut). By AI agents, Wed Nov 11 2026. No macro, syntax, notation, axiom, sorry.
-/
import Derived.Test.YtblnakmeaokemabChecked
import GoSem.Claim
import GoSem.ClaimJoined
import GoSem.ClaimMapViews
import Derived.JoinedTies
import Derived.KernelRfl
namespace Go.Proofs.Ytblnakmeaokemab
/- THE CELL 'sum', in the pinned program and in every row, IS THE sha256 OF THE DUMP (.gsa) THAT YtblnakmeaokemabProg.lean LOADS. Nothing in Lean hashes anything: it is a label: what it is worth is what the hold of that sum in a sandbox is worth. -/
noncomputable def Try.pinned : Pinned := { name := "ytblnakmeaokemab", sum := "f2d0d392829dc41cd60d083c1f0602c33d9c559d924e87df14ebc71a841ed419", checked := Try.checked }
namespace Rows
def none {H : Type} : Left H := { results := [], args := [] }

/-- 'cofferslaw05.RightsTells': WHATEVER THE INPUT: true; the input reads as it did. -/
def rightsTellsSpec : ChangeSpec := { name := "rightsTells", fn := fun _ => fun
  | [d1, d2, d3] => { results := [.lit (.bool true)], args := [d1, d2, d3] }
  | _ => none }
def rightsTellsRow : OpenClaim := { program := "ytblnakmeaokemab", sum := "f2d0d392829dc41cd60d083c1f0602c33d9c559d924e87df14ebc71a841ed419", func := "coffers/cofferslaw05.RightsTells", spec := "rightsTells", unfollowed := true, recurses := true, apart := false }
def RightsTellsSaid : Prop := rightsTellsRow.holds Try.pinned (OpenSpec.ofChange rightsTellsSpec)

/-- ITS FALSE NEIGHBOUR: 'it returns false'. Refute it at one input. -/
def rightsTellsWrong : ChangeSpec := { name := "rightsTells", fn := fun _ => fun
  | [d1, d2, d3] => { results := [.lit (.bool false)], args := [d1, d2, d3] }
  | _ => none }
def RightsTellsWrongFalsely : Prop := rightsTellsRow.holds Try.pinned (OpenSpec.ofChange rightsTellsWrong)

/-- 'cofferslaw05.RightsShares': WHATEVER THE INPUT: true; the input reads as it did. -/
def rightsSharesSpec : ChangeSpec := { name := "rightsShares", fn := fun _ => fun
  | [d] => { results := [.lit (.bool true)], args := [d] }
  | _ => none }
def rightsSharesRow : OpenClaim := { program := "ytblnakmeaokemab", sum := "f2d0d392829dc41cd60d083c1f0602c33d9c559d924e87df14ebc71a841ed419", func := "coffers/cofferslaw05.RightsShares", spec := "rightsShares", unfollowed := true, recurses := true, apart := false }
def RightsSharesSaid : Prop := rightsSharesRow.holds Try.pinned (OpenSpec.ofChange rightsSharesSpec)

/-- ITS FALSE NEIGHBOUR: 'it returns false'. Refute it at one input. -/
def rightsSharesWrong : ChangeSpec := { name := "rightsShares", fn := fun _ => fun
  | [d] => { results := [.lit (.bool false)], args := [d] }
  | _ => none }
def RightsSharesWrongFalsely : Prop := rightsSharesRow.holds Try.pinned (OpenSpec.ofChange rightsSharesWrong)

/-- 'cofferslaw05.RightsDo': WHATEVER THE INPUT: true; the input reads as it did. -/
def rightsDoSpec : ChangeSpec := { name := "rightsDo", fn := fun _ => fun
  | [d1, d2, d3, d4, d5] => { results := [.lit (.bool true)], args := [d1, d2, d3, d4, d5] }
  | _ => none }
def rightsDoRow : OpenClaim := { program := "ytblnakmeaokemab", sum := "f2d0d392829dc41cd60d083c1f0602c33d9c559d924e87df14ebc71a841ed419", func := "coffers/cofferslaw05.RightsDo", spec := "rightsDo", unfollowed := true, recurses := true, apart := false }
def RightsDoSaid : Prop := rightsDoRow.holds Try.pinned (OpenSpec.ofChange rightsDoSpec)

/-- ITS FALSE NEIGHBOUR: 'it returns false'. Refute it at one input. -/
def rightsDoWrong : ChangeSpec := { name := "rightsDo", fn := fun _ => fun
  | [d1, d2, d3, d4, d5] => { results := [.lit (.bool false)], args := [d1, d2, d3, d4, d5] }
  | _ => none }
def RightsDoWrongFalsely : Prop := rightsDoRow.holds Try.pinned (OpenSpec.ofChange rightsDoWrong)

/-- 'cofferslaw05.RightsKeep': WHATEVER THE INPUT: true; the input reads as it did. -/
def rightsKeepSpec : ChangeSpec := { name := "rightsKeep", fn := fun _ => fun
  | [d1, d2, d3, d4, d5] => { results := [.lit (.bool true)], args := [d1, d2, d3, d4, d5] }
  | _ => none }
def rightsKeepRow : OpenClaim := { program := "ytblnakmeaokemab", sum := "f2d0d392829dc41cd60d083c1f0602c33d9c559d924e87df14ebc71a841ed419", func := "coffers/cofferslaw05.RightsKeep", spec := "rightsKeep", unfollowed := true, recurses := true, apart := false }
def RightsKeepSaid : Prop := rightsKeepRow.holds Try.pinned (OpenSpec.ofChange rightsKeepSpec)

/-- ITS FALSE NEIGHBOUR: 'it returns false'. Refute it at one input. -/
def rightsKeepWrong : ChangeSpec := { name := "rightsKeep", fn := fun _ => fun
  | [d1, d2, d3, d4, d5] => { results := [.lit (.bool false)], args := [d1, d2, d3, d4, d5] }
  | _ => none }
def RightsKeepWrongFalsely : Prop := rightsKeepRow.holds Try.pinned (OpenSpec.ofChange rightsKeepWrong)

/-- 'cofferslaw05.RightsJoins': WHATEVER THE INPUT: true; the input reads as it did. -/
def rightsJoinsSpec : ChangeSpec := { name := "rightsJoins", fn := fun _ => fun
  | [d1, d2, d3] => { results := [.lit (.bool true)], args := [d1, d2, d3] }
  | _ => none }
def rightsJoinsRow : OpenClaim := { program := "ytblnakmeaokemab", sum := "f2d0d392829dc41cd60d083c1f0602c33d9c559d924e87df14ebc71a841ed419", func := "coffers/cofferslaw05.RightsJoins", spec := "rightsJoins", unfollowed := true, recurses := true, apart := false }
def RightsJoinsSaid : Prop := rightsJoinsRow.holds Try.pinned (OpenSpec.ofChange rightsJoinsSpec)

/-- ITS FALSE NEIGHBOUR: 'it returns false'. Refute it at one input. -/
def rightsJoinsWrong : ChangeSpec := { name := "rightsJoins", fn := fun _ => fun
  | [d1, d2, d3] => { results := [.lit (.bool false)], args := [d1, d2, d3] }
  | _ => none }
def RightsJoinsWrongFalsely : Prop := rightsJoinsRow.holds Try.pinned (OpenSpec.ofChange rightsJoinsWrong)

/-- 'cofferslaw05.RightsMeet': WHATEVER THE INPUT: true; the input reads as it did. -/
def rightsMeetSpec : ChangeSpec := { name := "rightsMeet", fn := fun _ => fun
  | [d1, d2, d3] => { results := [.lit (.bool true)], args := [d1, d2, d3] }
  | _ => none }
def rightsMeetRow : OpenClaim := { program := "ytblnakmeaokemab", sum := "f2d0d392829dc41cd60d083c1f0602c33d9c559d924e87df14ebc71a841ed419", func := "coffers/cofferslaw05.RightsMeet", spec := "rightsMeet", unfollowed := true, recurses := true, apart := false }
def RightsMeetSaid : Prop := rightsMeetRow.holds Try.pinned (OpenSpec.ofChange rightsMeetSpec)

/-- ITS FALSE NEIGHBOUR: 'it returns false'. Refute it at one input. -/
def rightsMeetWrong : ChangeSpec := { name := "rightsMeet", fn := fun _ => fun
  | [d1, d2, d3] => { results := [.lit (.bool false)], args := [d1, d2, d3] }
  | _ => none }
def RightsMeetWrongFalsely : Prop := rightsMeetRow.holds Try.pinned (OpenSpec.ofChange rightsMeetWrong)

/- THE SECOND FORM. 'bulk': how many values and letters a reading holds, each counted each time it is reached (what is shared counts as often as it is met; a slice's spare places count too). A statement '..UptoSaid' is the law's where the arguments, and the package variables that the reading takes, are together of bulk at most 1048576: NARROWER than '..Said'. Prove '..Said' where nothing that the law and all that it calls make is longer than what came in: it says more and counts as full. Else prove '..UptoSaid'. A law counts once. -/
mutual
def uptoBulk {H : Type} : DataW H → Nat
  | .lit (.string bytes) => bytes.length + 1
  | .lit _ => 1
  | .nil => 1
  | .ptr d => uptoBulk d + 1
  | .slice elems spare => uptoBulkAll elems + uptoBulkAll spare + 1
  | .agg parts => uptoBulkAll parts + 1
  | .iface _ d => uptoBulk d + 1
  | .map entries => uptoBulkEntries entries + 1
  | .held _ => 1
def uptoBulkAll {H : Type} : List (DataW H) → Nat
  | [] => 0
  | d :: r => uptoBulk d + uptoBulkAll r
def uptoBulkEntries {H : Type} : List (Lit × DataW H) → Nat
  | [] => 0
  | x :: r => uptoBulkEntry x + uptoBulkEntries r
def uptoBulkEntry {H : Type} : Lit × DataW H → Nat
  | (.string bytes, d) => bytes.length + uptoBulk d + 1
  | (_, d) => uptoBulk d + 1
 end
def uptoSmall : (H : Type) → List (DataW H) → Bool := fun _ ds => decide (uptoBulkAll ds ≤ 1048576)
def OpenSpec.upto (s : _root_.Go.ChangeSpec) : _root_.Go.OpenSpec := { _root_.Go.OpenSpec.ofChange s with cond := some uptoSmall }

/-- 'cofferslaw05.RightsTells', WHERE WHAT IT READS IS OF BULK AT MOST 1048576: true; the input reads as it did. -/
def rightsTellsUptoRow : OpenClaim := { program := "ytblnakmeaokemab", sum := "f2d0d392829dc41cd60d083c1f0602c33d9c559d924e87df14ebc71a841ed419", func := "coffers/cofferslaw05.RightsTells", spec := "rightsTells", unfollowed := true, recurses := true, apart := false, narrowed := true }
def RightsTellsUptoSaid : Prop := rightsTellsUptoRow.holds Try.pinned (OpenSpec.upto rightsTellsSpec)

/-- 'cofferslaw05.RightsShares', WHERE WHAT IT READS IS OF BULK AT MOST 1048576: true; the input reads as it did. -/
def rightsSharesUptoRow : OpenClaim := { program := "ytblnakmeaokemab", sum := "f2d0d392829dc41cd60d083c1f0602c33d9c559d924e87df14ebc71a841ed419", func := "coffers/cofferslaw05.RightsShares", spec := "rightsShares", unfollowed := true, recurses := true, apart := false, narrowed := true }
def RightsSharesUptoSaid : Prop := rightsSharesUptoRow.holds Try.pinned (OpenSpec.upto rightsSharesSpec)

/-- 'cofferslaw05.RightsDo', WHERE WHAT IT READS IS OF BULK AT MOST 1048576: true; the input reads as it did. -/
def rightsDoUptoRow : OpenClaim := { program := "ytblnakmeaokemab", sum := "f2d0d392829dc41cd60d083c1f0602c33d9c559d924e87df14ebc71a841ed419", func := "coffers/cofferslaw05.RightsDo", spec := "rightsDo", unfollowed := true, recurses := true, apart := false, narrowed := true }
def RightsDoUptoSaid : Prop := rightsDoUptoRow.holds Try.pinned (OpenSpec.upto rightsDoSpec)

/-- 'cofferslaw05.RightsKeep', WHERE WHAT IT READS IS OF BULK AT MOST 1048576: true; the input reads as it did. -/
def rightsKeepUptoRow : OpenClaim := { program := "ytblnakmeaokemab", sum := "f2d0d392829dc41cd60d083c1f0602c33d9c559d924e87df14ebc71a841ed419", func := "coffers/cofferslaw05.RightsKeep", spec := "rightsKeep", unfollowed := true, recurses := true, apart := false, narrowed := true }
def RightsKeepUptoSaid : Prop := rightsKeepUptoRow.holds Try.pinned (OpenSpec.upto rightsKeepSpec)

/-- 'cofferslaw05.RightsJoins', WHERE WHAT IT READS IS OF BULK AT MOST 1048576: true; the input reads as it did. -/
def rightsJoinsUptoRow : OpenClaim := { program := "ytblnakmeaokemab", sum := "f2d0d392829dc41cd60d083c1f0602c33d9c559d924e87df14ebc71a841ed419", func := "coffers/cofferslaw05.RightsJoins", spec := "rightsJoins", unfollowed := true, recurses := true, apart := false, narrowed := true }
def RightsJoinsUptoSaid : Prop := rightsJoinsUptoRow.holds Try.pinned (OpenSpec.upto rightsJoinsSpec)

/-- 'cofferslaw05.RightsMeet', WHERE WHAT IT READS IS OF BULK AT MOST 1048576: true; the input reads as it did. -/
def rightsMeetUptoRow : OpenClaim := { program := "ytblnakmeaokemab", sum := "f2d0d392829dc41cd60d083c1f0602c33d9c559d924e87df14ebc71a841ed419", func := "coffers/cofferslaw05.RightsMeet", spec := "rightsMeet", unfollowed := true, recurses := true, apart := false, narrowed := true }
def RightsMeetUptoSaid : Prop := rightsMeetUptoRow.holds Try.pinned (OpenSpec.upto rightsMeetSpec)

end Rows
end Go.Proofs.Ytblnakmeaokemab
