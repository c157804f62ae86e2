/-
  No cell of these rows narrows 'for every input' (looked for: loops, veiled, ifaces, maps, wideKeys, modest, calm, conditions, laid).
  DERIVED. THE GIVEN ROWS OF THIS SEAT. 4 by the template 'for every input the law returns true; each argument reads behind the call as it read before'; 0 by the template 'total and deterministic' (their statements: YtpjmbigfgoogaaaTotals.lean).
  GIVEN WITH THE SEED: the statements are not yours to turn. If you find one false, say at which input.
  Laid BY PROGRAM, IN A SANDBOX (cutbox-rows.mjs): the forced cells as the released guide's own fill.sh prints them over the translation 6034d59a2158689f… (all of the seat's roots in one cut). By AI agents, Wed Nov 11 2026. No macro, syntax, notation, axiom, sorry.
-/
import Derived.Test.YtpjmbigfgoogaaaChecked
import GoSem.Claim
import GoSem.ClaimJoined
import GoSem.ClaimMapViews
import Derived.JoinedTies
import Derived.KernelRfl
namespace Go.Proofs.Ytpjmbigfgoogaaa
/- THE CELL 'sum', in the pinned program and in every row, IS THE sha256 OF THE DUMP (.gsa) THAT YtpjmbigfgoogaaaProg.lean LOADS. Nothing in Lean hashes anything: it is a label: what it is worth is what the hold of that sum in a sandbox is worth. -/
noncomputable def Try.pinned : Pinned := { name := "ytpjmbigfgoogaaa", sum := "6034d59a2158689f2d75014d7a1e787520b3fbd575b9e1275b2d84dc73c6c7b8", checked := Try.checked }
namespace Rows
def none {H : Type} : Left H := { results := [], args := [] }

/-- 'cofferslaw02.PackTakes': WHATEVER THE INPUT: true; the input reads as it did. -/
def packTakesSpec : ChangeSpec := { name := "packTakes", fn := fun _ => fun
  | [d] => { results := [.lit (.bool true)], args := [d] }
  | _ => none }
def packTakesRow : OpenClaim := { program := "ytpjmbigfgoogaaa", sum := "6034d59a2158689f2d75014d7a1e787520b3fbd575b9e1275b2d84dc73c6c7b8", func := "coffers/cofferslaw02.PackTakes", spec := "packTakes", apart := false }
def PackTakesSaid : Prop := packTakesRow.holds Try.pinned (OpenSpec.ofChange packTakesSpec)

/-- ITS FALSE NEIGHBOUR: 'it returns false'. Refute it at one input. -/
def packTakesWrong : ChangeSpec := { name := "packTakes", fn := fun _ => fun
  | [d] => { results := [.lit (.bool false)], args := [d] }
  | _ => none }
def PackTakesWrongFalsely : Prop := packTakesRow.holds Try.pinned (OpenSpec.ofChange packTakesWrong)

/-- 'cofferslaw02.PackShort': WHATEVER THE INPUT: true; the input reads as it did. -/
def packShortSpec : ChangeSpec := { name := "packShort", fn := fun _ => fun
  | [d1, d2] => { results := [.lit (.bool true)], args := [d1, d2] }
  | _ => none }
def packShortRow : OpenClaim := { program := "ytpjmbigfgoogaaa", sum := "6034d59a2158689f2d75014d7a1e787520b3fbd575b9e1275b2d84dc73c6c7b8", func := "coffers/cofferslaw02.PackShort", spec := "packShort", apart := false }
def PackShortSaid : Prop := packShortRow.holds Try.pinned (OpenSpec.ofChange packShortSpec)

/-- ITS FALSE NEIGHBOUR: 'it returns false'. Refute it at one input. -/
def packShortWrong : ChangeSpec := { name := "packShort", fn := fun _ => fun
  | [d1, d2] => { results := [.lit (.bool false)], args := [d1, d2] }
  | _ => none }
def PackShortWrongFalsely : Prop := packShortRow.holds Try.pinned (OpenSpec.ofChange packShortWrong)

/-- 'cofferslaw02.PackPrefix': WHATEVER THE INPUT: true; the input reads as it did. -/
def packPrefixSpec : ChangeSpec := { name := "packPrefix", fn := fun _ => fun
  | [d1, d2, d3] => { results := [.lit (.bool true)], args := [d1, d2, d3] }
  | _ => none }
def packPrefixRow : OpenClaim := { program := "ytpjmbigfgoogaaa", sum := "6034d59a2158689f2d75014d7a1e787520b3fbd575b9e1275b2d84dc73c6c7b8", func := "coffers/cofferslaw02.PackPrefix", spec := "packPrefix", apart := false }
def PackPrefixSaid : Prop := packPrefixRow.holds Try.pinned (OpenSpec.ofChange packPrefixSpec)

/-- ITS FALSE NEIGHBOUR: 'it returns false'. Refute it at one input. -/
def packPrefixWrong : ChangeSpec := { name := "packPrefix", fn := fun _ => fun
  | [d1, d2, d3] => { results := [.lit (.bool false)], args := [d1, d2, d3] }
  | _ => none }
def PackPrefixWrongFalsely : Prop := packPrefixRow.holds Try.pinned (OpenSpec.ofChange packPrefixWrong)

/-- 'cofferslaw02.PackPuts': WHATEVER THE INPUT: true; the input reads as it did. -/
def packPutsSpec : ChangeSpec := { name := "packPuts", fn := fun _ => fun
  | [d1, d2, d3] => { results := [.lit (.bool true)], args := [d1, d2, d3] }
  | _ => none }
def packPutsRow : OpenClaim := { program := "ytpjmbigfgoogaaa", sum := "6034d59a2158689f2d75014d7a1e787520b3fbd575b9e1275b2d84dc73c6c7b8", func := "coffers/cofferslaw02.PackPuts", spec := "packPuts", apart := false }
def PackPutsSaid : Prop := packPutsRow.holds Try.pinned (OpenSpec.ofChange packPutsSpec)

/-- ITS FALSE NEIGHBOUR: 'it returns false'. Refute it at one input. -/
def packPutsWrong : ChangeSpec := { name := "packPuts", fn := fun _ => fun
  | [d1, d2, d3] => { results := [.lit (.bool false)], args := [d1, d2, d3] }
  | _ => none }
def PackPutsWrongFalsely : Prop := packPutsRow.holds Try.pinned (OpenSpec.ofChange packPutsWrong)

/- THE SECOND FORM. 'bulk': how many values and letters a reading holds, each counted each time it is reached (what is shared counts as often as it is met; a slice's spare places count too). A statement '..UptoSaid' is the law's where the arguments, and the package variables that the reading takes, are together of bulk at most 1048576: NARROWER than '..Said'. Prove '..Said' where nothing that the law and all that it calls make is longer than what came in: it says more and counts as full. Else prove '..UptoSaid'. A law counts once. -/
mutual
def uptoBulk {H : Type} : DataW H → Nat
  | .lit (.string bytes) => bytes.length + 1
  | .lit _ => 1
  | .nil => 1
  | .ptr d => uptoBulk d + 1
  | .slice elems spare => uptoBulkAll elems + uptoBulkAll spare + 1
  | .agg parts => uptoBulkAll parts + 1
  | .iface _ d => uptoBulk d + 1
  | .map entries => uptoBulkEntries entries + 1
  | .held _ => 1
def uptoBulkAll {H : Type} : List (DataW H) → Nat
  | [] => 0
  | d :: r => uptoBulk d + uptoBulkAll r
def uptoBulkEntries {H : Type} : List (Lit × DataW H) → Nat
  | [] => 0
  | x :: r => uptoBulkEntry x + uptoBulkEntries r
def uptoBulkEntry {H : Type} : Lit × DataW H → Nat
  | (.string bytes, d) => bytes.length + uptoBulk d + 1
  | (_, d) => uptoBulk d + 1
 end
def uptoSmall : (H : Type) → List (DataW H) → Bool := fun _ ds => decide (uptoBulkAll ds ≤ 1048576)
def OpenSpec.upto (s : _root_.Go.ChangeSpec) : _root_.Go.OpenSpec := { _root_.Go.OpenSpec.ofChange s with cond := some uptoSmall }

/-- 'cofferslaw02.PackTakes', WHERE WHAT IT READS IS OF BULK AT MOST 1048576: true; the input reads as it did. -/
def packTakesUptoRow : OpenClaim := { program := "ytpjmbigfgoogaaa", sum := "6034d59a2158689f2d75014d7a1e787520b3fbd575b9e1275b2d84dc73c6c7b8", func := "coffers/cofferslaw02.PackTakes", spec := "packTakes", apart := false, narrowed := true }
def PackTakesUptoSaid : Prop := packTakesUptoRow.holds Try.pinned (OpenSpec.upto packTakesSpec)

/-- 'cofferslaw02.PackShort', WHERE WHAT IT READS IS OF BULK AT MOST 1048576: true; the input reads as it did. -/
def packShortUptoRow : OpenClaim := { program := "ytpjmbigfgoogaaa", sum := "6034d59a2158689f2d75014d7a1e787520b3fbd575b9e1275b2d84dc73c6c7b8", func := "coffers/cofferslaw02.PackShort", spec := "packShort", apart := false, narrowed := true }
def PackShortUptoSaid : Prop := packShortUptoRow.holds Try.pinned (OpenSpec.upto packShortSpec)

/-- 'cofferslaw02.PackPrefix', WHERE WHAT IT READS IS OF BULK AT MOST 1048576: true; the input reads as it did. -/
def packPrefixUptoRow : OpenClaim := { program := "ytpjmbigfgoogaaa", sum := "6034d59a2158689f2d75014d7a1e787520b3fbd575b9e1275b2d84dc73c6c7b8", func := "coffers/cofferslaw02.PackPrefix", spec := "packPrefix", apart := false, narrowed := true }
def PackPrefixUptoSaid : Prop := packPrefixUptoRow.holds Try.pinned (OpenSpec.upto packPrefixSpec)

/-- 'cofferslaw02.PackPuts', WHERE WHAT IT READS IS OF BULK AT MOST 1048576: true; the input reads as it did. -/
def packPutsUptoRow : OpenClaim := { program := "ytpjmbigfgoogaaa", sum := "6034d59a2158689f2d75014d7a1e787520b3fbd575b9e1275b2d84dc73c6c7b8", func := "coffers/cofferslaw02.PackPuts", spec := "packPuts", apart := false, narrowed := true }
def PackPutsUptoSaid : Prop := packPutsUptoRow.holds Try.pinned (OpenSpec.upto packPutsSpec)

end Rows
end Go.Proofs.Ytpjmbigfgoogaaa
