/-
  No cell of these rows narrows 'for every input' (looked for: loops, veiled, ifaces, maps, wideKeys, modest, calm, conditions, laid).
  DERIVED. THE GIVEN ROWS OF THIS SEAT. 3 by the template 'for every input the law returns true; each argument reads behind the call as it read before'; 0 by the template 'total and deterministic' (their statements: YtpjmbigfgoogaacTotals.lean).
  GIVEN WITH THE SEED: the statements are not yours to turn. If you find one false, say at which input.
  Laid BY PROGRAM, IN A SANDBOX (cutbox-rows.mjs): the forced cells as the released guide's own fill.sh prints them over the translation 361b7b0893d045e6… (all of the seat's roots in one cut). By AI agents, Wed Nov 11 2026. No macro, syntax, notation, axiom, sorry.
-/
import Derived.Test.YtpjmbigfgoogaacChecked
import GoSem.Claim
import GoSem.ClaimJoined
import GoSem.ClaimMapViews
import Derived.JoinedTies
import Derived.KernelRfl
namespace Go.Proofs.Ytpjmbigfgoogaac
/- THE CELL 'sum', in the pinned program and in every row, IS THE sha256 OF THE DUMP (.gsa) THAT YtpjmbigfgoogaacProg.lean LOADS. Nothing in Lean hashes anything: it is a label: what it is worth is what the hold of that sum in a sandbox is worth. -/
noncomputable def Try.pinned : Pinned := { name := "ytpjmbigfgoogaac", sum := "361b7b0893d045e62ab6e36873067f163630677e766d6e6e0927ee0d5f081d8b", checked := Try.checked }
namespace Rows
def none {H : Type} : Left H := { results := [], args := [] }

/-- 'cofferslaw07.TapeKeeps': WHATEVER THE INPUT: true; the input reads as it did. -/
def tapeKeepsSpec : ChangeSpec := { name := "tapeKeeps", fn := fun _ => fun
  | [d1, d2, d3, d4] => { results := [.lit (.bool true)], args := [d1, d2, d3, d4] }
  | _ => none }
def tapeKeepsRow : OpenClaim := { program := "ytpjmbigfgoogaac", sum := "361b7b0893d045e62ab6e36873067f163630677e766d6e6e0927ee0d5f081d8b", func := "coffers/cofferslaw07.TapeKeeps", spec := "tapeKeeps", apart := false }
def TapeKeepsSaid : Prop := tapeKeepsRow.holds Try.pinned (OpenSpec.ofChange tapeKeepsSpec)

/-- ITS FALSE NEIGHBOUR: 'it returns false'. Refute it at one input. -/
def tapeKeepsWrong : ChangeSpec := { name := "tapeKeeps", fn := fun _ => fun
  | [d1, d2, d3, d4] => { results := [.lit (.bool false)], args := [d1, d2, d3, d4] }
  | _ => none }
def TapeKeepsWrongFalsely : Prop := tapeKeepsRow.holds Try.pinned (OpenSpec.ofChange tapeKeepsWrong)

/-- 'cofferslaw07.TapeTurns': WHATEVER THE INPUT: true; the input reads as it did. -/
def tapeTurnsSpec : ChangeSpec := { name := "tapeTurns", fn := fun _ => fun
  | [d1, d2, d3] => { results := [.lit (.bool true)], args := [d1, d2, d3] }
  | _ => none }
def tapeTurnsRow : OpenClaim := { program := "ytpjmbigfgoogaac", sum := "361b7b0893d045e62ab6e36873067f163630677e766d6e6e0927ee0d5f081d8b", func := "coffers/cofferslaw07.TapeTurns", spec := "tapeTurns", apart := false }
def TapeTurnsSaid : Prop := tapeTurnsRow.holds Try.pinned (OpenSpec.ofChange tapeTurnsSpec)

/-- ITS FALSE NEIGHBOUR: 'it returns false'. Refute it at one input. -/
def tapeTurnsWrong : ChangeSpec := { name := "tapeTurns", fn := fun _ => fun
  | [d1, d2, d3] => { results := [.lit (.bool false)], args := [d1, d2, d3] }
  | _ => none }
def TapeTurnsWrongFalsely : Prop := tapeTurnsRow.holds Try.pinned (OpenSpec.ofChange tapeTurnsWrong)

/-- 'cofferslaw07.TapeDo': WHATEVER THE INPUT: true; the input reads as it did. -/
def tapeDoSpec : ChangeSpec := { name := "tapeDo", fn := fun _ => fun
  | [d1, d2, d3, d4] => { results := [.lit (.bool true)], args := [d1, d2, d3, d4] }
  | _ => none }
def tapeDoRow : OpenClaim := { program := "ytpjmbigfgoogaac", sum := "361b7b0893d045e62ab6e36873067f163630677e766d6e6e0927ee0d5f081d8b", func := "coffers/cofferslaw07.TapeDo", spec := "tapeDo", apart := false }
def TapeDoSaid : Prop := tapeDoRow.holds Try.pinned (OpenSpec.ofChange tapeDoSpec)

/-- ITS FALSE NEIGHBOUR: 'it returns false'. Refute it at one input. -/
def tapeDoWrong : ChangeSpec := { name := "tapeDo", fn := fun _ => fun
  | [d1, d2, d3, d4] => { results := [.lit (.bool false)], args := [d1, d2, d3, d4] }
  | _ => none }
def TapeDoWrongFalsely : Prop := tapeDoRow.holds Try.pinned (OpenSpec.ofChange tapeDoWrong)

/- THE SECOND FORM. 'bulk': how many values and letters a reading holds, each counted each time it is reached (what is shared counts as often as it is met; a slice's spare places count too). A statement '..UptoSaid' is the law's where the arguments, and the package variables that the reading takes, are together of bulk at most 1048576: NARROWER than '..Said'. Prove '..Said' where nothing that the law and all that it calls make is longer than what came in: it says more and counts as full. Else prove '..UptoSaid'. A law counts once. -/
mutual
def uptoBulk {H : Type} : DataW H → Nat
  | .lit (.string bytes) => bytes.length + 1
  | .lit _ => 1
  | .nil => 1
  | .ptr d => uptoBulk d + 1
  | .slice elems spare => uptoBulkAll elems + uptoBulkAll spare + 1
  | .agg parts => uptoBulkAll parts + 1
  | .iface _ d => uptoBulk d + 1
  | .map entries => uptoBulkEntries entries + 1
  | .held _ => 1
def uptoBulkAll {H : Type} : List (DataW H) → Nat
  | [] => 0
  | d :: r => uptoBulk d + uptoBulkAll r
def uptoBulkEntries {H : Type} : List (Lit × DataW H) → Nat
  | [] => 0
  | x :: r => uptoBulkEntry x + uptoBulkEntries r
def uptoBulkEntry {H : Type} : Lit × DataW H → Nat
  | (.string bytes, d) => bytes.length + uptoBulk d + 1
  | (_, d) => uptoBulk d + 1
 end
def uptoSmall : (H : Type) → List (DataW H) → Bool := fun _ ds => decide (uptoBulkAll ds ≤ 1048576)
def OpenSpec.upto (s : _root_.Go.ChangeSpec) : _root_.Go.OpenSpec := { _root_.Go.OpenSpec.ofChange s with cond := some uptoSmall }

/-- 'cofferslaw07.TapeKeeps', WHERE WHAT IT READS IS OF BULK AT MOST 1048576: true; the input reads as it did. -/
def tapeKeepsUptoRow : OpenClaim := { program := "ytpjmbigfgoogaac", sum := "361b7b0893d045e62ab6e36873067f163630677e766d6e6e0927ee0d5f081d8b", func := "coffers/cofferslaw07.TapeKeeps", spec := "tapeKeeps", apart := false, narrowed := true }
def TapeKeepsUptoSaid : Prop := tapeKeepsUptoRow.holds Try.pinned (OpenSpec.upto tapeKeepsSpec)

/-- 'cofferslaw07.TapeTurns', WHERE WHAT IT READS IS OF BULK AT MOST 1048576: true; the input reads as it did. -/
def tapeTurnsUptoRow : OpenClaim := { program := "ytpjmbigfgoogaac", sum := "361b7b0893d045e62ab6e36873067f163630677e766d6e6e0927ee0d5f081d8b", func := "coffers/cofferslaw07.TapeTurns", spec := "tapeTurns", apart := false, narrowed := true }
def TapeTurnsUptoSaid : Prop := tapeTurnsUptoRow.holds Try.pinned (OpenSpec.upto tapeTurnsSpec)

/-- 'cofferslaw07.TapeDo', WHERE WHAT IT READS IS OF BULK AT MOST 1048576: true; the input reads as it did. -/
def tapeDoUptoRow : OpenClaim := { program := "ytpjmbigfgoogaac", sum := "361b7b0893d045e62ab6e36873067f163630677e766d6e6e0927ee0d5f081d8b", func := "coffers/cofferslaw07.TapeDo", spec := "tapeDo", apart := false, narrowed := true }
def TapeDoUptoSaid : Prop := tapeDoUptoRow.holds Try.pinned (OpenSpec.upto tapeDoSpec)

end Rows
end Go.Proofs.Ytpjmbigfgoogaac
