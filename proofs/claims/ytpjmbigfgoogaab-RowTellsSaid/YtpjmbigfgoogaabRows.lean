/-
  No cell of these rows narrows 'for every input' (looked for: loops, veiled, ifaces, maps, wideKeys, modest, calm, conditions, laid).
  DERIVED. THE GIVEN ROWS OF THIS SEAT. 4 by the template 'for every input the law returns true; each argument reads behind the call as it read before'; 0 by the template 'total and deterministic' (their statements: YtpjmbigfgoogaabTotals.lean).
  GIVEN WITH THE SEED: the statements are not yours to turn. If you find one false, say at which input.
  Laid BY PROGRAM, IN A SANDBOX (cutbox-rows.mjs): the forced cells as the released guide's own fill.sh prints them over the translation d7b6437b236f5b0c… (all of the seat's roots in one cut). By AI agents, Wed Nov 11 2026. No macro, syntax, notation, axiom, sorry.
-/
import Derived.Test.YtpjmbigfgoogaabChecked
import GoSem.Claim
import GoSem.ClaimJoined
import GoSem.ClaimMapViews
import Derived.JoinedTies
import Derived.KernelRfl
namespace Go.Proofs.Ytpjmbigfgoogaab
/- THE CELL 'sum', in the pinned program and in every row, IS THE sha256 OF THE DUMP (.gsa) THAT YtpjmbigfgoogaabProg.lean LOADS. Nothing in Lean hashes anything: it is a label: what it is worth is what the hold of that sum in a sandbox is worth. -/
noncomputable def Try.pinned : Pinned := { name := "ytpjmbigfgoogaab", sum := "d7b6437b236f5b0ce5bc0991007462969a9203929977512fcb061867ef1f9b61", checked := Try.checked }
namespace Rows
def none {H : Type} : Left H := { results := [], args := [] }

/-- 'cofferslaw04.RowOrder': WHATEVER THE INPUT: true; the input reads as it did. -/
def rowOrderSpec : ChangeSpec := { name := "rowOrder", fn := fun _ => fun
  | [d1, d2, d3] => { results := [.lit (.bool true)], args := [d1, d2, d3] }
  | _ => none }
def rowOrderRow : OpenClaim := { program := "ytpjmbigfgoogaab", sum := "d7b6437b236f5b0ce5bc0991007462969a9203929977512fcb061867ef1f9b61", func := "coffers/cofferslaw04.RowOrder", spec := "rowOrder", unfollowed := true, recurses := true, apart := false }
def RowOrderSaid : Prop := rowOrderRow.holds Try.pinned (OpenSpec.ofChange rowOrderSpec)

/-- ITS FALSE NEIGHBOUR: 'it returns false'. Refute it at one input. -/
def rowOrderWrong : ChangeSpec := { name := "rowOrder", fn := fun _ => fun
  | [d1, d2, d3] => { results := [.lit (.bool false)], args := [d1, d2, d3] }
  | _ => none }
def RowOrderWrongFalsely : Prop := rowOrderRow.holds Try.pinned (OpenSpec.ofChange rowOrderWrong)

/-- 'cofferslaw04.RowJoins': WHATEVER THE INPUT: true; the input reads as it did. -/
def rowJoinsSpec : ChangeSpec := { name := "rowJoins", fn := fun _ => fun
  | [d1, d2, d3] => { results := [.lit (.bool true)], args := [d1, d2, d3] }
  | _ => none }
def rowJoinsRow : OpenClaim := { program := "ytpjmbigfgoogaab", sum := "d7b6437b236f5b0ce5bc0991007462969a9203929977512fcb061867ef1f9b61", func := "coffers/cofferslaw04.RowJoins", spec := "rowJoins", unfollowed := true, recurses := true, apart := false }
def RowJoinsSaid : Prop := rowJoinsRow.holds Try.pinned (OpenSpec.ofChange rowJoinsSpec)

/-- ITS FALSE NEIGHBOUR: 'it returns false'. Refute it at one input. -/
def rowJoinsWrong : ChangeSpec := { name := "rowJoins", fn := fun _ => fun
  | [d1, d2, d3] => { results := [.lit (.bool false)], args := [d1, d2, d3] }
  | _ => none }
def RowJoinsWrongFalsely : Prop := rowJoinsRow.holds Try.pinned (OpenSpec.ofChange rowJoinsWrong)

/-- 'cofferslaw04.RowTells': WHATEVER THE INPUT: true; the input reads as it did. -/
def rowTellsSpec : ChangeSpec := { name := "rowTells", fn := fun _ => fun
  | [d1, d2, d3, d4] => { results := [.lit (.bool true)], args := [d1, d2, d3, d4] }
  | _ => none }
def rowTellsRow : OpenClaim := { program := "ytpjmbigfgoogaab", sum := "d7b6437b236f5b0ce5bc0991007462969a9203929977512fcb061867ef1f9b61", func := "coffers/cofferslaw04.RowTells", spec := "rowTells", unfollowed := true, recurses := true, apart := false }
def RowTellsSaid : Prop := rowTellsRow.holds Try.pinned (OpenSpec.ofChange rowTellsSpec)

/-- ITS FALSE NEIGHBOUR: 'it returns false'. Refute it at one input. -/
def rowTellsWrong : ChangeSpec := { name := "rowTells", fn := fun _ => fun
  | [d1, d2, d3, d4] => { results := [.lit (.bool false)], args := [d1, d2, d3, d4] }
  | _ => none }
def RowTellsWrongFalsely : Prop := rowTellsRow.holds Try.pinned (OpenSpec.ofChange rowTellsWrong)

/-- 'cofferslaw04.RowBehind': WHATEVER THE INPUT: true; the input reads as it did. -/
def rowBehindSpec : ChangeSpec := { name := "rowBehind", fn := fun _ => fun
  | [d1, d2, d3] => { results := [.lit (.bool true)], args := [d1, d2, d3] }
  | _ => none }
def rowBehindRow : OpenClaim := { program := "ytpjmbigfgoogaab", sum := "d7b6437b236f5b0ce5bc0991007462969a9203929977512fcb061867ef1f9b61", func := "coffers/cofferslaw04.RowBehind", spec := "rowBehind", unfollowed := true, recurses := true, apart := false }
def RowBehindSaid : Prop := rowBehindRow.holds Try.pinned (OpenSpec.ofChange rowBehindSpec)

/-- ITS FALSE NEIGHBOUR: 'it returns false'. Refute it at one input. -/
def rowBehindWrong : ChangeSpec := { name := "rowBehind", fn := fun _ => fun
  | [d1, d2, d3] => { results := [.lit (.bool false)], args := [d1, d2, d3] }
  | _ => none }
def RowBehindWrongFalsely : Prop := rowBehindRow.holds Try.pinned (OpenSpec.ofChange rowBehindWrong)

/- THE SECOND FORM. 'bulk': how many values and letters a reading holds, each counted each time it is reached (what is shared counts as often as it is met; a slice's spare places count too). A statement '..UptoSaid' is the law's where the arguments, and the package variables that the reading takes, are together of bulk at most 1048576: NARROWER than '..Said'. Prove '..Said' where nothing that the law and all that it calls make is longer than what came in: it says more and counts as full. Else prove '..UptoSaid'. A law counts once. -/
mutual
def uptoBulk {H : Type} : DataW H → Nat
  | .lit (.string bytes) => bytes.length + 1
  | .lit _ => 1
  | .nil => 1
  | .ptr d => uptoBulk d + 1
  | .slice elems spare => uptoBulkAll elems + uptoBulkAll spare + 1
  | .agg parts => uptoBulkAll parts + 1
  | .iface _ d => uptoBulk d + 1
  | .map entries => uptoBulkEntries entries + 1
  | .held _ => 1
def uptoBulkAll {H : Type} : List (DataW H) → Nat
  | [] => 0
  | d :: r => uptoBulk d + uptoBulkAll r
def uptoBulkEntries {H : Type} : List (Lit × DataW H) → Nat
  | [] => 0
  | x :: r => uptoBulkEntry x + uptoBulkEntries r
def uptoBulkEntry {H : Type} : Lit × DataW H → Nat
  | (.string bytes, d) => bytes.length + uptoBulk d + 1
  | (_, d) => uptoBulk d + 1
 end
def uptoSmall : (H : Type) → List (DataW H) → Bool := fun _ ds => decide (uptoBulkAll ds ≤ 1048576)
def OpenSpec.upto (s : _root_.Go.ChangeSpec) : _root_.Go.OpenSpec := { _root_.Go.OpenSpec.ofChange s with cond := some uptoSmall }

/-- 'cofferslaw04.RowOrder', WHERE WHAT IT READS IS OF BULK AT MOST 1048576: true; the input reads as it did. -/
def rowOrderUptoRow : OpenClaim := { program := "ytpjmbigfgoogaab", sum := "d7b6437b236f5b0ce5bc0991007462969a9203929977512fcb061867ef1f9b61", func := "coffers/cofferslaw04.RowOrder", spec := "rowOrder", unfollowed := true, recurses := true, apart := false, narrowed := true }
def RowOrderUptoSaid : Prop := rowOrderUptoRow.holds Try.pinned (OpenSpec.upto rowOrderSpec)

/-- 'cofferslaw04.RowJoins', WHERE WHAT IT READS IS OF BULK AT MOST 1048576: true; the input reads as it did. -/
def rowJoinsUptoRow : OpenClaim := { program := "ytpjmbigfgoogaab", sum := "d7b6437b236f5b0ce5bc0991007462969a9203929977512fcb061867ef1f9b61", func := "coffers/cofferslaw04.RowJoins", spec := "rowJoins", unfollowed := true, recurses := true, apart := false, narrowed := true }
def RowJoinsUptoSaid : Prop := rowJoinsUptoRow.holds Try.pinned (OpenSpec.upto rowJoinsSpec)

/-- 'cofferslaw04.RowTells', WHERE WHAT IT READS IS OF BULK AT MOST 1048576: true; the input reads as it did. -/
def rowTellsUptoRow : OpenClaim := { program := "ytpjmbigfgoogaab", sum := "d7b6437b236f5b0ce5bc0991007462969a9203929977512fcb061867ef1f9b61", func := "coffers/cofferslaw04.RowTells", spec := "rowTells", unfollowed := true, recurses := true, apart := false, narrowed := true }
def RowTellsUptoSaid : Prop := rowTellsUptoRow.holds Try.pinned (OpenSpec.upto rowTellsSpec)

/-- 'cofferslaw04.RowBehind', WHERE WHAT IT READS IS OF BULK AT MOST 1048576: true; the input reads as it did. -/
def rowBehindUptoRow : OpenClaim := { program := "ytpjmbigfgoogaab", sum := "d7b6437b236f5b0ce5bc0991007462969a9203929977512fcb061867ef1f9b61", func := "coffers/cofferslaw04.RowBehind", spec := "rowBehind", unfollowed := true, recurses := true, apart := false, narrowed := true }
def RowBehindUptoSaid : Prop := rowBehindUptoRow.holds Try.pinned (OpenSpec.upto rowBehindSpec)

end Rows
end Go.Proofs.Ytpjmbigfgoogaab
