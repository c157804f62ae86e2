/-
  No cell of these rows narrows 'for every input' (looked for: loops, veiled, ifaces, maps, wideKeys, modest, calm, conditions, laid).
  DERIVED. THE GIVEN ROWS OF THIS SEAT. 6 by the template 'for every input the law returns true; each argument reads behind the call as it read before'; 0 by the template 'total and deterministic' (their statements: YtblnakmeaokemacTotals.lean).
  GIVEN WITH THE SEED: the statements are not yours to turn. If you find one false, say at which input.
  Laid BY PROGRAM, IN A SANDBOX (cutbox-rows.mjs): the forced cells as the released guide's own fill.sh prints them over the translation 68e05bdd46a009e8… (all of the seat's roots in one cut). By AI agents, Wed Nov 11 2026. No macro, syntax, notation, axiom, sorry.
-/
import Derived.Test.YtblnakmeaokemacChecked
import GoSem.Claim
import GoSem.ClaimJoined
import GoSem.ClaimMapViews
import Derived.JoinedTies
import Derived.KernelRfl
namespace Go.Proofs.Ytblnakmeaokemac
/- THE CELL 'sum', in the pinned program and in every row, IS THE sha256 OF THE DUMP (.gsa) THAT YtblnakmeaokemacProg.lean LOADS. Nothing in Lean hashes anything: it is a label: what it is worth is what the hold of that sum in a sandbox is worth. -/
noncomputable def Try.pinned : Pinned := { name := "ytblnakmeaokemac", sum := "68e05bdd46a009e837077a4dde19b2270340463096b05a4493b92c51ea57e1c2", checked := Try.checked }
namespace Rows
def none {H : Type} : Left H := { results := [], args := [] }

/-- 'cofferslaw06.PaintTakes': WHATEVER THE INPUT: true; the input reads as it did. -/
def paintTakesSpec : ChangeSpec := { name := "paintTakes", fn := fun _ => fun
  | [d1, d2] => { results := [.lit (.bool true)], args := [d1, d2] }
  | _ => none }
def paintTakesRow : OpenClaim := { program := "ytblnakmeaokemac", sum := "68e05bdd46a009e837077a4dde19b2270340463096b05a4493b92c51ea57e1c2", func := "coffers/cofferslaw06.PaintTakes", spec := "paintTakes", unfollowed := true, recurses := true, apart := false }
def PaintTakesSaid : Prop := paintTakesRow.holds Try.pinned (OpenSpec.ofChange paintTakesSpec)

/-- ITS FALSE NEIGHBOUR: 'it returns false'. Refute it at one input. -/
def paintTakesWrong : ChangeSpec := { name := "paintTakes", fn := fun _ => fun
  | [d1, d2] => { results := [.lit (.bool false)], args := [d1, d2] }
  | _ => none }
def PaintTakesWrongFalsely : Prop := paintTakesRow.holds Try.pinned (OpenSpec.ofChange paintTakesWrong)

/-- 'cofferslaw06.PaintBack': WHATEVER THE INPUT: true; the input reads as it did. -/
def paintBackSpec : ChangeSpec := { name := "paintBack", fn := fun _ => fun
  | [d1, d2, d3, d4] => { results := [.lit (.bool true)], args := [d1, d2, d3, d4] }
  | _ => none }
def paintBackRow : OpenClaim := { program := "ytblnakmeaokemac", sum := "68e05bdd46a009e837077a4dde19b2270340463096b05a4493b92c51ea57e1c2", func := "coffers/cofferslaw06.PaintBack", spec := "paintBack", unfollowed := true, recurses := true, apart := false }
def PaintBackSaid : Prop := paintBackRow.holds Try.pinned (OpenSpec.ofChange paintBackSpec)

/-- ITS FALSE NEIGHBOUR: 'it returns false'. Refute it at one input. -/
def paintBackWrong : ChangeSpec := { name := "paintBack", fn := fun _ => fun
  | [d1, d2, d3, d4] => { results := [.lit (.bool false)], args := [d1, d2, d3, d4] }
  | _ => none }
def PaintBackWrongFalsely : Prop := paintBackRow.holds Try.pinned (OpenSpec.ofChange paintBackWrong)

/-- 'cofferslaw06.PaintCuts': WHATEVER THE INPUT: true; the input reads as it did. -/
def paintCutsSpec : ChangeSpec := { name := "paintCuts", fn := fun _ => fun
  | [d1, d2, d3, d4] => { results := [.lit (.bool true)], args := [d1, d2, d3, d4] }
  | _ => none }
def paintCutsRow : OpenClaim := { program := "ytblnakmeaokemac", sum := "68e05bdd46a009e837077a4dde19b2270340463096b05a4493b92c51ea57e1c2", func := "coffers/cofferslaw06.PaintCuts", spec := "paintCuts", unfollowed := true, recurses := true, apart := false }
def PaintCutsSaid : Prop := paintCutsRow.holds Try.pinned (OpenSpec.ofChange paintCutsSpec)

/-- ITS FALSE NEIGHBOUR: 'it returns false'. Refute it at one input. -/
def paintCutsWrong : ChangeSpec := { name := "paintCuts", fn := fun _ => fun
  | [d1, d2, d3, d4] => { results := [.lit (.bool false)], args := [d1, d2, d3, d4] }
  | _ => none }
def PaintCutsWrongFalsely : Prop := paintCutsRow.holds Try.pinned (OpenSpec.ofChange paintCutsWrong)

/-- 'cofferslaw13.ShareTells': WHATEVER THE INPUT: true; the input reads as it did. -/
def shareTellsSpec : ChangeSpec := { name := "shareTells", fn := fun _ => fun
  | [d1, d2, d3, d4, d5, d6] => { results := [.lit (.bool true)], args := [d1, d2, d3, d4, d5, d6] }
  | _ => none }
def shareTellsRow : OpenClaim := { program := "ytblnakmeaokemac", sum := "68e05bdd46a009e837077a4dde19b2270340463096b05a4493b92c51ea57e1c2", func := "coffers/cofferslaw13.ShareTells", spec := "shareTells", unfollowed := true, recurses := true, apart := false }
def ShareTellsSaid : Prop := shareTellsRow.holds Try.pinned (OpenSpec.ofChange shareTellsSpec)

/-- ITS FALSE NEIGHBOUR: 'it returns false'. Refute it at one input. -/
def shareTellsWrong : ChangeSpec := { name := "shareTells", fn := fun _ => fun
  | [d1, d2, d3, d4, d5, d6] => { results := [.lit (.bool false)], args := [d1, d2, d3, d4, d5, d6] }
  | _ => none }
def ShareTellsWrongFalsely : Prop := shareTellsRow.holds Try.pinned (OpenSpec.ofChange shareTellsWrong)

/-- 'cofferslaw13.ShareMoves': WHATEVER THE INPUT: true; the input reads as it did. -/
def shareMovesSpec : ChangeSpec := { name := "shareMoves", fn := fun _ => fun
  | [d1, d2, d3, d4, d5, d6] => { results := [.lit (.bool true)], args := [d1, d2, d3, d4, d5, d6] }
  | _ => none }
def shareMovesRow : OpenClaim := { program := "ytblnakmeaokemac", sum := "68e05bdd46a009e837077a4dde19b2270340463096b05a4493b92c51ea57e1c2", func := "coffers/cofferslaw13.ShareMoves", spec := "shareMoves", unfollowed := true, recurses := true, apart := false }
def ShareMovesSaid : Prop := shareMovesRow.holds Try.pinned (OpenSpec.ofChange shareMovesSpec)

/-- ITS FALSE NEIGHBOUR: 'it returns false'. Refute it at one input. -/
def shareMovesWrong : ChangeSpec := { name := "shareMoves", fn := fun _ => fun
  | [d1, d2, d3, d4, d5, d6] => { results := [.lit (.bool false)], args := [d1, d2, d3, d4, d5, d6] }
  | _ => none }
def ShareMovesWrongFalsely : Prop := shareMovesRow.holds Try.pinned (OpenSpec.ofChange shareMovesWrong)

/-- 'cofferslaw13.ShareNone': WHATEVER THE INPUT: true; the input reads as it did. -/
def shareNoneSpec : ChangeSpec := { name := "shareNone", fn := fun _ => fun
  | [d1, d2, d3, d4, d5] => { results := [.lit (.bool true)], args := [d1, d2, d3, d4, d5] }
  | _ => none }
def shareNoneRow : OpenClaim := { program := "ytblnakmeaokemac", sum := "68e05bdd46a009e837077a4dde19b2270340463096b05a4493b92c51ea57e1c2", func := "coffers/cofferslaw13.ShareNone", spec := "shareNone", unfollowed := true, recurses := true, apart := false }
def ShareNoneSaid : Prop := shareNoneRow.holds Try.pinned (OpenSpec.ofChange shareNoneSpec)

/-- ITS FALSE NEIGHBOUR: 'it returns false'. Refute it at one input. -/
def shareNoneWrong : ChangeSpec := { name := "shareNone", fn := fun _ => fun
  | [d1, d2, d3, d4, d5] => { results := [.lit (.bool false)], args := [d1, d2, d3, d4, d5] }
  | _ => none }
def ShareNoneWrongFalsely : Prop := shareNoneRow.holds Try.pinned (OpenSpec.ofChange shareNoneWrong)

/- THE SECOND FORM. 'bulk': how many values and letters a reading holds, each counted each time it is reached (what is shared counts as often as it is met; a slice's spare places count too). A statement '..UptoSaid' is the law's where the arguments, and the package variables that the reading takes, are together of bulk at most 1048576: NARROWER than '..Said'. Prove '..Said' where nothing that the law and all that it calls make is longer than what came in: it says more and counts as full. Else prove '..UptoSaid'. A law counts once. -/
mutual
def uptoBulk {H : Type} : DataW H → Nat
  | .lit (.string bytes) => bytes.length + 1
  | .lit _ => 1
  | .nil => 1
  | .ptr d => uptoBulk d + 1
  | .slice elems spare => uptoBulkAll elems + uptoBulkAll spare + 1
  | .agg parts => uptoBulkAll parts + 1
  | .iface _ d => uptoBulk d + 1
  | .map entries => uptoBulkEntries entries + 1
  | .held _ => 1
def uptoBulkAll {H : Type} : List (DataW H) → Nat
  | [] => 0
  | d :: r => uptoBulk d + uptoBulkAll r
def uptoBulkEntries {H : Type} : List (Lit × DataW H) → Nat
  | [] => 0
  | x :: r => uptoBulkEntry x + uptoBulkEntries r
def uptoBulkEntry {H : Type} : Lit × DataW H → Nat
  | (.string bytes, d) => bytes.length + uptoBulk d + 1
  | (_, d) => uptoBulk d + 1
 end
def uptoSmall : (H : Type) → List (DataW H) → Bool := fun _ ds => decide (uptoBulkAll ds ≤ 1048576)
def OpenSpec.upto (s : _root_.Go.ChangeSpec) : _root_.Go.OpenSpec := { _root_.Go.OpenSpec.ofChange s with cond := some uptoSmall }

/-- 'cofferslaw06.PaintTakes', WHERE WHAT IT READS IS OF BULK AT MOST 1048576: true; the input reads as it did. -/
def paintTakesUptoRow : OpenClaim := { program := "ytblnakmeaokemac", sum := "68e05bdd46a009e837077a4dde19b2270340463096b05a4493b92c51ea57e1c2", func := "coffers/cofferslaw06.PaintTakes", spec := "paintTakes", unfollowed := true, recurses := true, apart := false, narrowed := true }
def PaintTakesUptoSaid : Prop := paintTakesUptoRow.holds Try.pinned (OpenSpec.upto paintTakesSpec)

/-- 'cofferslaw06.PaintBack', WHERE WHAT IT READS IS OF BULK AT MOST 1048576: true; the input reads as it did. -/
def paintBackUptoRow : OpenClaim := { program := "ytblnakmeaokemac", sum := "68e05bdd46a009e837077a4dde19b2270340463096b05a4493b92c51ea57e1c2", func := "coffers/cofferslaw06.PaintBack", spec := "paintBack", unfollowed := true, recurses := true, apart := false, narrowed := true }
def PaintBackUptoSaid : Prop := paintBackUptoRow.holds Try.pinned (OpenSpec.upto paintBackSpec)

/-- 'cofferslaw06.PaintCuts', WHERE WHAT IT READS IS OF BULK AT MOST 1048576: true; the input reads as it did. -/
def paintCutsUptoRow : OpenClaim := { program := "ytblnakmeaokemac", sum := "68e05bdd46a009e837077a4dde19b2270340463096b05a4493b92c51ea57e1c2", func := "coffers/cofferslaw06.PaintCuts", spec := "paintCuts", unfollowed := true, recurses := true, apart := false, narrowed := true }
def PaintCutsUptoSaid : Prop := paintCutsUptoRow.holds Try.pinned (OpenSpec.upto paintCutsSpec)

/-- 'cofferslaw13.ShareTells', WHERE WHAT IT READS IS OF BULK AT MOST 1048576: true; the input reads as it did. -/
def shareTellsUptoRow : OpenClaim := { program := "ytblnakmeaokemac", sum := "68e05bdd46a009e837077a4dde19b2270340463096b05a4493b92c51ea57e1c2", func := "coffers/cofferslaw13.ShareTells", spec := "shareTells", unfollowed := true, recurses := true, apart := false, narrowed := true }
def ShareTellsUptoSaid : Prop := shareTellsUptoRow.holds Try.pinned (OpenSpec.upto shareTellsSpec)

/-- 'cofferslaw13.ShareMoves', WHERE WHAT IT READS IS OF BULK AT MOST 1048576: true; the input reads as it did. -/
def shareMovesUptoRow : OpenClaim := { program := "ytblnakmeaokemac", sum := "68e05bdd46a009e837077a4dde19b2270340463096b05a4493b92c51ea57e1c2", func := "coffers/cofferslaw13.ShareMoves", spec := "shareMoves", unfollowed := true, recurses := true, apart := false, narrowed := true }
def ShareMovesUptoSaid : Prop := shareMovesUptoRow.holds Try.pinned (OpenSpec.upto shareMovesSpec)

/-- 'cofferslaw13.ShareNone', WHERE WHAT IT READS IS OF BULK AT MOST 1048576: true; the input reads as it did. -/
def shareNoneUptoRow : OpenClaim := { program := "ytblnakmeaokemac", sum := "68e05bdd46a009e837077a4dde19b2270340463096b05a4493b92c51ea57e1c2", func := "coffers/cofferslaw13.ShareNone", spec := "shareNone", unfollowed := true, recurses := true, apart := false, narrowed := true }
def ShareNoneUptoSaid : Prop := shareNoneUptoRow.holds Try.pinned (OpenSpec.upto shareNoneSpec)

end Rows
end Go.Proofs.Ytblnakmeaokemac
