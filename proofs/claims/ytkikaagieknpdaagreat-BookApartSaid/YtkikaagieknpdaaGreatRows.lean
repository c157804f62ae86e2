/-
  No cell of these rows narrows 'for every input' (looked for: loops, veiled, ifaces, maps, wideKeys, modest, calm, conditions, laid).
  DERIVED. THE GIVEN ROWS OF THIS SEAT. 3 by the template 'for every input the law returns true; each argument reads behind the call as it read before'; 0 by the template 'total and deterministic' (their statements: YtkikaagieknpdaaGreatTotals.lean).
  GIVEN WITH THE SEED: the statements are not yours to turn. If you find one false, say at which input.
  Laid BY PROGRAM, IN A SANDBOX (cutbox-rows.mjs): the forced cells as the released guide's own fill.sh prints them over the translation 5397b8852e5623a8… (all of the seat's roots in one cut). By AI agents, Wed Nov 11 2026. No macro, syntax, notation, axiom, sorry.
-/
import Derived.Test.YtkikaagieknpdaaGreatChecked
import GoSem.Claim
import GoSem.ClaimJoined
import GoSem.ClaimMapViews
import Derived.JoinedTies
import Derived.KernelRfl
namespace Go.Proofs.YtkikaagieknpdaaGreat
/- THE CELL 'sum', in the pinned program and in every row, IS THE sha256 OF THE DUMP (.gsa) THAT YtkikaagieknpdaaGreatProg.lean LOADS. Nothing in Lean hashes anything: it is a label: what it is worth is what the hold of that sum in a sandbox is worth. -/
noncomputable def Tryz.pinned : Pinned := { name := "ytkikaagieknpdaagreat", sum := "5397b8852e5623a8583138d2aa6b1323e92981ff81a4abccef917242338c45c4", checked := Tryz.checked }
namespace Rows
def none {H : Type} : Left H := { results := [], args := [] }

/-- 'cofferslaw17.BookTakes': WHATEVER THE INPUT: true; the input reads as it did. -/
def bookTakesSpec : ChangeSpec := { name := "bookTakes", fn := fun _ => fun
  | [d1, d2, d3] => { results := [.lit (.bool true)], args := [d1, d2, d3] }
  | _ => none }
def bookTakesRow : OpenClaim := { program := "ytkikaagieknpdaagreat", sum := "5397b8852e5623a8583138d2aa6b1323e92981ff81a4abccef917242338c45c4", func := "coffers/cofferslaw17.BookTakes", spec := "bookTakes", unfollowed := true, recurses := true, apart := false }
def BookTakesSaid : Prop := bookTakesRow.holds Tryz.pinned (OpenSpec.ofChange bookTakesSpec)

/-- ITS FALSE NEIGHBOUR: 'it returns false'. Refute it at one input. -/
def bookTakesWrong : ChangeSpec := { name := "bookTakes", fn := fun _ => fun
  | [d1, d2, d3] => { results := [.lit (.bool false)], args := [d1, d2, d3] }
  | _ => none }
def BookTakesWrongFalsely : Prop := bookTakesRow.holds Tryz.pinned (OpenSpec.ofChange bookTakesWrong)

/-- 'cofferslaw17.BookBack': WHATEVER THE INPUT: true; the input reads as it did. -/
def bookBackSpec : ChangeSpec := { name := "bookBack", fn := fun _ => fun
  | [d1, d2, d3] => { results := [.lit (.bool true)], args := [d1, d2, d3] }
  | _ => none }
def bookBackRow : OpenClaim := { program := "ytkikaagieknpdaagreat", sum := "5397b8852e5623a8583138d2aa6b1323e92981ff81a4abccef917242338c45c4", func := "coffers/cofferslaw17.BookBack", spec := "bookBack", unfollowed := true, recurses := true, apart := false }
def BookBackSaid : Prop := bookBackRow.holds Tryz.pinned (OpenSpec.ofChange bookBackSpec)

/-- ITS FALSE NEIGHBOUR: 'it returns false'. Refute it at one input. -/
def bookBackWrong : ChangeSpec := { name := "bookBack", fn := fun _ => fun
  | [d1, d2, d3] => { results := [.lit (.bool false)], args := [d1, d2, d3] }
  | _ => none }
def BookBackWrongFalsely : Prop := bookBackRow.holds Tryz.pinned (OpenSpec.ofChange bookBackWrong)

/-- 'cofferslaw17.BookApart': WHATEVER THE INPUT: true; the input reads as it did. -/
def bookApartSpec : ChangeSpec := { name := "bookApart", fn := fun _ => fun
  | [d1, d2, d3, d4, d5] => { results := [.lit (.bool true)], args := [d1, d2, d3, d4, d5] }
  | _ => none }
def bookApartRow : OpenClaim := { program := "ytkikaagieknpdaagreat", sum := "5397b8852e5623a8583138d2aa6b1323e92981ff81a4abccef917242338c45c4", func := "coffers/cofferslaw17.BookApart", spec := "bookApart", unfollowed := true, recurses := true, apart := false }
def BookApartSaid : Prop := bookApartRow.holds Tryz.pinned (OpenSpec.ofChange bookApartSpec)

/-- ITS FALSE NEIGHBOUR: 'it returns false'. Refute it at one input. -/
def bookApartWrong : ChangeSpec := { name := "bookApart", fn := fun _ => fun
  | [d1, d2, d3, d4, d5] => { results := [.lit (.bool false)], args := [d1, d2, d3, d4, d5] }
  | _ => none }
def BookApartWrongFalsely : Prop := bookApartRow.holds Tryz.pinned (OpenSpec.ofChange bookApartWrong)

/- THE SECOND FORM. 'bulk': how many values and letters a reading holds, each counted each time it is reached (what is shared counts as often as it is met; a slice's spare places count too). A statement '..UptoSaid' is the law's where the arguments, and the package variables that the reading takes, are together of bulk at most 1048576: NARROWER than '..Said'. Prove '..Said' where nothing that the law and all that it calls make is longer than what came in: it says more and counts as full. Else prove '..UptoSaid'. A law counts once. -/
mutual
def uptoBulk {H : Type} : DataW H → Nat
  | .lit (.string bytes) => bytes.length + 1
  | .lit _ => 1
  | .nil => 1
  | .ptr d => uptoBulk d + 1
  | .slice elems spare => uptoBulkAll elems + uptoBulkAll spare + 1
  | .agg parts => uptoBulkAll parts + 1
  | .iface _ d => uptoBulk d + 1
  | .map entries => uptoBulkEntries entries + 1
  | .held _ => 1
def uptoBulkAll {H : Type} : List (DataW H) → Nat
  | [] => 0
  | d :: r => uptoBulk d + uptoBulkAll r
def uptoBulkEntries {H : Type} : List (Lit × DataW H) → Nat
  | [] => 0
  | x :: r => uptoBulkEntry x + uptoBulkEntries r
def uptoBulkEntry {H : Type} : Lit × DataW H → Nat
  | (.string bytes, d) => bytes.length + uptoBulk d + 1
  | (_, d) => uptoBulk d + 1
 end
def uptoSmall : (H : Type) → List (DataW H) → Bool := fun _ ds => decide (uptoBulkAll ds ≤ 1048576)
def OpenSpec.upto (s : _root_.Go.ChangeSpec) : _root_.Go.OpenSpec := { _root_.Go.OpenSpec.ofChange s with cond := some uptoSmall }

/-- 'cofferslaw17.BookTakes', WHERE WHAT IT READS IS OF BULK AT MOST 1048576: true; the input reads as it did. -/
def bookTakesUptoRow : OpenClaim := { program := "ytkikaagieknpdaagreat", sum := "5397b8852e5623a8583138d2aa6b1323e92981ff81a4abccef917242338c45c4", func := "coffers/cofferslaw17.BookTakes", spec := "bookTakes", unfollowed := true, recurses := true, apart := false, narrowed := true }
def BookTakesUptoSaid : Prop := bookTakesUptoRow.holds Tryz.pinned (OpenSpec.upto bookTakesSpec)

/-- 'cofferslaw17.BookBack', WHERE WHAT IT READS IS OF BULK AT MOST 1048576: true; the input reads as it did. -/
def bookBackUptoRow : OpenClaim := { program := "ytkikaagieknpdaagreat", sum := "5397b8852e5623a8583138d2aa6b1323e92981ff81a4abccef917242338c45c4", func := "coffers/cofferslaw17.BookBack", spec := "bookBack", unfollowed := true, recurses := true, apart := false, narrowed := true }
def BookBackUptoSaid : Prop := bookBackUptoRow.holds Tryz.pinned (OpenSpec.upto bookBackSpec)

/-- 'cofferslaw17.BookApart', WHERE WHAT IT READS IS OF BULK AT MOST 1048576: true; the input reads as it did. -/
def bookApartUptoRow : OpenClaim := { program := "ytkikaagieknpdaagreat", sum := "5397b8852e5623a8583138d2aa6b1323e92981ff81a4abccef917242338c45c4", func := "coffers/cofferslaw17.BookApart", spec := "bookApart", unfollowed := true, recurses := true, apart := false, narrowed := true }
def BookApartUptoSaid : Prop := bookApartUptoRow.holds Tryz.pinned (OpenSpec.upto bookApartSpec)

end Rows
end Go.Proofs.YtkikaagieknpdaaGreat
