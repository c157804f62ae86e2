/-
  No cell of these rows narrows 'for every input' (looked for: loops, veiled, ifaces, maps, wideKeys, modest, calm, conditions, laid).
  DERIVED. THE GIVEN ROWS OF THIS SEAT. 3 by the template 'for every input the law returns true; each argument reads behind the call as it read before'; 0 by the template 'total and deterministic' (their statements: YtcikejikpnjilaaTotals.lean).
  GIVEN WITH THE SEED: the statements are not yours to turn. If you find one false, say at which input.
  Laid BY PROGRAM, IN A SANDBOX (cutbox-rows.mjs): the forced cells as the released guide's own fill.sh prints them over the translation 0f4d9d2466414802… (all of the seat's roots in one cut). By AI agents, Wed Nov 11 2026. No macro, syntax, notation, axiom, sorry.
-/
import Derived.Test.YtcikejikpnjilaaChecked
import GoSem.Claim
import GoSem.ClaimJoined
import GoSem.ClaimMapViews
import Derived.JoinedTies
import Derived.KernelRfl
namespace Go.Proofs.Ytcikejikpnjilaa
/- THE CELL 'sum', in the pinned program and in every row, IS THE sha256 OF THE DUMP (.gsa) THAT YtcikejikpnjilaaProg.lean LOADS. Nothing in Lean hashes anything: it is a label: what it is worth is what the hold of that sum in a sandbox is worth. -/
noncomputable def Try.pinned : Pinned := { name := "ytcikejikpnjilaa", sum := "0f4d9d2466414802cd9db9d2492d24d189b9a3f7fd3c284bd43f64c605070a20", checked := Try.checked }
namespace Rows
def none {H : Type} : Left H := { results := [], args := [] }

/-- 'cofferslaw16.MailTakes': WHATEVER THE INPUT: true; the input reads as it did. -/
def mailTakesSpec : ChangeSpec := { name := "mailTakes", fn := fun _ => fun
  | [d1, d2] => { results := [.lit (.bool true)], args := [d1, d2] }
  | _ => none }
def mailTakesRow : OpenClaim := { program := "ytcikejikpnjilaa", sum := "0f4d9d2466414802cd9db9d2492d24d189b9a3f7fd3c284bd43f64c605070a20", func := "coffers/cofferslaw16.MailTakes", spec := "mailTakes", unfollowed := true, recurses := true, apart := false }
def MailTakesSaid : Prop := mailTakesRow.holds Try.pinned (OpenSpec.ofChange mailTakesSpec)

/-- ITS FALSE NEIGHBOUR: 'it returns false'. Refute it at one input. -/
def mailTakesWrong : ChangeSpec := { name := "mailTakes", fn := fun _ => fun
  | [d1, d2] => { results := [.lit (.bool false)], args := [d1, d2] }
  | _ => none }
def MailTakesWrongFalsely : Prop := mailTakesRow.holds Try.pinned (OpenSpec.ofChange mailTakesWrong)

/-- 'cofferslaw16.MailBack': WHATEVER THE INPUT: true; the input reads as it did. -/
def mailBackSpec : ChangeSpec := { name := "mailBack", fn := fun _ => fun
  | [d1, d2] => { results := [.lit (.bool true)], args := [d1, d2] }
  | _ => none }
def mailBackRow : OpenClaim := { program := "ytcikejikpnjilaa", sum := "0f4d9d2466414802cd9db9d2492d24d189b9a3f7fd3c284bd43f64c605070a20", func := "coffers/cofferslaw16.MailBack", spec := "mailBack", unfollowed := true, recurses := true, apart := false }
def MailBackSaid : Prop := mailBackRow.holds Try.pinned (OpenSpec.ofChange mailBackSpec)

/-- ITS FALSE NEIGHBOUR: 'it returns false'. Refute it at one input. -/
def mailBackWrong : ChangeSpec := { name := "mailBack", fn := fun _ => fun
  | [d1, d2] => { results := [.lit (.bool false)], args := [d1, d2] }
  | _ => none }
def MailBackWrongFalsely : Prop := mailBackRow.holds Try.pinned (OpenSpec.ofChange mailBackWrong)

/-- 'cofferslaw16.MailApart': WHATEVER THE INPUT: true; the input reads as it did. -/
def mailApartSpec : ChangeSpec := { name := "mailApart", fn := fun _ => fun
  | [d1, d2, d3, d4] => { results := [.lit (.bool true)], args := [d1, d2, d3, d4] }
  | _ => none }
def mailApartRow : OpenClaim := { program := "ytcikejikpnjilaa", sum := "0f4d9d2466414802cd9db9d2492d24d189b9a3f7fd3c284bd43f64c605070a20", func := "coffers/cofferslaw16.MailApart", spec := "mailApart", unfollowed := true, recurses := true, apart := false }
def MailApartSaid : Prop := mailApartRow.holds Try.pinned (OpenSpec.ofChange mailApartSpec)

/-- ITS FALSE NEIGHBOUR: 'it returns false'. Refute it at one input. -/
def mailApartWrong : ChangeSpec := { name := "mailApart", fn := fun _ => fun
  | [d1, d2, d3, d4] => { results := [.lit (.bool false)], args := [d1, d2, d3, d4] }
  | _ => none }
def MailApartWrongFalsely : Prop := mailApartRow.holds Try.pinned (OpenSpec.ofChange mailApartWrong)

/- THE SECOND FORM. 'bulk': how many values and letters a reading holds, each counted each time it is reached (what is shared counts as often as it is met; a slice's spare places count too). A statement '..UptoSaid' is the law's where the arguments, and the package variables that the reading takes, are together of bulk at most 1048576: NARROWER than '..Said'. Prove '..Said' where nothing that the law and all that it calls make is longer than what came in: it says more and counts as full. Else prove '..UptoSaid'. A law counts once. -/
mutual
def uptoBulk {H : Type} : DataW H → Nat
  | .lit (.string bytes) => bytes.length + 1
  | .lit _ => 1
  | .nil => 1
  | .ptr d => uptoBulk d + 1
  | .slice elems spare => uptoBulkAll elems + uptoBulkAll spare + 1
  | .agg parts => uptoBulkAll parts + 1
  | .iface _ d => uptoBulk d + 1
  | .map entries => uptoBulkEntries entries + 1
  | .held _ => 1
def uptoBulkAll {H : Type} : List (DataW H) → Nat
  | [] => 0
  | d :: r => uptoBulk d + uptoBulkAll r
def uptoBulkEntries {H : Type} : List (Lit × DataW H) → Nat
  | [] => 0
  | x :: r => uptoBulkEntry x + uptoBulkEntries r
def uptoBulkEntry {H : Type} : Lit × DataW H → Nat
  | (.string bytes, d) => bytes.length + uptoBulk d + 1
  | (_, d) => uptoBulk d + 1
 end
def uptoSmall : (H : Type) → List (DataW H) → Bool := fun _ ds => decide (uptoBulkAll ds ≤ 1048576)
def OpenSpec.upto (s : _root_.Go.ChangeSpec) : _root_.Go.OpenSpec := { _root_.Go.OpenSpec.ofChange s with cond := some uptoSmall }

/-- 'cofferslaw16.MailTakes', WHERE WHAT IT READS IS OF BULK AT MOST 1048576: true; the input reads as it did. -/
def mailTakesUptoRow : OpenClaim := { program := "ytcikejikpnjilaa", sum := "0f4d9d2466414802cd9db9d2492d24d189b9a3f7fd3c284bd43f64c605070a20", func := "coffers/cofferslaw16.MailTakes", spec := "mailTakes", unfollowed := true, recurses := true, apart := false, narrowed := true }
def MailTakesUptoSaid : Prop := mailTakesUptoRow.holds Try.pinned (OpenSpec.upto mailTakesSpec)

/-- 'cofferslaw16.MailBack', WHERE WHAT IT READS IS OF BULK AT MOST 1048576: true; the input reads as it did. -/
def mailBackUptoRow : OpenClaim := { program := "ytcikejikpnjilaa", sum := "0f4d9d2466414802cd9db9d2492d24d189b9a3f7fd3c284bd43f64c605070a20", func := "coffers/cofferslaw16.MailBack", spec := "mailBack", unfollowed := true, recurses := true, apart := false, narrowed := true }
def MailBackUptoSaid : Prop := mailBackUptoRow.holds Try.pinned (OpenSpec.upto mailBackSpec)

/-- 'cofferslaw16.MailApart', WHERE WHAT IT READS IS OF BULK AT MOST 1048576: true; the input reads as it did. -/
def mailApartUptoRow : OpenClaim := { program := "ytcikejikpnjilaa", sum := "0f4d9d2466414802cd9db9d2492d24d189b9a3f7fd3c284bd43f64c605070a20", func := "coffers/cofferslaw16.MailApart", spec := "mailApart", unfollowed := true, recurses := true, apart := false, narrowed := true }
def MailApartUptoSaid : Prop := mailApartUptoRow.holds Try.pinned (OpenSpec.upto mailApartSpec)

end Rows
end Go.Proofs.Ytcikejikpnjilaa
