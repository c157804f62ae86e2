/-
  No cell of these rows narrows 'for every input' (looked for: loops, veiled, ifaces, maps, wideKeys, modest, calm, conditions, laid).
  DERIVED. THE GIVEN ROWS OF THIS SEAT. 6 by the template 'for every input the law returns true; each argument reads behind the call as it read before'; 0 by the template 'total and deterministic' (their statements: YtblnakmeaokemadTotals.lean).
  GIVEN WITH THE SEED: the statements are not yours to turn. If you find one false, say at which input.
  Laid BY PROGRAM, IN A SANDBOX (cutbox-rows.mjs): the forced cells as the released guide's own fill.sh prints them over the translation 4f80270e1d98faed… (all of the seat's roots in one cut). By AI agents, Wed Nov 11 2026. No macro, syntax, notation, axiom, sorry.
-/
import Derived.Test.YtblnakmeaokemadChecked
import GoSem.Claim
import GoSem.ClaimJoined
import GoSem.ClaimMapViews
import Derived.JoinedTies
import Derived.KernelRfl
namespace Go.Proofs.Ytblnakmeaokemad
/- THE CELL 'sum', in the pinned program and in every row, IS THE sha256 OF THE DUMP (.gsa) THAT YtblnakmeaokemadProg.lean LOADS. Nothing in Lean hashes anything: it is a label: what it is worth is what the hold of that sum in a sandbox is worth. -/
noncomputable def Try.pinned : Pinned := { name := "ytblnakmeaokemad", sum := "4f80270e1d98faed21d8e8b69375bb27e4a4059d206db5b920edd492eb58a185", checked := Try.checked }
namespace Rows
def none {H : Type} : Left H := { results := [], args := [] }

/-- 'cofferslaw14.ClaimTurns': WHATEVER THE INPUT: true; the input reads as it did. -/
def claimTurnsSpec : ChangeSpec := { name := "claimTurns", fn := fun _ => fun
  | [d1, d2, d3] => { results := [.lit (.bool true)], args := [d1, d2, d3] }
  | _ => none }
def claimTurnsRow : OpenClaim := { program := "ytblnakmeaokemad", sum := "4f80270e1d98faed21d8e8b69375bb27e4a4059d206db5b920edd492eb58a185", func := "coffers/cofferslaw14.ClaimTurns", spec := "claimTurns", unfollowed := true, recurses := true, apart := false }
def ClaimTurnsSaid : Prop := claimTurnsRow.holds Try.pinned (OpenSpec.ofChange claimTurnsSpec)

/-- ITS FALSE NEIGHBOUR: 'it returns false'. Refute it at one input. -/
def claimTurnsWrong : ChangeSpec := { name := "claimTurns", fn := fun _ => fun
  | [d1, d2, d3] => { results := [.lit (.bool false)], args := [d1, d2, d3] }
  | _ => none }
def ClaimTurnsWrongFalsely : Prop := claimTurnsRow.holds Try.pinned (OpenSpec.ofChange claimTurnsWrong)

/-- 'cofferslaw14.ClaimHears': WHATEVER THE INPUT: true; the input reads as it did. -/
def claimHearsSpec : ChangeSpec := { name := "claimHears", fn := fun _ => fun
  | [d1, d2, d3, d4] => { results := [.lit (.bool true)], args := [d1, d2, d3, d4] }
  | _ => none }
def claimHearsRow : OpenClaim := { program := "ytblnakmeaokemad", sum := "4f80270e1d98faed21d8e8b69375bb27e4a4059d206db5b920edd492eb58a185", func := "coffers/cofferslaw14.ClaimHears", spec := "claimHears", unfollowed := true, recurses := true, apart := false }
def ClaimHearsSaid : Prop := claimHearsRow.holds Try.pinned (OpenSpec.ofChange claimHearsSpec)

/-- ITS FALSE NEIGHBOUR: 'it returns false'. Refute it at one input. -/
def claimHearsWrong : ChangeSpec := { name := "claimHears", fn := fun _ => fun
  | [d1, d2, d3, d4] => { results := [.lit (.bool false)], args := [d1, d2, d3, d4] }
  | _ => none }
def ClaimHearsWrongFalsely : Prop := claimHearsRow.holds Try.pinned (OpenSpec.ofChange claimHearsWrong)

/-- 'cofferslaw14.ClaimStays': WHATEVER THE INPUT: true; the input reads as it did. -/
def claimStaysSpec : ChangeSpec := { name := "claimStays", fn := fun _ => fun
  | [d1, d2, d3, d4, d5] => { results := [.lit (.bool true)], args := [d1, d2, d3, d4, d5] }
  | _ => none }
def claimStaysRow : OpenClaim := { program := "ytblnakmeaokemad", sum := "4f80270e1d98faed21d8e8b69375bb27e4a4059d206db5b920edd492eb58a185", func := "coffers/cofferslaw14.ClaimStays", spec := "claimStays", unfollowed := true, recurses := true, apart := false }
def ClaimStaysSaid : Prop := claimStaysRow.holds Try.pinned (OpenSpec.ofChange claimStaysSpec)

/-- ITS FALSE NEIGHBOUR: 'it returns false'. Refute it at one input. -/
def claimStaysWrong : ChangeSpec := { name := "claimStays", fn := fun _ => fun
  | [d1, d2, d3, d4, d5] => { results := [.lit (.bool false)], args := [d1, d2, d3, d4, d5] }
  | _ => none }
def ClaimStaysWrongFalsely : Prop := claimStaysRow.holds Try.pinned (OpenSpec.ofChange claimStaysWrong)

/-- 'cofferslaw15.AuditAlone': WHATEVER THE INPUT: true; the input reads as it did. -/
def auditAloneSpec : ChangeSpec := { name := "auditAlone", fn := fun _ => fun
  | [d1, d2, d3] => { results := [.lit (.bool true)], args := [d1, d2, d3] }
  | _ => none }
def auditAloneRow : OpenClaim := { program := "ytblnakmeaokemad", sum := "4f80270e1d98faed21d8e8b69375bb27e4a4059d206db5b920edd492eb58a185", func := "coffers/cofferslaw15.AuditAlone", spec := "auditAlone", unfollowed := true, recurses := true, apart := false }
def AuditAloneSaid : Prop := auditAloneRow.holds Try.pinned (OpenSpec.ofChange auditAloneSpec)

/-- ITS FALSE NEIGHBOUR: 'it returns false'. Refute it at one input. -/
def auditAloneWrong : ChangeSpec := { name := "auditAlone", fn := fun _ => fun
  | [d1, d2, d3] => { results := [.lit (.bool false)], args := [d1, d2, d3] }
  | _ => none }
def AuditAloneWrongFalsely : Prop := auditAloneRow.holds Try.pinned (OpenSpec.ofChange auditAloneWrong)

/-- 'cofferslaw15.AuditRuns': WHATEVER THE INPUT: true; the input reads as it did. -/
def auditRunsSpec : ChangeSpec := { name := "auditRuns", fn := fun _ => fun
  | [d1, d2, d3, d4, d5] => { results := [.lit (.bool true)], args := [d1, d2, d3, d4, d5] }
  | _ => none }
def auditRunsRow : OpenClaim := { program := "ytblnakmeaokemad", sum := "4f80270e1d98faed21d8e8b69375bb27e4a4059d206db5b920edd492eb58a185", func := "coffers/cofferslaw15.AuditRuns", spec := "auditRuns", unfollowed := true, recurses := true, apart := false }
def AuditRunsSaid : Prop := auditRunsRow.holds Try.pinned (OpenSpec.ofChange auditRunsSpec)

/-- ITS FALSE NEIGHBOUR: 'it returns false'. Refute it at one input. -/
def auditRunsWrong : ChangeSpec := { name := "auditRuns", fn := fun _ => fun
  | [d1, d2, d3, d4, d5] => { results := [.lit (.bool false)], args := [d1, d2, d3, d4, d5] }
  | _ => none }
def AuditRunsWrongFalsely : Prop := auditRunsRow.holds Try.pinned (OpenSpec.ofChange auditRunsWrong)

/-- 'cofferslaw15.AuditMost': WHATEVER THE INPUT: true; the input reads as it did. -/
def auditMostSpec : ChangeSpec := { name := "auditMost", fn := fun _ => fun
  | [d1, d2, d3, d4] => { results := [.lit (.bool true)], args := [d1, d2, d3, d4] }
  | _ => none }
def auditMostRow : OpenClaim := { program := "ytblnakmeaokemad", sum := "4f80270e1d98faed21d8e8b69375bb27e4a4059d206db5b920edd492eb58a185", func := "coffers/cofferslaw15.AuditMost", spec := "auditMost", unfollowed := true, recurses := true, apart := false }
def AuditMostSaid : Prop := auditMostRow.holds Try.pinned (OpenSpec.ofChange auditMostSpec)

/-- ITS FALSE NEIGHBOUR: 'it returns false'. Refute it at one input. -/
def auditMostWrong : ChangeSpec := { name := "auditMost", fn := fun _ => fun
  | [d1, d2, d3, d4] => { results := [.lit (.bool false)], args := [d1, d2, d3, d4] }
  | _ => none }
def AuditMostWrongFalsely : Prop := auditMostRow.holds Try.pinned (OpenSpec.ofChange auditMostWrong)

/- THE SECOND FORM. 'bulk': how many values and letters a reading holds, each counted each time it is reached (what is shared counts as often as it is met; a slice's spare places count too). A statement '..UptoSaid' is the law's where the arguments, and the package variables that the reading takes, are together of bulk at most 1048576: NARROWER than '..Said'. Prove '..Said' where nothing that the law and all that it calls make is longer than what came in: it says more and counts as full. Else prove '..UptoSaid'. A law counts once. -/
mutual
def uptoBulk {H : Type} : DataW H → Nat
  | .lit (.string bytes) => bytes.length + 1
  | .lit _ => 1
  | .nil => 1
  | .ptr d => uptoBulk d + 1
  | .slice elems spare => uptoBulkAll elems + uptoBulkAll spare + 1
  | .agg parts => uptoBulkAll parts + 1
  | .iface _ d => uptoBulk d + 1
  | .map entries => uptoBulkEntries entries + 1
  | .held _ => 1
def uptoBulkAll {H : Type} : List (DataW H) → Nat
  | [] => 0
  | d :: r => uptoBulk d + uptoBulkAll r
def uptoBulkEntries {H : Type} : List (Lit × DataW H) → Nat
  | [] => 0
  | x :: r => uptoBulkEntry x + uptoBulkEntries r
def uptoBulkEntry {H : Type} : Lit × DataW H → Nat
  | (.string bytes, d) => bytes.length + uptoBulk d + 1
  | (_, d) => uptoBulk d + 1
 end
def uptoSmall : (H : Type) → List (DataW H) → Bool := fun _ ds => decide (uptoBulkAll ds ≤ 1048576)
def OpenSpec.upto (s : _root_.Go.ChangeSpec) : _root_.Go.OpenSpec := { _root_.Go.OpenSpec.ofChange s with cond := some uptoSmall }

/-- 'cofferslaw14.ClaimTurns', WHERE WHAT IT READS IS OF BULK AT MOST 1048576: true; the input reads as it did. -/
def claimTurnsUptoRow : OpenClaim := { program := "ytblnakmeaokemad", sum := "4f80270e1d98faed21d8e8b69375bb27e4a4059d206db5b920edd492eb58a185", func := "coffers/cofferslaw14.ClaimTurns", spec := "claimTurns", unfollowed := true, recurses := true, apart := false, narrowed := true }
def ClaimTurnsUptoSaid : Prop := claimTurnsUptoRow.holds Try.pinned (OpenSpec.upto claimTurnsSpec)

/-- 'cofferslaw14.ClaimHears', WHERE WHAT IT READS IS OF BULK AT MOST 1048576: true; the input reads as it did. -/
def claimHearsUptoRow : OpenClaim := { program := "ytblnakmeaokemad", sum := "4f80270e1d98faed21d8e8b69375bb27e4a4059d206db5b920edd492eb58a185", func := "coffers/cofferslaw14.ClaimHears", spec := "claimHears", unfollowed := true, recurses := true, apart := false, narrowed := true }
def ClaimHearsUptoSaid : Prop := claimHearsUptoRow.holds Try.pinned (OpenSpec.upto claimHearsSpec)

/-- 'cofferslaw14.ClaimStays', WHERE WHAT IT READS IS OF BULK AT MOST 1048576: true; the input reads as it did. -/
def claimStaysUptoRow : OpenClaim := { program := "ytblnakmeaokemad", sum := "4f80270e1d98faed21d8e8b69375bb27e4a4059d206db5b920edd492eb58a185", func := "coffers/cofferslaw14.ClaimStays", spec := "claimStays", unfollowed := true, recurses := true, apart := false, narrowed := true }
def ClaimStaysUptoSaid : Prop := claimStaysUptoRow.holds Try.pinned (OpenSpec.upto claimStaysSpec)

/-- 'cofferslaw15.AuditAlone', WHERE WHAT IT READS IS OF BULK AT MOST 1048576: true; the input reads as it did. -/
def auditAloneUptoRow : OpenClaim := { program := "ytblnakmeaokemad", sum := "4f80270e1d98faed21d8e8b69375bb27e4a4059d206db5b920edd492eb58a185", func := "coffers/cofferslaw15.AuditAlone", spec := "auditAlone", unfollowed := true, recurses := true, apart := false, narrowed := true }
def AuditAloneUptoSaid : Prop := auditAloneUptoRow.holds Try.pinned (OpenSpec.upto auditAloneSpec)

/-- 'cofferslaw15.AuditRuns', WHERE WHAT IT READS IS OF BULK AT MOST 1048576: true; the input reads as it did. -/
def auditRunsUptoRow : OpenClaim := { program := "ytblnakmeaokemad", sum := "4f80270e1d98faed21d8e8b69375bb27e4a4059d206db5b920edd492eb58a185", func := "coffers/cofferslaw15.AuditRuns", spec := "auditRuns", unfollowed := true, recurses := true, apart := false, narrowed := true }
def AuditRunsUptoSaid : Prop := auditRunsUptoRow.holds Try.pinned (OpenSpec.upto auditRunsSpec)

/-- 'cofferslaw15.AuditMost', WHERE WHAT IT READS IS OF BULK AT MOST 1048576: true; the input reads as it did. -/
def auditMostUptoRow : OpenClaim := { program := "ytblnakmeaokemad", sum := "4f80270e1d98faed21d8e8b69375bb27e4a4059d206db5b920edd492eb58a185", func := "coffers/cofferslaw15.AuditMost", spec := "auditMost", unfollowed := true, recurses := true, apart := false, narrowed := true }
def AuditMostUptoSaid : Prop := auditMostUptoRow.holds Try.pinned (OpenSpec.upto auditMostSpec)

end Rows
end Go.Proofs.Ytblnakmeaokemad
