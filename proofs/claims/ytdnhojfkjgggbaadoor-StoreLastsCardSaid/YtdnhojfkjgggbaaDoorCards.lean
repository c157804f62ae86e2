/-
  DERIVED. GIVEN WITH THE SEED: THE CARDS: each row of YtdnhojfkjgggbaaDoorRows.lean that lists a variable, with what it lists TIED to the program's text (the seventh form; the later family's looks); each row that meets fmt, with fmt's text TOLD by the authors' own Lean function (tested against real Go, not proved from fmt's source: count such statements apart). THE CARD IS WHAT COUNTS. Prove the row's statement (the work); the ties are given (YtdnhojfkjgggbaaDoorTie.lean); close each card by the builder's one call (the guide's Derived/Test/ToyasCard.lean, 'card_holds'). Laid BY PROGRAM, IN A SANDBOX (cutbox-door.mjs). By AI agents, Wed Nov 11 2026. No macro, syntax, notation, axiom, sorry.
-/
import Derived.Test.YtdnhojfkjgggbaaDoorRows
import GoSem.ClaimSeven
namespace Go.Proofs.YtdnhojfkjgggbaaDoor
namespace Rows

/-- THE TIED CARD OF 'cofferslaw08.FrameScans'. -/
def frameScansCard : Claim7 := { stood := { row := frameScansRow, standIns := [], harness := (true, "c58982568f54a9f480115ba18d98649343a389df4f8457098e7e1d4c31a6784e"), looks := false }, kinds := [], alts := [], laidByText := true, laidKinds := [.data], laidTests := true, laidLooks := .later }
def FrameScansCardSaid : Prop := Claim7.holds Tryd.pinned (.plain (OpenSpec.ofChange frameScansSpec)) frameScansCard

/-- THE TIED CARD OF 'cofferslaw08.FrameCuts'. -/
def frameCutsCard : Claim7 := { stood := { row := frameCutsRow, standIns := [], harness := (true, "c58982568f54a9f480115ba18d98649343a389df4f8457098e7e1d4c31a6784e"), looks := false }, kinds := [], alts := [], laidByText := true, laidKinds := [.data], laidTests := true, laidLooks := .later }
def FrameCutsCardSaid : Prop := Claim7.holds Tryd.pinned (.plain (OpenSpec.ofChange frameCutsSpec)) frameCutsCard

/-- THE TIED CARD OF 'cofferslaw08.FrameFlips'. -/
def frameFlipsCard : Claim7 := { stood := { row := frameFlipsRow, standIns := [], harness := (true, "c58982568f54a9f480115ba18d98649343a389df4f8457098e7e1d4c31a6784e"), looks := false }, kinds := [], alts := [], laidByText := true, laidKinds := [.data], laidTests := true, laidLooks := .later }
def FrameFlipsCardSaid : Prop := Claim7.holds Tryd.pinned (.plain (OpenSpec.ofChange frameFlipsSpec)) frameFlipsCard

/-- THE TIED CARD OF 'cofferslaw09.StoreOpens'. -/
def storeOpensCard : Claim7 := { stood := { row := storeOpensRow, standIns := [], harness := (true, "c58982568f54a9f480115ba18d98649343a389df4f8457098e7e1d4c31a6784e"), looks := false }, kinds := [], alts := [], laidByText := true, laidKinds := [.data], laidTests := true, laidLooks := .later }
def StoreOpensCardSaid : Prop := Claim7.holds Tryd.pinned (.plain (OpenSpec.ofChange storeOpensSpec)) storeOpensCard

/-- THE TIED CARD OF 'cofferslaw09.StoreDo'. -/
def storeDoCard : Claim7 := { stood := { row := storeDoRow, standIns := [], harness := (true, "c58982568f54a9f480115ba18d98649343a389df4f8457098e7e1d4c31a6784e"), looks := false }, kinds := [], alts := [], laidByText := true, laidKinds := [.data], laidTests := true, laidLooks := .later }
def StoreDoCardSaid : Prop := Claim7.holds Tryd.pinned (.plain (OpenSpec.ofChange storeDoSpec)) storeDoCard

/-- THE TIED CARD OF 'cofferslaw09.StoreLasts'. -/
def storeLastsCard : Claim7 := { stood := { row := storeLastsRow, standIns := [], harness := (true, "c58982568f54a9f480115ba18d98649343a389df4f8457098e7e1d4c31a6784e"), looks := false }, kinds := [], alts := [], laidByText := true, laidKinds := [.data], laidTests := true, laidLooks := .later }
def StoreLastsCardSaid : Prop := Claim7.holds Tryd.pinned (.plain (OpenSpec.ofChange storeLastsSpec)) storeLastsCard

/-- THE SECOND FORM's CARD OF 'cofferslaw08.FrameScans'. -/
def frameScansUptoCard : Claim7 := { stood := { row := frameScansUptoRow, standIns := [], harness := (true, "c58982568f54a9f480115ba18d98649343a389df4f8457098e7e1d4c31a6784e"), looks := false }, kinds := [], alts := [], laidByText := true, laidKinds := [.data], laidTests := true, laidLooks := .later }
def FrameScansUptoCardSaid : Prop := Claim7.holds Tryd.pinned (.plain (OpenSpec.upto frameScansSpec)) frameScansUptoCard

/-- THE SECOND FORM's CARD OF 'cofferslaw08.FrameCuts'. -/
def frameCutsUptoCard : Claim7 := { stood := { row := frameCutsUptoRow, standIns := [], harness := (true, "c58982568f54a9f480115ba18d98649343a389df4f8457098e7e1d4c31a6784e"), looks := false }, kinds := [], alts := [], laidByText := true, laidKinds := [.data], laidTests := true, laidLooks := .later }
def FrameCutsUptoCardSaid : Prop := Claim7.holds Tryd.pinned (.plain (OpenSpec.upto frameCutsSpec)) frameCutsUptoCard

/-- THE SECOND FORM's CARD OF 'cofferslaw08.FrameFlips'. -/
def frameFlipsUptoCard : Claim7 := { stood := { row := frameFlipsUptoRow, standIns := [], harness := (true, "c58982568f54a9f480115ba18d98649343a389df4f8457098e7e1d4c31a6784e"), looks := false }, kinds := [], alts := [], laidByText := true, laidKinds := [.data], laidTests := true, laidLooks := .later }
def FrameFlipsUptoCardSaid : Prop := Claim7.holds Tryd.pinned (.plain (OpenSpec.upto frameFlipsSpec)) frameFlipsUptoCard

/-- THE SECOND FORM's CARD OF 'cofferslaw09.StoreOpens'. -/
def storeOpensUptoCard : Claim7 := { stood := { row := storeOpensUptoRow, standIns := [], harness := (true, "c58982568f54a9f480115ba18d98649343a389df4f8457098e7e1d4c31a6784e"), looks := false }, kinds := [], alts := [], laidByText := true, laidKinds := [.data], laidTests := true, laidLooks := .later }
def StoreOpensUptoCardSaid : Prop := Claim7.holds Tryd.pinned (.plain (OpenSpec.upto storeOpensSpec)) storeOpensUptoCard

/-- THE SECOND FORM's CARD OF 'cofferslaw09.StoreDo'. -/
def storeDoUptoCard : Claim7 := { stood := { row := storeDoUptoRow, standIns := [], harness := (true, "c58982568f54a9f480115ba18d98649343a389df4f8457098e7e1d4c31a6784e"), looks := false }, kinds := [], alts := [], laidByText := true, laidKinds := [.data], laidTests := true, laidLooks := .later }
def StoreDoUptoCardSaid : Prop := Claim7.holds Tryd.pinned (.plain (OpenSpec.upto storeDoSpec)) storeDoUptoCard

/-- THE SECOND FORM's CARD OF 'cofferslaw09.StoreLasts'. -/
def storeLastsUptoCard : Claim7 := { stood := { row := storeLastsUptoRow, standIns := [], harness := (true, "c58982568f54a9f480115ba18d98649343a389df4f8457098e7e1d4c31a6784e"), looks := false }, kinds := [], alts := [], laidByText := true, laidKinds := [.data], laidTests := true, laidLooks := .later }
def StoreLastsUptoCardSaid : Prop := Claim7.holds Tryd.pinned (.plain (OpenSpec.upto storeLastsSpec)) storeLastsUptoCard
end Rows
end Go.Proofs.YtdnhojfkjgggbaaDoor
