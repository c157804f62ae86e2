/-
  NARROWER THAN 'FOR EVERY INPUT', by the rows' own cells (each row's printed sentence says how): FrameScans: laid · FrameCuts: laid · FrameFlips: laid · StoreOpens: laid · StoreDo: laid · StoreLasts: laid.
  DERIVED. THE GIVEN ROWS OF THIS SEAT. 6 by the template 'for every input the law returns true; each argument reads behind the call as it read before'; 0 by the template 'total and deterministic' (their statements: YtdnhojfkjgggbaaDoorTotals.lean).
  GIVEN WITH THE SEED: the statements are not yours to turn. If you find one false, say at which input.
  Laid BY PROGRAM, IN A SANDBOX (cutbox-rows.mjs): the forced cells as the released guide's own fill.sh prints them over the translation 851d40f99f9d0902… (all of the seat's roots in one cut). By AI agents, Wed Nov 11 2026. No macro, syntax, notation, axiom, sorry.
-/
import Derived.Test.YtdnhojfkjgggbaaDoorChecked
import GoSem.Claim
import GoSem.ClaimJoined
import GoSem.ClaimMapViews
import Derived.JoinedTies
import Derived.KernelRfl
namespace Go.Proofs.YtdnhojfkjgggbaaDoor
/- THE CELL 'sum', in the pinned program and in every row, IS THE sha256 OF THE DUMP (.gsa) THAT YtdnhojfkjgggbaaDoorProg.lean LOADS. Nothing in Lean hashes anything: it is a label: what it is worth is what the hold of that sum in a sandbox is worth. -/
noncomputable def Tryd.pinned : Pinned := { name := "ytdnhojfkjgggbaadoor", sum := "851d40f99f9d0902efdca07d85ac965c15462235ec05d69405765bbcd79a4181", checked := Tryd.checked }
namespace Rows
def none {H : Type} : Left H := { results := [], args := [] }

/- WHAT THE LISTED PACKAGE-LEVEL VARIABLES READ AS WHEN THE CALL BEGINS. Each datum BY PROGRAM (the guide's laid-datum.mjs) off the statement by which the dump's own 'gosem.cut.vars' lays the variable. In a bare row this is a premise. The card (YtdnhojfkjgggbaaDoorCards.lean) ties it to the program's text. -/
def laid_coffers_crc_half {H : Type} : DataW H := .agg [.lit (.int .u32 0), .lit (.int .u32 498536548), .lit (.int .u32 997073096), .lit (.int .u32 651767980), .lit (.int .u32 1994146192), .lit (.int .u32 1802195444), .lit (.int .u32 1303535960), .lit (.int .u32 1342533948), .lit (.int .u32 3988292384), .lit (.int .u32 4027552580), .lit (.int .u32 3604390888), .lit (.int .u32 3412177804), .lit (.int .u32 2607071920), .lit (.int .u32 2262029012), .lit (.int .u32 2685067896), .lit (.int .u32 3183342108)]

/-- 'cofferslaw08.FrameScans': WHATEVER THE INPUT: true; the input reads as it did. -/
def frameScansSpec : ChangeSpec := { name := "frameScans", fn := fun _ => fun
  | [d] => { results := [.lit (.bool true)], args := [d] }
  | _ => none }
def frameScansRow : OpenClaim := { program := "ytdnhojfkjgggbaadoor", sum := "851d40f99f9d0902efdca07d85ac965c15462235ec05d69405765bbcd79a4181", func := "coffers/cofferslaw08.FrameScans", spec := "frameScans", named := ["coffers/crc.half"], apart := false, laid := [("coffers/crc.half", laid_coffers_crc_half)] }
def FrameScansSaid : Prop := frameScansRow.holds Tryd.pinned (OpenSpec.ofChange frameScansSpec)

/-- ITS FALSE NEIGHBOUR: 'it returns false'. Refute it at one input. -/
def frameScansWrong : ChangeSpec := { name := "frameScans", fn := fun _ => fun
  | [d] => { results := [.lit (.bool false)], args := [d] }
  | _ => none }
def FrameScansWrongFalsely : Prop := frameScansRow.holds Tryd.pinned (OpenSpec.ofChange frameScansWrong)

/-- 'cofferslaw08.FrameCuts': WHATEVER THE INPUT: true; the input reads as it did. -/
def frameCutsSpec : ChangeSpec := { name := "frameCuts", fn := fun _ => fun
  | [d1, d2] => { results := [.lit (.bool true)], args := [d1, d2] }
  | _ => none }
def frameCutsRow : OpenClaim := { program := "ytdnhojfkjgggbaadoor", sum := "851d40f99f9d0902efdca07d85ac965c15462235ec05d69405765bbcd79a4181", func := "coffers/cofferslaw08.FrameCuts", spec := "frameCuts", named := ["coffers/crc.half"], apart := false, laid := [("coffers/crc.half", laid_coffers_crc_half)] }
def FrameCutsSaid : Prop := frameCutsRow.holds Tryd.pinned (OpenSpec.ofChange frameCutsSpec)

/-- ITS FALSE NEIGHBOUR: 'it returns false'. Refute it at one input. -/
def frameCutsWrong : ChangeSpec := { name := "frameCuts", fn := fun _ => fun
  | [d1, d2] => { results := [.lit (.bool false)], args := [d1, d2] }
  | _ => none }
def FrameCutsWrongFalsely : Prop := frameCutsRow.holds Tryd.pinned (OpenSpec.ofChange frameCutsWrong)

/-- 'cofferslaw08.FrameFlips': WHATEVER THE INPUT: true; the input reads as it did. -/
def frameFlipsSpec : ChangeSpec := { name := "frameFlips", fn := fun _ => fun
  | [d1, d2, d3, d4] => { results := [.lit (.bool true)], args := [d1, d2, d3, d4] }
  | _ => none }
def frameFlipsRow : OpenClaim := { program := "ytdnhojfkjgggbaadoor", sum := "851d40f99f9d0902efdca07d85ac965c15462235ec05d69405765bbcd79a4181", func := "coffers/cofferslaw08.FrameFlips", spec := "frameFlips", named := ["coffers/crc.half"], apart := false, laid := [("coffers/crc.half", laid_coffers_crc_half)] }
def FrameFlipsSaid : Prop := frameFlipsRow.holds Tryd.pinned (OpenSpec.ofChange frameFlipsSpec)

/-- ITS FALSE NEIGHBOUR: 'it returns false'. Refute it at one input. -/
def frameFlipsWrong : ChangeSpec := { name := "frameFlips", fn := fun _ => fun
  | [d1, d2, d3, d4] => { results := [.lit (.bool false)], args := [d1, d2, d3, d4] }
  | _ => none }
def FrameFlipsWrongFalsely : Prop := frameFlipsRow.holds Tryd.pinned (OpenSpec.ofChange frameFlipsWrong)

/-- 'cofferslaw09.StoreOpens': WHATEVER THE INPUT: true; the input reads as it did. -/
def storeOpensSpec : ChangeSpec := { name := "storeOpens", fn := fun _ => fun
  | [d] => { results := [.lit (.bool true)], args := [d] }
  | _ => none }
def storeOpensRow : OpenClaim := { program := "ytdnhojfkjgggbaadoor", sum := "851d40f99f9d0902efdca07d85ac965c15462235ec05d69405765bbcd79a4181", func := "coffers/cofferslaw09.StoreOpens", spec := "storeOpens", unfollowed := true, recurses := true, named := ["coffers/crc.half"], apart := false, laid := [("coffers/crc.half", laid_coffers_crc_half)] }
def StoreOpensSaid : Prop := storeOpensRow.holds Tryd.pinned (OpenSpec.ofChange storeOpensSpec)

/-- ITS FALSE NEIGHBOUR: 'it returns false'. Refute it at one input. -/
def storeOpensWrong : ChangeSpec := { name := "storeOpens", fn := fun _ => fun
  | [d] => { results := [.lit (.bool false)], args := [d] }
  | _ => none }
def StoreOpensWrongFalsely : Prop := storeOpensRow.holds Tryd.pinned (OpenSpec.ofChange storeOpensWrong)

/-- 'cofferslaw09.StoreDo': WHATEVER THE INPUT: true; the input reads as it did. -/
def storeDoSpec : ChangeSpec := { name := "storeDo", fn := fun _ => fun
  | [d1, d2, d3, d4] => { results := [.lit (.bool true)], args := [d1, d2, d3, d4] }
  | _ => none }
def storeDoRow : OpenClaim := { program := "ytdnhojfkjgggbaadoor", sum := "851d40f99f9d0902efdca07d85ac965c15462235ec05d69405765bbcd79a4181", func := "coffers/cofferslaw09.StoreDo", spec := "storeDo", unfollowed := true, recurses := true, named := ["coffers/crc.half"], apart := false, laid := [("coffers/crc.half", laid_coffers_crc_half)] }
def StoreDoSaid : Prop := storeDoRow.holds Tryd.pinned (OpenSpec.ofChange storeDoSpec)

/-- ITS FALSE NEIGHBOUR: 'it returns false'. Refute it at one input. -/
def storeDoWrong : ChangeSpec := { name := "storeDo", fn := fun _ => fun
  | [d1, d2, d3, d4] => { results := [.lit (.bool false)], args := [d1, d2, d3, d4] }
  | _ => none }
def StoreDoWrongFalsely : Prop := storeDoRow.holds Tryd.pinned (OpenSpec.ofChange storeDoWrong)

/-- 'cofferslaw09.StoreLasts': WHATEVER THE INPUT: true; the input reads as it did. -/
def storeLastsSpec : ChangeSpec := { name := "storeLasts", fn := fun _ => fun
  | [d1, d2, d3, d4] => { results := [.lit (.bool true)], args := [d1, d2, d3, d4] }
  | _ => none }
def storeLastsRow : OpenClaim := { program := "ytdnhojfkjgggbaadoor", sum := "851d40f99f9d0902efdca07d85ac965c15462235ec05d69405765bbcd79a4181", func := "coffers/cofferslaw09.StoreLasts", spec := "storeLasts", unfollowed := true, recurses := true, named := ["coffers/crc.half"], apart := false, laid := [("coffers/crc.half", laid_coffers_crc_half)] }
def StoreLastsSaid : Prop := storeLastsRow.holds Tryd.pinned (OpenSpec.ofChange storeLastsSpec)

/-- ITS FALSE NEIGHBOUR: 'it returns false'. Refute it at one input. -/
def storeLastsWrong : ChangeSpec := { name := "storeLasts", fn := fun _ => fun
  | [d1, d2, d3, d4] => { results := [.lit (.bool false)], args := [d1, d2, d3, d4] }
  | _ => none }
def StoreLastsWrongFalsely : Prop := storeLastsRow.holds Tryd.pinned (OpenSpec.ofChange storeLastsWrong)

/- THE SECOND FORM. 'bulk': how many values and letters a reading holds, each counted each time it is reached (what is shared counts as often as it is met; a slice's spare places count too). A statement '..UptoSaid' is the law's where the arguments, and the package variables that the reading takes, are together of bulk at most 1048576: NARROWER than '..Said'. Prove '..Said' where nothing that the law and all that it calls make is longer than what came in: it says more and counts as full. Else prove '..UptoSaid'. A law counts once. -/
mutual
def uptoBulk {H : Type} : DataW H → Nat
  | .lit (.string bytes) => bytes.length + 1
  | .lit _ => 1
  | .nil => 1
  | .ptr d => uptoBulk d + 1
  | .slice elems spare => uptoBulkAll elems + uptoBulkAll spare + 1
  | .agg parts => uptoBulkAll parts + 1
  | .iface _ d => uptoBulk d + 1
  | .map entries => uptoBulkEntries entries + 1
  | .held _ => 1
def uptoBulkAll {H : Type} : List (DataW H) → Nat
  | [] => 0
  | d :: r => uptoBulk d + uptoBulkAll r
def uptoBulkEntries {H : Type} : List (Lit × DataW H) → Nat
  | [] => 0
  | x :: r => uptoBulkEntry x + uptoBulkEntries r
def uptoBulkEntry {H : Type} : Lit × DataW H → Nat
  | (.string bytes, d) => bytes.length + uptoBulk d + 1
  | (_, d) => uptoBulk d + 1
 end
def uptoSmall : (H : Type) → List (DataW H) → Bool := fun _ ds => decide (uptoBulkAll ds ≤ 1048576)
def OpenSpec.upto (s : _root_.Go.ChangeSpec) : _root_.Go.OpenSpec := { _root_.Go.OpenSpec.ofChange s with cond := some uptoSmall }

/-- 'cofferslaw08.FrameScans', WHERE WHAT IT READS IS OF BULK AT MOST 1048576: true; the input reads as it did. -/
def frameScansUptoRow : OpenClaim := { program := "ytdnhojfkjgggbaadoor", sum := "851d40f99f9d0902efdca07d85ac965c15462235ec05d69405765bbcd79a4181", func := "coffers/cofferslaw08.FrameScans", spec := "frameScans", named := ["coffers/crc.half"], apart := false, laid := [("coffers/crc.half", laid_coffers_crc_half)], narrowed := true }
def FrameScansUptoSaid : Prop := frameScansUptoRow.holds Tryd.pinned (OpenSpec.upto frameScansSpec)

/-- 'cofferslaw08.FrameCuts', WHERE WHAT IT READS IS OF BULK AT MOST 1048576: true; the input reads as it did. -/
def frameCutsUptoRow : OpenClaim := { program := "ytdnhojfkjgggbaadoor", sum := "851d40f99f9d0902efdca07d85ac965c15462235ec05d69405765bbcd79a4181", func := "coffers/cofferslaw08.FrameCuts", spec := "frameCuts", named := ["coffers/crc.half"], apart := false, laid := [("coffers/crc.half", laid_coffers_crc_half)], narrowed := true }
def FrameCutsUptoSaid : Prop := frameCutsUptoRow.holds Tryd.pinned (OpenSpec.upto frameCutsSpec)

/-- 'cofferslaw08.FrameFlips', WHERE WHAT IT READS IS OF BULK AT MOST 1048576: true; the input reads as it did. -/
def frameFlipsUptoRow : OpenClaim := { program := "ytdnhojfkjgggbaadoor", sum := "851d40f99f9d0902efdca07d85ac965c15462235ec05d69405765bbcd79a4181", func := "coffers/cofferslaw08.FrameFlips", spec := "frameFlips", named := ["coffers/crc.half"], apart := false, laid := [("coffers/crc.half", laid_coffers_crc_half)], narrowed := true }
def FrameFlipsUptoSaid : Prop := frameFlipsUptoRow.holds Tryd.pinned (OpenSpec.upto frameFlipsSpec)

/-- 'cofferslaw09.StoreOpens', WHERE WHAT IT READS IS OF BULK AT MOST 1048576: true; the input reads as it did. -/
def storeOpensUptoRow : OpenClaim := { program := "ytdnhojfkjgggbaadoor", sum := "851d40f99f9d0902efdca07d85ac965c15462235ec05d69405765bbcd79a4181", func := "coffers/cofferslaw09.StoreOpens", spec := "storeOpens", unfollowed := true, recurses := true, named := ["coffers/crc.half"], apart := false, laid := [("coffers/crc.half", laid_coffers_crc_half)], narrowed := true }
def StoreOpensUptoSaid : Prop := storeOpensUptoRow.holds Tryd.pinned (OpenSpec.upto storeOpensSpec)

/-- 'cofferslaw09.StoreDo', WHERE WHAT IT READS IS OF BULK AT MOST 1048576: true; the input reads as it did. -/
def storeDoUptoRow : OpenClaim := { program := "ytdnhojfkjgggbaadoor", sum := "851d40f99f9d0902efdca07d85ac965c15462235ec05d69405765bbcd79a4181", func := "coffers/cofferslaw09.StoreDo", spec := "storeDo", unfollowed := true, recurses := true, named := ["coffers/crc.half"], apart := false, laid := [("coffers/crc.half", laid_coffers_crc_half)], narrowed := true }
def StoreDoUptoSaid : Prop := storeDoUptoRow.holds Tryd.pinned (OpenSpec.upto storeDoSpec)

/-- 'cofferslaw09.StoreLasts', WHERE WHAT IT READS IS OF BULK AT MOST 1048576: true; the input reads as it did. -/
def storeLastsUptoRow : OpenClaim := { program := "ytdnhojfkjgggbaadoor", sum := "851d40f99f9d0902efdca07d85ac965c15462235ec05d69405765bbcd79a4181", func := "coffers/cofferslaw09.StoreLasts", spec := "storeLasts", unfollowed := true, recurses := true, named := ["coffers/crc.half"], apart := false, laid := [("coffers/crc.half", laid_coffers_crc_half)], narrowed := true }
def StoreLastsUptoSaid : Prop := storeLastsUptoRow.holds Tryd.pinned (OpenSpec.upto storeLastsSpec)

end Rows
end Go.Proofs.YtdnhojfkjgggbaaDoor
