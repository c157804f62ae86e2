import Derived.Test.YtpjmbigfgoogaaaProg
import Derived.Test.YtpjmbigfgoogaaaAb24
import Derived.KernelRfl
set_option maxRecDepth 100000
namespace Go.Ab
open Go Go.Proofs

def tab : Tab :=
  [(2, ⟨.int .i64, 1, 8, [(.int .i64 0)]⟩),
   (3, ⟨.int .i64, 1, 8, [(.int .i64 0)]⟩),
   (4, ⟨.bool, 1, 1, [(.bool false)]⟩),
   (5, ⟨.int .u8, 1, 1, [(.int .u8 0)]⟩),
   (9, ⟨.str, 1, 16, [(.string ⟨#[]⟩)]⟩),
   (12, ⟨.int .u64, 1, 8, [(.int .u64 0)]⟩),
   (21, ⟨.int .i32, 1, 4, [(.int .i32 0)]⟩),
   (22, ⟨.sl 5, 1, 24, [(.slice none 0 0)]⟩),
   (24, ⟨.int .u64, 1, 8, [(.int .u64 0)]⟩),
   (31, ⟨.int .u64, 1, 8, [(.int .u64 0)]⟩),
   (37, ⟨.st [(0, 17), (1, 17), (2, 17), (3, 9)], 4, 40, [(.pointer none), (.pointer none), (.pointer none), (.string ⟨#[]⟩)]⟩),
   (39, ⟨.ar 0 16, 0, 0, []⟩),
   (40, ⟨.st [(0, 39)], 0, 0, []⟩),
   (43, ⟨.int .u32, 1, 4, [(.int .u32 0)]⟩),
   (47, ⟨.ptr 5, 1, 8, [(.pointer none)]⟩)]
theorem ti2 : TOk Try.prog 2 ⟨.int .i64, 1, 8, [(.int .i64 0)]⟩ := .mk' (by kernel_rfl) Try.underlying2 rfl
theorem ti3 : TOk Try.prog 3 ⟨.int .i64, 1, 8, [(.int .i64 0)]⟩ := .mk' (by kernel_rfl) Try.underlying3 rfl
theorem ti4 : TOk Try.prog 4 ⟨.bool, 1, 1, [(.bool false)]⟩ := .mk' (by kernel_rfl) Try.underlying4 rfl
theorem ti5 : TOk Try.prog 5 ⟨.int .u8, 1, 1, [(.int .u8 0)]⟩ := .mk' (by kernel_rfl) Try.underlying5 rfl
theorem ti9 : TOk Try.prog 9 ⟨.str, 1, 16, [(.string ⟨#[]⟩)]⟩ := .mk' (by kernel_rfl) Try.underlying9 rfl
theorem ti12 : TOk Try.prog 12 ⟨.int .u64, 1, 8, [(.int .u64 0)]⟩ := .mk' (by kernel_rfl) Try.underlying12 rfl
theorem ti21 : TOk Try.prog 21 ⟨.int .i32, 1, 4, [(.int .i32 0)]⟩ := .mk' (by kernel_rfl) Try.underlying21 rfl
theorem ti22 : TOk Try.prog 22 ⟨.sl 5, 1, 24, [(.slice none 0 0)]⟩ := .mk' (by kernel_rfl) Try.underlying22 rfl
theorem ti24 : TOk Try.prog 24 ⟨.int .u64, 1, 8, [(.int .u64 0)]⟩ := .mk' (by kernel_rfl) Try.underlying24 rfl
theorem ti31 : TOk Try.prog 31 ⟨.int .u64, 1, 8, [(.int .u64 0)]⟩ := .mk' (by kernel_rfl) Try.underlying31 rfl
theorem ti37 : TOk Try.prog 37 ⟨.st [(0, 17), (1, 17), (2, 17), (3, 9)], 4, 40, [(.pointer none), (.pointer none), (.pointer none), (.string ⟨#[]⟩)]⟩ := .mk' (by kernel_rfl) ⟨_, Try.underlying37, rfl⟩ rfl
theorem ti39 : TOk Try.prog 39 ⟨.ar 0 16, 0, 0, []⟩ := .mk' (by kernel_rfl) Try.underlying39 rfl
theorem ti40 : TOk Try.prog 40 ⟨.st [(0, 39)], 0, 0, []⟩ := .mk' (by kernel_rfl) ⟨_, Try.underlying40, rfl⟩ rfl
theorem ti43 : TOk Try.prog 43 ⟨.int .u32, 1, 4, [(.int .u32 0)]⟩ := .mk' (by kernel_rfl) Try.underlying43 rfl
theorem ti47 : TOk Try.prog 47 ⟨.ptr 5, 1, 8, [(.pointer none)]⟩ := .mk' (by kernel_rfl) Try.underlying47 rfl
theorem tk2 (K : TI → Prop) : tiK tab 2 K = K ⟨.int .i64, 1, 8, [(.int .i64 0)]⟩ := tiK_of rfl K
theorem tk3 (K : TI → Prop) : tiK tab 3 K = K ⟨.int .i64, 1, 8, [(.int .i64 0)]⟩ := tiK_of rfl K
theorem tk4 (K : TI → Prop) : tiK tab 4 K = K ⟨.bool, 1, 1, [(.bool false)]⟩ := tiK_of rfl K
theorem tk5 (K : TI → Prop) : tiK tab 5 K = K ⟨.int .u8, 1, 1, [(.int .u8 0)]⟩ := tiK_of rfl K
theorem tk9 (K : TI → Prop) : tiK tab 9 K = K ⟨.str, 1, 16, [(.string ⟨#[]⟩)]⟩ := tiK_of rfl K
theorem tk12 (K : TI → Prop) : tiK tab 12 K = K ⟨.int .u64, 1, 8, [(.int .u64 0)]⟩ := tiK_of rfl K
theorem tk21 (K : TI → Prop) : tiK tab 21 K = K ⟨.int .i32, 1, 4, [(.int .i32 0)]⟩ := tiK_of rfl K
theorem tk22 (K : TI → Prop) : tiK tab 22 K = K ⟨.sl 5, 1, 24, [(.slice none 0 0)]⟩ := tiK_of rfl K
theorem tk24 (K : TI → Prop) : tiK tab 24 K = K ⟨.int .u64, 1, 8, [(.int .u64 0)]⟩ := tiK_of rfl K
theorem tk31 (K : TI → Prop) : tiK tab 31 K = K ⟨.int .u64, 1, 8, [(.int .u64 0)]⟩ := tiK_of rfl K
theorem tk37 (K : TI → Prop) : tiK tab 37 K = K ⟨.st [(0, 17), (1, 17), (2, 17), (3, 9)], 4, 40, [(.pointer none), (.pointer none), (.pointer none), (.string ⟨#[]⟩)]⟩ := tiK_of rfl K
theorem tk39 (K : TI → Prop) : tiK tab 39 K = K ⟨.ar 0 16, 0, 0, []⟩ := tiK_of rfl K
theorem tk40 (K : TI → Prop) : tiK tab 40 K = K ⟨.st [(0, 39)], 0, 0, []⟩ := tiK_of rfl K
theorem tk43 (K : TI → Prop) : tiK tab 43 K = K ⟨.int .u32, 1, 4, [(.int .u32 0)]⟩ := tiK_of rfl K
theorem tk47 (K : TI → Prop) : tiK tab 47 K = K ⟨.ptr 5, 1, 8, [(.pointer none)]⟩ := tiK_of rfl K
theorem tx2 (K : TI → Prop) : (∃ i, assoc tab 2 = some i ∧ K i) = K ⟨.int .i64, 1, 8, [(.int .i64 0)]⟩ := tab_ex rfl
theorem tx3 (K : TI → Prop) : (∃ i, assoc tab 3 = some i ∧ K i) = K ⟨.int .i64, 1, 8, [(.int .i64 0)]⟩ := tab_ex rfl
theorem tx4 (K : TI → Prop) : (∃ i, assoc tab 4 = some i ∧ K i) = K ⟨.bool, 1, 1, [(.bool false)]⟩ := tab_ex rfl
theorem tx5 (K : TI → Prop) : (∃ i, assoc tab 5 = some i ∧ K i) = K ⟨.int .u8, 1, 1, [(.int .u8 0)]⟩ := tab_ex rfl
theorem isU8_5 : IsU8 tab 5 = True := eq_true (isU8_of rfl rfl)
theorem tx9 (K : TI → Prop) : (∃ i, assoc tab 9 = some i ∧ K i) = K ⟨.str, 1, 16, [(.string ⟨#[]⟩)]⟩ := tab_ex rfl
theorem tx12 (K : TI → Prop) : (∃ i, assoc tab 12 = some i ∧ K i) = K ⟨.int .u64, 1, 8, [(.int .u64 0)]⟩ := tab_ex rfl
theorem tx21 (K : TI → Prop) : (∃ i, assoc tab 21 = some i ∧ K i) = K ⟨.int .i32, 1, 4, [(.int .i32 0)]⟩ := tab_ex rfl
theorem tx22 (K : TI → Prop) : (∃ i, assoc tab 22 = some i ∧ K i) = K ⟨.sl 5, 1, 24, [(.slice none 0 0)]⟩ := tab_ex rfl
theorem tx24 (K : TI → Prop) : (∃ i, assoc tab 24 = some i ∧ K i) = K ⟨.int .u64, 1, 8, [(.int .u64 0)]⟩ := tab_ex rfl
theorem tx31 (K : TI → Prop) : (∃ i, assoc tab 31 = some i ∧ K i) = K ⟨.int .u64, 1, 8, [(.int .u64 0)]⟩ := tab_ex rfl
theorem tx37 (K : TI → Prop) : (∃ i, assoc tab 37 = some i ∧ K i) = K ⟨.st [(0, 17), (1, 17), (2, 17), (3, 9)], 4, 40, [(.pointer none), (.pointer none), (.pointer none), (.string ⟨#[]⟩)]⟩ := tab_ex rfl
theorem tx39 (K : TI → Prop) : (∃ i, assoc tab 39 = some i ∧ K i) = K ⟨.ar 0 16, 0, 0, []⟩ := tab_ex rfl
theorem tx40 (K : TI → Prop) : (∃ i, assoc tab 40 = some i ∧ K i) = K ⟨.st [(0, 39)], 0, 0, []⟩ := tab_ex rfl
theorem tx43 (K : TI → Prop) : (∃ i, assoc tab 43 = some i ∧ K i) = K ⟨.int .u32, 1, 4, [(.int .u32 0)]⟩ := tab_ex rfl
theorem tx47 (K : TI → Prop) : (∃ i, assoc tab 47 = some i ∧ K i) = K ⟨.ptr 5, 1, 8, [(.pointer none)]⟩ := tab_ex rfl
theorem mixed : Try.prog.follows .mixedOrders = true := by kernel_rfl
theorem tabOk : TabOk Try.prog tab := TabAll.ok ⟨ti2, ti3, ti4, ti5, ti9, ti12, ti21, ti22, ti24, ti31, ti37, ti39, ti40, ti43, ti47, trivial⟩
end Go.Ab
