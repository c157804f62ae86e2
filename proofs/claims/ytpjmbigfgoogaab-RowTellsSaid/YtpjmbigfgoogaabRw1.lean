import Derived.Test.YtpjmbigfgoogaabProg
import Derived.Test.YtpjmbigfgoogaabAb33
import Derived.KernelRfl
set_option maxRecDepth 100000
namespace Go.Ab
open Go Go.Proofs

def tab : Tab :=
  [(2, ⟨.int .i64, 1, 8, [(.int .i64 0)]⟩),
   (3, ⟨.int .i64, 1, 8, [(.int .i64 0)]⟩),
   (4, ⟨.bool, 1, 1, [(.bool false)]⟩),
   (5, ⟨.int .u8, 1, 1, [(.int .u8 0)]⟩),
   (9, ⟨.str, 1, 16, [(.string ⟨#[]⟩)]⟩),
   (12, ⟨.int .u64, 1, 8, [(.int .u64 0)]⟩),
   (21, ⟨.int .i32, 1, 4, [(.int .i32 0)]⟩),
   (22, ⟨.sl 2, 1, 24, [(.slice none 0 0)]⟩),
   (23, ⟨.st [(0, 2), (1, 2), (2, 22)], 3, 40, [(.int .i64 0), (.int .i64 0), (.slice none 0 0)]⟩),
   (24, ⟨.st [(0, 2), (1, 2), (2, 22)], 3, 40, [(.int .i64 0), (.int .i64 0), (.slice none 0 0)]⟩),
   (41, ⟨.st [(0, 17), (1, 17), (2, 17), (3, 9)], 4, 40, [(.pointer none), (.pointer none), (.pointer none), (.string ⟨#[]⟩)]⟩),
   (43, ⟨.ar 0 16, 0, 0, []⟩),
   (44, ⟨.st [(0, 43)], 0, 0, []⟩),
   (47, ⟨.int .u32, 1, 4, [(.int .u32 0)]⟩),
   (51, ⟨.ptr 5, 1, 8, [(.pointer none)]⟩)]
theorem ti2 : TOk Try.prog 2 ⟨.int .i64, 1, 8, [(.int .i64 0)]⟩ := .mk' (by kernel_rfl) Try.underlying2 rfl
theorem ti3 : TOk Try.prog 3 ⟨.int .i64, 1, 8, [(.int .i64 0)]⟩ := .mk' (by kernel_rfl) Try.underlying3 rfl
theorem ti4 : TOk Try.prog 4 ⟨.bool, 1, 1, [(.bool false)]⟩ := .mk' (by kernel_rfl) Try.underlying4 rfl
theorem ti5 : TOk Try.prog 5 ⟨.int .u8, 1, 1, [(.int .u8 0)]⟩ := .mk' (by kernel_rfl) Try.underlying5 rfl
theorem ti9 : TOk Try.prog 9 ⟨.str, 1, 16, [(.string ⟨#[]⟩)]⟩ := .mk' (by kernel_rfl) Try.underlying9 rfl
theorem ti12 : TOk Try.prog 12 ⟨.int .u64, 1, 8, [(.int .u64 0)]⟩ := .mk' (by kernel_rfl) Try.underlying12 rfl
theorem ti21 : TOk Try.prog 21 ⟨.int .i32, 1, 4, [(.int .i32 0)]⟩ := .mk' (by kernel_rfl) Try.underlying21 rfl
theorem ti22 : TOk Try.prog 22 ⟨.sl 2, 1, 24, [(.slice none 0 0)]⟩ := .mk' (by kernel_rfl) Try.underlying22 rfl
theorem ti23 : TOk Try.prog 23 ⟨.st [(0, 2), (1, 2), (2, 22)], 3, 40, [(.int .i64 0), (.int .i64 0), (.slice none 0 0)]⟩ := .mk' (by kernel_rfl) ⟨_, Try.underlying23, rfl⟩ rfl
theorem ti24 : TOk Try.prog 24 ⟨.st [(0, 2), (1, 2), (2, 22)], 3, 40, [(.int .i64 0), (.int .i64 0), (.slice none 0 0)]⟩ := .mk' (by kernel_rfl) ⟨_, Try.underlying24, rfl⟩ rfl
theorem ti41 : TOk Try.prog 41 ⟨.st [(0, 17), (1, 17), (2, 17), (3, 9)], 4, 40, [(.pointer none), (.pointer none), (.pointer none), (.string ⟨#[]⟩)]⟩ := .mk' (by kernel_rfl) ⟨_, Try.underlying41, rfl⟩ rfl
theorem ti43 : TOk Try.prog 43 ⟨.ar 0 16, 0, 0, []⟩ := .mk' (by kernel_rfl) Try.underlying43 rfl
theorem ti44 : TOk Try.prog 44 ⟨.st [(0, 43)], 0, 0, []⟩ := .mk' (by kernel_rfl) ⟨_, Try.underlying44, rfl⟩ rfl
theorem ti47 : TOk Try.prog 47 ⟨.int .u32, 1, 4, [(.int .u32 0)]⟩ := .mk' (by kernel_rfl) Try.underlying47 rfl
theorem ti51 : TOk Try.prog 51 ⟨.ptr 5, 1, 8, [(.pointer none)]⟩ := .mk' (by kernel_rfl) Try.underlying51 rfl
theorem tk2 (K : TI → Prop) : tiK tab 2 K = K ⟨.int .i64, 1, 8, [(.int .i64 0)]⟩ := tiK_of rfl K
theorem tk3 (K : TI → Prop) : tiK tab 3 K = K ⟨.int .i64, 1, 8, [(.int .i64 0)]⟩ := tiK_of rfl K
theorem tk4 (K : TI → Prop) : tiK tab 4 K = K ⟨.bool, 1, 1, [(.bool false)]⟩ := tiK_of rfl K
theorem tk5 (K : TI → Prop) : tiK tab 5 K = K ⟨.int .u8, 1, 1, [(.int .u8 0)]⟩ := tiK_of rfl K
theorem tk9 (K : TI → Prop) : tiK tab 9 K = K ⟨.str, 1, 16, [(.string ⟨#[]⟩)]⟩ := tiK_of rfl K
theorem tk12 (K : TI → Prop) : tiK tab 12 K = K ⟨.int .u64, 1, 8, [(.int .u64 0)]⟩ := tiK_of rfl K
theorem tk21 (K : TI → Prop) : tiK tab 21 K = K ⟨.int .i32, 1, 4, [(.int .i32 0)]⟩ := tiK_of rfl K
theorem tk22 (K : TI → Prop) : tiK tab 22 K = K ⟨.sl 2, 1, 24, [(.slice none 0 0)]⟩ := tiK_of rfl K
theorem tk23 (K : TI → Prop) : tiK tab 23 K = K ⟨.st [(0, 2), (1, 2), (2, 22)], 3, 40, [(.int .i64 0), (.int .i64 0), (.slice none 0 0)]⟩ := tiK_of rfl K
theorem tk24 (K : TI → Prop) : tiK tab 24 K = K ⟨.st [(0, 2), (1, 2), (2, 22)], 3, 40, [(.int .i64 0), (.int .i64 0), (.slice none 0 0)]⟩ := tiK_of rfl K
theorem tk41 (K : TI → Prop) : tiK tab 41 K = K ⟨.st [(0, 17), (1, 17), (2, 17), (3, 9)], 4, 40, [(.pointer none), (.pointer none), (.pointer none), (.string ⟨#[]⟩)]⟩ := tiK_of rfl K
theorem tk43 (K : TI → Prop) : tiK tab 43 K = K ⟨.ar 0 16, 0, 0, []⟩ := tiK_of rfl K
theorem tk44 (K : TI → Prop) : tiK tab 44 K = K ⟨.st [(0, 43)], 0, 0, []⟩ := tiK_of rfl K
theorem tk47 (K : TI → Prop) : tiK tab 47 K = K ⟨.int .u32, 1, 4, [(.int .u32 0)]⟩ := tiK_of rfl K
theorem tk51 (K : TI → Prop) : tiK tab 51 K = K ⟨.ptr 5, 1, 8, [(.pointer none)]⟩ := tiK_of rfl K
theorem tx2 (K : TI → Prop) : (∃ i, assoc tab 2 = some i ∧ K i) = K ⟨.int .i64, 1, 8, [(.int .i64 0)]⟩ := tab_ex rfl
theorem ty2 : (∃ i, assoc tab 2 = some i) = True := eq_true ⟨_, rfl⟩
theorem tx3 (K : TI → Prop) : (∃ i, assoc tab 3 = some i ∧ K i) = K ⟨.int .i64, 1, 8, [(.int .i64 0)]⟩ := tab_ex rfl
theorem ty3 : (∃ i, assoc tab 3 = some i) = True := eq_true ⟨_, rfl⟩
theorem tx4 (K : TI → Prop) : (∃ i, assoc tab 4 = some i ∧ K i) = K ⟨.bool, 1, 1, [(.bool false)]⟩ := tab_ex rfl
theorem ty4 : (∃ i, assoc tab 4 = some i) = True := eq_true ⟨_, rfl⟩
theorem tx5 (K : TI → Prop) : (∃ i, assoc tab 5 = some i ∧ K i) = K ⟨.int .u8, 1, 1, [(.int .u8 0)]⟩ := tab_ex rfl
theorem ty5 : (∃ i, assoc tab 5 = some i) = True := eq_true ⟨_, rfl⟩
theorem isU8_5 : IsU8 tab 5 = True := eq_true (isU8_of rfl rfl)
theorem tx9 (K : TI → Prop) : (∃ i, assoc tab 9 = some i ∧ K i) = K ⟨.str, 1, 16, [(.string ⟨#[]⟩)]⟩ := tab_ex rfl
theorem ty9 : (∃ i, assoc tab 9 = some i) = True := eq_true ⟨_, rfl⟩
theorem tx12 (K : TI → Prop) : (∃ i, assoc tab 12 = some i ∧ K i) = K ⟨.int .u64, 1, 8, [(.int .u64 0)]⟩ := tab_ex rfl
theorem ty12 : (∃ i, assoc tab 12 = some i) = True := eq_true ⟨_, rfl⟩
theorem tx21 (K : TI → Prop) : (∃ i, assoc tab 21 = some i ∧ K i) = K ⟨.int .i32, 1, 4, [(.int .i32 0)]⟩ := tab_ex rfl
theorem ty21 : (∃ i, assoc tab 21 = some i) = True := eq_true ⟨_, rfl⟩
theorem tx22 (K : TI → Prop) : (∃ i, assoc tab 22 = some i ∧ K i) = K ⟨.sl 2, 1, 24, [(.slice none 0 0)]⟩ := tab_ex rfl
theorem ty22 : (∃ i, assoc tab 22 = some i) = True := eq_true ⟨_, rfl⟩
theorem tx23 (K : TI → Prop) : (∃ i, assoc tab 23 = some i ∧ K i) = K ⟨.st [(0, 2), (1, 2), (2, 22)], 3, 40, [(.int .i64 0), (.int .i64 0), (.slice none 0 0)]⟩ := tab_ex rfl
theorem ty23 : (∃ i, assoc tab 23 = some i) = True := eq_true ⟨_, rfl⟩
theorem tx24 (K : TI → Prop) : (∃ i, assoc tab 24 = some i ∧ K i) = K ⟨.st [(0, 2), (1, 2), (2, 22)], 3, 40, [(.int .i64 0), (.int .i64 0), (.slice none 0 0)]⟩ := tab_ex rfl
theorem ty24 : (∃ i, assoc tab 24 = some i) = True := eq_true ⟨_, rfl⟩
theorem tx41 (K : TI → Prop) : (∃ i, assoc tab 41 = some i ∧ K i) = K ⟨.st [(0, 17), (1, 17), (2, 17), (3, 9)], 4, 40, [(.pointer none), (.pointer none), (.pointer none), (.string ⟨#[]⟩)]⟩ := tab_ex rfl
theorem ty41 : (∃ i, assoc tab 41 = some i) = True := eq_true ⟨_, rfl⟩
theorem tx43 (K : TI → Prop) : (∃ i, assoc tab 43 = some i ∧ K i) = K ⟨.ar 0 16, 0, 0, []⟩ := tab_ex rfl
theorem ty43 : (∃ i, assoc tab 43 = some i) = True := eq_true ⟨_, rfl⟩
theorem tx44 (K : TI → Prop) : (∃ i, assoc tab 44 = some i ∧ K i) = K ⟨.st [(0, 43)], 0, 0, []⟩ := tab_ex rfl
theorem ty44 : (∃ i, assoc tab 44 = some i) = True := eq_true ⟨_, rfl⟩
theorem tx47 (K : TI → Prop) : (∃ i, assoc tab 47 = some i ∧ K i) = K ⟨.int .u32, 1, 4, [(.int .u32 0)]⟩ := tab_ex rfl
theorem ty47 : (∃ i, assoc tab 47 = some i) = True := eq_true ⟨_, rfl⟩
theorem tx51 (K : TI → Prop) : (∃ i, assoc tab 51 = some i ∧ K i) = K ⟨.ptr 5, 1, 8, [(.pointer none)]⟩ := tab_ex rfl
theorem ty51 : (∃ i, assoc tab 51 = some i) = True := eq_true ⟨_, rfl⟩
theorem mixed : Try.prog.follows .mixedOrders = true := by kernel_rfl
theorem tabOk : TabOk Try.prog tab := TabAll.ok ⟨ti2, ti3, ti4, ti5, ti9, ti12, ti21, ti22, ti23, ti24, ti41, ti43, ti44, ti47, ti51, trivial⟩
end Go.Ab
