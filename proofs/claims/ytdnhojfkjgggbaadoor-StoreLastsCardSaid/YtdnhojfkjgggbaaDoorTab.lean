import Derived.Test.YtdnhojfkjgggbaaDoorProg
import Derived.Test.YtdnhojfkjgggbaaDoorAbG7
import Derived.KernelRfl
set_option maxRecDepth 100000
namespace Go.Ab
open Go Go.Proofs

def tab : Tab :=
  [(2, ⟨.int .i64, 1, 8, [(.int .i64 0)]⟩),
   (3, ⟨.int .i64, 1, 8, [(.int .i64 0)]⟩),
   (4, ⟨.bool, 1, 1, [(.bool false)]⟩),
   (5, ⟨.int .u8, 1, 1, [(.int .u8 0)]⟩),
   (9, ⟨.str, 1, 16, [(.string ⟨#[]⟩)]⟩),
   (12, ⟨.int .u64, 1, 8, [(.int .u64 0)]⟩),
   (21, ⟨.int .i32, 1, 4, [(.int .i32 0)]⟩),
   (22, ⟨.sl 5, 1, 24, [(.slice none 0 0)]⟩),
   (24, ⟨.sl 22, 1, 24, [(.slice none 0 0)]⟩),
   (29, ⟨.int .u16, 1, 2, [(.int .u16 0)]⟩),
   (30, ⟨.sl 3, 1, 24, [(.slice none 0 0)]⟩),
   (35, ⟨.st [(0, 22), (1, 22)], 2, 48, [(.slice none 0 0), (.slice none 0 0)]⟩),
   (36, ⟨.st [(0, 22), (1, 22)], 2, 48, [(.slice none 0 0), (.slice none 0 0)]⟩),
   (37, ⟨.st [(0, 36), (2, 36)], 4, 96, [(.slice none 0 0), (.slice none 0 0), (.slice none 0 0), (.slice none 0 0)]⟩),
   (38, ⟨.st [(0, 36), (2, 36)], 4, 96, [(.slice none 0 0), (.slice none 0 0), (.slice none 0 0), (.slice none 0 0)]⟩),
   (45, ⟨.int .i64, 1, 8, [(.int .i64 0)]⟩),
   (59, ⟨.ar 4 5, 4, 4, [(.int .u8 0), (.int .u8 0), (.int .u8 0), (.int .u8 0)]⟩),
   (63, ⟨.int .u64, 1, 8, [(.int .u64 0)]⟩),
   (73, ⟨.int .u32, 1, 4, [(.int .u32 0)]⟩),
   (75, ⟨.int .u64, 1, 8, [(.int .u64 0)]⟩),
   (77, ⟨.ptr 36, 1, 8, [(.pointer none)]⟩),
   (79, ⟨.ptr 38, 1, 8, [(.pointer none)]⟩),
   (80, ⟨.st [(0, 38), (4, 22)], 5, 120, [(.slice none 0 0), (.slice none 0 0), (.slice none 0 0), (.slice none 0 0), (.slice none 0 0)]⟩),
   (81, ⟨.st [(0, 38), (4, 22)], 5, 120, [(.slice none 0 0), (.slice none 0 0), (.slice none 0 0), (.slice none 0 0), (.slice none 0 0)]⟩),
   (84, ⟨.sl 4, 1, 24, [(.slice none 0 0)]⟩),
   (89, ⟨.ar 16 73, 16, 64, [(.int .u32 0), (.int .u32 0), (.int .u32 0), (.int .u32 0), (.int .u32 0), (.int .u32 0), (.int .u32 0), (.int .u32 0), (.int .u32 0), (.int .u32 0), (.int .u32 0), (.int .u32 0), (.int .u32 0), (.int .u32 0), (.int .u32 0), (.int .u32 0)]⟩),
   (91, ⟨.st [(0, 17), (1, 17), (2, 17), (3, 9)], 4, 40, [(.pointer none), (.pointer none), (.pointer none), (.string ⟨#[]⟩)]⟩),
   (93, ⟨.ar 0 16, 0, 0, []⟩),
   (94, ⟨.st [(0, 93)], 0, 0, []⟩),
   (100, ⟨.ptr 5, 1, 8, [(.pointer none)]⟩)]
theorem ti2 : TOk Tryd.prog 2 ⟨.int .i64, 1, 8, [(.int .i64 0)]⟩ := .mk' (by kernel_rfl) Tryd.underlying2 rfl
theorem ti3 : TOk Tryd.prog 3 ⟨.int .i64, 1, 8, [(.int .i64 0)]⟩ := .mk' (by kernel_rfl) Tryd.underlying3 rfl
theorem ti4 : TOk Tryd.prog 4 ⟨.bool, 1, 1, [(.bool false)]⟩ := .mk' (by kernel_rfl) Tryd.underlying4 rfl
theorem ti5 : TOk Tryd.prog 5 ⟨.int .u8, 1, 1, [(.int .u8 0)]⟩ := .mk' (by kernel_rfl) Tryd.underlying5 rfl
theorem ti9 : TOk Tryd.prog 9 ⟨.str, 1, 16, [(.string ⟨#[]⟩)]⟩ := .mk' (by kernel_rfl) Tryd.underlying9 rfl
theorem ti12 : TOk Tryd.prog 12 ⟨.int .u64, 1, 8, [(.int .u64 0)]⟩ := .mk' (by kernel_rfl) Tryd.underlying12 rfl
theorem ti21 : TOk Tryd.prog 21 ⟨.int .i32, 1, 4, [(.int .i32 0)]⟩ := .mk' (by kernel_rfl) Tryd.underlying21 rfl
theorem ti22 : TOk Tryd.prog 22 ⟨.sl 5, 1, 24, [(.slice none 0 0)]⟩ := .mk' (by kernel_rfl) Tryd.underlying22 rfl
theorem ti24 : TOk Tryd.prog 24 ⟨.sl 22, 1, 24, [(.slice none 0 0)]⟩ := .mk' (by kernel_rfl) Tryd.underlying24 rfl
theorem ti29 : TOk Tryd.prog 29 ⟨.int .u16, 1, 2, [(.int .u16 0)]⟩ := .mk' (by kernel_rfl) Tryd.underlying29 rfl
theorem ti30 : TOk Tryd.prog 30 ⟨.sl 3, 1, 24, [(.slice none 0 0)]⟩ := .mk' (by kernel_rfl) Tryd.underlying30 rfl
theorem ti35 : TOk Tryd.prog 35 ⟨.st [(0, 22), (1, 22)], 2, 48, [(.slice none 0 0), (.slice none 0 0)]⟩ := .mk' (by kernel_rfl) ⟨_, Tryd.underlying35, rfl⟩ rfl
theorem ti36 : TOk Tryd.prog 36 ⟨.st [(0, 22), (1, 22)], 2, 48, [(.slice none 0 0), (.slice none 0 0)]⟩ := .mk' (by kernel_rfl) ⟨_, Tryd.underlying36, rfl⟩ rfl
theorem ti37 : TOk Tryd.prog 37 ⟨.st [(0, 36), (2, 36)], 4, 96, [(.slice none 0 0), (.slice none 0 0), (.slice none 0 0), (.slice none 0 0)]⟩ := .mk' (by kernel_rfl) ⟨_, Tryd.underlying37, rfl⟩ rfl
theorem ti38 : TOk Tryd.prog 38 ⟨.st [(0, 36), (2, 36)], 4, 96, [(.slice none 0 0), (.slice none 0 0), (.slice none 0 0), (.slice none 0 0)]⟩ := .mk' (by kernel_rfl) ⟨_, Tryd.underlying38, rfl⟩ rfl
theorem ti45 : TOk Tryd.prog 45 ⟨.int .i64, 1, 8, [(.int .i64 0)]⟩ := .mk' (by kernel_rfl) Tryd.underlying45 rfl
theorem ti59 : TOk Tryd.prog 59 ⟨.ar 4 5, 4, 4, [(.int .u8 0), (.int .u8 0), (.int .u8 0), (.int .u8 0)]⟩ := .mk' (by kernel_rfl) Tryd.underlying59 rfl
theorem ti63 : TOk Tryd.prog 63 ⟨.int .u64, 1, 8, [(.int .u64 0)]⟩ := .mk' (by kernel_rfl) Tryd.underlying63 rfl
theorem ti73 : TOk Tryd.prog 73 ⟨.int .u32, 1, 4, [(.int .u32 0)]⟩ := .mk' (by kernel_rfl) Tryd.underlying73 rfl
theorem ti75 : TOk Tryd.prog 75 ⟨.int .u64, 1, 8, [(.int .u64 0)]⟩ := .mk' (by kernel_rfl) Tryd.underlying75 rfl
theorem ti77 : TOk Tryd.prog 77 ⟨.ptr 36, 1, 8, [(.pointer none)]⟩ := .mk' (by kernel_rfl) Tryd.underlying77 rfl
theorem ti79 : TOk Tryd.prog 79 ⟨.ptr 38, 1, 8, [(.pointer none)]⟩ := .mk' (by kernel_rfl) Tryd.underlying79 rfl
theorem ti80 : TOk Tryd.prog 80 ⟨.st [(0, 38), (4, 22)], 5, 120, [(.slice none 0 0), (.slice none 0 0), (.slice none 0 0), (.slice none 0 0), (.slice none 0 0)]⟩ := .mk' (by kernel_rfl) ⟨_, Tryd.underlying80, rfl⟩ rfl
theorem ti81 : TOk Tryd.prog 81 ⟨.st [(0, 38), (4, 22)], 5, 120, [(.slice none 0 0), (.slice none 0 0), (.slice none 0 0), (.slice none 0 0), (.slice none 0 0)]⟩ := .mk' (by kernel_rfl) ⟨_, Tryd.underlying81, rfl⟩ rfl
theorem ti84 : TOk Tryd.prog 84 ⟨.sl 4, 1, 24, [(.slice none 0 0)]⟩ := .mk' (by kernel_rfl) Tryd.underlying84 rfl
theorem ti89 : TOk Tryd.prog 89 ⟨.ar 16 73, 16, 64, [(.int .u32 0), (.int .u32 0), (.int .u32 0), (.int .u32 0), (.int .u32 0), (.int .u32 0), (.int .u32 0), (.int .u32 0), (.int .u32 0), (.int .u32 0), (.int .u32 0), (.int .u32 0), (.int .u32 0), (.int .u32 0), (.int .u32 0), (.int .u32 0)]⟩ := .mk' (by kernel_rfl) Tryd.underlying89 rfl
theorem ti91 : TOk Tryd.prog 91 ⟨.st [(0, 17), (1, 17), (2, 17), (3, 9)], 4, 40, [(.pointer none), (.pointer none), (.pointer none), (.string ⟨#[]⟩)]⟩ := .mk' (by kernel_rfl) ⟨_, Tryd.underlying91, rfl⟩ rfl
theorem ti93 : TOk Tryd.prog 93 ⟨.ar 0 16, 0, 0, []⟩ := .mk' (by kernel_rfl) Tryd.underlying93 rfl
theorem ti94 : TOk Tryd.prog 94 ⟨.st [(0, 93)], 0, 0, []⟩ := .mk' (by kernel_rfl) ⟨_, Tryd.underlying94, rfl⟩ rfl
theorem ti100 : TOk Tryd.prog 100 ⟨.ptr 5, 1, 8, [(.pointer none)]⟩ := .mk' (by kernel_rfl) Tryd.underlying100 rfl
theorem tk2 (K : TI → Prop) : tiK tab 2 K = K ⟨.int .i64, 1, 8, [(.int .i64 0)]⟩ := tiK_of rfl K
theorem tk3 (K : TI → Prop) : tiK tab 3 K = K ⟨.int .i64, 1, 8, [(.int .i64 0)]⟩ := tiK_of rfl K
theorem tk4 (K : TI → Prop) : tiK tab 4 K = K ⟨.bool, 1, 1, [(.bool false)]⟩ := tiK_of rfl K
theorem tk5 (K : TI → Prop) : tiK tab 5 K = K ⟨.int .u8, 1, 1, [(.int .u8 0)]⟩ := tiK_of rfl K
theorem tk9 (K : TI → Prop) : tiK tab 9 K = K ⟨.str, 1, 16, [(.string ⟨#[]⟩)]⟩ := tiK_of rfl K
theorem tk12 (K : TI → Prop) : tiK tab 12 K = K ⟨.int .u64, 1, 8, [(.int .u64 0)]⟩ := tiK_of rfl K
theorem tk21 (K : TI → Prop) : tiK tab 21 K = K ⟨.int .i32, 1, 4, [(.int .i32 0)]⟩ := tiK_of rfl K
theorem tk22 (K : TI → Prop) : tiK tab 22 K = K ⟨.sl 5, 1, 24, [(.slice none 0 0)]⟩ := tiK_of rfl K
theorem tk24 (K : TI → Prop) : tiK tab 24 K = K ⟨.sl 22, 1, 24, [(.slice none 0 0)]⟩ := tiK_of rfl K
theorem tk29 (K : TI → Prop) : tiK tab 29 K = K ⟨.int .u16, 1, 2, [(.int .u16 0)]⟩ := tiK_of rfl K
theorem tk30 (K : TI → Prop) : tiK tab 30 K = K ⟨.sl 3, 1, 24, [(.slice none 0 0)]⟩ := tiK_of rfl K
theorem tk35 (K : TI → Prop) : tiK tab 35 K = K ⟨.st [(0, 22), (1, 22)], 2, 48, [(.slice none 0 0), (.slice none 0 0)]⟩ := tiK_of rfl K
theorem tk36 (K : TI → Prop) : tiK tab 36 K = K ⟨.st [(0, 22), (1, 22)], 2, 48, [(.slice none 0 0), (.slice none 0 0)]⟩ := tiK_of rfl K
theorem tk37 (K : TI → Prop) : tiK tab 37 K = K ⟨.st [(0, 36), (2, 36)], 4, 96, [(.slice none 0 0), (.slice none 0 0), (.slice none 0 0), (.slice none 0 0)]⟩ := tiK_of rfl K
theorem tk38 (K : TI → Prop) : tiK tab 38 K = K ⟨.st [(0, 36), (2, 36)], 4, 96, [(.slice none 0 0), (.slice none 0 0), (.slice none 0 0), (.slice none 0 0)]⟩ := tiK_of rfl K
theorem tk45 (K : TI → Prop) : tiK tab 45 K = K ⟨.int .i64, 1, 8, [(.int .i64 0)]⟩ := tiK_of rfl K
theorem tk59 (K : TI → Prop) : tiK tab 59 K = K ⟨.ar 4 5, 4, 4, [(.int .u8 0), (.int .u8 0), (.int .u8 0), (.int .u8 0)]⟩ := tiK_of rfl K
theorem tk63 (K : TI → Prop) : tiK tab 63 K = K ⟨.int .u64, 1, 8, [(.int .u64 0)]⟩ := tiK_of rfl K
theorem tk73 (K : TI → Prop) : tiK tab 73 K = K ⟨.int .u32, 1, 4, [(.int .u32 0)]⟩ := tiK_of rfl K
theorem tk75 (K : TI → Prop) : tiK tab 75 K = K ⟨.int .u64, 1, 8, [(.int .u64 0)]⟩ := tiK_of rfl K
theorem tk77 (K : TI → Prop) : tiK tab 77 K = K ⟨.ptr 36, 1, 8, [(.pointer none)]⟩ := tiK_of rfl K
theorem tk79 (K : TI → Prop) : tiK tab 79 K = K ⟨.ptr 38, 1, 8, [(.pointer none)]⟩ := tiK_of rfl K
theorem tk80 (K : TI → Prop) : tiK tab 80 K = K ⟨.st [(0, 38), (4, 22)], 5, 120, [(.slice none 0 0), (.slice none 0 0), (.slice none 0 0), (.slice none 0 0), (.slice none 0 0)]⟩ := tiK_of rfl K
theorem tk81 (K : TI → Prop) : tiK tab 81 K = K ⟨.st [(0, 38), (4, 22)], 5, 120, [(.slice none 0 0), (.slice none 0 0), (.slice none 0 0), (.slice none 0 0), (.slice none 0 0)]⟩ := tiK_of rfl K
theorem tk84 (K : TI → Prop) : tiK tab 84 K = K ⟨.sl 4, 1, 24, [(.slice none 0 0)]⟩ := tiK_of rfl K
theorem tk89 (K : TI → Prop) : tiK tab 89 K = K ⟨.ar 16 73, 16, 64, [(.int .u32 0), (.int .u32 0), (.int .u32 0), (.int .u32 0), (.int .u32 0), (.int .u32 0), (.int .u32 0), (.int .u32 0), (.int .u32 0), (.int .u32 0), (.int .u32 0), (.int .u32 0), (.int .u32 0), (.int .u32 0), (.int .u32 0), (.int .u32 0)]⟩ := tiK_of rfl K
theorem tk91 (K : TI → Prop) : tiK tab 91 K = K ⟨.st [(0, 17), (1, 17), (2, 17), (3, 9)], 4, 40, [(.pointer none), (.pointer none), (.pointer none), (.string ⟨#[]⟩)]⟩ := tiK_of rfl K
theorem tk93 (K : TI → Prop) : tiK tab 93 K = K ⟨.ar 0 16, 0, 0, []⟩ := tiK_of rfl K
theorem tk94 (K : TI → Prop) : tiK tab 94 K = K ⟨.st [(0, 93)], 0, 0, []⟩ := tiK_of rfl K
theorem tk100 (K : TI → Prop) : tiK tab 100 K = K ⟨.ptr 5, 1, 8, [(.pointer none)]⟩ := tiK_of rfl K
theorem tx2 (K : TI → Prop) : (∃ i, assoc tab 2 = some i ∧ K i) = K ⟨.int .i64, 1, 8, [(.int .i64 0)]⟩ := tab_ex rfl
theorem ty2 : (∃ i, assoc tab 2 = some i) = True := eq_true ⟨_, rfl⟩
theorem tx3 (K : TI → Prop) : (∃ i, assoc tab 3 = some i ∧ K i) = K ⟨.int .i64, 1, 8, [(.int .i64 0)]⟩ := tab_ex rfl
theorem ty3 : (∃ i, assoc tab 3 = some i) = True := eq_true ⟨_, rfl⟩
theorem tx4 (K : TI → Prop) : (∃ i, assoc tab 4 = some i ∧ K i) = K ⟨.bool, 1, 1, [(.bool false)]⟩ := tab_ex rfl
theorem ty4 : (∃ i, assoc tab 4 = some i) = True := eq_true ⟨_, rfl⟩
theorem tx5 (K : TI → Prop) : (∃ i, assoc tab 5 = some i ∧ K i) = K ⟨.int .u8, 1, 1, [(.int .u8 0)]⟩ := tab_ex rfl
theorem ty5 : (∃ i, assoc tab 5 = some i) = True := eq_true ⟨_, rfl⟩
theorem isU8_5 : IsU8 tab 5 = True := eq_true (isU8_of rfl rfl)
theorem tx9 (K : TI → Prop) : (∃ i, assoc tab 9 = some i ∧ K i) = K ⟨.str, 1, 16, [(.string ⟨#[]⟩)]⟩ := tab_ex rfl
theorem ty9 : (∃ i, assoc tab 9 = some i) = True := eq_true ⟨_, rfl⟩
theorem tx12 (K : TI → Prop) : (∃ i, assoc tab 12 = some i ∧ K i) = K ⟨.int .u64, 1, 8, [(.int .u64 0)]⟩ := tab_ex rfl
theorem ty12 : (∃ i, assoc tab 12 = some i) = True := eq_true ⟨_, rfl⟩
theorem tx21 (K : TI → Prop) : (∃ i, assoc tab 21 = some i ∧ K i) = K ⟨.int .i32, 1, 4, [(.int .i32 0)]⟩ := tab_ex rfl
theorem ty21 : (∃ i, assoc tab 21 = some i) = True := eq_true ⟨_, rfl⟩
theorem tx22 (K : TI → Prop) : (∃ i, assoc tab 22 = some i ∧ K i) = K ⟨.sl 5, 1, 24, [(.slice none 0 0)]⟩ := tab_ex rfl
theorem ty22 : (∃ i, assoc tab 22 = some i) = True := eq_true ⟨_, rfl⟩
theorem tx24 (K : TI → Prop) : (∃ i, assoc tab 24 = some i ∧ K i) = K ⟨.sl 22, 1, 24, [(.slice none 0 0)]⟩ := tab_ex rfl
theorem ty24 : (∃ i, assoc tab 24 = some i) = True := eq_true ⟨_, rfl⟩
theorem tx29 (K : TI → Prop) : (∃ i, assoc tab 29 = some i ∧ K i) = K ⟨.int .u16, 1, 2, [(.int .u16 0)]⟩ := tab_ex rfl
theorem ty29 : (∃ i, assoc tab 29 = some i) = True := eq_true ⟨_, rfl⟩
theorem tx30 (K : TI → Prop) : (∃ i, assoc tab 30 = some i ∧ K i) = K ⟨.sl 3, 1, 24, [(.slice none 0 0)]⟩ := tab_ex rfl
theorem ty30 : (∃ i, assoc tab 30 = some i) = True := eq_true ⟨_, rfl⟩
theorem tx35 (K : TI → Prop) : (∃ i, assoc tab 35 = some i ∧ K i) = K ⟨.st [(0, 22), (1, 22)], 2, 48, [(.slice none 0 0), (.slice none 0 0)]⟩ := tab_ex rfl
theorem ty35 : (∃ i, assoc tab 35 = some i) = True := eq_true ⟨_, rfl⟩
theorem tx36 (K : TI → Prop) : (∃ i, assoc tab 36 = some i ∧ K i) = K ⟨.st [(0, 22), (1, 22)], 2, 48, [(.slice none 0 0), (.slice none 0 0)]⟩ := tab_ex rfl
theorem ty36 : (∃ i, assoc tab 36 = some i) = True := eq_true ⟨_, rfl⟩
theorem tx37 (K : TI → Prop) : (∃ i, assoc tab 37 = some i ∧ K i) = K ⟨.st [(0, 36), (2, 36)], 4, 96, [(.slice none 0 0), (.slice none 0 0), (.slice none 0 0), (.slice none 0 0)]⟩ := tab_ex rfl
theorem ty37 : (∃ i, assoc tab 37 = some i) = True := eq_true ⟨_, rfl⟩
theorem tx38 (K : TI → Prop) : (∃ i, assoc tab 38 = some i ∧ K i) = K ⟨.st [(0, 36), (2, 36)], 4, 96, [(.slice none 0 0), (.slice none 0 0), (.slice none 0 0), (.slice none 0 0)]⟩ := tab_ex rfl
theorem ty38 : (∃ i, assoc tab 38 = some i) = True := eq_true ⟨_, rfl⟩
theorem tx45 (K : TI → Prop) : (∃ i, assoc tab 45 = some i ∧ K i) = K ⟨.int .i64, 1, 8, [(.int .i64 0)]⟩ := tab_ex rfl
theorem ty45 : (∃ i, assoc tab 45 = some i) = True := eq_true ⟨_, rfl⟩
theorem tx59 (K : TI → Prop) : (∃ i, assoc tab 59 = some i ∧ K i) = K ⟨.ar 4 5, 4, 4, [(.int .u8 0), (.int .u8 0), (.int .u8 0), (.int .u8 0)]⟩ := tab_ex rfl
theorem ty59 : (∃ i, assoc tab 59 = some i) = True := eq_true ⟨_, rfl⟩
theorem tx63 (K : TI → Prop) : (∃ i, assoc tab 63 = some i ∧ K i) = K ⟨.int .u64, 1, 8, [(.int .u64 0)]⟩ := tab_ex rfl
theorem ty63 : (∃ i, assoc tab 63 = some i) = True := eq_true ⟨_, rfl⟩
theorem tx73 (K : TI → Prop) : (∃ i, assoc tab 73 = some i ∧ K i) = K ⟨.int .u32, 1, 4, [(.int .u32 0)]⟩ := tab_ex rfl
theorem ty73 : (∃ i, assoc tab 73 = some i) = True := eq_true ⟨_, rfl⟩
theorem tx75 (K : TI → Prop) : (∃ i, assoc tab 75 = some i ∧ K i) = K ⟨.int .u64, 1, 8, [(.int .u64 0)]⟩ := tab_ex rfl
theorem ty75 : (∃ i, assoc tab 75 = some i) = True := eq_true ⟨_, rfl⟩
theorem tx77 (K : TI → Prop) : (∃ i, assoc tab 77 = some i ∧ K i) = K ⟨.ptr 36, 1, 8, [(.pointer none)]⟩ := tab_ex rfl
theorem ty77 : (∃ i, assoc tab 77 = some i) = True := eq_true ⟨_, rfl⟩
theorem tx79 (K : TI → Prop) : (∃ i, assoc tab 79 = some i ∧ K i) = K ⟨.ptr 38, 1, 8, [(.pointer none)]⟩ := tab_ex rfl
theorem ty79 : (∃ i, assoc tab 79 = some i) = True := eq_true ⟨_, rfl⟩
theorem tx80 (K : TI → Prop) : (∃ i, assoc tab 80 = some i ∧ K i) = K ⟨.st [(0, 38), (4, 22)], 5, 120, [(.slice none 0 0), (.slice none 0 0), (.slice none 0 0), (.slice none 0 0), (.slice none 0 0)]⟩ := tab_ex rfl
theorem ty80 : (∃ i, assoc tab 80 = some i) = True := eq_true ⟨_, rfl⟩
theorem tx81 (K : TI → Prop) : (∃ i, assoc tab 81 = some i ∧ K i) = K ⟨.st [(0, 38), (4, 22)], 5, 120, [(.slice none 0 0), (.slice none 0 0), (.slice none 0 0), (.slice none 0 0), (.slice none 0 0)]⟩ := tab_ex rfl
theorem ty81 : (∃ i, assoc tab 81 = some i) = True := eq_true ⟨_, rfl⟩
theorem tx84 (K : TI → Prop) : (∃ i, assoc tab 84 = some i ∧ K i) = K ⟨.sl 4, 1, 24, [(.slice none 0 0)]⟩ := tab_ex rfl
theorem ty84 : (∃ i, assoc tab 84 = some i) = True := eq_true ⟨_, rfl⟩
theorem tx89 (K : TI → Prop) : (∃ i, assoc tab 89 = some i ∧ K i) = K ⟨.ar 16 73, 16, 64, [(.int .u32 0), (.int .u32 0), (.int .u32 0), (.int .u32 0), (.int .u32 0), (.int .u32 0), (.int .u32 0), (.int .u32 0), (.int .u32 0), (.int .u32 0), (.int .u32 0), (.int .u32 0), (.int .u32 0), (.int .u32 0), (.int .u32 0), (.int .u32 0)]⟩ := tab_ex rfl
theorem ty89 : (∃ i, assoc tab 89 = some i) = True := eq_true ⟨_, rfl⟩
theorem tx91 (K : TI → Prop) : (∃ i, assoc tab 91 = some i ∧ K i) = K ⟨.st [(0, 17), (1, 17), (2, 17), (3, 9)], 4, 40, [(.pointer none), (.pointer none), (.pointer none), (.string ⟨#[]⟩)]⟩ := tab_ex rfl
theorem ty91 : (∃ i, assoc tab 91 = some i) = True := eq_true ⟨_, rfl⟩
theorem tx93 (K : TI → Prop) : (∃ i, assoc tab 93 = some i ∧ K i) = K ⟨.ar 0 16, 0, 0, []⟩ := tab_ex rfl
theorem ty93 : (∃ i, assoc tab 93 = some i) = True := eq_true ⟨_, rfl⟩
theorem tx94 (K : TI → Prop) : (∃ i, assoc tab 94 = some i ∧ K i) = K ⟨.st [(0, 93)], 0, 0, []⟩ := tab_ex rfl
theorem ty94 : (∃ i, assoc tab 94 = some i) = True := eq_true ⟨_, rfl⟩
theorem tx100 (K : TI → Prop) : (∃ i, assoc tab 100 = some i ∧ K i) = K ⟨.ptr 5, 1, 8, [(.pointer none)]⟩ := tab_ex rfl
theorem ty100 : (∃ i, assoc tab 100 = some i) = True := eq_true ⟨_, rfl⟩
theorem mixed : Tryd.prog.follows .mixedOrders = true := by kernel_rfl
theorem tabOk : TabOk Tryd.prog tab := TabAll.ok ⟨ti2, ti3, ti4, ti5, ti9, ti12, ti21, ti22, ti24, ti29, ti30, ti35, ti36, ti37, ti38, ti45, ti59, ti63, ti73, ti75, ti77, ti79, ti80, ti81, ti84, ti89, ti91, ti93, ti94, ti100, trivial⟩
theorem wt : (((((type_of% @tk2) ∧ ((type_of% @tk3) ∧ (type_of% @tk4))) ∧ (((type_of% @tk5) ∧ (type_of% @tk9)) ∧ ((type_of% @tk12) ∧ (type_of% @tk21)))) ∧ ((((type_of% @tk22) ∧ (type_of% @tk24)) ∧ ((type_of% @tk29) ∧ (type_of% @tk30))) ∧ (((type_of% @tk35) ∧ (type_of% @tk36)) ∧ ((type_of% @tk37) ∧ (type_of% @tk38))))) ∧ ((((type_of% @tk45) ∧ ((type_of% @tk59) ∧ (type_of% @tk63))) ∧ (((type_of% @tk73) ∧ (type_of% @tk75)) ∧ ((type_of% @tk77) ∧ (type_of% @tk79)))) ∧ ((((type_of% @tk80) ∧ (type_of% @tk81)) ∧ ((type_of% @tk84) ∧ (type_of% @tk89))) ∧ (((type_of% @tk91) ∧ (type_of% @tk93)) ∧ ((type_of% @tk94) ∧ (type_of% @tk100)))))) ∧ (((((type_of% @tx2) ∧ ((type_of% @tx3) ∧ (type_of% @tx4))) ∧ (((type_of% @tx5) ∧ (type_of% @tx9)) ∧ ((type_of% @tx12) ∧ (type_of% @tx21)))) ∧ ((((type_of% @tx22) ∧ (type_of% @tx24)) ∧ ((type_of% @tx29) ∧ (type_of% @tx30))) ∧ (((type_of% @tx35) ∧ (type_of% @tx36)) ∧ ((type_of% @tx37) ∧ (type_of% @tx38))))) ∧ ((((type_of% @tx45) ∧ ((type_of% @tx59) ∧ (type_of% @tx63))) ∧ (((type_of% @tx73) ∧ (type_of% @tx75)) ∧ ((type_of% @tx77) ∧ (type_of% @tx79)))) ∧ ((((type_of% @tx80) ∧ (type_of% @tx81)) ∧ ((type_of% @tx84) ∧ (type_of% @tx89))) ∧ (((type_of% @tx91) ∧ (type_of% @tx93)) ∧ ((type_of% @tx94) ∧ (type_of% @tx100)))))) :=
  ⟨⟨⟨⟨⟨@tk2, ⟨@tk3, @tk4⟩⟩, ⟨⟨@tk5, @tk9⟩, ⟨@tk12, @tk21⟩⟩⟩, ⟨⟨⟨@tk22, @tk24⟩, ⟨@tk29, @tk30⟩⟩, ⟨⟨@tk35, @tk36⟩, ⟨@tk37, @tk38⟩⟩⟩⟩, ⟨⟨⟨@tk45, ⟨@tk59, @tk63⟩⟩, ⟨⟨@tk73, @tk75⟩, ⟨@tk77, @tk79⟩⟩⟩, ⟨⟨⟨@tk80, @tk81⟩, ⟨@tk84, @tk89⟩⟩, ⟨⟨@tk91, @tk93⟩, ⟨@tk94, @tk100⟩⟩⟩⟩⟩, ⟨⟨⟨⟨@tx2, ⟨@tx3, @tx4⟩⟩, ⟨⟨@tx5, @tx9⟩, ⟨@tx12, @tx21⟩⟩⟩, ⟨⟨⟨@tx22, @tx24⟩, ⟨@tx29, @tx30⟩⟩, ⟨⟨@tx35, @tx36⟩, ⟨@tx37, @tx38⟩⟩⟩⟩, ⟨⟨⟨@tx45, ⟨@tx59, @tx63⟩⟩, ⟨⟨@tx73, @tx75⟩, ⟨@tx77, @tx79⟩⟩⟩, ⟨⟨⟨@tx80, @tx81⟩, ⟨@tx84, @tx89⟩⟩, ⟨⟨@tx91, @tx93⟩, ⟨@tx94, @tx100⟩⟩⟩⟩⟩⟩
theorem wu : ((((type_of% @ty2) ∧ ((type_of% @ty3) ∧ (type_of% @ty4))) ∧ (((type_of% @ty5) ∧ (type_of% @ty9)) ∧ ((type_of% @ty12) ∧ (type_of% @ty21)))) ∧ ((((type_of% @ty22) ∧ (type_of% @ty24)) ∧ ((type_of% @ty29) ∧ (type_of% @ty30))) ∧ (((type_of% @ty35) ∧ (type_of% @ty36)) ∧ ((type_of% @ty37) ∧ (type_of% @ty38))))) ∧ (((((type_of% @ty45) ∧ (type_of% @ty59)) ∧ ((type_of% @ty63) ∧ (type_of% @ty73))) ∧ (((type_of% @ty75) ∧ (type_of% @ty77)) ∧ ((type_of% @ty79) ∧ (type_of% @ty80)))) ∧ ((((type_of% @ty81) ∧ (type_of% @ty84)) ∧ ((type_of% @ty89) ∧ (type_of% @ty91))) ∧ (((type_of% @ty93) ∧ (type_of% @ty94)) ∧ ((type_of% @ty100) ∧ (type_of% @isU8_5))))) :=
  ⟨⟨⟨⟨@ty2, ⟨@ty3, @ty4⟩⟩, ⟨⟨@ty5, @ty9⟩, ⟨@ty12, @ty21⟩⟩⟩, ⟨⟨⟨@ty22, @ty24⟩, ⟨@ty29, @ty30⟩⟩, ⟨⟨@ty35, @ty36⟩, ⟨@ty37, @ty38⟩⟩⟩⟩, ⟨⟨⟨⟨@ty45, @ty59⟩, ⟨@ty63, @ty73⟩⟩, ⟨⟨@ty75, @ty77⟩, ⟨@ty79, @ty80⟩⟩⟩, ⟨⟨⟨@ty81, @ty84⟩, ⟨@ty89, @ty91⟩⟩, ⟨⟨@ty93, @ty94⟩, ⟨@ty100, @isU8_5⟩⟩⟩⟩⟩
end Go.Ab
