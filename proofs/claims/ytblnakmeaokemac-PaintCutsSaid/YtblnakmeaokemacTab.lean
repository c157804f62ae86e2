import Derived.Test.YtblnakmeaokemacProg
import Derived.Test.YtblnakmeaokemacAbG7
import Derived.KernelRfl
set_option maxRecDepth 100000
namespace Go.Ab
open Go Go.Proofs

def tab : Tab :=
  [(2, ⟨.int .i64, 1, 8, [(.int .i64 0)]⟩),
   (3, ⟨.int .i64, 1, 8, [(.int .i64 0)]⟩),
   (4, ⟨.bool, 1, 1, [(.bool false)]⟩),
   (5, ⟨.int .u8, 1, 1, [(.int .u8 0)]⟩),
   (9, ⟨.str, 1, 16, [(.string ⟨#[]⟩)]⟩),
   (12, ⟨.int .u64, 1, 8, [(.int .u64 0)]⟩),
   (21, ⟨.int .i32, 1, 4, [(.int .i32 0)]⟩),
   (22, ⟨.st [(0, 3), (1, 3), (2, 3), (3, 3), (4, 2), (5, 2)], 6, 48, [(.int .i64 0), (.int .i64 0), (.int .i64 0), (.int .i64 0), (.int .i64 0), (.int .i64 0)]⟩),
   (23, ⟨.st [(0, 3), (1, 3), (2, 3), (3, 3), (4, 2), (5, 2)], 6, 48, [(.int .i64 0), (.int .i64 0), (.int .i64 0), (.int .i64 0), (.int .i64 0), (.int .i64 0)]⟩),
   (24, ⟨.sl 5, 1, 24, [(.slice none 0 0)]⟩),
   (26, ⟨.sl 47, 1, 24, [(.slice none 0 0)]⟩),
   (35, ⟨.int .u16, 1, 2, [(.int .u16 0)]⟩),
   (45, ⟨.sl 2, 1, 24, [(.slice none 0 0)]⟩),
   (46, ⟨.st [(0, 2), (1, 2), (2, 45)], 3, 40, [(.int .i64 0), (.int .i64 0), (.slice none 0 0)]⟩),
   (47, ⟨.st [(0, 2), (1, 2), (2, 45)], 3, 40, [(.int .i64 0), (.int .i64 0), (.slice none 0 0)]⟩),
   (54, ⟨.int .u64, 1, 8, [(.int .u64 0)]⟩),
   (62, ⟨.st [(0, 23), (6, 26)], 7, 72, [(.int .i64 0), (.int .i64 0), (.int .i64 0), (.int .i64 0), (.int .i64 0), (.int .i64 0), (.slice none 0 0)]⟩),
   (63, ⟨.st [(0, 23), (6, 26)], 7, 72, [(.int .i64 0), (.int .i64 0), (.int .i64 0), (.int .i64 0), (.int .i64 0), (.int .i64 0), (.slice none 0 0)]⟩),
   (73, ⟨.sl 45, 1, 24, [(.slice none 0 0)]⟩),
   (75, ⟨.int .u64, 1, 8, [(.int .u64 0)]⟩),
   (85, ⟨.st [(0, 17), (1, 17), (2, 17), (3, 9)], 4, 40, [(.pointer none), (.pointer none), (.pointer none), (.string ⟨#[]⟩)]⟩),
   (87, ⟨.ar 0 16, 0, 0, []⟩),
   (88, ⟨.st [(0, 87)], 0, 0, []⟩),
   (91, ⟨.int .u32, 1, 4, [(.int .u32 0)]⟩),
   (95, ⟨.ptr 5, 1, 8, [(.pointer none)]⟩)]
theorem ti2 : TOk Try.prog 2 ⟨.int .i64, 1, 8, [(.int .i64 0)]⟩ := .mk' (by kernel_rfl) Try.underlying2 rfl
theorem ti3 : TOk Try.prog 3 ⟨.int .i64, 1, 8, [(.int .i64 0)]⟩ := .mk' (by kernel_rfl) Try.underlying3 rfl
theorem ti4 : TOk Try.prog 4 ⟨.bool, 1, 1, [(.bool false)]⟩ := .mk' (by kernel_rfl) Try.underlying4 rfl
theorem ti5 : TOk Try.prog 5 ⟨.int .u8, 1, 1, [(.int .u8 0)]⟩ := .mk' (by kernel_rfl) Try.underlying5 rfl
theorem ti9 : TOk Try.prog 9 ⟨.str, 1, 16, [(.string ⟨#[]⟩)]⟩ := .mk' (by kernel_rfl) Try.underlying9 rfl
theorem ti12 : TOk Try.prog 12 ⟨.int .u64, 1, 8, [(.int .u64 0)]⟩ := .mk' (by kernel_rfl) Try.underlying12 rfl
theorem ti21 : TOk Try.prog 21 ⟨.int .i32, 1, 4, [(.int .i32 0)]⟩ := .mk' (by kernel_rfl) Try.underlying21 rfl
theorem ti22 : TOk Try.prog 22 ⟨.st [(0, 3), (1, 3), (2, 3), (3, 3), (4, 2), (5, 2)], 6, 48, [(.int .i64 0), (.int .i64 0), (.int .i64 0), (.int .i64 0), (.int .i64 0), (.int .i64 0)]⟩ := .mk' (by kernel_rfl) ⟨_, Try.underlying22, rfl⟩ rfl
theorem ti23 : TOk Try.prog 23 ⟨.st [(0, 3), (1, 3), (2, 3), (3, 3), (4, 2), (5, 2)], 6, 48, [(.int .i64 0), (.int .i64 0), (.int .i64 0), (.int .i64 0), (.int .i64 0), (.int .i64 0)]⟩ := .mk' (by kernel_rfl) ⟨_, Try.underlying23, rfl⟩ rfl
theorem ti24 : TOk Try.prog 24 ⟨.sl 5, 1, 24, [(.slice none 0 0)]⟩ := .mk' (by kernel_rfl) Try.underlying24 rfl
theorem ti26 : TOk Try.prog 26 ⟨.sl 47, 1, 24, [(.slice none 0 0)]⟩ := .mk' (by kernel_rfl) Try.underlying26 rfl
theorem ti35 : TOk Try.prog 35 ⟨.int .u16, 1, 2, [(.int .u16 0)]⟩ := .mk' (by kernel_rfl) Try.underlying35 rfl
theorem ti45 : TOk Try.prog 45 ⟨.sl 2, 1, 24, [(.slice none 0 0)]⟩ := .mk' (by kernel_rfl) Try.underlying45 rfl
theorem ti46 : TOk Try.prog 46 ⟨.st [(0, 2), (1, 2), (2, 45)], 3, 40, [(.int .i64 0), (.int .i64 0), (.slice none 0 0)]⟩ := .mk' (by kernel_rfl) ⟨_, Try.underlying46, rfl⟩ rfl
theorem ti47 : TOk Try.prog 47 ⟨.st [(0, 2), (1, 2), (2, 45)], 3, 40, [(.int .i64 0), (.int .i64 0), (.slice none 0 0)]⟩ := .mk' (by kernel_rfl) ⟨_, Try.underlying47, rfl⟩ rfl
theorem ti54 : TOk Try.prog 54 ⟨.int .u64, 1, 8, [(.int .u64 0)]⟩ := .mk' (by kernel_rfl) Try.underlying54 rfl
theorem ti62 : TOk Try.prog 62 ⟨.st [(0, 23), (6, 26)], 7, 72, [(.int .i64 0), (.int .i64 0), (.int .i64 0), (.int .i64 0), (.int .i64 0), (.int .i64 0), (.slice none 0 0)]⟩ := .mk' (by kernel_rfl) ⟨_, Try.underlying62, rfl⟩ rfl
theorem ti63 : TOk Try.prog 63 ⟨.st [(0, 23), (6, 26)], 7, 72, [(.int .i64 0), (.int .i64 0), (.int .i64 0), (.int .i64 0), (.int .i64 0), (.int .i64 0), (.slice none 0 0)]⟩ := .mk' (by kernel_rfl) ⟨_, Try.underlying63, rfl⟩ rfl
theorem ti73 : TOk Try.prog 73 ⟨.sl 45, 1, 24, [(.slice none 0 0)]⟩ := .mk' (by kernel_rfl) Try.underlying73 rfl
theorem ti75 : TOk Try.prog 75 ⟨.int .u64, 1, 8, [(.int .u64 0)]⟩ := .mk' (by kernel_rfl) Try.underlying75 rfl
theorem ti85 : TOk Try.prog 85 ⟨.st [(0, 17), (1, 17), (2, 17), (3, 9)], 4, 40, [(.pointer none), (.pointer none), (.pointer none), (.string ⟨#[]⟩)]⟩ := .mk' (by kernel_rfl) ⟨_, Try.underlying85, rfl⟩ rfl
theorem ti87 : TOk Try.prog 87 ⟨.ar 0 16, 0, 0, []⟩ := .mk' (by kernel_rfl) Try.underlying87 rfl
theorem ti88 : TOk Try.prog 88 ⟨.st [(0, 87)], 0, 0, []⟩ := .mk' (by kernel_rfl) ⟨_, Try.underlying88, rfl⟩ rfl
theorem ti91 : TOk Try.prog 91 ⟨.int .u32, 1, 4, [(.int .u32 0)]⟩ := .mk' (by kernel_rfl) Try.underlying91 rfl
theorem ti95 : TOk Try.prog 95 ⟨.ptr 5, 1, 8, [(.pointer none)]⟩ := .mk' (by kernel_rfl) Try.underlying95 rfl
theorem tk2 (K : TI → Prop) : tiK tab 2 K = K ⟨.int .i64, 1, 8, [(.int .i64 0)]⟩ := tiK_of rfl K
theorem tk3 (K : TI → Prop) : tiK tab 3 K = K ⟨.int .i64, 1, 8, [(.int .i64 0)]⟩ := tiK_of rfl K
theorem tk4 (K : TI → Prop) : tiK tab 4 K = K ⟨.bool, 1, 1, [(.bool false)]⟩ := tiK_of rfl K
theorem tk5 (K : TI → Prop) : tiK tab 5 K = K ⟨.int .u8, 1, 1, [(.int .u8 0)]⟩ := tiK_of rfl K
theorem tk9 (K : TI → Prop) : tiK tab 9 K = K ⟨.str, 1, 16, [(.string ⟨#[]⟩)]⟩ := tiK_of rfl K
theorem tk12 (K : TI → Prop) : tiK tab 12 K = K ⟨.int .u64, 1, 8, [(.int .u64 0)]⟩ := tiK_of rfl K
theorem tk21 (K : TI → Prop) : tiK tab 21 K = K ⟨.int .i32, 1, 4, [(.int .i32 0)]⟩ := tiK_of rfl K
theorem tk22 (K : TI → Prop) : tiK tab 22 K = K ⟨.st [(0, 3), (1, 3), (2, 3), (3, 3), (4, 2), (5, 2)], 6, 48, [(.int .i64 0), (.int .i64 0), (.int .i64 0), (.int .i64 0), (.int .i64 0), (.int .i64 0)]⟩ := tiK_of rfl K
theorem tk23 (K : TI → Prop) : tiK tab 23 K = K ⟨.st [(0, 3), (1, 3), (2, 3), (3, 3), (4, 2), (5, 2)], 6, 48, [(.int .i64 0), (.int .i64 0), (.int .i64 0), (.int .i64 0), (.int .i64 0), (.int .i64 0)]⟩ := tiK_of rfl K
theorem tk24 (K : TI → Prop) : tiK tab 24 K = K ⟨.sl 5, 1, 24, [(.slice none 0 0)]⟩ := tiK_of rfl K
theorem tk26 (K : TI → Prop) : tiK tab 26 K = K ⟨.sl 47, 1, 24, [(.slice none 0 0)]⟩ := tiK_of rfl K
theorem tk35 (K : TI → Prop) : tiK tab 35 K = K ⟨.int .u16, 1, 2, [(.int .u16 0)]⟩ := tiK_of rfl K
theorem tk45 (K : TI → Prop) : tiK tab 45 K = K ⟨.sl 2, 1, 24, [(.slice none 0 0)]⟩ := tiK_of rfl K
theorem tk46 (K : TI → Prop) : tiK tab 46 K = K ⟨.st [(0, 2), (1, 2), (2, 45)], 3, 40, [(.int .i64 0), (.int .i64 0), (.slice none 0 0)]⟩ := tiK_of rfl K
theorem tk47 (K : TI → Prop) : tiK tab 47 K = K ⟨.st [(0, 2), (1, 2), (2, 45)], 3, 40, [(.int .i64 0), (.int .i64 0), (.slice none 0 0)]⟩ := tiK_of rfl K
theorem tk54 (K : TI → Prop) : tiK tab 54 K = K ⟨.int .u64, 1, 8, [(.int .u64 0)]⟩ := tiK_of rfl K
theorem tk62 (K : TI → Prop) : tiK tab 62 K = K ⟨.st [(0, 23), (6, 26)], 7, 72, [(.int .i64 0), (.int .i64 0), (.int .i64 0), (.int .i64 0), (.int .i64 0), (.int .i64 0), (.slice none 0 0)]⟩ := tiK_of rfl K
theorem tk63 (K : TI → Prop) : tiK tab 63 K = K ⟨.st [(0, 23), (6, 26)], 7, 72, [(.int .i64 0), (.int .i64 0), (.int .i64 0), (.int .i64 0), (.int .i64 0), (.int .i64 0), (.slice none 0 0)]⟩ := tiK_of rfl K
theorem tk73 (K : TI → Prop) : tiK tab 73 K = K ⟨.sl 45, 1, 24, [(.slice none 0 0)]⟩ := tiK_of rfl K
theorem tk75 (K : TI → Prop) : tiK tab 75 K = K ⟨.int .u64, 1, 8, [(.int .u64 0)]⟩ := tiK_of rfl K
theorem tk85 (K : TI → Prop) : tiK tab 85 K = K ⟨.st [(0, 17), (1, 17), (2, 17), (3, 9)], 4, 40, [(.pointer none), (.pointer none), (.pointer none), (.string ⟨#[]⟩)]⟩ := tiK_of rfl K
theorem tk87 (K : TI → Prop) : tiK tab 87 K = K ⟨.ar 0 16, 0, 0, []⟩ := tiK_of rfl K
theorem tk88 (K : TI → Prop) : tiK tab 88 K = K ⟨.st [(0, 87)], 0, 0, []⟩ := tiK_of rfl K
theorem tk91 (K : TI → Prop) : tiK tab 91 K = K ⟨.int .u32, 1, 4, [(.int .u32 0)]⟩ := tiK_of rfl K
theorem tk95 (K : TI → Prop) : tiK tab 95 K = K ⟨.ptr 5, 1, 8, [(.pointer none)]⟩ := tiK_of rfl K
theorem tx2 (K : TI → Prop) : (∃ i, assoc tab 2 = some i ∧ K i) = K ⟨.int .i64, 1, 8, [(.int .i64 0)]⟩ := tab_ex rfl
theorem ty2 : (∃ i, assoc tab 2 = some i) = True := eq_true ⟨_, rfl⟩
theorem tx3 (K : TI → Prop) : (∃ i, assoc tab 3 = some i ∧ K i) = K ⟨.int .i64, 1, 8, [(.int .i64 0)]⟩ := tab_ex rfl
theorem ty3 : (∃ i, assoc tab 3 = some i) = True := eq_true ⟨_, rfl⟩
theorem tx4 (K : TI → Prop) : (∃ i, assoc tab 4 = some i ∧ K i) = K ⟨.bool, 1, 1, [(.bool false)]⟩ := tab_ex rfl
theorem ty4 : (∃ i, assoc tab 4 = some i) = True := eq_true ⟨_, rfl⟩
theorem tx5 (K : TI → Prop) : (∃ i, assoc tab 5 = some i ∧ K i) = K ⟨.int .u8, 1, 1, [(.int .u8 0)]⟩ := tab_ex rfl
theorem ty5 : (∃ i, assoc tab 5 = some i) = True := eq_true ⟨_, rfl⟩
theorem isU8_5 : IsU8 tab 5 = True := eq_true (isU8_of rfl rfl)
theorem tx9 (K : TI → Prop) : (∃ i, assoc tab 9 = some i ∧ K i) = K ⟨.str, 1, 16, [(.string ⟨#[]⟩)]⟩ := tab_ex rfl
theorem ty9 : (∃ i, assoc tab 9 = some i) = True := eq_true ⟨_, rfl⟩
theorem tx12 (K : TI → Prop) : (∃ i, assoc tab 12 = some i ∧ K i) = K ⟨.int .u64, 1, 8, [(.int .u64 0)]⟩ := tab_ex rfl
theorem ty12 : (∃ i, assoc tab 12 = some i) = True := eq_true ⟨_, rfl⟩
theorem tx21 (K : TI → Prop) : (∃ i, assoc tab 21 = some i ∧ K i) = K ⟨.int .i32, 1, 4, [(.int .i32 0)]⟩ := tab_ex rfl
theorem ty21 : (∃ i, assoc tab 21 = some i) = True := eq_true ⟨_, rfl⟩
theorem tx22 (K : TI → Prop) : (∃ i, assoc tab 22 = some i ∧ K i) = K ⟨.st [(0, 3), (1, 3), (2, 3), (3, 3), (4, 2), (5, 2)], 6, 48, [(.int .i64 0), (.int .i64 0), (.int .i64 0), (.int .i64 0), (.int .i64 0), (.int .i64 0)]⟩ := tab_ex rfl
theorem ty22 : (∃ i, assoc tab 22 = some i) = True := eq_true ⟨_, rfl⟩
theorem tx23 (K : TI → Prop) : (∃ i, assoc tab 23 = some i ∧ K i) = K ⟨.st [(0, 3), (1, 3), (2, 3), (3, 3), (4, 2), (5, 2)], 6, 48, [(.int .i64 0), (.int .i64 0), (.int .i64 0), (.int .i64 0), (.int .i64 0), (.int .i64 0)]⟩ := tab_ex rfl
theorem ty23 : (∃ i, assoc tab 23 = some i) = True := eq_true ⟨_, rfl⟩
theorem tx24 (K : TI → Prop) : (∃ i, assoc tab 24 = some i ∧ K i) = K ⟨.sl 5, 1, 24, [(.slice none 0 0)]⟩ := tab_ex rfl
theorem ty24 : (∃ i, assoc tab 24 = some i) = True := eq_true ⟨_, rfl⟩
theorem tx26 (K : TI → Prop) : (∃ i, assoc tab 26 = some i ∧ K i) = K ⟨.sl 47, 1, 24, [(.slice none 0 0)]⟩ := tab_ex rfl
theorem ty26 : (∃ i, assoc tab 26 = some i) = True := eq_true ⟨_, rfl⟩
theorem tx35 (K : TI → Prop) : (∃ i, assoc tab 35 = some i ∧ K i) = K ⟨.int .u16, 1, 2, [(.int .u16 0)]⟩ := tab_ex rfl
theorem ty35 : (∃ i, assoc tab 35 = some i) = True := eq_true ⟨_, rfl⟩
theorem tx45 (K : TI → Prop) : (∃ i, assoc tab 45 = some i ∧ K i) = K ⟨.sl 2, 1, 24, [(.slice none 0 0)]⟩ := tab_ex rfl
theorem ty45 : (∃ i, assoc tab 45 = some i) = True := eq_true ⟨_, rfl⟩
theorem tx46 (K : TI → Prop) : (∃ i, assoc tab 46 = some i ∧ K i) = K ⟨.st [(0, 2), (1, 2), (2, 45)], 3, 40, [(.int .i64 0), (.int .i64 0), (.slice none 0 0)]⟩ := tab_ex rfl
theorem ty46 : (∃ i, assoc tab 46 = some i) = True := eq_true ⟨_, rfl⟩
theorem tx47 (K : TI → Prop) : (∃ i, assoc tab 47 = some i ∧ K i) = K ⟨.st [(0, 2), (1, 2), (2, 45)], 3, 40, [(.int .i64 0), (.int .i64 0), (.slice none 0 0)]⟩ := tab_ex rfl
theorem ty47 : (∃ i, assoc tab 47 = some i) = True := eq_true ⟨_, rfl⟩
theorem tx54 (K : TI → Prop) : (∃ i, assoc tab 54 = some i ∧ K i) = K ⟨.int .u64, 1, 8, [(.int .u64 0)]⟩ := tab_ex rfl
theorem ty54 : (∃ i, assoc tab 54 = some i) = True := eq_true ⟨_, rfl⟩
theorem tx62 (K : TI → Prop) : (∃ i, assoc tab 62 = some i ∧ K i) = K ⟨.st [(0, 23), (6, 26)], 7, 72, [(.int .i64 0), (.int .i64 0), (.int .i64 0), (.int .i64 0), (.int .i64 0), (.int .i64 0), (.slice none 0 0)]⟩ := tab_ex rfl
theorem ty62 : (∃ i, assoc tab 62 = some i) = True := eq_true ⟨_, rfl⟩
theorem tx63 (K : TI → Prop) : (∃ i, assoc tab 63 = some i ∧ K i) = K ⟨.st [(0, 23), (6, 26)], 7, 72, [(.int .i64 0), (.int .i64 0), (.int .i64 0), (.int .i64 0), (.int .i64 0), (.int .i64 0), (.slice none 0 0)]⟩ := tab_ex rfl
theorem ty63 : (∃ i, assoc tab 63 = some i) = True := eq_true ⟨_, rfl⟩
theorem tx73 (K : TI → Prop) : (∃ i, assoc tab 73 = some i ∧ K i) = K ⟨.sl 45, 1, 24, [(.slice none 0 0)]⟩ := tab_ex rfl
theorem ty73 : (∃ i, assoc tab 73 = some i) = True := eq_true ⟨_, rfl⟩
theorem tx75 (K : TI → Prop) : (∃ i, assoc tab 75 = some i ∧ K i) = K ⟨.int .u64, 1, 8, [(.int .u64 0)]⟩ := tab_ex rfl
theorem ty75 : (∃ i, assoc tab 75 = some i) = True := eq_true ⟨_, rfl⟩
theorem tx85 (K : TI → Prop) : (∃ i, assoc tab 85 = some i ∧ K i) = K ⟨.st [(0, 17), (1, 17), (2, 17), (3, 9)], 4, 40, [(.pointer none), (.pointer none), (.pointer none), (.string ⟨#[]⟩)]⟩ := tab_ex rfl
theorem ty85 : (∃ i, assoc tab 85 = some i) = True := eq_true ⟨_, rfl⟩
theorem tx87 (K : TI → Prop) : (∃ i, assoc tab 87 = some i ∧ K i) = K ⟨.ar 0 16, 0, 0, []⟩ := tab_ex rfl
theorem ty87 : (∃ i, assoc tab 87 = some i) = True := eq_true ⟨_, rfl⟩
theorem tx88 (K : TI → Prop) : (∃ i, assoc tab 88 = some i ∧ K i) = K ⟨.st [(0, 87)], 0, 0, []⟩ := tab_ex rfl
theorem ty88 : (∃ i, assoc tab 88 = some i) = True := eq_true ⟨_, rfl⟩
theorem tx91 (K : TI → Prop) : (∃ i, assoc tab 91 = some i ∧ K i) = K ⟨.int .u32, 1, 4, [(.int .u32 0)]⟩ := tab_ex rfl
theorem ty91 : (∃ i, assoc tab 91 = some i) = True := eq_true ⟨_, rfl⟩
theorem tx95 (K : TI → Prop) : (∃ i, assoc tab 95 = some i ∧ K i) = K ⟨.ptr 5, 1, 8, [(.pointer none)]⟩ := tab_ex rfl
theorem ty95 : (∃ i, assoc tab 95 = some i) = True := eq_true ⟨_, rfl⟩
theorem mixed : Try.prog.follows .mixedOrders = true := by kernel_rfl
theorem tabOk : TabOk Try.prog tab := TabAll.ok ⟨ti2, ti3, ti4, ti5, ti9, ti12, ti21, ti22, ti23, ti24, ti26, ti35, ti45, ti46, ti47, ti54, ti62, ti63, ti73, ti75, ti85, ti87, ti88, ti91, ti95, trivial⟩
theorem wt : (((((type_of% @tk2) ∧ ((type_of% @tk3) ∧ (type_of% @tk4))) ∧ ((type_of% @tk5) ∧ ((type_of% @tk9) ∧ (type_of% @tk12)))) ∧ (((type_of% @tk21) ∧ ((type_of% @tk22) ∧ (type_of% @tk23))) ∧ ((type_of% @tk24) ∧ ((type_of% @tk26) ∧ (type_of% @tk35))))) ∧ ((((type_of% @tk45) ∧ ((type_of% @tk46) ∧ (type_of% @tk47))) ∧ ((type_of% @tk54) ∧ ((type_of% @tk62) ∧ (type_of% @tk63)))) ∧ (((type_of% @tk73) ∧ ((type_of% @tk75) ∧ (type_of% @tk85))) ∧ (((type_of% @tk87) ∧ (type_of% @tk88)) ∧ ((type_of% @tk91) ∧ (type_of% @tk95)))))) ∧ (((((type_of% @tx2) ∧ ((type_of% @tx3) ∧ (type_of% @tx4))) ∧ ((type_of% @tx5) ∧ ((type_of% @tx9) ∧ (type_of% @tx12)))) ∧ (((type_of% @tx21) ∧ ((type_of% @tx22) ∧ (type_of% @tx23))) ∧ ((type_of% @tx24) ∧ ((type_of% @tx26) ∧ (type_of% @tx35))))) ∧ ((((type_of% @tx45) ∧ ((type_of% @tx46) ∧ (type_of% @tx47))) ∧ ((type_of% @tx54) ∧ ((type_of% @tx62) ∧ (type_of% @tx63)))) ∧ (((type_of% @tx73) ∧ ((type_of% @tx75) ∧ (type_of% @tx85))) ∧ (((type_of% @tx87) ∧ (type_of% @tx88)) ∧ ((type_of% @tx91) ∧ (type_of% @tx95)))))) :=
  ⟨⟨⟨⟨⟨@tk2, ⟨@tk3, @tk4⟩⟩, ⟨@tk5, ⟨@tk9, @tk12⟩⟩⟩, ⟨⟨@tk21, ⟨@tk22, @tk23⟩⟩, ⟨@tk24, ⟨@tk26, @tk35⟩⟩⟩⟩, ⟨⟨⟨@tk45, ⟨@tk46, @tk47⟩⟩, ⟨@tk54, ⟨@tk62, @tk63⟩⟩⟩, ⟨⟨@tk73, ⟨@tk75, @tk85⟩⟩, ⟨⟨@tk87, @tk88⟩, ⟨@tk91, @tk95⟩⟩⟩⟩⟩, ⟨⟨⟨⟨@tx2, ⟨@tx3, @tx4⟩⟩, ⟨@tx5, ⟨@tx9, @tx12⟩⟩⟩, ⟨⟨@tx21, ⟨@tx22, @tx23⟩⟩, ⟨@tx24, ⟨@tx26, @tx35⟩⟩⟩⟩, ⟨⟨⟨@tx45, ⟨@tx46, @tx47⟩⟩, ⟨@tx54, ⟨@tx62, @tx63⟩⟩⟩, ⟨⟨@tx73, ⟨@tx75, @tx85⟩⟩, ⟨⟨@tx87, @tx88⟩, ⟨@tx91, @tx95⟩⟩⟩⟩⟩⟩
theorem wu : ((((type_of% @ty2) ∧ ((type_of% @ty3) ∧ (type_of% @ty4))) ∧ ((type_of% @ty5) ∧ ((type_of% @ty9) ∧ (type_of% @ty12)))) ∧ (((type_of% @ty21) ∧ ((type_of% @ty22) ∧ (type_of% @ty23))) ∧ (((type_of% @ty24) ∧ (type_of% @ty26)) ∧ ((type_of% @ty35) ∧ (type_of% @ty45))))) ∧ ((((type_of% @ty46) ∧ ((type_of% @ty47) ∧ (type_of% @ty54))) ∧ ((type_of% @ty62) ∧ ((type_of% @ty63) ∧ (type_of% @ty73)))) ∧ (((type_of% @ty75) ∧ ((type_of% @ty85) ∧ (type_of% @ty87))) ∧ (((type_of% @ty88) ∧ (type_of% @ty91)) ∧ ((type_of% @ty95) ∧ (type_of% @isU8_5))))) :=
  ⟨⟨⟨⟨@ty2, ⟨@ty3, @ty4⟩⟩, ⟨@ty5, ⟨@ty9, @ty12⟩⟩⟩, ⟨⟨@ty21, ⟨@ty22, @ty23⟩⟩, ⟨⟨@ty24, @ty26⟩, ⟨@ty35, @ty45⟩⟩⟩⟩, ⟨⟨⟨@ty46, ⟨@ty47, @ty54⟩⟩, ⟨@ty62, ⟨@ty63, @ty73⟩⟩⟩, ⟨⟨@ty75, ⟨@ty85, @ty87⟩⟩, ⟨⟨@ty88, @ty91⟩, ⟨@ty95, @isU8_5⟩⟩⟩⟩⟩
end Go.Ab
