import Derived.Test.YtkikaagieknpdaaGreatProg
import Derived.Test.YtkikaagieknpdaaGreatAbG6
import Derived.KernelRfl
set_option maxRecDepth 100000
namespace Go.Ab
open Go Go.Proofs
def tab : Tab :=
  [(2, ⟨.int .i64, 1, 8, [(.int .i64 0)]⟩),
   (3, ⟨.int .i64, 1, 8, [(.int .i64 0)]⟩),
   (4, ⟨.bool, 1, 1, [(.bool false)]⟩),
   (5, ⟨.int .u8, 1, 1, [(.int .u8 0)]⟩),
   (9, ⟨.str, 1, 16, [(.string ⟨#[]⟩)]⟩),
   (12, ⟨.int .u64, 1, 8, [(.int .u64 0)]⟩),
   (21, ⟨.int .i32, 1, 4, [(.int .i32 0)]⟩),
   (22, ⟨.st [(0, 3), (1, 3), (2, 3), (3, 3), (4, 2), (5, 2)], 6, 48, [(.int .i64 0), (.int .i64 0), (.int .i64 0), (.int .i64 0), (.int .i64 0), (.int .i64 0)]⟩),
   (23, ⟨.st [(0, 3), (1, 3), (2, 3), (3, 3), (4, 2), (5, 2)], 6, 48, [(.int .i64 0), (.int .i64 0), (.int .i64 0), (.int .i64 0), (.int .i64 0), (.int .i64 0)]⟩),
   (24, ⟨.sl 5, 1, 24, [(.slice none 0 0)]⟩),
   (26, ⟨.sl 112, 1, 24, [(.slice none 0 0)]⟩),
   (27, ⟨.sl 68, 1, 24, [(.slice none 0 0)]⟩),
   (28, ⟨.sl 70, 1, 24, [(.slice none 0 0)]⟩),
   (29, ⟨.sl 72, 1, 24, [(.slice none 0 0)]⟩),
   (30, ⟨.st [(0, 2), (1, 3)], 2, 16, [(.int .i64 0), (.int .i64 0)]⟩),
   (31, ⟨.st [(0, 2), (1, 3)], 2, 16, [(.int .i64 0), (.int .i64 0)]⟩),
   (32, ⟨.sl 4, 1, 24, [(.slice none 0 0)]⟩),
   (33, ⟨.sl 2, 1, 24, [(.slice none 0 0)]⟩),
   (34, ⟨.st [(0, 31), (2, 32), (3, 33), (4, 33), (5, 4)], 6, 96, [(.int .i64 0), (.int .i64 0), (.slice none 0 0), (.slice none 0 0), (.slice none 0 0), (.bool false)]⟩),
   (35, ⟨.st [(0, 31), (2, 32), (3, 33), (4, 33), (5, 4)], 6, 96, [(.int .i64 0), (.int .i64 0), (.slice none 0 0), (.slice none 0 0), (.slice none 0 0), (.bool false)]⟩),
   (36, ⟨.st [(0, 2), (1, 26), (2, 27), (3, 28), (4, 3), (5, 29), (6, 35)], 12, 208, [(.int .i64 0), (.slice none 0 0), (.slice none 0 0), (.slice none 0 0), (.int .i64 0), (.slice none 0 0), (.int .i64 0), (.int .i64 0), (.slice none 0 0), (.slice none 0 0), (.slice none 0 0), (.bool false)]⟩),
   (37, ⟨.st [(0, 2), (1, 26), (2, 27), (3, 28), (4, 3), (5, 29), (6, 35)], 12, 208, [(.int .i64 0), (.slice none 0 0), (.slice none 0 0), (.slice none 0 0), (.int .i64 0), (.slice none 0 0), (.int .i64 0), (.int .i64 0), (.slice none 0 0), (.slice none 0 0), (.slice none 0 0), (.bool false)]⟩),
   (47, ⟨.int .u16, 1, 2, [(.int .u16 0)]⟩),
   (49, ⟨.int .i64, 1, 8, [(.int .i64 0)]⟩),
   (52, ⟨.st [], 0, 0, []⟩),
   (53, ⟨.st [], 0, 0, []⟩),
   (55, ⟨.ptr 57, 1, 8, [(.pointer none)]⟩),
   (56, ⟨.st [(0, 24)], 1, 24, [(.slice none 0 0)]⟩),
   (57, ⟨.st [(0, 24)], 1, 24, [(.slice none 0 0)]⟩),
   (65, ⟨.st [(0, 2), (1, 3)], 2, 16, [(.int .i64 0), (.int .i64 0)]⟩),
   (66, ⟨.st [(0, 2), (1, 3)], 2, 16, [(.int .i64 0), (.int .i64 0)]⟩),
   (67, ⟨.st [(0, 66), (2, 2)], 3, 24, [(.int .i64 0), (.int .i64 0), (.int .i64 0)]⟩),
   (68, ⟨.st [(0, 66), (2, 2)], 3, 24, [(.int .i64 0), (.int .i64 0), (.int .i64 0)]⟩),
   (69, ⟨.st [(0, 66), (2, 49)], 3, 24, [(.int .i64 0), (.int .i64 0), (.int .i64 0)]⟩),
   (70, ⟨.st [(0, 66), (2, 49)], 3, 24, [(.int .i64 0), (.int .i64 0), (.int .i64 0)]⟩),
   (71, ⟨.st [(0, 2), (1, 68), (4, 3), (5, 31)], 7, 56, [(.int .i64 0), (.int .i64 0), (.int .i64 0), (.int .i64 0), (.int .i64 0), (.int .i64 0), (.int .i64 0)]⟩),
   (72, ⟨.st [(0, 2), (1, 68), (4, 3), (5, 31)], 7, 56, [(.int .i64 0), (.int .i64 0), (.int .i64 0), (.int .i64 0), (.int .i64 0), (.int .i64 0), (.int .i64 0)]⟩),
   (80, ⟨.int .u64, 1, 8, [(.int .u64 0)]⟩),
   (111, ⟨.st [(0, 2), (1, 2), (2, 33)], 3, 40, [(.int .i64 0), (.int .i64 0), (.slice none 0 0)]⟩),
   (112, ⟨.st [(0, 2), (1, 2), (2, 33)], 3, 40, [(.int .i64 0), (.int .i64 0), (.slice none 0 0)]⟩),
   (114, ⟨.int .u64, 1, 8, [(.int .u64 0)]⟩),
   (126, ⟨.st [(0, 23), (6, 3)], 7, 56, [(.int .i64 0), (.int .i64 0), (.int .i64 0), (.int .i64 0), (.int .i64 0), (.int .i64 0), (.int .i64 0)]⟩),
   (127, ⟨.st [(0, 23), (6, 3)], 7, 56, [(.int .i64 0), (.int .i64 0), (.int .i64 0), (.int .i64 0), (.int .i64 0), (.int .i64 0), (.int .i64 0)]⟩),
   (136, ⟨.sl 33, 1, 24, [(.slice none 0 0)]⟩),
   (142, ⟨.st [(0, 2), (1, 3)], 2, 16, [(.int .i64 0), (.int .i64 0)]⟩),
   (151, ⟨.sl 3, 1, 24, [(.slice none 0 0)]⟩),
   (153, ⟨.st [(0, 17), (1, 17), (2, 17), (3, 9)], 4, 40, [(.pointer none), (.pointer none), (.pointer none), (.string ⟨#[]⟩)]⟩),
   (155, ⟨.ar 0 16, 0, 0, []⟩),
   (156, ⟨.st [(0, 155)], 0, 0, []⟩),
   (158, ⟨.int .u32, 1, 4, [(.int .u32 0)]⟩),
   (162, ⟨.ptr 5, 1, 8, [(.pointer none)]⟩)]
theorem ti2 : TOk Tryz.prog 2 ⟨.int .i64, 1, 8, [(.int .i64 0)]⟩ := .mk' (by kernel_rfl) Tryz.underlying2 rfl
theorem ti3 : TOk Tryz.prog 3 ⟨.int .i64, 1, 8, [(.int .i64 0)]⟩ := .mk' (by kernel_rfl) Tryz.underlying3 rfl
theorem ti4 : TOk Tryz.prog 4 ⟨.bool, 1, 1, [(.bool false)]⟩ := .mk' (by kernel_rfl) Tryz.underlying4 rfl
theorem ti5 : TOk Tryz.prog 5 ⟨.int .u8, 1, 1, [(.int .u8 0)]⟩ := .mk' (by kernel_rfl) Tryz.underlying5 rfl
theorem ti9 : TOk Tryz.prog 9 ⟨.str, 1, 16, [(.string ⟨#[]⟩)]⟩ := .mk' (by kernel_rfl) Tryz.underlying9 rfl
theorem ti12 : TOk Tryz.prog 12 ⟨.int .u64, 1, 8, [(.int .u64 0)]⟩ := .mk' (by kernel_rfl) Tryz.underlying12 rfl
theorem ti21 : TOk Tryz.prog 21 ⟨.int .i32, 1, 4, [(.int .i32 0)]⟩ := .mk' (by kernel_rfl) Tryz.underlying21 rfl
theorem ti22 : TOk Tryz.prog 22 ⟨.st [(0, 3), (1, 3), (2, 3), (3, 3), (4, 2), (5, 2)], 6, 48, [(.int .i64 0), (.int .i64 0), (.int .i64 0), (.int .i64 0), (.int .i64 0), (.int .i64 0)]⟩ := .mk' (by kernel_rfl) ⟨_, Tryz.underlying22, rfl⟩ rfl
theorem ti23 : TOk Tryz.prog 23 ⟨.st [(0, 3), (1, 3), (2, 3), (3, 3), (4, 2), (5, 2)], 6, 48, [(.int .i64 0), (.int .i64 0), (.int .i64 0), (.int .i64 0), (.int .i64 0), (.int .i64 0)]⟩ := .mk' (by kernel_rfl) ⟨_, Tryz.underlying23, rfl⟩ rfl
theorem ti24 : TOk Tryz.prog 24 ⟨.sl 5, 1, 24, [(.slice none 0 0)]⟩ := .mk' (by kernel_rfl) Tryz.underlying24 rfl
theorem ti26 : TOk Tryz.prog 26 ⟨.sl 112, 1, 24, [(.slice none 0 0)]⟩ := .mk' (by kernel_rfl) Tryz.underlying26 rfl
theorem ti27 : TOk Tryz.prog 27 ⟨.sl 68, 1, 24, [(.slice none 0 0)]⟩ := .mk' (by kernel_rfl) Tryz.underlying27 rfl
theorem ti28 : TOk Tryz.prog 28 ⟨.sl 70, 1, 24, [(.slice none 0 0)]⟩ := .mk' (by kernel_rfl) Tryz.underlying28 rfl
theorem ti29 : TOk Tryz.prog 29 ⟨.sl 72, 1, 24, [(.slice none 0 0)]⟩ := .mk' (by kernel_rfl) Tryz.underlying29 rfl
theorem ti30 : TOk Tryz.prog 30 ⟨.st [(0, 2), (1, 3)], 2, 16, [(.int .i64 0), (.int .i64 0)]⟩ := .mk' (by kernel_rfl) ⟨_, Tryz.underlying30, rfl⟩ rfl
theorem ti31 : TOk Tryz.prog 31 ⟨.st [(0, 2), (1, 3)], 2, 16, [(.int .i64 0), (.int .i64 0)]⟩ := .mk' (by kernel_rfl) ⟨_, Tryz.underlying31, rfl⟩ rfl
theorem ti32 : TOk Tryz.prog 32 ⟨.sl 4, 1, 24, [(.slice none 0 0)]⟩ := .mk' (by kernel_rfl) Tryz.underlying32 rfl
theorem ti33 : TOk Tryz.prog 33 ⟨.sl 2, 1, 24, [(.slice none 0 0)]⟩ := .mk' (by kernel_rfl) Tryz.underlying33 rfl
theorem ti34 : TOk Tryz.prog 34 ⟨.st [(0, 31), (2, 32), (3, 33), (4, 33), (5, 4)], 6, 96, [(.int .i64 0), (.int .i64 0), (.slice none 0 0), (.slice none 0 0), (.slice none 0 0), (.bool false)]⟩ := .mk' (by kernel_rfl) ⟨_, Tryz.underlying34, rfl⟩ rfl
theorem ti35 : TOk Tryz.prog 35 ⟨.st [(0, 31), (2, 32), (3, 33), (4, 33), (5, 4)], 6, 96, [(.int .i64 0), (.int .i64 0), (.slice none 0 0), (.slice none 0 0), (.slice none 0 0), (.bool false)]⟩ := .mk' (by kernel_rfl) ⟨_, Tryz.underlying35, rfl⟩ rfl
theorem ti36 : TOk Tryz.prog 36 ⟨.st [(0, 2), (1, 26), (2, 27), (3, 28), (4, 3), (5, 29), (6, 35)], 12, 208, [(.int .i64 0), (.slice none 0 0), (.slice none 0 0), (.slice none 0 0), (.int .i64 0), (.slice none 0 0), (.int .i64 0), (.int .i64 0), (.slice none 0 0), (.slice none 0 0), (.slice none 0 0), (.bool false)]⟩ := .mk' (by kernel_rfl) ⟨_, Tryz.underlying36, rfl⟩ rfl
theorem ti37 : TOk Tryz.prog 37 ⟨.st [(0, 2), (1, 26), (2, 27), (3, 28), (4, 3), (5, 29), (6, 35)], 12, 208, [(.int .i64 0), (.slice none 0 0), (.slice none 0 0), (.slice none 0 0), (.int .i64 0), (.slice none 0 0), (.int .i64 0), (.int .i64 0), (.slice none 0 0), (.slice none 0 0), (.slice none 0 0), (.bool false)]⟩ := .mk' (by kernel_rfl) ⟨_, Tryz.underlying37, rfl⟩ rfl
theorem ti47 : TOk Tryz.prog 47 ⟨.int .u16, 1, 2, [(.int .u16 0)]⟩ := .mk' (by kernel_rfl) Tryz.underlying47 rfl
theorem ti49 : TOk Tryz.prog 49 ⟨.int .i64, 1, 8, [(.int .i64 0)]⟩ := .mk' (by kernel_rfl) Tryz.underlying49 rfl
theorem ti52 : TOk Tryz.prog 52 ⟨.st [], 0, 0, []⟩ := .mk' (by kernel_rfl) ⟨_, Tryz.underlying52, rfl⟩ rfl
theorem ti53 : TOk Tryz.prog 53 ⟨.st [], 0, 0, []⟩ := .mk' (by kernel_rfl) ⟨_, Tryz.underlying53, rfl⟩ rfl
theorem ti55 : TOk Tryz.prog 55 ⟨.ptr 57, 1, 8, [(.pointer none)]⟩ := .mk' (by kernel_rfl) Tryz.underlying55 rfl
theorem ti56 : TOk Tryz.prog 56 ⟨.st [(0, 24)], 1, 24, [(.slice none 0 0)]⟩ := .mk' (by kernel_rfl) ⟨_, Tryz.underlying56, rfl⟩ rfl
theorem ti57 : TOk Tryz.prog 57 ⟨.st [(0, 24)], 1, 24, [(.slice none 0 0)]⟩ := .mk' (by kernel_rfl) ⟨_, Tryz.underlying57, rfl⟩ rfl
theorem ti65 : TOk Tryz.prog 65 ⟨.st [(0, 2), (1, 3)], 2, 16, [(.int .i64 0), (.int .i64 0)]⟩ := .mk' (by kernel_rfl) ⟨_, Tryz.underlying65, rfl⟩ rfl
theorem ti66 : TOk Tryz.prog 66 ⟨.st [(0, 2), (1, 3)], 2, 16, [(.int .i64 0), (.int .i64 0)]⟩ := .mk' (by kernel_rfl) ⟨_, Tryz.underlying66, rfl⟩ rfl
theorem ti67 : TOk Tryz.prog 67 ⟨.st [(0, 66), (2, 2)], 3, 24, [(.int .i64 0), (.int .i64 0), (.int .i64 0)]⟩ := .mk' (by kernel_rfl) ⟨_, Tryz.underlying67, rfl⟩ rfl
theorem ti68 : TOk Tryz.prog 68 ⟨.st [(0, 66), (2, 2)], 3, 24, [(.int .i64 0), (.int .i64 0), (.int .i64 0)]⟩ := .mk' (by kernel_rfl) ⟨_, Tryz.underlying68, rfl⟩ rfl
theorem ti69 : TOk Tryz.prog 69 ⟨.st [(0, 66), (2, 49)], 3, 24, [(.int .i64 0), (.int .i64 0), (.int .i64 0)]⟩ := .mk' (by kernel_rfl) ⟨_, Tryz.underlying69, rfl⟩ rfl
theorem ti70 : TOk Tryz.prog 70 ⟨.st [(0, 66), (2, 49)], 3, 24, [(.int .i64 0), (.int .i64 0), (.int .i64 0)]⟩ := .mk' (by kernel_rfl) ⟨_, Tryz.underlying70, rfl⟩ rfl
theorem ti71 : TOk Tryz.prog 71 ⟨.st [(0, 2), (1, 68), (4, 3), (5, 31)], 7, 56, [(.int .i64 0), (.int .i64 0), (.int .i64 0), (.int .i64 0), (.int .i64 0), (.int .i64 0), (.int .i64 0)]⟩ := .mk' (by kernel_rfl) ⟨_, Tryz.underlying71, rfl⟩ rfl
theorem ti72 : TOk Tryz.prog 72 ⟨.st [(0, 2), (1, 68), (4, 3), (5, 31)], 7, 56, [(.int .i64 0), (.int .i64 0), (.int .i64 0), (.int .i64 0), (.int .i64 0), (.int .i64 0), (.int .i64 0)]⟩ := .mk' (by kernel_rfl) ⟨_, Tryz.underlying72, rfl⟩ rfl
theorem ti80 : TOk Tryz.prog 80 ⟨.int .u64, 1, 8, [(.int .u64 0)]⟩ := .mk' (by kernel_rfl) Tryz.underlying80 rfl
theorem ti111 : TOk Tryz.prog 111 ⟨.st [(0, 2), (1, 2), (2, 33)], 3, 40, [(.int .i64 0), (.int .i64 0), (.slice none 0 0)]⟩ := .mk' (by kernel_rfl) ⟨_, Tryz.underlying111, rfl⟩ rfl
theorem ti112 : TOk Tryz.prog 112 ⟨.st [(0, 2), (1, 2), (2, 33)], 3, 40, [(.int .i64 0), (.int .i64 0), (.slice none 0 0)]⟩ := .mk' (by kernel_rfl) ⟨_, Tryz.underlying112, rfl⟩ rfl
theorem ti114 : TOk Tryz.prog 114 ⟨.int .u64, 1, 8, [(.int .u64 0)]⟩ := .mk' (by kernel_rfl) Tryz.underlying114 rfl
theorem ti126 : TOk Tryz.prog 126 ⟨.st [(0, 23), (6, 3)], 7, 56, [(.int .i64 0), (.int .i64 0), (.int .i64 0), (.int .i64 0), (.int .i64 0), (.int .i64 0), (.int .i64 0)]⟩ := .mk' (by kernel_rfl) ⟨_, Tryz.underlying126, rfl⟩ rfl
theorem ti127 : TOk Tryz.prog 127 ⟨.st [(0, 23), (6, 3)], 7, 56, [(.int .i64 0), (.int .i64 0), (.int .i64 0), (.int .i64 0), (.int .i64 0), (.int .i64 0), (.int .i64 0)]⟩ := .mk' (by kernel_rfl) ⟨_, Tryz.underlying127, rfl⟩ rfl
theorem ti136 : TOk Tryz.prog 136 ⟨.sl 33, 1, 24, [(.slice none 0 0)]⟩ := .mk' (by kernel_rfl) Tryz.underlying136 rfl
theorem ti142 : TOk Tryz.prog 142 ⟨.st [(0, 2), (1, 3)], 2, 16, [(.int .i64 0), (.int .i64 0)]⟩ := .mk' (by kernel_rfl) ⟨_, Tryz.underlying142, rfl⟩ rfl
theorem ti151 : TOk Tryz.prog 151 ⟨.sl 3, 1, 24, [(.slice none 0 0)]⟩ := .mk' (by kernel_rfl) Tryz.underlying151 rfl
theorem ti153 : TOk Tryz.prog 153 ⟨.st [(0, 17), (1, 17), (2, 17), (3, 9)], 4, 40, [(.pointer none), (.pointer none), (.pointer none), (.string ⟨#[]⟩)]⟩ := .mk' (by kernel_rfl) ⟨_, Tryz.underlying153, rfl⟩ rfl
theorem ti155 : TOk Tryz.prog 155 ⟨.ar 0 16, 0, 0, []⟩ := .mk' (by kernel_rfl) Tryz.underlying155 rfl
theorem ti156 : TOk Tryz.prog 156 ⟨.st [(0, 155)], 0, 0, []⟩ := .mk' (by kernel_rfl) ⟨_, Tryz.underlying156, rfl⟩ rfl
theorem ti158 : TOk Tryz.prog 158 ⟨.int .u32, 1, 4, [(.int .u32 0)]⟩ := .mk' (by kernel_rfl) Tryz.underlying158 rfl
theorem ti162 : TOk Tryz.prog 162 ⟨.ptr 5, 1, 8, [(.pointer none)]⟩ := .mk' (by kernel_rfl) Tryz.underlying162 rfl
theorem tk2 (K : TI → Prop) : tiK tab 2 K = K ⟨.int .i64, 1, 8, [(.int .i64 0)]⟩ := tiK_of rfl K
theorem tk3 (K : TI → Prop) : tiK tab 3 K = K ⟨.int .i64, 1, 8, [(.int .i64 0)]⟩ := tiK_of rfl K
theorem tk4 (K : TI → Prop) : tiK tab 4 K = K ⟨.bool, 1, 1, [(.bool false)]⟩ := tiK_of rfl K
theorem tk5 (K : TI → Prop) : tiK tab 5 K = K ⟨.int .u8, 1, 1, [(.int .u8 0)]⟩ := tiK_of rfl K
theorem tk9 (K : TI → Prop) : tiK tab 9 K = K ⟨.str, 1, 16, [(.string ⟨#[]⟩)]⟩ := tiK_of rfl K
theorem tk12 (K : TI → Prop) : tiK tab 12 K = K ⟨.int .u64, 1, 8, [(.int .u64 0)]⟩ := tiK_of rfl K
theorem tk21 (K : TI → Prop) : tiK tab 21 K = K ⟨.int .i32, 1, 4, [(.int .i32 0)]⟩ := tiK_of rfl K
theorem tk22 (K : TI → Prop) : tiK tab 22 K = K ⟨.st [(0, 3), (1, 3), (2, 3), (3, 3), (4, 2), (5, 2)], 6, 48, [(.int .i64 0), (.int .i64 0), (.int .i64 0), (.int .i64 0), (.int .i64 0), (.int .i64 0)]⟩ := tiK_of rfl K
theorem tk23 (K : TI → Prop) : tiK tab 23 K = K ⟨.st [(0, 3), (1, 3), (2, 3), (3, 3), (4, 2), (5, 2)], 6, 48, [(.int .i64 0), (.int .i64 0), (.int .i64 0), (.int .i64 0), (.int .i64 0), (.int .i64 0)]⟩ := tiK_of rfl K
theorem tk24 (K : TI → Prop) : tiK tab 24 K = K ⟨.sl 5, 1, 24, [(.slice none 0 0)]⟩ := tiK_of rfl K
theorem tk26 (K : TI → Prop) : tiK tab 26 K = K ⟨.sl 112, 1, 24, [(.slice none 0 0)]⟩ := tiK_of rfl K
theorem tk27 (K : TI → Prop) : tiK tab 27 K = K ⟨.sl 68, 1, 24, [(.slice none 0 0)]⟩ := tiK_of rfl K
theorem tk28 (K : TI → Prop) : tiK tab 28 K = K ⟨.sl 70, 1, 24, [(.slice none 0 0)]⟩ := tiK_of rfl K
theorem tk29 (K : TI → Prop) : tiK tab 29 K = K ⟨.sl 72, 1, 24, [(.slice none 0 0)]⟩ := tiK_of rfl K
theorem tk30 (K : TI → Prop) : tiK tab 30 K = K ⟨.st [(0, 2), (1, 3)], 2, 16, [(.int .i64 0), (.int .i64 0)]⟩ := tiK_of rfl K
theorem tk31 (K : TI → Prop) : tiK tab 31 K = K ⟨.st [(0, 2), (1, 3)], 2, 16, [(.int .i64 0), (.int .i64 0)]⟩ := tiK_of rfl K
theorem tk32 (K : TI → Prop) : tiK tab 32 K = K ⟨.sl 4, 1, 24, [(.slice none 0 0)]⟩ := tiK_of rfl K
theorem tk33 (K : TI → Prop) : tiK tab 33 K = K ⟨.sl 2, 1, 24, [(.slice none 0 0)]⟩ := tiK_of rfl K
theorem tk34 (K : TI → Prop) : tiK tab 34 K = K ⟨.st [(0, 31), (2, 32), (3, 33), (4, 33), (5, 4)], 6, 96, [(.int .i64 0), (.int .i64 0), (.slice none 0 0), (.slice none 0 0), (.slice none 0 0), (.bool false)]⟩ := tiK_of rfl K
theorem tk35 (K : TI → Prop) : tiK tab 35 K = K ⟨.st [(0, 31), (2, 32), (3, 33), (4, 33), (5, 4)], 6, 96, [(.int .i64 0), (.int .i64 0), (.slice none 0 0), (.slice none 0 0), (.slice none 0 0), (.bool false)]⟩ := tiK_of rfl K
theorem tk36 (K : TI → Prop) : tiK tab 36 K = K ⟨.st [(0, 2), (1, 26), (2, 27), (3, 28), (4, 3), (5, 29), (6, 35)], 12, 208, [(.int .i64 0), (.slice none 0 0), (.slice none 0 0), (.slice none 0 0), (.int .i64 0), (.slice none 0 0), (.int .i64 0), (.int .i64 0), (.slice none 0 0), (.slice none 0 0), (.slice none 0 0), (.bool false)]⟩ := tiK_of rfl K
theorem tk37 (K : TI → Prop) : tiK tab 37 K = K ⟨.st [(0, 2), (1, 26), (2, 27), (3, 28), (4, 3), (5, 29), (6, 35)], 12, 208, [(.int .i64 0), (.slice none 0 0), (.slice none 0 0), (.slice none 0 0), (.int .i64 0), (.slice none 0 0), (.int .i64 0), (.int .i64 0), (.slice none 0 0), (.slice none 0 0), (.slice none 0 0), (.bool false)]⟩ := tiK_of rfl K
theorem tk47 (K : TI → Prop) : tiK tab 47 K = K ⟨.int .u16, 1, 2, [(.int .u16 0)]⟩ := tiK_of rfl K
theorem tk49 (K : TI → Prop) : tiK tab 49 K = K ⟨.int .i64, 1, 8, [(.int .i64 0)]⟩ := tiK_of rfl K
theorem tk52 (K : TI → Prop) : tiK tab 52 K = K ⟨.st [], 0, 0, []⟩ := tiK_of rfl K
theorem tk53 (K : TI → Prop) : tiK tab 53 K = K ⟨.st [], 0, 0, []⟩ := tiK_of rfl K
theorem tk55 (K : TI → Prop) : tiK tab 55 K = K ⟨.ptr 57, 1, 8, [(.pointer none)]⟩ := tiK_of rfl K
theorem tk56 (K : TI → Prop) : tiK tab 56 K = K ⟨.st [(0, 24)], 1, 24, [(.slice none 0 0)]⟩ := tiK_of rfl K
theorem tk57 (K : TI → Prop) : tiK tab 57 K = K ⟨.st [(0, 24)], 1, 24, [(.slice none 0 0)]⟩ := tiK_of rfl K
theorem tk65 (K : TI → Prop) : tiK tab 65 K = K ⟨.st [(0, 2), (1, 3)], 2, 16, [(.int .i64 0), (.int .i64 0)]⟩ := tiK_of rfl K
theorem tk66 (K : TI → Prop) : tiK tab 66 K = K ⟨.st [(0, 2), (1, 3)], 2, 16, [(.int .i64 0), (.int .i64 0)]⟩ := tiK_of rfl K
theorem tk67 (K : TI → Prop) : tiK tab 67 K = K ⟨.st [(0, 66), (2, 2)], 3, 24, [(.int .i64 0), (.int .i64 0), (.int .i64 0)]⟩ := tiK_of rfl K
theorem tk68 (K : TI → Prop) : tiK tab 68 K = K ⟨.st [(0, 66), (2, 2)], 3, 24, [(.int .i64 0), (.int .i64 0), (.int .i64 0)]⟩ := tiK_of rfl K
theorem tk69 (K : TI → Prop) : tiK tab 69 K = K ⟨.st [(0, 66), (2, 49)], 3, 24, [(.int .i64 0), (.int .i64 0), (.int .i64 0)]⟩ := tiK_of rfl K
theorem tk70 (K : TI → Prop) : tiK tab 70 K = K ⟨.st [(0, 66), (2, 49)], 3, 24, [(.int .i64 0), (.int .i64 0), (.int .i64 0)]⟩ := tiK_of rfl K
theorem tk71 (K : TI → Prop) : tiK tab 71 K = K ⟨.st [(0, 2), (1, 68), (4, 3), (5, 31)], 7, 56, [(.int .i64 0), (.int .i64 0), (.int .i64 0), (.int .i64 0), (.int .i64 0), (.int .i64 0), (.int .i64 0)]⟩ := tiK_of rfl K
theorem tk72 (K : TI → Prop) : tiK tab 72 K = K ⟨.st [(0, 2), (1, 68), (4, 3), (5, 31)], 7, 56, [(.int .i64 0), (.int .i64 0), (.int .i64 0), (.int .i64 0), (.int .i64 0), (.int .i64 0), (.int .i64 0)]⟩ := tiK_of rfl K
theorem tk80 (K : TI → Prop) : tiK tab 80 K = K ⟨.int .u64, 1, 8, [(.int .u64 0)]⟩ := tiK_of rfl K
theorem tk111 (K : TI → Prop) : tiK tab 111 K = K ⟨.st [(0, 2), (1, 2), (2, 33)], 3, 40, [(.int .i64 0), (.int .i64 0), (.slice none 0 0)]⟩ := tiK_of rfl K
theorem tk112 (K : TI → Prop) : tiK tab 112 K = K ⟨.st [(0, 2), (1, 2), (2, 33)], 3, 40, [(.int .i64 0), (.int .i64 0), (.slice none 0 0)]⟩ := tiK_of rfl K
theorem tk114 (K : TI → Prop) : tiK tab 114 K = K ⟨.int .u64, 1, 8, [(.int .u64 0)]⟩ := tiK_of rfl K
theorem tk126 (K : TI → Prop) : tiK tab 126 K = K ⟨.st [(0, 23), (6, 3)], 7, 56, [(.int .i64 0), (.int .i64 0), (.int .i64 0), (.int .i64 0), (.int .i64 0), (.int .i64 0), (.int .i64 0)]⟩ := tiK_of rfl K
theorem tk127 (K : TI → Prop) : tiK tab 127 K = K ⟨.st [(0, 23), (6, 3)], 7, 56, [(.int .i64 0), (.int .i64 0), (.int .i64 0), (.int .i64 0), (.int .i64 0), (.int .i64 0), (.int .i64 0)]⟩ := tiK_of rfl K
theorem tk136 (K : TI → Prop) : tiK tab 136 K = K ⟨.sl 33, 1, 24, [(.slice none 0 0)]⟩ := tiK_of rfl K
theorem tk142 (K : TI → Prop) : tiK tab 142 K = K ⟨.st [(0, 2), (1, 3)], 2, 16, [(.int .i64 0), (.int .i64 0)]⟩ := tiK_of rfl K
theorem tk151 (K : TI → Prop) : tiK tab 151 K = K ⟨.sl 3, 1, 24, [(.slice none 0 0)]⟩ := tiK_of rfl K
theorem tk153 (K : TI → Prop) : tiK tab 153 K = K ⟨.st [(0, 17), (1, 17), (2, 17), (3, 9)], 4, 40, [(.pointer none), (.pointer none), (.pointer none), (.string ⟨#[]⟩)]⟩ := tiK_of rfl K
theorem tk155 (K : TI → Prop) : tiK tab 155 K = K ⟨.ar 0 16, 0, 0, []⟩ := tiK_of rfl K
theorem tk156 (K : TI → Prop) : tiK tab 156 K = K ⟨.st [(0, 155)], 0, 0, []⟩ := tiK_of rfl K
theorem tk158 (K : TI → Prop) : tiK tab 158 K = K ⟨.int .u32, 1, 4, [(.int .u32 0)]⟩ := tiK_of rfl K
theorem tk162 (K : TI → Prop) : tiK tab 162 K = K ⟨.ptr 5, 1, 8, [(.pointer none)]⟩ := tiK_of rfl K
theorem tx2 (K : TI → Prop) : (∃ i, assoc tab 2 = some i ∧ K i) = K ⟨.int .i64, 1, 8, [(.int .i64 0)]⟩ := tab_ex rfl
theorem ty2 : (∃ i, assoc tab 2 = some i) = True := eq_true ⟨_, rfl⟩
theorem tx3 (K : TI → Prop) : (∃ i, assoc tab 3 = some i ∧ K i) = K ⟨.int .i64, 1, 8, [(.int .i64 0)]⟩ := tab_ex rfl
theorem ty3 : (∃ i, assoc tab 3 = some i) = True := eq_true ⟨_, rfl⟩
theorem tx4 (K : TI → Prop) : (∃ i, assoc tab 4 = some i ∧ K i) = K ⟨.bool, 1, 1, [(.bool false)]⟩ := tab_ex rfl
theorem ty4 : (∃ i, assoc tab 4 = some i) = True := eq_true ⟨_, rfl⟩
theorem tx5 (K : TI → Prop) : (∃ i, assoc tab 5 = some i ∧ K i) = K ⟨.int .u8, 1, 1, [(.int .u8 0)]⟩ := tab_ex rfl
theorem ty5 : (∃ i, assoc tab 5 = some i) = True := eq_true ⟨_, rfl⟩
theorem isU8_5 : IsU8 tab 5 = True := eq_true (isU8_of rfl rfl)
theorem tx9 (K : TI → Prop) : (∃ i, assoc tab 9 = some i ∧ K i) = K ⟨.str, 1, 16, [(.string ⟨#[]⟩)]⟩ := tab_ex rfl
theorem ty9 : (∃ i, assoc tab 9 = some i) = True := eq_true ⟨_, rfl⟩
theorem tx12 (K : TI → Prop) : (∃ i, assoc tab 12 = some i ∧ K i) = K ⟨.int .u64, 1, 8, [(.int .u64 0)]⟩ := tab_ex rfl
theorem ty12 : (∃ i, assoc tab 12 = some i) = True := eq_true ⟨_, rfl⟩
theorem tx21 (K : TI → Prop) : (∃ i, assoc tab 21 = some i ∧ K i) = K ⟨.int .i32, 1, 4, [(.int .i32 0)]⟩ := tab_ex rfl
theorem ty21 : (∃ i, assoc tab 21 = some i) = True := eq_true ⟨_, rfl⟩
theorem tx22 (K : TI → Prop) : (∃ i, assoc tab 22 = some i ∧ K i) = K ⟨.st [(0, 3), (1, 3), (2, 3), (3, 3), (4, 2), (5, 2)], 6, 48, [(.int .i64 0), (.int .i64 0), (.int .i64 0), (.int .i64 0), (.int .i64 0), (.int .i64 0)]⟩ := tab_ex rfl
theorem ty22 : (∃ i, assoc tab 22 = some i) = True := eq_true ⟨_, rfl⟩
theorem tx23 (K : TI → Prop) : (∃ i, assoc tab 23 = some i ∧ K i) = K ⟨.st [(0, 3), (1, 3), (2, 3), (3, 3), (4, 2), (5, 2)], 6, 48, [(.int .i64 0), (.int .i64 0), (.int .i64 0), (.int .i64 0), (.int .i64 0), (.int .i64 0)]⟩ := tab_ex rfl
theorem ty23 : (∃ i, assoc tab 23 = some i) = True := eq_true ⟨_, rfl⟩
theorem tx24 (K : TI → Prop) : (∃ i, assoc tab 24 = some i ∧ K i) = K ⟨.sl 5, 1, 24, [(.slice none 0 0)]⟩ := tab_ex rfl
theorem ty24 : (∃ i, assoc tab 24 = some i) = True := eq_true ⟨_, rfl⟩
theorem tx26 (K : TI → Prop) : (∃ i, assoc tab 26 = some i ∧ K i) = K ⟨.sl 112, 1, 24, [(.slice none 0 0)]⟩ := tab_ex rfl
theorem ty26 : (∃ i, assoc tab 26 = some i) = True := eq_true ⟨_, rfl⟩
theorem tx27 (K : TI → Prop) : (∃ i, assoc tab 27 = some i ∧ K i) = K ⟨.sl 68, 1, 24, [(.slice none 0 0)]⟩ := tab_ex rfl
theorem ty27 : (∃ i, assoc tab 27 = some i) = True := eq_true ⟨_, rfl⟩
theorem tx28 (K : TI → Prop) : (∃ i, assoc tab 28 = some i ∧ K i) = K ⟨.sl 70, 1, 24, [(.slice none 0 0)]⟩ := tab_ex rfl
theorem ty28 : (∃ i, assoc tab 28 = some i) = True := eq_true ⟨_, rfl⟩
theorem tx29 (K : TI → Prop) : (∃ i, assoc tab 29 = some i ∧ K i) = K ⟨.sl 72, 1, 24, [(.slice none 0 0)]⟩ := tab_ex rfl
theorem ty29 : (∃ i, assoc tab 29 = some i) = True := eq_true ⟨_, rfl⟩
theorem tx30 (K : TI → Prop) : (∃ i, assoc tab 30 = some i ∧ K i) = K ⟨.st [(0, 2), (1, 3)], 2, 16, [(.int .i64 0), (.int .i64 0)]⟩ := tab_ex rfl
theorem ty30 : (∃ i, assoc tab 30 = some i) = True := eq_true ⟨_, rfl⟩
theorem tx31 (K : TI → Prop) : (∃ i, assoc tab 31 = some i ∧ K i) = K ⟨.st [(0, 2), (1, 3)], 2, 16, [(.int .i64 0), (.int .i64 0)]⟩ := tab_ex rfl
theorem ty31 : (∃ i, assoc tab 31 = some i) = True := eq_true ⟨_, rfl⟩
theorem tx32 (K : TI → Prop) : (∃ i, assoc tab 32 = some i ∧ K i) = K ⟨.sl 4, 1, 24, [(.slice none 0 0)]⟩ := tab_ex rfl
theorem ty32 : (∃ i, assoc tab 32 = some i) = True := eq_true ⟨_, rfl⟩
theorem tx33 (K : TI → Prop) : (∃ i, assoc tab 33 = some i ∧ K i) = K ⟨.sl 2, 1, 24, [(.slice none 0 0)]⟩ := tab_ex rfl
theorem ty33 : (∃ i, assoc tab 33 = some i) = True := eq_true ⟨_, rfl⟩
theorem tx34 (K : TI → Prop) : (∃ i, assoc tab 34 = some i ∧ K i) = K ⟨.st [(0, 31), (2, 32), (3, 33), (4, 33), (5, 4)], 6, 96, [(.int .i64 0), (.int .i64 0), (.slice none 0 0), (.slice none 0 0), (.slice none 0 0), (.bool false)]⟩ := tab_ex rfl
theorem ty34 : (∃ i, assoc tab 34 = some i) = True := eq_true ⟨_, rfl⟩
theorem tx35 (K : TI → Prop) : (∃ i, assoc tab 35 = some i ∧ K i) = K ⟨.st [(0, 31), (2, 32), (3, 33), (4, 33), (5, 4)], 6, 96, [(.int .i64 0), (.int .i64 0), (.slice none 0 0), (.slice none 0 0), (.slice none 0 0), (.bool false)]⟩ := tab_ex rfl
theorem ty35 : (∃ i, assoc tab 35 = some i) = True := eq_true ⟨_, rfl⟩
theorem tx36 (K : TI → Prop) : (∃ i, assoc tab 36 = some i ∧ K i) = K ⟨.st [(0, 2), (1, 26), (2, 27), (3, 28), (4, 3), (5, 29), (6, 35)], 12, 208, [(.int .i64 0), (.slice none 0 0), (.slice none 0 0), (.slice none 0 0), (.int .i64 0), (.slice none 0 0), (.int .i64 0), (.int .i64 0), (.slice none 0 0), (.slice none 0 0), (.slice none 0 0), (.bool false)]⟩ := tab_ex rfl
theorem ty36 : (∃ i, assoc tab 36 = some i) = True := eq_true ⟨_, rfl⟩
theorem tx37 (K : TI → Prop) : (∃ i, assoc tab 37 = some i ∧ K i) = K ⟨.st [(0, 2), (1, 26), (2, 27), (3, 28), (4, 3), (5, 29), (6, 35)], 12, 208, [(.int .i64 0), (.slice none 0 0), (.slice none 0 0), (.slice none 0 0), (.int .i64 0), (.slice none 0 0), (.int .i64 0), (.int .i64 0), (.slice none 0 0), (.slice none 0 0), (.slice none 0 0), (.bool false)]⟩ := tab_ex rfl
theorem ty37 : (∃ i, assoc tab 37 = some i) = True := eq_true ⟨_, rfl⟩
theorem tx47 (K : TI → Prop) : (∃ i, assoc tab 47 = some i ∧ K i) = K ⟨.int .u16, 1, 2, [(.int .u16 0)]⟩ := tab_ex rfl
theorem ty47 : (∃ i, assoc tab 47 = some i) = True := eq_true ⟨_, rfl⟩
theorem tx49 (K : TI → Prop) : (∃ i, assoc tab 49 = some i ∧ K i) = K ⟨.int .i64, 1, 8, [(.int .i64 0)]⟩ := tab_ex rfl
theorem ty49 : (∃ i, assoc tab 49 = some i) = True := eq_true ⟨_, rfl⟩
theorem tx52 (K : TI → Prop) : (∃ i, assoc tab 52 = some i ∧ K i) = K ⟨.st [], 0, 0, []⟩ := tab_ex rfl
theorem ty52 : (∃ i, assoc tab 52 = some i) = True := eq_true ⟨_, rfl⟩
theorem tx53 (K : TI → Prop) : (∃ i, assoc tab 53 = some i ∧ K i) = K ⟨.st [], 0, 0, []⟩ := tab_ex rfl
theorem ty53 : (∃ i, assoc tab 53 = some i) = True := eq_true ⟨_, rfl⟩
theorem tx55 (K : TI → Prop) : (∃ i, assoc tab 55 = some i ∧ K i) = K ⟨.ptr 57, 1, 8, [(.pointer none)]⟩ := tab_ex rfl
theorem ty55 : (∃ i, assoc tab 55 = some i) = True := eq_true ⟨_, rfl⟩
theorem tx56 (K : TI → Prop) : (∃ i, assoc tab 56 = some i ∧ K i) = K ⟨.st [(0, 24)], 1, 24, [(.slice none 0 0)]⟩ := tab_ex rfl
theorem ty56 : (∃ i, assoc tab 56 = some i) = True := eq_true ⟨_, rfl⟩
theorem tx57 (K : TI → Prop) : (∃ i, assoc tab 57 = some i ∧ K i) = K ⟨.st [(0, 24)], 1, 24, [(.slice none 0 0)]⟩ := tab_ex rfl
theorem ty57 : (∃ i, assoc tab 57 = some i) = True := eq_true ⟨_, rfl⟩
theorem tx65 (K : TI → Prop) : (∃ i, assoc tab 65 = some i ∧ K i) = K ⟨.st [(0, 2), (1, 3)], 2, 16, [(.int .i64 0), (.int .i64 0)]⟩ := tab_ex rfl
theorem ty65 : (∃ i, assoc tab 65 = some i) = True := eq_true ⟨_, rfl⟩
theorem tx66 (K : TI → Prop) : (∃ i, assoc tab 66 = some i ∧ K i) = K ⟨.st [(0, 2), (1, 3)], 2, 16, [(.int .i64 0), (.int .i64 0)]⟩ := tab_ex rfl
theorem ty66 : (∃ i, assoc tab 66 = some i) = True := eq_true ⟨_, rfl⟩
theorem tx67 (K : TI → Prop) : (∃ i, assoc tab 67 = some i ∧ K i) = K ⟨.st [(0, 66), (2, 2)], 3, 24, [(.int .i64 0), (.int .i64 0), (.int .i64 0)]⟩ := tab_ex rfl
theorem ty67 : (∃ i, assoc tab 67 = some i) = True := eq_true ⟨_, rfl⟩
theorem tx68 (K : TI → Prop) : (∃ i, assoc tab 68 = some i ∧ K i) = K ⟨.st [(0, 66), (2, 2)], 3, 24, [(.int .i64 0), (.int .i64 0), (.int .i64 0)]⟩ := tab_ex rfl
theorem ty68 : (∃ i, assoc tab 68 = some i) = True := eq_true ⟨_, rfl⟩
theorem tx69 (K : TI → Prop) : (∃ i, assoc tab 69 = some i ∧ K i) = K ⟨.st [(0, 66), (2, 49)], 3, 24, [(.int .i64 0), (.int .i64 0), (.int .i64 0)]⟩ := tab_ex rfl
theorem ty69 : (∃ i, assoc tab 69 = some i) = True := eq_true ⟨_, rfl⟩
theorem tx70 (K : TI → Prop) : (∃ i, assoc tab 70 = some i ∧ K i) = K ⟨.st [(0, 66), (2, 49)], 3, 24, [(.int .i64 0), (.int .i64 0), (.int .i64 0)]⟩ := tab_ex rfl
theorem ty70 : (∃ i, assoc tab 70 = some i) = True := eq_true ⟨_, rfl⟩
theorem tx71 (K : TI → Prop) : (∃ i, assoc tab 71 = some i ∧ K i) = K ⟨.st [(0, 2), (1, 68), (4, 3), (5, 31)], 7, 56, [(.int .i64 0), (.int .i64 0), (.int .i64 0), (.int .i64 0), (.int .i64 0), (.int .i64 0), (.int .i64 0)]⟩ := tab_ex rfl
theorem ty71 : (∃ i, assoc tab 71 = some i) = True := eq_true ⟨_, rfl⟩
theorem tx72 (K : TI → Prop) : (∃ i, assoc tab 72 = some i ∧ K i) = K ⟨.st [(0, 2), (1, 68), (4, 3), (5, 31)], 7, 56, [(.int .i64 0), (.int .i64 0), (.int .i64 0), (.int .i64 0), (.int .i64 0), (.int .i64 0), (.int .i64 0)]⟩ := tab_ex rfl
theorem ty72 : (∃ i, assoc tab 72 = some i) = True := eq_true ⟨_, rfl⟩
theorem tx80 (K : TI → Prop) : (∃ i, assoc tab 80 = some i ∧ K i) = K ⟨.int .u64, 1, 8, [(.int .u64 0)]⟩ := tab_ex rfl
theorem ty80 : (∃ i, assoc tab 80 = some i) = True := eq_true ⟨_, rfl⟩
theorem tx111 (K : TI → Prop) : (∃ i, assoc tab 111 = some i ∧ K i) = K ⟨.st [(0, 2), (1, 2), (2, 33)], 3, 40, [(.int .i64 0), (.int .i64 0), (.slice none 0 0)]⟩ := tab_ex rfl
theorem ty111 : (∃ i, assoc tab 111 = some i) = True := eq_true ⟨_, rfl⟩
theorem tx112 (K : TI → Prop) : (∃ i, assoc tab 112 = some i ∧ K i) = K ⟨.st [(0, 2), (1, 2), (2, 33)], 3, 40, [(.int .i64 0), (.int .i64 0), (.slice none 0 0)]⟩ := tab_ex rfl
theorem ty112 : (∃ i, assoc tab 112 = some i) = True := eq_true ⟨_, rfl⟩
theorem tx114 (K : TI → Prop) : (∃ i, assoc tab 114 = some i ∧ K i) = K ⟨.int .u64, 1, 8, [(.int .u64 0)]⟩ := tab_ex rfl
theorem ty114 : (∃ i, assoc tab 114 = some i) = True := eq_true ⟨_, rfl⟩
theorem tx126 (K : TI → Prop) : (∃ i, assoc tab 126 = some i ∧ K i) = K ⟨.st [(0, 23), (6, 3)], 7, 56, [(.int .i64 0), (.int .i64 0), (.int .i64 0), (.int .i64 0), (.int .i64 0), (.int .i64 0), (.int .i64 0)]⟩ := tab_ex rfl
theorem ty126 : (∃ i, assoc tab 126 = some i) = True := eq_true ⟨_, rfl⟩
theorem tx127 (K : TI → Prop) : (∃ i, assoc tab 127 = some i ∧ K i) = K ⟨.st [(0, 23), (6, 3)], 7, 56, [(.int .i64 0), (.int .i64 0), (.int .i64 0), (.int .i64 0), (.int .i64 0), (.int .i64 0), (.int .i64 0)]⟩ := tab_ex rfl
theorem ty127 : (∃ i, assoc tab 127 = some i) = True := eq_true ⟨_, rfl⟩
theorem tx136 (K : TI → Prop) : (∃ i, assoc tab 136 = some i ∧ K i) = K ⟨.sl 33, 1, 24, [(.slice none 0 0)]⟩ := tab_ex rfl
theorem ty136 : (∃ i, assoc tab 136 = some i) = True := eq_true ⟨_, rfl⟩
theorem tx142 (K : TI → Prop) : (∃ i, assoc tab 142 = some i ∧ K i) = K ⟨.st [(0, 2), (1, 3)], 2, 16, [(.int .i64 0), (.int .i64 0)]⟩ := tab_ex rfl
theorem ty142 : (∃ i, assoc tab 142 = some i) = True := eq_true ⟨_, rfl⟩
theorem tx151 (K : TI → Prop) : (∃ i, assoc tab 151 = some i ∧ K i) = K ⟨.sl 3, 1, 24, [(.slice none 0 0)]⟩ := tab_ex rfl
theorem ty151 : (∃ i, assoc tab 151 = some i) = True := eq_true ⟨_, rfl⟩
theorem tx153 (K : TI → Prop) : (∃ i, assoc tab 153 = some i ∧ K i) = K ⟨.st [(0, 17), (1, 17), (2, 17), (3, 9)], 4, 40, [(.pointer none), (.pointer none), (.pointer none), (.string ⟨#[]⟩)]⟩ := tab_ex rfl
theorem ty153 : (∃ i, assoc tab 153 = some i) = True := eq_true ⟨_, rfl⟩
theorem tx155 (K : TI → Prop) : (∃ i, assoc tab 155 = some i ∧ K i) = K ⟨.ar 0 16, 0, 0, []⟩ := tab_ex rfl
theorem ty155 : (∃ i, assoc tab 155 = some i) = True := eq_true ⟨_, rfl⟩
theorem tx156 (K : TI → Prop) : (∃ i, assoc tab 156 = some i ∧ K i) = K ⟨.st [(0, 155)], 0, 0, []⟩ := tab_ex rfl
theorem ty156 : (∃ i, assoc tab 156 = some i) = True := eq_true ⟨_, rfl⟩
theorem tx158 (K : TI → Prop) : (∃ i, assoc tab 158 = some i ∧ K i) = K ⟨.int .u32, 1, 4, [(.int .u32 0)]⟩ := tab_ex rfl
theorem ty158 : (∃ i, assoc tab 158 = some i) = True := eq_true ⟨_, rfl⟩
theorem tx162 (K : TI → Prop) : (∃ i, assoc tab 162 = some i ∧ K i) = K ⟨.ptr 5, 1, 8, [(.pointer none)]⟩ := tab_ex rfl
theorem ty162 : (∃ i, assoc tab 162 = some i) = True := eq_true ⟨_, rfl⟩
theorem mixed : Tryz.prog.follows .mixedOrders = true := by kernel_rfl
theorem tabOk : TabOk Tryz.prog tab := TabAll.ok ⟨ti2, ti3, ti4, ti5, ti9, ti12, ti21, ti22, ti23, ti24, ti26, ti27, ti28, ti29, ti30, ti31, ti32, ti33, ti34, ti35, ti36, ti37, ti47, ti49, ti52, ti53, ti55, ti56, ti57, ti65, ti66, ti67, ti68, ti69, ti70, ti71, ti72, ti80, ti111, ti112, ti114, ti126, ti127, ti136, ti142, ti151, ti153, ti155, ti156, ti158, ti162, trivial⟩
theorem wt : ((((((type_of% @tk2) ∧ ((type_of% @tk3) ∧ (type_of% @tk4))) ∧ ((type_of% @tk5) ∧ ((type_of% @tk9) ∧ (type_of% @tk12)))) ∧ (((type_of% @tk21) ∧ ((type_of% @tk22) ∧ (type_of% @tk23))) ∧ ((type_of% @tk24) ∧ ((type_of% @tk26) ∧ (type_of% @tk27))))) ∧ ((((type_of% @tk28) ∧ ((type_of% @tk29) ∧ (type_of% @tk30))) ∧ ((type_of% @tk31) ∧ ((type_of% @tk32) ∧ (type_of% @tk33)))) ∧ (((type_of% @tk34) ∧ ((type_of% @tk35) ∧ (type_of% @tk36))) ∧ (((type_of% @tk37) ∧ (type_of% @tk47)) ∧ ((type_of% @tk49) ∧ (type_of% @tk52)))))) ∧ (((((type_of% @tk53) ∧ ((type_of% @tk55) ∧ (type_of% @tk56))) ∧ ((type_of% @tk57) ∧ ((type_of% @tk65) ∧ (type_of% @tk66)))) ∧ (((type_of% @tk67) ∧ ((type_of% @tk68) ∧ (type_of% @tk69))) ∧ (((type_of% @tk70) ∧ (type_of% @tk71)) ∧ ((type_of% @tk72) ∧ (type_of% @tk80))))) ∧ ((((type_of% @tk111) ∧ ((type_of% @tk112) ∧ (type_of% @tk114))) ∧ ((type_of% @tk126) ∧ ((type_of% @tk127) ∧ (type_of% @tk136)))) ∧ (((type_of% @tk142) ∧ ((type_of% @tk151) ∧ (type_of% @tk153))) ∧ (((type_of% @tk155) ∧ (type_of% @tk156)) ∧ ((type_of% @tk158) ∧ (type_of% @tk162))))))) ∧ ((((((type_of% @tx2) ∧ ((type_of% @tx3) ∧ (type_of% @tx4))) ∧ ((type_of% @tx5) ∧ ((type_of% @tx9) ∧ (type_of% @tx12)))) ∧ (((type_of% @tx21) ∧ ((type_of% @tx22) ∧ (type_of% @tx23))) ∧ ((type_of% @tx24) ∧ ((type_of% @tx26) ∧ (type_of% @tx27))))) ∧ ((((type_of% @tx28) ∧ ((type_of% @tx29) ∧ (type_of% @tx30))) ∧ ((type_of% @tx31) ∧ ((type_of% @tx32) ∧ (type_of% @tx33)))) ∧ (((type_of% @tx34) ∧ ((type_of% @tx35) ∧ (type_of% @tx36))) ∧ (((type_of% @tx37) ∧ (type_of% @tx47)) ∧ ((type_of% @tx49) ∧ (type_of% @tx52)))))) ∧ (((((type_of% @tx53) ∧ ((type_of% @tx55) ∧ (type_of% @tx56))) ∧ ((type_of% @tx57) ∧ ((type_of% @tx65) ∧ (type_of% @tx66)))) ∧ (((type_of% @tx67) ∧ ((type_of% @tx68) ∧ (type_of% @tx69))) ∧ (((type_of% @tx70) ∧ (type_of% @tx71)) ∧ ((type_of% @tx72) ∧ (type_of% @tx80))))) ∧ ((((type_of% @tx111) ∧ ((type_of% @tx112) ∧ (type_of% @tx114))) ∧ ((type_of% @tx126) ∧ ((type_of% @tx127) ∧ (type_of% @tx136)))) ∧ (((type_of% @tx142) ∧ ((type_of% @tx151) ∧ (type_of% @tx153))) ∧ (((type_of% @tx155) ∧ (type_of% @tx156)) ∧ ((type_of% @tx158) ∧ (type_of% @tx162))))))) :=
 ⟨⟨⟨⟨⟨⟨@tk2, ⟨@tk3, @tk4⟩⟩, ⟨@tk5, ⟨@tk9, @tk12⟩⟩⟩, ⟨⟨@tk21, ⟨@tk22, @tk23⟩⟩, ⟨@tk24, ⟨@tk26, @tk27⟩⟩⟩⟩, ⟨⟨⟨@tk28, ⟨@tk29, @tk30⟩⟩, ⟨@tk31, ⟨@tk32, @tk33⟩⟩⟩, ⟨⟨@tk34, ⟨@tk35, @tk36⟩⟩, ⟨⟨@tk37, @tk47⟩, ⟨@tk49, @tk52⟩⟩⟩⟩⟩, ⟨⟨⟨⟨@tk53, ⟨@tk55, @tk56⟩⟩, ⟨@tk57, ⟨@tk65, @tk66⟩⟩⟩, ⟨⟨@tk67, ⟨@tk68, @tk69⟩⟩, ⟨⟨@tk70, @tk71⟩, ⟨@tk72, @tk80⟩⟩⟩⟩, ⟨⟨⟨@tk111, ⟨@tk112, @tk114⟩⟩, ⟨@tk126, ⟨@tk127, @tk136⟩⟩⟩, ⟨⟨@tk142, ⟨@tk151, @tk153⟩⟩, ⟨⟨@tk155, @tk156⟩, ⟨@tk158, @tk162⟩⟩⟩⟩⟩⟩, ⟨⟨⟨⟨⟨@tx2, ⟨@tx3, @tx4⟩⟩, ⟨@tx5, ⟨@tx9, @tx12⟩⟩⟩, ⟨⟨@tx21, ⟨@tx22, @tx23⟩⟩, ⟨@tx24, ⟨@tx26, @tx27⟩⟩⟩⟩, ⟨⟨⟨@tx28, ⟨@tx29, @tx30⟩⟩, ⟨@tx31, ⟨@tx32, @tx33⟩⟩⟩, ⟨⟨@tx34, ⟨@tx35, @tx36⟩⟩, ⟨⟨@tx37, @tx47⟩, ⟨@tx49, @tx52⟩⟩⟩⟩⟩, ⟨⟨⟨⟨@tx53, ⟨@tx55, @tx56⟩⟩, ⟨@tx57, ⟨@tx65, @tx66⟩⟩⟩, ⟨⟨@tx67, ⟨@tx68, @tx69⟩⟩, ⟨⟨@tx70, @tx71⟩, ⟨@tx72, @tx80⟩⟩⟩⟩, ⟨⟨⟨@tx111, ⟨@tx112, @tx114⟩⟩, ⟨@tx126, ⟨@tx127, @tx136⟩⟩⟩, ⟨⟨@tx142, ⟨@tx151, @tx153⟩⟩, ⟨⟨@tx155, @tx156⟩, ⟨@tx158, @tx162⟩⟩⟩⟩⟩⟩⟩
theorem wu : (((((type_of% @ty2) ∧ ((type_of% @ty3) ∧ (type_of% @ty4))) ∧ ((type_of% @ty5) ∧ ((type_of% @ty9) ∧ (type_of% @ty12)))) ∧ (((type_of% @ty21) ∧ ((type_of% @ty22) ∧ (type_of% @ty23))) ∧ (((type_of% @ty24) ∧ (type_of% @ty26)) ∧ ((type_of% @ty27) ∧ (type_of% @ty28))))) ∧ ((((type_of% @ty29) ∧ ((type_of% @ty30) ∧ (type_of% @ty31))) ∧ ((type_of% @ty32) ∧ ((type_of% @ty33) ∧ (type_of% @ty34)))) ∧ (((type_of% @ty35) ∧ ((type_of% @ty36) ∧ (type_of% @ty37))) ∧ (((type_of% @ty47) ∧ (type_of% @ty49)) ∧ ((type_of% @ty52) ∧ (type_of% @ty53)))))) ∧ (((((type_of% @ty55) ∧ ((type_of% @ty56) ∧ (type_of% @ty57))) ∧ ((type_of% @ty65) ∧ ((type_of% @ty66) ∧ (type_of% @ty67)))) ∧ (((type_of% @ty68) ∧ ((type_of% @ty69) ∧ (type_of% @ty70))) ∧ (((type_of% @ty71) ∧ (type_of% @ty72)) ∧ ((type_of% @ty80) ∧ (type_of% @ty111))))) ∧ ((((type_of% @ty112) ∧ ((type_of% @ty114) ∧ (type_of% @ty126))) ∧ ((type_of% @ty127) ∧ ((type_of% @ty136) ∧ (type_of% @ty142)))) ∧ (((type_of% @ty151) ∧ ((type_of% @ty153) ∧ (type_of% @ty155))) ∧ (((type_of% @ty156) ∧ (type_of% @ty158)) ∧ ((type_of% @ty162) ∧ (type_of% @isU8_5)))))) :=
 ⟨⟨⟨⟨⟨@ty2, ⟨@ty3, @ty4⟩⟩, ⟨@ty5, ⟨@ty9, @ty12⟩⟩⟩, ⟨⟨@ty21, ⟨@ty22, @ty23⟩⟩, ⟨⟨@ty24, @ty26⟩, ⟨@ty27, @ty28⟩⟩⟩⟩, ⟨⟨⟨@ty29, ⟨@ty30, @ty31⟩⟩, ⟨@ty32, ⟨@ty33, @ty34⟩⟩⟩, ⟨⟨@ty35, ⟨@ty36, @ty37⟩⟩, ⟨⟨@ty47, @ty49⟩, ⟨@ty52, @ty53⟩⟩⟩⟩⟩, ⟨⟨⟨⟨@ty55, ⟨@ty56, @ty57⟩⟩, ⟨@ty65, ⟨@ty66, @ty67⟩⟩⟩, ⟨⟨@ty68, ⟨@ty69, @ty70⟩⟩, ⟨⟨@ty71, @ty72⟩, ⟨@ty80, @ty111⟩⟩⟩⟩, ⟨⟨⟨@ty112, ⟨@ty114, @ty126⟩⟩, ⟨@ty127, ⟨@ty136, @ty142⟩⟩⟩, ⟨⟨@ty151, ⟨@ty153, @ty155⟩⟩, ⟨⟨@ty156, @ty158⟩, ⟨@ty162, @isU8_5⟩⟩⟩⟩⟩⟩
theorem wz : (type_of% @wu) ∧ (type_of% @wk0) ∧ (type_of% @wk1) ∧ (type_of% @wk2) ∧ (type_of% @wk3) ∧ (type_of% @wk4) ∧ (type_of% @laidS.eq_1) ∧ (type_of% @laidS.eq_2) ∧ (type_of% @keepS.eq_1) ∧ (type_of% @keepS.eq_2) := ⟨@wu, @wk0, @wk1, @wk2, @wk3, @wk4, @laidS.eq_1, @laidS.eq_2, @keepS.eq_1, @keepS.eq_2⟩
end Go.Ab
