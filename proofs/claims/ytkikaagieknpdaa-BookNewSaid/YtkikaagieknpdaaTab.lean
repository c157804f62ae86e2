import Derived.Test.YtkikaagieknpdaaProg
import Derived.Test.YtkikaagieknpdaaAbG6
import Derived.KernelRfl
set_option maxRecDepth 100000
namespace Go.Ab
open Go Go.Proofs
def tab : Tab :=
  [(2, ⟨.int .i64, 1, 8, [(.int .i64 0)]⟩),
   (3, ⟨.int .i64, 1, 8, [(.int .i64 0)]⟩),
   (4, ⟨.bool, 1, 1, [(.bool false)]⟩),
   (5, ⟨.int .u8, 1, 1, [(.int .u8 0)]⟩),
   (9, ⟨.str, 1, 16, [(.string ⟨#[]⟩)]⟩),
   (12, ⟨.int .u64, 1, 8, [(.int .u64 0)]⟩),
   (21, ⟨.int .i32, 1, 4, [(.int .i32 0)]⟩),
   (22, ⟨.st [(0, 3), (1, 3), (2, 3), (3, 3), (4, 2), (5, 2)], 6, 48, [(.int .i64 0), (.int .i64 0), (.int .i64 0), (.int .i64 0), (.int .i64 0), (.int .i64 0)]⟩),
   (23, ⟨.st [(0, 3), (1, 3), (2, 3), (3, 3), (4, 2), (5, 2)], 6, 48, [(.int .i64 0), (.int .i64 0), (.int .i64 0), (.int .i64 0), (.int .i64 0), (.int .i64 0)]⟩),
   (25, ⟨.sl 88, 1, 24, [(.slice none 0 0)]⟩),
   (26, ⟨.sl 63, 1, 24, [(.slice none 0 0)]⟩),
   (27, ⟨.sl 57, 1, 24, [(.slice none 0 0)]⟩),
   (28, ⟨.sl 76, 1, 24, [(.slice none 0 0)]⟩),
   (29, ⟨.st [(0, 2), (1, 3)], 2, 16, [(.int .i64 0), (.int .i64 0)]⟩),
   (30, ⟨.st [(0, 2), (1, 3)], 2, 16, [(.int .i64 0), (.int .i64 0)]⟩),
   (31, ⟨.sl 4, 1, 24, [(.slice none 0 0)]⟩),
   (32, ⟨.sl 2, 1, 24, [(.slice none 0 0)]⟩),
   (33, ⟨.st [(0, 30), (2, 31), (3, 32), (4, 32), (5, 4)], 6, 96, [(.int .i64 0), (.int .i64 0), (.slice none 0 0), (.slice none 0 0), (.slice none 0 0), (.bool false)]⟩),
   (34, ⟨.st [(0, 30), (2, 31), (3, 32), (4, 32), (5, 4)], 6, 96, [(.int .i64 0), (.int .i64 0), (.slice none 0 0), (.slice none 0 0), (.slice none 0 0), (.bool false)]⟩),
   (35, ⟨.st [(0, 2), (1, 25), (2, 26), (3, 27), (4, 3), (5, 28), (6, 34)], 12, 208, [(.int .i64 0), (.slice none 0 0), (.slice none 0 0), (.slice none 0 0), (.int .i64 0), (.slice none 0 0), (.int .i64 0), (.int .i64 0), (.slice none 0 0), (.slice none 0 0), (.slice none 0 0), (.bool false)]⟩),
   (36, ⟨.st [(0, 2), (1, 25), (2, 26), (3, 27), (4, 3), (5, 28), (6, 34)], 12, 208, [(.int .i64 0), (.slice none 0 0), (.slice none 0 0), (.slice none 0 0), (.int .i64 0), (.slice none 0 0), (.int .i64 0), (.int .i64 0), (.slice none 0 0), (.slice none 0 0), (.slice none 0 0), (.bool false)]⟩),
   (37, ⟨.int .i64, 1, 8, [(.int .i64 0)]⟩),
   (45, ⟨.sl 5, 1, 24, [(.slice none 0 0)]⟩),
   (54, ⟨.st [(0, 2), (1, 3)], 2, 16, [(.int .i64 0), (.int .i64 0)]⟩),
   (55, ⟨.st [(0, 2), (1, 3)], 2, 16, [(.int .i64 0), (.int .i64 0)]⟩),
   (56, ⟨.st [(0, 55), (2, 37)], 3, 24, [(.int .i64 0), (.int .i64 0), (.int .i64 0)]⟩),
   (57, ⟨.st [(0, 55), (2, 37)], 3, 24, [(.int .i64 0), (.int .i64 0), (.int .i64 0)]⟩),
   (62, ⟨.st [(0, 55), (2, 2)], 3, 24, [(.int .i64 0), (.int .i64 0), (.int .i64 0)]⟩),
   (63, ⟨.st [(0, 55), (2, 2)], 3, 24, [(.int .i64 0), (.int .i64 0), (.int .i64 0)]⟩),
   (72, ⟨.int .u64, 1, 8, [(.int .u64 0)]⟩),
   (75, ⟨.st [(0, 2), (1, 63), (4, 3), (5, 30)], 7, 56, [(.int .i64 0), (.int .i64 0), (.int .i64 0), (.int .i64 0), (.int .i64 0), (.int .i64 0), (.int .i64 0)]⟩),
   (76, ⟨.st [(0, 2), (1, 63), (4, 3), (5, 30)], 7, 56, [(.int .i64 0), (.int .i64 0), (.int .i64 0), (.int .i64 0), (.int .i64 0), (.int .i64 0), (.int .i64 0)]⟩),
   (80, ⟨.st [], 0, 0, []⟩),
   (81, ⟨.st [], 0, 0, []⟩),
   (83, ⟨.ptr 85, 1, 8, [(.pointer none)]⟩),
   (84, ⟨.st [(0, 45)], 1, 24, [(.slice none 0 0)]⟩),
   (85, ⟨.st [(0, 45)], 1, 24, [(.slice none 0 0)]⟩),
   (87, ⟨.st [(0, 2), (1, 2), (2, 32)], 3, 40, [(.int .i64 0), (.int .i64 0), (.slice none 0 0)]⟩),
   (88, ⟨.st [(0, 2), (1, 2), (2, 32)], 3, 40, [(.int .i64 0), (.int .i64 0), (.slice none 0 0)]⟩),
   (101, ⟨.st [(0, 23), (6, 3)], 7, 56, [(.int .i64 0), (.int .i64 0), (.int .i64 0), (.int .i64 0), (.int .i64 0), (.int .i64 0), (.int .i64 0)]⟩),
   (102, ⟨.st [(0, 23), (6, 3)], 7, 56, [(.int .i64 0), (.int .i64 0), (.int .i64 0), (.int .i64 0), (.int .i64 0), (.int .i64 0), (.int .i64 0)]⟩),
   (104, ⟨.int .u64, 1, 8, [(.int .u64 0)]⟩),
   (123, ⟨.st [(0, 2), (1, 3)], 2, 16, [(.int .i64 0), (.int .i64 0)]⟩),
   (126, ⟨.sl 32, 1, 24, [(.slice none 0 0)]⟩),
   (142, ⟨.sl 3, 1, 24, [(.slice none 0 0)]⟩),
   (144, ⟨.st [(0, 17), (1, 17), (2, 17), (3, 9)], 4, 40, [(.pointer none), (.pointer none), (.pointer none), (.string ⟨#[]⟩)]⟩),
   (146, ⟨.ar 0 16, 0, 0, []⟩),
   (147, ⟨.st [(0, 146)], 0, 0, []⟩),
   (149, ⟨.int .u32, 1, 4, [(.int .u32 0)]⟩),
   (153, ⟨.ptr 5, 1, 8, [(.pointer none)]⟩)]
theorem ti2 : TOk Try.prog 2 ⟨.int .i64, 1, 8, [(.int .i64 0)]⟩ := .mk' (by kernel_rfl) Try.underlying2 rfl
theorem ti3 : TOk Try.prog 3 ⟨.int .i64, 1, 8, [(.int .i64 0)]⟩ := .mk' (by kernel_rfl) Try.underlying3 rfl
theorem ti4 : TOk Try.prog 4 ⟨.bool, 1, 1, [(.bool false)]⟩ := .mk' (by kernel_rfl) Try.underlying4 rfl
theorem ti5 : TOk Try.prog 5 ⟨.int .u8, 1, 1, [(.int .u8 0)]⟩ := .mk' (by kernel_rfl) Try.underlying5 rfl
theorem ti9 : TOk Try.prog 9 ⟨.str, 1, 16, [(.string ⟨#[]⟩)]⟩ := .mk' (by kernel_rfl) Try.underlying9 rfl
theorem ti12 : TOk Try.prog 12 ⟨.int .u64, 1, 8, [(.int .u64 0)]⟩ := .mk' (by kernel_rfl) Try.underlying12 rfl
theorem ti21 : TOk Try.prog 21 ⟨.int .i32, 1, 4, [(.int .i32 0)]⟩ := .mk' (by kernel_rfl) Try.underlying21 rfl
theorem ti22 : TOk Try.prog 22 ⟨.st [(0, 3), (1, 3), (2, 3), (3, 3), (4, 2), (5, 2)], 6, 48, [(.int .i64 0), (.int .i64 0), (.int .i64 0), (.int .i64 0), (.int .i64 0), (.int .i64 0)]⟩ := .mk' (by kernel_rfl) ⟨_, Try.underlying22, rfl⟩ rfl
theorem ti23 : TOk Try.prog 23 ⟨.st [(0, 3), (1, 3), (2, 3), (3, 3), (4, 2), (5, 2)], 6, 48, [(.int .i64 0), (.int .i64 0), (.int .i64 0), (.int .i64 0), (.int .i64 0), (.int .i64 0)]⟩ := .mk' (by kernel_rfl) ⟨_, Try.underlying23, rfl⟩ rfl
theorem ti25 : TOk Try.prog 25 ⟨.sl 88, 1, 24, [(.slice none 0 0)]⟩ := .mk' (by kernel_rfl) Try.underlying25 rfl
theorem ti26 : TOk Try.prog 26 ⟨.sl 63, 1, 24, [(.slice none 0 0)]⟩ := .mk' (by kernel_rfl) Try.underlying26 rfl
theorem ti27 : TOk Try.prog 27 ⟨.sl 57, 1, 24, [(.slice none 0 0)]⟩ := .mk' (by kernel_rfl) Try.underlying27 rfl
theorem ti28 : TOk Try.prog 28 ⟨.sl 76, 1, 24, [(.slice none 0 0)]⟩ := .mk' (by kernel_rfl) Try.underlying28 rfl
theorem ti29 : TOk Try.prog 29 ⟨.st [(0, 2), (1, 3)], 2, 16, [(.int .i64 0), (.int .i64 0)]⟩ := .mk' (by kernel_rfl) ⟨_, Try.underlying29, rfl⟩ rfl
theorem ti30 : TOk Try.prog 30 ⟨.st [(0, 2), (1, 3)], 2, 16, [(.int .i64 0), (.int .i64 0)]⟩ := .mk' (by kernel_rfl) ⟨_, Try.underlying30, rfl⟩ rfl
theorem ti31 : TOk Try.prog 31 ⟨.sl 4, 1, 24, [(.slice none 0 0)]⟩ := .mk' (by kernel_rfl) Try.underlying31 rfl
theorem ti32 : TOk Try.prog 32 ⟨.sl 2, 1, 24, [(.slice none 0 0)]⟩ := .mk' (by kernel_rfl) Try.underlying32 rfl
theorem ti33 : TOk Try.prog 33 ⟨.st [(0, 30), (2, 31), (3, 32), (4, 32), (5, 4)], 6, 96, [(.int .i64 0), (.int .i64 0), (.slice none 0 0), (.slice none 0 0), (.slice none 0 0), (.bool false)]⟩ := .mk' (by kernel_rfl) ⟨_, Try.underlying33, rfl⟩ rfl
theorem ti34 : TOk Try.prog 34 ⟨.st [(0, 30), (2, 31), (3, 32), (4, 32), (5, 4)], 6, 96, [(.int .i64 0), (.int .i64 0), (.slice none 0 0), (.slice none 0 0), (.slice none 0 0), (.bool false)]⟩ := .mk' (by kernel_rfl) ⟨_, Try.underlying34, rfl⟩ rfl
theorem ti35 : TOk Try.prog 35 ⟨.st [(0, 2), (1, 25), (2, 26), (3, 27), (4, 3), (5, 28), (6, 34)], 12, 208, [(.int .i64 0), (.slice none 0 0), (.slice none 0 0), (.slice none 0 0), (.int .i64 0), (.slice none 0 0), (.int .i64 0), (.int .i64 0), (.slice none 0 0), (.slice none 0 0), (.slice none 0 0), (.bool false)]⟩ := .mk' (by kernel_rfl) ⟨_, Try.underlying35, rfl⟩ rfl
theorem ti36 : TOk Try.prog 36 ⟨.st [(0, 2), (1, 25), (2, 26), (3, 27), (4, 3), (5, 28), (6, 34)], 12, 208, [(.int .i64 0), (.slice none 0 0), (.slice none 0 0), (.slice none 0 0), (.int .i64 0), (.slice none 0 0), (.int .i64 0), (.int .i64 0), (.slice none 0 0), (.slice none 0 0), (.slice none 0 0), (.bool false)]⟩ := .mk' (by kernel_rfl) ⟨_, Try.underlying36, rfl⟩ rfl
theorem ti37 : TOk Try.prog 37 ⟨.int .i64, 1, 8, [(.int .i64 0)]⟩ := .mk' (by kernel_rfl) Try.underlying37 rfl
theorem ti45 : TOk Try.prog 45 ⟨.sl 5, 1, 24, [(.slice none 0 0)]⟩ := .mk' (by kernel_rfl) Try.underlying45 rfl
theorem ti54 : TOk Try.prog 54 ⟨.st [(0, 2), (1, 3)], 2, 16, [(.int .i64 0), (.int .i64 0)]⟩ := .mk' (by kernel_rfl) ⟨_, Try.underlying54, rfl⟩ rfl
theorem ti55 : TOk Try.prog 55 ⟨.st [(0, 2), (1, 3)], 2, 16, [(.int .i64 0), (.int .i64 0)]⟩ := .mk' (by kernel_rfl) ⟨_, Try.underlying55, rfl⟩ rfl
theorem ti56 : TOk Try.prog 56 ⟨.st [(0, 55), (2, 37)], 3, 24, [(.int .i64 0), (.int .i64 0), (.int .i64 0)]⟩ := .mk' (by kernel_rfl) ⟨_, Try.underlying56, rfl⟩ rfl
theorem ti57 : TOk Try.prog 57 ⟨.st [(0, 55), (2, 37)], 3, 24, [(.int .i64 0), (.int .i64 0), (.int .i64 0)]⟩ := .mk' (by kernel_rfl) ⟨_, Try.underlying57, rfl⟩ rfl
theorem ti62 : TOk Try.prog 62 ⟨.st [(0, 55), (2, 2)], 3, 24, [(.int .i64 0), (.int .i64 0), (.int .i64 0)]⟩ := .mk' (by kernel_rfl) ⟨_, Try.underlying62, rfl⟩ rfl
theorem ti63 : TOk Try.prog 63 ⟨.st [(0, 55), (2, 2)], 3, 24, [(.int .i64 0), (.int .i64 0), (.int .i64 0)]⟩ := .mk' (by kernel_rfl) ⟨_, Try.underlying63, rfl⟩ rfl
theorem ti72 : TOk Try.prog 72 ⟨.int .u64, 1, 8, [(.int .u64 0)]⟩ := .mk' (by kernel_rfl) Try.underlying72 rfl
theorem ti75 : TOk Try.prog 75 ⟨.st [(0, 2), (1, 63), (4, 3), (5, 30)], 7, 56, [(.int .i64 0), (.int .i64 0), (.int .i64 0), (.int .i64 0), (.int .i64 0), (.int .i64 0), (.int .i64 0)]⟩ := .mk' (by kernel_rfl) ⟨_, Try.underlying75, rfl⟩ rfl
theorem ti76 : TOk Try.prog 76 ⟨.st [(0, 2), (1, 63), (4, 3), (5, 30)], 7, 56, [(.int .i64 0), (.int .i64 0), (.int .i64 0), (.int .i64 0), (.int .i64 0), (.int .i64 0), (.int .i64 0)]⟩ := .mk' (by kernel_rfl) ⟨_, Try.underlying76, rfl⟩ rfl
theorem ti80 : TOk Try.prog 80 ⟨.st [], 0, 0, []⟩ := .mk' (by kernel_rfl) ⟨_, Try.underlying80, rfl⟩ rfl
theorem ti81 : TOk Try.prog 81 ⟨.st [], 0, 0, []⟩ := .mk' (by kernel_rfl) ⟨_, Try.underlying81, rfl⟩ rfl
theorem ti83 : TOk Try.prog 83 ⟨.ptr 85, 1, 8, [(.pointer none)]⟩ := .mk' (by kernel_rfl) Try.underlying83 rfl
theorem ti84 : TOk Try.prog 84 ⟨.st [(0, 45)], 1, 24, [(.slice none 0 0)]⟩ := .mk' (by kernel_rfl) ⟨_, Try.underlying84, rfl⟩ rfl
theorem ti85 : TOk Try.prog 85 ⟨.st [(0, 45)], 1, 24, [(.slice none 0 0)]⟩ := .mk' (by kernel_rfl) ⟨_, Try.underlying85, rfl⟩ rfl
theorem ti87 : TOk Try.prog 87 ⟨.st [(0, 2), (1, 2), (2, 32)], 3, 40, [(.int .i64 0), (.int .i64 0), (.slice none 0 0)]⟩ := .mk' (by kernel_rfl) ⟨_, Try.underlying87, rfl⟩ rfl
theorem ti88 : TOk Try.prog 88 ⟨.st [(0, 2), (1, 2), (2, 32)], 3, 40, [(.int .i64 0), (.int .i64 0), (.slice none 0 0)]⟩ := .mk' (by kernel_rfl) ⟨_, Try.underlying88, rfl⟩ rfl
theorem ti101 : TOk Try.prog 101 ⟨.st [(0, 23), (6, 3)], 7, 56, [(.int .i64 0), (.int .i64 0), (.int .i64 0), (.int .i64 0), (.int .i64 0), (.int .i64 0), (.int .i64 0)]⟩ := .mk' (by kernel_rfl) ⟨_, Try.underlying101, rfl⟩ rfl
theorem ti102 : TOk Try.prog 102 ⟨.st [(0, 23), (6, 3)], 7, 56, [(.int .i64 0), (.int .i64 0), (.int .i64 0), (.int .i64 0), (.int .i64 0), (.int .i64 0), (.int .i64 0)]⟩ := .mk' (by kernel_rfl) ⟨_, Try.underlying102, rfl⟩ rfl
theorem ti104 : TOk Try.prog 104 ⟨.int .u64, 1, 8, [(.int .u64 0)]⟩ := .mk' (by kernel_rfl) Try.underlying104 rfl
theorem ti123 : TOk Try.prog 123 ⟨.st [(0, 2), (1, 3)], 2, 16, [(.int .i64 0), (.int .i64 0)]⟩ := .mk' (by kernel_rfl) ⟨_, Try.underlying123, rfl⟩ rfl
theorem ti126 : TOk Try.prog 126 ⟨.sl 32, 1, 24, [(.slice none 0 0)]⟩ := .mk' (by kernel_rfl) Try.underlying126 rfl
theorem ti142 : TOk Try.prog 142 ⟨.sl 3, 1, 24, [(.slice none 0 0)]⟩ := .mk' (by kernel_rfl) Try.underlying142 rfl
theorem ti144 : TOk Try.prog 144 ⟨.st [(0, 17), (1, 17), (2, 17), (3, 9)], 4, 40, [(.pointer none), (.pointer none), (.pointer none), (.string ⟨#[]⟩)]⟩ := .mk' (by kernel_rfl) ⟨_, Try.underlying144, rfl⟩ rfl
theorem ti146 : TOk Try.prog 146 ⟨.ar 0 16, 0, 0, []⟩ := .mk' (by kernel_rfl) Try.underlying146 rfl
theorem ti147 : TOk Try.prog 147 ⟨.st [(0, 146)], 0, 0, []⟩ := .mk' (by kernel_rfl) ⟨_, Try.underlying147, rfl⟩ rfl
theorem ti149 : TOk Try.prog 149 ⟨.int .u32, 1, 4, [(.int .u32 0)]⟩ := .mk' (by kernel_rfl) Try.underlying149 rfl
theorem ti153 : TOk Try.prog 153 ⟨.ptr 5, 1, 8, [(.pointer none)]⟩ := .mk' (by kernel_rfl) Try.underlying153 rfl
theorem tk2 (K : TI → Prop) : tiK tab 2 K = K ⟨.int .i64, 1, 8, [(.int .i64 0)]⟩ := tiK_of rfl K
theorem tk3 (K : TI → Prop) : tiK tab 3 K = K ⟨.int .i64, 1, 8, [(.int .i64 0)]⟩ := tiK_of rfl K
theorem tk4 (K : TI → Prop) : tiK tab 4 K = K ⟨.bool, 1, 1, [(.bool false)]⟩ := tiK_of rfl K
theorem tk5 (K : TI → Prop) : tiK tab 5 K = K ⟨.int .u8, 1, 1, [(.int .u8 0)]⟩ := tiK_of rfl K
theorem tk9 (K : TI → Prop) : tiK tab 9 K = K ⟨.str, 1, 16, [(.string ⟨#[]⟩)]⟩ := tiK_of rfl K
theorem tk12 (K : TI → Prop) : tiK tab 12 K = K ⟨.int .u64, 1, 8, [(.int .u64 0)]⟩ := tiK_of rfl K
theorem tk21 (K : TI → Prop) : tiK tab 21 K = K ⟨.int .i32, 1, 4, [(.int .i32 0)]⟩ := tiK_of rfl K
theorem tk22 (K : TI → Prop) : tiK tab 22 K = K ⟨.st [(0, 3), (1, 3), (2, 3), (3, 3), (4, 2), (5, 2)], 6, 48, [(.int .i64 0), (.int .i64 0), (.int .i64 0), (.int .i64 0), (.int .i64 0), (.int .i64 0)]⟩ := tiK_of rfl K
theorem tk23 (K : TI → Prop) : tiK tab 23 K = K ⟨.st [(0, 3), (1, 3), (2, 3), (3, 3), (4, 2), (5, 2)], 6, 48, [(.int .i64 0), (.int .i64 0), (.int .i64 0), (.int .i64 0), (.int .i64 0), (.int .i64 0)]⟩ := tiK_of rfl K
theorem tk25 (K : TI → Prop) : tiK tab 25 K = K ⟨.sl 88, 1, 24, [(.slice none 0 0)]⟩ := tiK_of rfl K
theorem tk26 (K : TI → Prop) : tiK tab 26 K = K ⟨.sl 63, 1, 24, [(.slice none 0 0)]⟩ := tiK_of rfl K
theorem tk27 (K : TI → Prop) : tiK tab 27 K = K ⟨.sl 57, 1, 24, [(.slice none 0 0)]⟩ := tiK_of rfl K
theorem tk28 (K : TI → Prop) : tiK tab 28 K = K ⟨.sl 76, 1, 24, [(.slice none 0 0)]⟩ := tiK_of rfl K
theorem tk29 (K : TI → Prop) : tiK tab 29 K = K ⟨.st [(0, 2), (1, 3)], 2, 16, [(.int .i64 0), (.int .i64 0)]⟩ := tiK_of rfl K
theorem tk30 (K : TI → Prop) : tiK tab 30 K = K ⟨.st [(0, 2), (1, 3)], 2, 16, [(.int .i64 0), (.int .i64 0)]⟩ := tiK_of rfl K
theorem tk31 (K : TI → Prop) : tiK tab 31 K = K ⟨.sl 4, 1, 24, [(.slice none 0 0)]⟩ := tiK_of rfl K
theorem tk32 (K : TI → Prop) : tiK tab 32 K = K ⟨.sl 2, 1, 24, [(.slice none 0 0)]⟩ := tiK_of rfl K
theorem tk33 (K : TI → Prop) : tiK tab 33 K = K ⟨.st [(0, 30), (2, 31), (3, 32), (4, 32), (5, 4)], 6, 96, [(.int .i64 0), (.int .i64 0), (.slice none 0 0), (.slice none 0 0), (.slice none 0 0), (.bool false)]⟩ := tiK_of rfl K
theorem tk34 (K : TI → Prop) : tiK tab 34 K = K ⟨.st [(0, 30), (2, 31), (3, 32), (4, 32), (5, 4)], 6, 96, [(.int .i64 0), (.int .i64 0), (.slice none 0 0), (.slice none 0 0), (.slice none 0 0), (.bool false)]⟩ := tiK_of rfl K
theorem tk35 (K : TI → Prop) : tiK tab 35 K = K ⟨.st [(0, 2), (1, 25), (2, 26), (3, 27), (4, 3), (5, 28), (6, 34)], 12, 208, [(.int .i64 0), (.slice none 0 0), (.slice none 0 0), (.slice none 0 0), (.int .i64 0), (.slice none 0 0), (.int .i64 0), (.int .i64 0), (.slice none 0 0), (.slice none 0 0), (.slice none 0 0), (.bool false)]⟩ := tiK_of rfl K
theorem tk36 (K : TI → Prop) : tiK tab 36 K = K ⟨.st [(0, 2), (1, 25), (2, 26), (3, 27), (4, 3), (5, 28), (6, 34)], 12, 208, [(.int .i64 0), (.slice none 0 0), (.slice none 0 0), (.slice none 0 0), (.int .i64 0), (.slice none 0 0), (.int .i64 0), (.int .i64 0), (.slice none 0 0), (.slice none 0 0), (.slice none 0 0), (.bool false)]⟩ := tiK_of rfl K
theorem tk37 (K : TI → Prop) : tiK tab 37 K = K ⟨.int .i64, 1, 8, [(.int .i64 0)]⟩ := tiK_of rfl K
theorem tk45 (K : TI → Prop) : tiK tab 45 K = K ⟨.sl 5, 1, 24, [(.slice none 0 0)]⟩ := tiK_of rfl K
theorem tk54 (K : TI → Prop) : tiK tab 54 K = K ⟨.st [(0, 2), (1, 3)], 2, 16, [(.int .i64 0), (.int .i64 0)]⟩ := tiK_of rfl K
theorem tk55 (K : TI → Prop) : tiK tab 55 K = K ⟨.st [(0, 2), (1, 3)], 2, 16, [(.int .i64 0), (.int .i64 0)]⟩ := tiK_of rfl K
theorem tk56 (K : TI → Prop) : tiK tab 56 K = K ⟨.st [(0, 55), (2, 37)], 3, 24, [(.int .i64 0), (.int .i64 0), (.int .i64 0)]⟩ := tiK_of rfl K
theorem tk57 (K : TI → Prop) : tiK tab 57 K = K ⟨.st [(0, 55), (2, 37)], 3, 24, [(.int .i64 0), (.int .i64 0), (.int .i64 0)]⟩ := tiK_of rfl K
theorem tk62 (K : TI → Prop) : tiK tab 62 K = K ⟨.st [(0, 55), (2, 2)], 3, 24, [(.int .i64 0), (.int .i64 0), (.int .i64 0)]⟩ := tiK_of rfl K
theorem tk63 (K : TI → Prop) : tiK tab 63 K = K ⟨.st [(0, 55), (2, 2)], 3, 24, [(.int .i64 0), (.int .i64 0), (.int .i64 0)]⟩ := tiK_of rfl K
theorem tk72 (K : TI → Prop) : tiK tab 72 K = K ⟨.int .u64, 1, 8, [(.int .u64 0)]⟩ := tiK_of rfl K
theorem tk75 (K : TI → Prop) : tiK tab 75 K = K ⟨.st [(0, 2), (1, 63), (4, 3), (5, 30)], 7, 56, [(.int .i64 0), (.int .i64 0), (.int .i64 0), (.int .i64 0), (.int .i64 0), (.int .i64 0), (.int .i64 0)]⟩ := tiK_of rfl K
theorem tk76 (K : TI → Prop) : tiK tab 76 K = K ⟨.st [(0, 2), (1, 63), (4, 3), (5, 30)], 7, 56, [(.int .i64 0), (.int .i64 0), (.int .i64 0), (.int .i64 0), (.int .i64 0), (.int .i64 0), (.int .i64 0)]⟩ := tiK_of rfl K
theorem tk80 (K : TI → Prop) : tiK tab 80 K = K ⟨.st [], 0, 0, []⟩ := tiK_of rfl K
theorem tk81 (K : TI → Prop) : tiK tab 81 K = K ⟨.st [], 0, 0, []⟩ := tiK_of rfl K
theorem tk83 (K : TI → Prop) : tiK tab 83 K = K ⟨.ptr 85, 1, 8, [(.pointer none)]⟩ := tiK_of rfl K
theorem tk84 (K : TI → Prop) : tiK tab 84 K = K ⟨.st [(0, 45)], 1, 24, [(.slice none 0 0)]⟩ := tiK_of rfl K
theorem tk85 (K : TI → Prop) : tiK tab 85 K = K ⟨.st [(0, 45)], 1, 24, [(.slice none 0 0)]⟩ := tiK_of rfl K
theorem tk87 (K : TI → Prop) : tiK tab 87 K = K ⟨.st [(0, 2), (1, 2), (2, 32)], 3, 40, [(.int .i64 0), (.int .i64 0), (.slice none 0 0)]⟩ := tiK_of rfl K
theorem tk88 (K : TI → Prop) : tiK tab 88 K = K ⟨.st [(0, 2), (1, 2), (2, 32)], 3, 40, [(.int .i64 0), (.int .i64 0), (.slice none 0 0)]⟩ := tiK_of rfl K
theorem tk101 (K : TI → Prop) : tiK tab 101 K = K ⟨.st [(0, 23), (6, 3)], 7, 56, [(.int .i64 0), (.int .i64 0), (.int .i64 0), (.int .i64 0), (.int .i64 0), (.int .i64 0), (.int .i64 0)]⟩ := tiK_of rfl K
theorem tk102 (K : TI → Prop) : tiK tab 102 K = K ⟨.st [(0, 23), (6, 3)], 7, 56, [(.int .i64 0), (.int .i64 0), (.int .i64 0), (.int .i64 0), (.int .i64 0), (.int .i64 0), (.int .i64 0)]⟩ := tiK_of rfl K
theorem tk104 (K : TI → Prop) : tiK tab 104 K = K ⟨.int .u64, 1, 8, [(.int .u64 0)]⟩ := tiK_of rfl K
theorem tk123 (K : TI → Prop) : tiK tab 123 K = K ⟨.st [(0, 2), (1, 3)], 2, 16, [(.int .i64 0), (.int .i64 0)]⟩ := tiK_of rfl K
theorem tk126 (K : TI → Prop) : tiK tab 126 K = K ⟨.sl 32, 1, 24, [(.slice none 0 0)]⟩ := tiK_of rfl K
theorem tk142 (K : TI → Prop) : tiK tab 142 K = K ⟨.sl 3, 1, 24, [(.slice none 0 0)]⟩ := tiK_of rfl K
theorem tk144 (K : TI → Prop) : tiK tab 144 K = K ⟨.st [(0, 17), (1, 17), (2, 17), (3, 9)], 4, 40, [(.pointer none), (.pointer none), (.pointer none), (.string ⟨#[]⟩)]⟩ := tiK_of rfl K
theorem tk146 (K : TI → Prop) : tiK tab 146 K = K ⟨.ar 0 16, 0, 0, []⟩ := tiK_of rfl K
theorem tk147 (K : TI → Prop) : tiK tab 147 K = K ⟨.st [(0, 146)], 0, 0, []⟩ := tiK_of rfl K
theorem tk149 (K : TI → Prop) : tiK tab 149 K = K ⟨.int .u32, 1, 4, [(.int .u32 0)]⟩ := tiK_of rfl K
theorem tk153 (K : TI → Prop) : tiK tab 153 K = K ⟨.ptr 5, 1, 8, [(.pointer none)]⟩ := tiK_of rfl K
theorem tx2 (K : TI → Prop) : (∃ i, assoc tab 2 = some i ∧ K i) = K ⟨.int .i64, 1, 8, [(.int .i64 0)]⟩ := tab_ex rfl
theorem ty2 : (∃ i, assoc tab 2 = some i) = True := eq_true ⟨_, rfl⟩
theorem tx3 (K : TI → Prop) : (∃ i, assoc tab 3 = some i ∧ K i) = K ⟨.int .i64, 1, 8, [(.int .i64 0)]⟩ := tab_ex rfl
theorem ty3 : (∃ i, assoc tab 3 = some i) = True := eq_true ⟨_, rfl⟩
theorem tx4 (K : TI → Prop) : (∃ i, assoc tab 4 = some i ∧ K i) = K ⟨.bool, 1, 1, [(.bool false)]⟩ := tab_ex rfl
theorem ty4 : (∃ i, assoc tab 4 = some i) = True := eq_true ⟨_, rfl⟩
theorem tx5 (K : TI → Prop) : (∃ i, assoc tab 5 = some i ∧ K i) = K ⟨.int .u8, 1, 1, [(.int .u8 0)]⟩ := tab_ex rfl
theorem ty5 : (∃ i, assoc tab 5 = some i) = True := eq_true ⟨_, rfl⟩
theorem isU8_5 : IsU8 tab 5 = True := eq_true (isU8_of rfl rfl)
theorem tx9 (K : TI → Prop) : (∃ i, assoc tab 9 = some i ∧ K i) = K ⟨.str, 1, 16, [(.string ⟨#[]⟩)]⟩ := tab_ex rfl
theorem ty9 : (∃ i, assoc tab 9 = some i) = True := eq_true ⟨_, rfl⟩
theorem tx12 (K : TI → Prop) : (∃ i, assoc tab 12 = some i ∧ K i) = K ⟨.int .u64, 1, 8, [(.int .u64 0)]⟩ := tab_ex rfl
theorem ty12 : (∃ i, assoc tab 12 = some i) = True := eq_true ⟨_, rfl⟩
theorem tx21 (K : TI → Prop) : (∃ i, assoc tab 21 = some i ∧ K i) = K ⟨.int .i32, 1, 4, [(.int .i32 0)]⟩ := tab_ex rfl
theorem ty21 : (∃ i, assoc tab 21 = some i) = True := eq_true ⟨_, rfl⟩
theorem tx22 (K : TI → Prop) : (∃ i, assoc tab 22 = some i ∧ K i) = K ⟨.st [(0, 3), (1, 3), (2, 3), (3, 3), (4, 2), (5, 2)], 6, 48, [(.int .i64 0), (.int .i64 0), (.int .i64 0), (.int .i64 0), (.int .i64 0), (.int .i64 0)]⟩ := tab_ex rfl
theorem ty22 : (∃ i, assoc tab 22 = some i) = True := eq_true ⟨_, rfl⟩
theorem tx23 (K : TI → Prop) : (∃ i, assoc tab 23 = some i ∧ K i) = K ⟨.st [(0, 3), (1, 3), (2, 3), (3, 3), (4, 2), (5, 2)], 6, 48, [(.int .i64 0), (.int .i64 0), (.int .i64 0), (.int .i64 0), (.int .i64 0), (.int .i64 0)]⟩ := tab_ex rfl
theorem ty23 : (∃ i, assoc tab 23 = some i) = True := eq_true ⟨_, rfl⟩
theorem tx25 (K : TI → Prop) : (∃ i, assoc tab 25 = some i ∧ K i) = K ⟨.sl 88, 1, 24, [(.slice none 0 0)]⟩ := tab_ex rfl
theorem ty25 : (∃ i, assoc tab 25 = some i) = True := eq_true ⟨_, rfl⟩
theorem tx26 (K : TI → Prop) : (∃ i, assoc tab 26 = some i ∧ K i) = K ⟨.sl 63, 1, 24, [(.slice none 0 0)]⟩ := tab_ex rfl
theorem ty26 : (∃ i, assoc tab 26 = some i) = True := eq_true ⟨_, rfl⟩
theorem tx27 (K : TI → Prop) : (∃ i, assoc tab 27 = some i ∧ K i) = K ⟨.sl 57, 1, 24, [(.slice none 0 0)]⟩ := tab_ex rfl
theorem ty27 : (∃ i, assoc tab 27 = some i) = True := eq_true ⟨_, rfl⟩
theorem tx28 (K : TI → Prop) : (∃ i, assoc tab 28 = some i ∧ K i) = K ⟨.sl 76, 1, 24, [(.slice none 0 0)]⟩ := tab_ex rfl
theorem ty28 : (∃ i, assoc tab 28 = some i) = True := eq_true ⟨_, rfl⟩
theorem tx29 (K : TI → Prop) : (∃ i, assoc tab 29 = some i ∧ K i) = K ⟨.st [(0, 2), (1, 3)], 2, 16, [(.int .i64 0), (.int .i64 0)]⟩ := tab_ex rfl
theorem ty29 : (∃ i, assoc tab 29 = some i) = True := eq_true ⟨_, rfl⟩
theorem tx30 (K : TI → Prop) : (∃ i, assoc tab 30 = some i ∧ K i) = K ⟨.st [(0, 2), (1, 3)], 2, 16, [(.int .i64 0), (.int .i64 0)]⟩ := tab_ex rfl
theorem ty30 : (∃ i, assoc tab 30 = some i) = True := eq_true ⟨_, rfl⟩
theorem tx31 (K : TI → Prop) : (∃ i, assoc tab 31 = some i ∧ K i) = K ⟨.sl 4, 1, 24, [(.slice none 0 0)]⟩ := tab_ex rfl
theorem ty31 : (∃ i, assoc tab 31 = some i) = True := eq_true ⟨_, rfl⟩
theorem tx32 (K : TI → Prop) : (∃ i, assoc tab 32 = some i ∧ K i) = K ⟨.sl 2, 1, 24, [(.slice none 0 0)]⟩ := tab_ex rfl
theorem ty32 : (∃ i, assoc tab 32 = some i) = True := eq_true ⟨_, rfl⟩
theorem tx33 (K : TI → Prop) : (∃ i, assoc tab 33 = some i ∧ K i) = K ⟨.st [(0, 30), (2, 31), (3, 32), (4, 32), (5, 4)], 6, 96, [(.int .i64 0), (.int .i64 0), (.slice none 0 0), (.slice none 0 0), (.slice none 0 0), (.bool false)]⟩ := tab_ex rfl
theorem ty33 : (∃ i, assoc tab 33 = some i) = True := eq_true ⟨_, rfl⟩
theorem tx34 (K : TI → Prop) : (∃ i, assoc tab 34 = some i ∧ K i) = K ⟨.st [(0, 30), (2, 31), (3, 32), (4, 32), (5, 4)], 6, 96, [(.int .i64 0), (.int .i64 0), (.slice none 0 0), (.slice none 0 0), (.slice none 0 0), (.bool false)]⟩ := tab_ex rfl
theorem ty34 : (∃ i, assoc tab 34 = some i) = True := eq_true ⟨_, rfl⟩
theorem tx35 (K : TI → Prop) : (∃ i, assoc tab 35 = some i ∧ K i) = K ⟨.st [(0, 2), (1, 25), (2, 26), (3, 27), (4, 3), (5, 28), (6, 34)], 12, 208, [(.int .i64 0), (.slice none 0 0), (.slice none 0 0), (.slice none 0 0), (.int .i64 0), (.slice none 0 0), (.int .i64 0), (.int .i64 0), (.slice none 0 0), (.slice none 0 0), (.slice none 0 0), (.bool false)]⟩ := tab_ex rfl
theorem ty35 : (∃ i, assoc tab 35 = some i) = True := eq_true ⟨_, rfl⟩
theorem tx36 (K : TI → Prop) : (∃ i, assoc tab 36 = some i ∧ K i) = K ⟨.st [(0, 2), (1, 25), (2, 26), (3, 27), (4, 3), (5, 28), (6, 34)], 12, 208, [(.int .i64 0), (.slice none 0 0), (.slice none 0 0), (.slice none 0 0), (.int .i64 0), (.slice none 0 0), (.int .i64 0), (.int .i64 0), (.slice none 0 0), (.slice none 0 0), (.slice none 0 0), (.bool false)]⟩ := tab_ex rfl
theorem ty36 : (∃ i, assoc tab 36 = some i) = True := eq_true ⟨_, rfl⟩
theorem tx37 (K : TI → Prop) : (∃ i, assoc tab 37 = some i ∧ K i) = K ⟨.int .i64, 1, 8, [(.int .i64 0)]⟩ := tab_ex rfl
theorem ty37 : (∃ i, assoc tab 37 = some i) = True := eq_true ⟨_, rfl⟩
theorem tx45 (K : TI → Prop) : (∃ i, assoc tab 45 = some i ∧ K i) = K ⟨.sl 5, 1, 24, [(.slice none 0 0)]⟩ := tab_ex rfl
theorem ty45 : (∃ i, assoc tab 45 = some i) = True := eq_true ⟨_, rfl⟩
theorem tx54 (K : TI → Prop) : (∃ i, assoc tab 54 = some i ∧ K i) = K ⟨.st [(0, 2), (1, 3)], 2, 16, [(.int .i64 0), (.int .i64 0)]⟩ := tab_ex rfl
theorem ty54 : (∃ i, assoc tab 54 = some i) = True := eq_true ⟨_, rfl⟩
theorem tx55 (K : TI → Prop) : (∃ i, assoc tab 55 = some i ∧ K i) = K ⟨.st [(0, 2), (1, 3)], 2, 16, [(.int .i64 0), (.int .i64 0)]⟩ := tab_ex rfl
theorem ty55 : (∃ i, assoc tab 55 = some i) = True := eq_true ⟨_, rfl⟩
theorem tx56 (K : TI → Prop) : (∃ i, assoc tab 56 = some i ∧ K i) = K ⟨.st [(0, 55), (2, 37)], 3, 24, [(.int .i64 0), (.int .i64 0), (.int .i64 0)]⟩ := tab_ex rfl
theorem ty56 : (∃ i, assoc tab 56 = some i) = True := eq_true ⟨_, rfl⟩
theorem tx57 (K : TI → Prop) : (∃ i, assoc tab 57 = some i ∧ K i) = K ⟨.st [(0, 55), (2, 37)], 3, 24, [(.int .i64 0), (.int .i64 0), (.int .i64 0)]⟩ := tab_ex rfl
theorem ty57 : (∃ i, assoc tab 57 = some i) = True := eq_true ⟨_, rfl⟩
theorem tx62 (K : TI → Prop) : (∃ i, assoc tab 62 = some i ∧ K i) = K ⟨.st [(0, 55), (2, 2)], 3, 24, [(.int .i64 0), (.int .i64 0), (.int .i64 0)]⟩ := tab_ex rfl
theorem ty62 : (∃ i, assoc tab 62 = some i) = True := eq_true ⟨_, rfl⟩
theorem tx63 (K : TI → Prop) : (∃ i, assoc tab 63 = some i ∧ K i) = K ⟨.st [(0, 55), (2, 2)], 3, 24, [(.int .i64 0), (.int .i64 0), (.int .i64 0)]⟩ := tab_ex rfl
theorem ty63 : (∃ i, assoc tab 63 = some i) = True := eq_true ⟨_, rfl⟩
theorem tx72 (K : TI → Prop) : (∃ i, assoc tab 72 = some i ∧ K i) = K ⟨.int .u64, 1, 8, [(.int .u64 0)]⟩ := tab_ex rfl
theorem ty72 : (∃ i, assoc tab 72 = some i) = True := eq_true ⟨_, rfl⟩
theorem tx75 (K : TI → Prop) : (∃ i, assoc tab 75 = some i ∧ K i) = K ⟨.st [(0, 2), (1, 63), (4, 3), (5, 30)], 7, 56, [(.int .i64 0), (.int .i64 0), (.int .i64 0), (.int .i64 0), (.int .i64 0), (.int .i64 0), (.int .i64 0)]⟩ := tab_ex rfl
theorem ty75 : (∃ i, assoc tab 75 = some i) = True := eq_true ⟨_, rfl⟩
theorem tx76 (K : TI → Prop) : (∃ i, assoc tab 76 = some i ∧ K i) = K ⟨.st [(0, 2), (1, 63), (4, 3), (5, 30)], 7, 56, [(.int .i64 0), (.int .i64 0), (.int .i64 0), (.int .i64 0), (.int .i64 0), (.int .i64 0), (.int .i64 0)]⟩ := tab_ex rfl
theorem ty76 : (∃ i, assoc tab 76 = some i) = True := eq_true ⟨_, rfl⟩
theorem tx80 (K : TI → Prop) : (∃ i, assoc tab 80 = some i ∧ K i) = K ⟨.st [], 0, 0, []⟩ := tab_ex rfl
theorem ty80 : (∃ i, assoc tab 80 = some i) = True := eq_true ⟨_, rfl⟩
theorem tx81 (K : TI → Prop) : (∃ i, assoc tab 81 = some i ∧ K i) = K ⟨.st [], 0, 0, []⟩ := tab_ex rfl
theorem ty81 : (∃ i, assoc tab 81 = some i) = True := eq_true ⟨_, rfl⟩
theorem tx83 (K : TI → Prop) : (∃ i, assoc tab 83 = some i ∧ K i) = K ⟨.ptr 85, 1, 8, [(.pointer none)]⟩ := tab_ex rfl
theorem ty83 : (∃ i, assoc tab 83 = some i) = True := eq_true ⟨_, rfl⟩
theorem tx84 (K : TI → Prop) : (∃ i, assoc tab 84 = some i ∧ K i) = K ⟨.st [(0, 45)], 1, 24, [(.slice none 0 0)]⟩ := tab_ex rfl
theorem ty84 : (∃ i, assoc tab 84 = some i) = True := eq_true ⟨_, rfl⟩
theorem tx85 (K : TI → Prop) : (∃ i, assoc tab 85 = some i ∧ K i) = K ⟨.st [(0, 45)], 1, 24, [(.slice none 0 0)]⟩ := tab_ex rfl
theorem ty85 : (∃ i, assoc tab 85 = some i) = True := eq_true ⟨_, rfl⟩
theorem tx87 (K : TI → Prop) : (∃ i, assoc tab 87 = some i ∧ K i) = K ⟨.st [(0, 2), (1, 2), (2, 32)], 3, 40, [(.int .i64 0), (.int .i64 0), (.slice none 0 0)]⟩ := tab_ex rfl
theorem ty87 : (∃ i, assoc tab 87 = some i) = True := eq_true ⟨_, rfl⟩
theorem tx88 (K : TI → Prop) : (∃ i, assoc tab 88 = some i ∧ K i) = K ⟨.st [(0, 2), (1, 2), (2, 32)], 3, 40, [(.int .i64 0), (.int .i64 0), (.slice none 0 0)]⟩ := tab_ex rfl
theorem ty88 : (∃ i, assoc tab 88 = some i) = True := eq_true ⟨_, rfl⟩
theorem tx101 (K : TI → Prop) : (∃ i, assoc tab 101 = some i ∧ K i) = K ⟨.st [(0, 23), (6, 3)], 7, 56, [(.int .i64 0), (.int .i64 0), (.int .i64 0), (.int .i64 0), (.int .i64 0), (.int .i64 0), (.int .i64 0)]⟩ := tab_ex rfl
theorem ty101 : (∃ i, assoc tab 101 = some i) = True := eq_true ⟨_, rfl⟩
theorem tx102 (K : TI → Prop) : (∃ i, assoc tab 102 = some i ∧ K i) = K ⟨.st [(0, 23), (6, 3)], 7, 56, [(.int .i64 0), (.int .i64 0), (.int .i64 0), (.int .i64 0), (.int .i64 0), (.int .i64 0), (.int .i64 0)]⟩ := tab_ex rfl
theorem ty102 : (∃ i, assoc tab 102 = some i) = True := eq_true ⟨_, rfl⟩
theorem tx104 (K : TI → Prop) : (∃ i, assoc tab 104 = some i ∧ K i) = K ⟨.int .u64, 1, 8, [(.int .u64 0)]⟩ := tab_ex rfl
theorem ty104 : (∃ i, assoc tab 104 = some i) = True := eq_true ⟨_, rfl⟩
theorem tx123 (K : TI → Prop) : (∃ i, assoc tab 123 = some i ∧ K i) = K ⟨.st [(0, 2), (1, 3)], 2, 16, [(.int .i64 0), (.int .i64 0)]⟩ := tab_ex rfl
theorem ty123 : (∃ i, assoc tab 123 = some i) = True := eq_true ⟨_, rfl⟩
theorem tx126 (K : TI → Prop) : (∃ i, assoc tab 126 = some i ∧ K i) = K ⟨.sl 32, 1, 24, [(.slice none 0 0)]⟩ := tab_ex rfl
theorem ty126 : (∃ i, assoc tab 126 = some i) = True := eq_true ⟨_, rfl⟩
theorem tx142 (K : TI → Prop) : (∃ i, assoc tab 142 = some i ∧ K i) = K ⟨.sl 3, 1, 24, [(.slice none 0 0)]⟩ := tab_ex rfl
theorem ty142 : (∃ i, assoc tab 142 = some i) = True := eq_true ⟨_, rfl⟩
theorem tx144 (K : TI → Prop) : (∃ i, assoc tab 144 = some i ∧ K i) = K ⟨.st [(0, 17), (1, 17), (2, 17), (3, 9)], 4, 40, [(.pointer none), (.pointer none), (.pointer none), (.string ⟨#[]⟩)]⟩ := tab_ex rfl
theorem ty144 : (∃ i, assoc tab 144 = some i) = True := eq_true ⟨_, rfl⟩
theorem tx146 (K : TI → Prop) : (∃ i, assoc tab 146 = some i ∧ K i) = K ⟨.ar 0 16, 0, 0, []⟩ := tab_ex rfl
theorem ty146 : (∃ i, assoc tab 146 = some i) = True := eq_true ⟨_, rfl⟩
theorem tx147 (K : TI → Prop) : (∃ i, assoc tab 147 = some i ∧ K i) = K ⟨.st [(0, 146)], 0, 0, []⟩ := tab_ex rfl
theorem ty147 : (∃ i, assoc tab 147 = some i) = True := eq_true ⟨_, rfl⟩
theorem tx149 (K : TI → Prop) : (∃ i, assoc tab 149 = some i ∧ K i) = K ⟨.int .u32, 1, 4, [(.int .u32 0)]⟩ := tab_ex rfl
theorem ty149 : (∃ i, assoc tab 149 = some i) = True := eq_true ⟨_, rfl⟩
theorem tx153 (K : TI → Prop) : (∃ i, assoc tab 153 = some i ∧ K i) = K ⟨.ptr 5, 1, 8, [(.pointer none)]⟩ := tab_ex rfl
theorem ty153 : (∃ i, assoc tab 153 = some i) = True := eq_true ⟨_, rfl⟩
theorem mixed : Try.prog.follows .mixedOrders = true := by kernel_rfl
theorem tabOk : TabOk Try.prog tab := TabAll.ok ⟨ti2, ti3, ti4, ti5, ti9, ti12, ti21, ti22, ti23, ti25, ti26, ti27, ti28, ti29, ti30, ti31, ti32, ti33, ti34, ti35, ti36, ti37, ti45, ti54, ti55, ti56, ti57, ti62, ti63, ti72, ti75, ti76, ti80, ti81, ti83, ti84, ti85, ti87, ti88, ti101, ti102, ti104, ti123, ti126, ti142, ti144, ti146, ti147, ti149, ti153, trivial⟩
theorem wt : ((((((type_of% @tk2) ∧ ((type_of% @tk3) ∧ (type_of% @tk4))) ∧ ((type_of% @tk5) ∧ ((type_of% @tk9) ∧ (type_of% @tk12)))) ∧ (((type_of% @tk21) ∧ ((type_of% @tk22) ∧ (type_of% @tk23))) ∧ ((type_of% @tk25) ∧ ((type_of% @tk26) ∧ (type_of% @tk27))))) ∧ ((((type_of% @tk28) ∧ ((type_of% @tk29) ∧ (type_of% @tk30))) ∧ ((type_of% @tk31) ∧ ((type_of% @tk32) ∧ (type_of% @tk33)))) ∧ (((type_of% @tk34) ∧ ((type_of% @tk35) ∧ (type_of% @tk36))) ∧ (((type_of% @tk37) ∧ (type_of% @tk45)) ∧ ((type_of% @tk54) ∧ (type_of% @tk55)))))) ∧ (((((type_of% @tk56) ∧ ((type_of% @tk57) ∧ (type_of% @tk62))) ∧ ((type_of% @tk63) ∧ ((type_of% @tk72) ∧ (type_of% @tk75)))) ∧ (((type_of% @tk76) ∧ ((type_of% @tk80) ∧ (type_of% @tk81))) ∧ ((type_of% @tk83) ∧ ((type_of% @tk84) ∧ (type_of% @tk85))))) ∧ ((((type_of% @tk87) ∧ ((type_of% @tk88) ∧ (type_of% @tk101))) ∧ ((type_of% @tk102) ∧ ((type_of% @tk104) ∧ (type_of% @tk123)))) ∧ (((type_of% @tk126) ∧ ((type_of% @tk142) ∧ (type_of% @tk144))) ∧ (((type_of% @tk146) ∧ (type_of% @tk147)) ∧ ((type_of% @tk149) ∧ (type_of% @tk153))))))) ∧ ((((((type_of% @tx2) ∧ ((type_of% @tx3) ∧ (type_of% @tx4))) ∧ ((type_of% @tx5) ∧ ((type_of% @tx9) ∧ (type_of% @tx12)))) ∧ (((type_of% @tx21) ∧ ((type_of% @tx22) ∧ (type_of% @tx23))) ∧ ((type_of% @tx25) ∧ ((type_of% @tx26) ∧ (type_of% @tx27))))) ∧ ((((type_of% @tx28) ∧ ((type_of% @tx29) ∧ (type_of% @tx30))) ∧ ((type_of% @tx31) ∧ ((type_of% @tx32) ∧ (type_of% @tx33)))) ∧ (((type_of% @tx34) ∧ ((type_of% @tx35) ∧ (type_of% @tx36))) ∧ (((type_of% @tx37) ∧ (type_of% @tx45)) ∧ ((type_of% @tx54) ∧ (type_of% @tx55)))))) ∧ (((((type_of% @tx56) ∧ ((type_of% @tx57) ∧ (type_of% @tx62))) ∧ ((type_of% @tx63) ∧ ((type_of% @tx72) ∧ (type_of% @tx75)))) ∧ (((type_of% @tx76) ∧ ((type_of% @tx80) ∧ (type_of% @tx81))) ∧ ((type_of% @tx83) ∧ ((type_of% @tx84) ∧ (type_of% @tx85))))) ∧ ((((type_of% @tx87) ∧ ((type_of% @tx88) ∧ (type_of% @tx101))) ∧ ((type_of% @tx102) ∧ ((type_of% @tx104) ∧ (type_of% @tx123)))) ∧ (((type_of% @tx126) ∧ ((type_of% @tx142) ∧ (type_of% @tx144))) ∧ (((type_of% @tx146) ∧ (type_of% @tx147)) ∧ ((type_of% @tx149) ∧ (type_of% @tx153))))))) :=
 ⟨⟨⟨⟨⟨⟨@tk2, ⟨@tk3, @tk4⟩⟩, ⟨@tk5, ⟨@tk9, @tk12⟩⟩⟩, ⟨⟨@tk21, ⟨@tk22, @tk23⟩⟩, ⟨@tk25, ⟨@tk26, @tk27⟩⟩⟩⟩, ⟨⟨⟨@tk28, ⟨@tk29, @tk30⟩⟩, ⟨@tk31, ⟨@tk32, @tk33⟩⟩⟩, ⟨⟨@tk34, ⟨@tk35, @tk36⟩⟩, ⟨⟨@tk37, @tk45⟩, ⟨@tk54, @tk55⟩⟩⟩⟩⟩, ⟨⟨⟨⟨@tk56, ⟨@tk57, @tk62⟩⟩, ⟨@tk63, ⟨@tk72, @tk75⟩⟩⟩, ⟨⟨@tk76, ⟨@tk80, @tk81⟩⟩, ⟨@tk83, ⟨@tk84, @tk85⟩⟩⟩⟩, ⟨⟨⟨@tk87, ⟨@tk88, @tk101⟩⟩, ⟨@tk102, ⟨@tk104, @tk123⟩⟩⟩, ⟨⟨@tk126, ⟨@tk142, @tk144⟩⟩, ⟨⟨@tk146, @tk147⟩, ⟨@tk149, @tk153⟩⟩⟩⟩⟩⟩, ⟨⟨⟨⟨⟨@tx2, ⟨@tx3, @tx4⟩⟩, ⟨@tx5, ⟨@tx9, @tx12⟩⟩⟩, ⟨⟨@tx21, ⟨@tx22, @tx23⟩⟩, ⟨@tx25, ⟨@tx26, @tx27⟩⟩⟩⟩, ⟨⟨⟨@tx28, ⟨@tx29, @tx30⟩⟩, ⟨@tx31, ⟨@tx32, @tx33⟩⟩⟩, ⟨⟨@tx34, ⟨@tx35, @tx36⟩⟩, ⟨⟨@tx37, @tx45⟩, ⟨@tx54, @tx55⟩⟩⟩⟩⟩, ⟨⟨⟨⟨@tx56, ⟨@tx57, @tx62⟩⟩, ⟨@tx63, ⟨@tx72, @tx75⟩⟩⟩, ⟨⟨@tx76, ⟨@tx80, @tx81⟩⟩, ⟨@tx83, ⟨@tx84, @tx85⟩⟩⟩⟩, ⟨⟨⟨@tx87, ⟨@tx88, @tx101⟩⟩, ⟨@tx102, ⟨@tx104, @tx123⟩⟩⟩, ⟨⟨@tx126, ⟨@tx142, @tx144⟩⟩, ⟨⟨@tx146, @tx147⟩, ⟨@tx149, @tx153⟩⟩⟩⟩⟩⟩⟩
theorem wu : (((((type_of% @ty2) ∧ ((type_of% @ty3) ∧ (type_of% @ty4))) ∧ ((type_of% @ty5) ∧ ((type_of% @ty9) ∧ (type_of% @ty12)))) ∧ (((type_of% @ty21) ∧ ((type_of% @ty22) ∧ (type_of% @ty23))) ∧ ((type_of% @ty25) ∧ ((type_of% @ty26) ∧ (type_of% @ty27))))) ∧ ((((type_of% @ty28) ∧ ((type_of% @ty29) ∧ (type_of% @ty30))) ∧ ((type_of% @ty31) ∧ ((type_of% @ty32) ∧ (type_of% @ty33)))) ∧ (((type_of% @ty34) ∧ ((type_of% @ty35) ∧ (type_of% @ty36))) ∧ (((type_of% @ty37) ∧ (type_of% @ty45)) ∧ ((type_of% @ty54) ∧ (type_of% @ty55)))))) ∧ (((((type_of% @ty56) ∧ ((type_of% @ty57) ∧ (type_of% @ty62))) ∧ ((type_of% @ty63) ∧ ((type_of% @ty72) ∧ (type_of% @ty75)))) ∧ (((type_of% @ty76) ∧ ((type_of% @ty80) ∧ (type_of% @ty81))) ∧ (((type_of% @ty83) ∧ (type_of% @ty84)) ∧ ((type_of% @ty85) ∧ (type_of% @ty87))))) ∧ ((((type_of% @ty88) ∧ ((type_of% @ty101) ∧ (type_of% @ty102))) ∧ ((type_of% @ty104) ∧ ((type_of% @ty123) ∧ (type_of% @ty126)))) ∧ (((type_of% @ty142) ∧ ((type_of% @ty144) ∧ (type_of% @ty146))) ∧ (((type_of% @ty147) ∧ (type_of% @ty149)) ∧ ((type_of% @ty153) ∧ (type_of% @isU8_5)))))) :=
 ⟨⟨⟨⟨⟨@ty2, ⟨@ty3, @ty4⟩⟩, ⟨@ty5, ⟨@ty9, @ty12⟩⟩⟩, ⟨⟨@ty21, ⟨@ty22, @ty23⟩⟩, ⟨@ty25, ⟨@ty26, @ty27⟩⟩⟩⟩, ⟨⟨⟨@ty28, ⟨@ty29, @ty30⟩⟩, ⟨@ty31, ⟨@ty32, @ty33⟩⟩⟩, ⟨⟨@ty34, ⟨@ty35, @ty36⟩⟩, ⟨⟨@ty37, @ty45⟩, ⟨@ty54, @ty55⟩⟩⟩⟩⟩, ⟨⟨⟨⟨@ty56, ⟨@ty57, @ty62⟩⟩, ⟨@ty63, ⟨@ty72, @ty75⟩⟩⟩, ⟨⟨@ty76, ⟨@ty80, @ty81⟩⟩, ⟨⟨@ty83, @ty84⟩, ⟨@ty85, @ty87⟩⟩⟩⟩, ⟨⟨⟨@ty88, ⟨@ty101, @ty102⟩⟩, ⟨@ty104, ⟨@ty123, @ty126⟩⟩⟩, ⟨⟨@ty142, ⟨@ty144, @ty146⟩⟩, ⟨⟨@ty147, @ty149⟩, ⟨@ty153, @isU8_5⟩⟩⟩⟩⟩⟩
theorem wz : (type_of% @wu) ∧ (type_of% @wk0) ∧ (type_of% @wk1) ∧ (type_of% @wk2) ∧ (type_of% @wk3) ∧ (type_of% @wk4) ∧ (type_of% @laidS.eq_1) ∧ (type_of% @laidS.eq_2) ∧ (type_of% @keepS.eq_1) ∧ (type_of% @keepS.eq_2) := ⟨@wu, @wk0, @wk1, @wk2, @wk3, @wk4, @laidS.eq_1, @laidS.eq_2, @keepS.eq_1, @keepS.eq_2⟩
end Go.Ab
