import Derived.Test.YtblnakmeaokemadProg
import Derived.Test.YtblnakmeaokemadAbG7
import Derived.KernelRfl
set_option maxRecDepth 100000
namespace Go.Ab
open Go Go.Proofs

def tab : Tab :=
  [(2, ⟨.int .i64, 1, 8, [(.int .i64 0)]⟩),
   (3, ⟨.int .i64, 1, 8, [(.int .i64 0)]⟩),
   (4, ⟨.bool, 1, 1, [(.bool false)]⟩),
   (5, ⟨.int .u8, 1, 1, [(.int .u8 0)]⟩),
   (9, ⟨.str, 1, 16, [(.string ⟨#[]⟩)]⟩),
   (12, ⟨.int .u64, 1, 8, [(.int .u64 0)]⟩),
   (21, ⟨.int .i32, 1, 4, [(.int .i32 0)]⟩),
   (22, ⟨.st [(0, 3), (1, 3), (2, 3), (3, 3), (4, 2), (5, 2)], 6, 48, [(.int .i64 0), (.int .i64 0), (.int .i64 0), (.int .i64 0), (.int .i64 0), (.int .i64 0)]⟩),
   (23, ⟨.st [(0, 3), (1, 3), (2, 3), (3, 3), (4, 2), (5, 2)], 6, 48, [(.int .i64 0), (.int .i64 0), (.int .i64 0), (.int .i64 0), (.int .i64 0), (.int .i64 0)]⟩),
   (24, ⟨.sl 40, 1, 24, [(.slice none 0 0)]⟩),
   (27, ⟨.st [(0, 2), (1, 3)], 2, 16, [(.int .i64 0), (.int .i64 0)]⟩),
   (28, ⟨.st [(0, 2), (1, 3)], 2, 16, [(.int .i64 0), (.int .i64 0)]⟩),
   (29, ⟨.st [(0, 28), (2, 2)], 3, 24, [(.int .i64 0), (.int .i64 0), (.int .i64 0)]⟩),
   (30, ⟨.st [(0, 28), (2, 2)], 3, 24, [(.int .i64 0), (.int .i64 0), (.int .i64 0)]⟩),
   (37, ⟨.st [(0, 2), (1, 3)], 2, 16, [(.int .i64 0), (.int .i64 0)]⟩),
   (38, ⟨.st [(0, 2), (1, 3)], 2, 16, [(.int .i64 0), (.int .i64 0)]⟩),
   (39, ⟨.st [(0, 2), (1, 30), (4, 3), (5, 38)], 7, 56, [(.int .i64 0), (.int .i64 0), (.int .i64 0), (.int .i64 0), (.int .i64 0), (.int .i64 0), (.int .i64 0)]⟩),
   (40, ⟨.st [(0, 2), (1, 30), (4, 3), (5, 38)], 7, 56, [(.int .i64 0), (.int .i64 0), (.int .i64 0), (.int .i64 0), (.int .i64 0), (.int .i64 0), (.int .i64 0)]⟩),
   (42, ⟨.sl 88, 1, 24, [(.slice none 0 0)]⟩),
   (43, ⟨.sl 38, 1, 24, [(.slice none 0 0)]⟩),
   (44, ⟨.st [(0, 3), (1, 3), (2, 2), (3, 42), (4, 30), (7, 3), (8, 38), (10, 43)], 11, 120, [(.int .i64 0), (.int .i64 0), (.int .i64 0), (.slice none 0 0), (.int .i64 0), (.int .i64 0), (.int .i64 0), (.int .i64 0), (.int .i64 0), (.int .i64 0), (.slice none 0 0)]⟩),
   (45, ⟨.st [(0, 3), (1, 3), (2, 2), (3, 42), (4, 30), (7, 3), (8, 38), (10, 43)], 11, 120, [(.int .i64 0), (.int .i64 0), (.int .i64 0), (.slice none 0 0), (.int .i64 0), (.int .i64 0), (.int .i64 0), (.int .i64 0), (.int .i64 0), (.int .i64 0), (.slice none 0 0)]⟩),
   (47, ⟨.int .i64, 1, 8, [(.int .i64 0)]⟩),
   (58, ⟨.sl 4, 1, 24, [(.slice none 0 0)]⟩),
   (59, ⟨.sl 2, 1, 24, [(.slice none 0 0)]⟩),
   (60, ⟨.st [(0, 38), (2, 58), (3, 59), (4, 59), (5, 4)], 6, 96, [(.int .i64 0), (.int .i64 0), (.slice none 0 0), (.slice none 0 0), (.slice none 0 0), (.bool false)]⟩),
   (61, ⟨.st [(0, 38), (2, 58), (3, 59), (4, 59), (5, 4)], 6, 96, [(.int .i64 0), (.int .i64 0), (.slice none 0 0), (.slice none 0 0), (.slice none 0 0), (.bool false)]⟩),
   (70, ⟨.sl 45, 1, 24, [(.slice none 0 0)]⟩),
   (80, ⟨.st [(0, 23), (6, 3)], 7, 56, [(.int .i64 0), (.int .i64 0), (.int .i64 0), (.int .i64 0), (.int .i64 0), (.int .i64 0), (.int .i64 0)]⟩),
   (81, ⟨.st [(0, 23), (6, 3)], 7, 56, [(.int .i64 0), (.int .i64 0), (.int .i64 0), (.int .i64 0), (.int .i64 0), (.int .i64 0), (.int .i64 0)]⟩),
   (87, ⟨.st [(0, 2), (1, 2), (2, 59)], 3, 40, [(.int .i64 0), (.int .i64 0), (.slice none 0 0)]⟩),
   (88, ⟨.st [(0, 2), (1, 2), (2, 59)], 3, 40, [(.int .i64 0), (.int .i64 0), (.slice none 0 0)]⟩),
   (94, ⟨.st [(0, 2), (1, 3)], 2, 16, [(.int .i64 0), (.int .i64 0)]⟩),
   (110, ⟨.sl 3, 1, 24, [(.slice none 0 0)]⟩),
   (114, ⟨.st [(0, 17), (1, 17), (2, 17), (3, 9)], 4, 40, [(.pointer none), (.pointer none), (.pointer none), (.string ⟨#[]⟩)]⟩),
   (116, ⟨.ar 0 16, 0, 0, []⟩),
   (117, ⟨.st [(0, 116)], 0, 0, []⟩),
   (120, ⟨.int .u32, 1, 4, [(.int .u32 0)]⟩),
   (124, ⟨.ptr 5, 1, 8, [(.pointer none)]⟩)]
theorem ti2 : TOk Try.prog 2 ⟨.int .i64, 1, 8, [(.int .i64 0)]⟩ := .mk' (by kernel_rfl) Try.underlying2 rfl
theorem ti3 : TOk Try.prog 3 ⟨.int .i64, 1, 8, [(.int .i64 0)]⟩ := .mk' (by kernel_rfl) Try.underlying3 rfl
theorem ti4 : TOk Try.prog 4 ⟨.bool, 1, 1, [(.bool false)]⟩ := .mk' (by kernel_rfl) Try.underlying4 rfl
theorem ti5 : TOk Try.prog 5 ⟨.int .u8, 1, 1, [(.int .u8 0)]⟩ := .mk' (by kernel_rfl) Try.underlying5 rfl
theorem ti9 : TOk Try.prog 9 ⟨.str, 1, 16, [(.string ⟨#[]⟩)]⟩ := .mk' (by kernel_rfl) Try.underlying9 rfl
theorem ti12 : TOk Try.prog 12 ⟨.int .u64, 1, 8, [(.int .u64 0)]⟩ := .mk' (by kernel_rfl) Try.underlying12 rfl
theorem ti21 : TOk Try.prog 21 ⟨.int .i32, 1, 4, [(.int .i32 0)]⟩ := .mk' (by kernel_rfl) Try.underlying21 rfl
theorem ti22 : TOk Try.prog 22 ⟨.st [(0, 3), (1, 3), (2, 3), (3, 3), (4, 2), (5, 2)], 6, 48, [(.int .i64 0), (.int .i64 0), (.int .i64 0), (.int .i64 0), (.int .i64 0), (.int .i64 0)]⟩ := .mk' (by kernel_rfl) ⟨_, Try.underlying22, rfl⟩ rfl
theorem ti23 : TOk Try.prog 23 ⟨.st [(0, 3), (1, 3), (2, 3), (3, 3), (4, 2), (5, 2)], 6, 48, [(.int .i64 0), (.int .i64 0), (.int .i64 0), (.int .i64 0), (.int .i64 0), (.int .i64 0)]⟩ := .mk' (by kernel_rfl) ⟨_, Try.underlying23, rfl⟩ rfl
theorem ti24 : TOk Try.prog 24 ⟨.sl 40, 1, 24, [(.slice none 0 0)]⟩ := .mk' (by kernel_rfl) Try.underlying24 rfl
theorem ti27 : TOk Try.prog 27 ⟨.st [(0, 2), (1, 3)], 2, 16, [(.int .i64 0), (.int .i64 0)]⟩ := .mk' (by kernel_rfl) ⟨_, Try.underlying27, rfl⟩ rfl
theorem ti28 : TOk Try.prog 28 ⟨.st [(0, 2), (1, 3)], 2, 16, [(.int .i64 0), (.int .i64 0)]⟩ := .mk' (by kernel_rfl) ⟨_, Try.underlying28, rfl⟩ rfl
theorem ti29 : TOk Try.prog 29 ⟨.st [(0, 28), (2, 2)], 3, 24, [(.int .i64 0), (.int .i64 0), (.int .i64 0)]⟩ := .mk' (by kernel_rfl) ⟨_, Try.underlying29, rfl⟩ rfl
theorem ti30 : TOk Try.prog 30 ⟨.st [(0, 28), (2, 2)], 3, 24, [(.int .i64 0), (.int .i64 0), (.int .i64 0)]⟩ := .mk' (by kernel_rfl) ⟨_, Try.underlying30, rfl⟩ rfl
theorem ti37 : TOk Try.prog 37 ⟨.st [(0, 2), (1, 3)], 2, 16, [(.int .i64 0), (.int .i64 0)]⟩ := .mk' (by kernel_rfl) ⟨_, Try.underlying37, rfl⟩ rfl
theorem ti38 : TOk Try.prog 38 ⟨.st [(0, 2), (1, 3)], 2, 16, [(.int .i64 0), (.int .i64 0)]⟩ := .mk' (by kernel_rfl) ⟨_, Try.underlying38, rfl⟩ rfl
theorem ti39 : TOk Try.prog 39 ⟨.st [(0, 2), (1, 30), (4, 3), (5, 38)], 7, 56, [(.int .i64 0), (.int .i64 0), (.int .i64 0), (.int .i64 0), (.int .i64 0), (.int .i64 0), (.int .i64 0)]⟩ := .mk' (by kernel_rfl) ⟨_, Try.underlying39, rfl⟩ rfl
theorem ti40 : TOk Try.prog 40 ⟨.st [(0, 2), (1, 30), (4, 3), (5, 38)], 7, 56, [(.int .i64 0), (.int .i64 0), (.int .i64 0), (.int .i64 0), (.int .i64 0), (.int .i64 0), (.int .i64 0)]⟩ := .mk' (by kernel_rfl) ⟨_, Try.underlying40, rfl⟩ rfl
theorem ti42 : TOk Try.prog 42 ⟨.sl 88, 1, 24, [(.slice none 0 0)]⟩ := .mk' (by kernel_rfl) Try.underlying42 rfl
theorem ti43 : TOk Try.prog 43 ⟨.sl 38, 1, 24, [(.slice none 0 0)]⟩ := .mk' (by kernel_rfl) Try.underlying43 rfl
theorem ti44 : TOk Try.prog 44 ⟨.st [(0, 3), (1, 3), (2, 2), (3, 42), (4, 30), (7, 3), (8, 38), (10, 43)], 11, 120, [(.int .i64 0), (.int .i64 0), (.int .i64 0), (.slice none 0 0), (.int .i64 0), (.int .i64 0), (.int .i64 0), (.int .i64 0), (.int .i64 0), (.int .i64 0), (.slice none 0 0)]⟩ := .mk' (by kernel_rfl) ⟨_, Try.underlying44, rfl⟩ rfl
theorem ti45 : TOk Try.prog 45 ⟨.st [(0, 3), (1, 3), (2, 2), (3, 42), (4, 30), (7, 3), (8, 38), (10, 43)], 11, 120, [(.int .i64 0), (.int .i64 0), (.int .i64 0), (.slice none 0 0), (.int .i64 0), (.int .i64 0), (.int .i64 0), (.int .i64 0), (.int .i64 0), (.int .i64 0), (.slice none 0 0)]⟩ := .mk' (by kernel_rfl) ⟨_, Try.underlying45, rfl⟩ rfl
theorem ti47 : TOk Try.prog 47 ⟨.int .i64, 1, 8, [(.int .i64 0)]⟩ := .mk' (by kernel_rfl) Try.underlying47 rfl
theorem ti58 : TOk Try.prog 58 ⟨.sl 4, 1, 24, [(.slice none 0 0)]⟩ := .mk' (by kernel_rfl) Try.underlying58 rfl
theorem ti59 : TOk Try.prog 59 ⟨.sl 2, 1, 24, [(.slice none 0 0)]⟩ := .mk' (by kernel_rfl) Try.underlying59 rfl
theorem ti60 : TOk Try.prog 60 ⟨.st [(0, 38), (2, 58), (3, 59), (4, 59), (5, 4)], 6, 96, [(.int .i64 0), (.int .i64 0), (.slice none 0 0), (.slice none 0 0), (.slice none 0 0), (.bool false)]⟩ := .mk' (by kernel_rfl) ⟨_, Try.underlying60, rfl⟩ rfl
theorem ti61 : TOk Try.prog 61 ⟨.st [(0, 38), (2, 58), (3, 59), (4, 59), (5, 4)], 6, 96, [(.int .i64 0), (.int .i64 0), (.slice none 0 0), (.slice none 0 0), (.slice none 0 0), (.bool false)]⟩ := .mk' (by kernel_rfl) ⟨_, Try.underlying61, rfl⟩ rfl
theorem ti70 : TOk Try.prog 70 ⟨.sl 45, 1, 24, [(.slice none 0 0)]⟩ := .mk' (by kernel_rfl) Try.underlying70 rfl
theorem ti80 : TOk Try.prog 80 ⟨.st [(0, 23), (6, 3)], 7, 56, [(.int .i64 0), (.int .i64 0), (.int .i64 0), (.int .i64 0), (.int .i64 0), (.int .i64 0), (.int .i64 0)]⟩ := .mk' (by kernel_rfl) ⟨_, Try.underlying80, rfl⟩ rfl
theorem ti81 : TOk Try.prog 81 ⟨.st [(0, 23), (6, 3)], 7, 56, [(.int .i64 0), (.int .i64 0), (.int .i64 0), (.int .i64 0), (.int .i64 0), (.int .i64 0), (.int .i64 0)]⟩ := .mk' (by kernel_rfl) ⟨_, Try.underlying81, rfl⟩ rfl
theorem ti87 : TOk Try.prog 87 ⟨.st [(0, 2), (1, 2), (2, 59)], 3, 40, [(.int .i64 0), (.int .i64 0), (.slice none 0 0)]⟩ := .mk' (by kernel_rfl) ⟨_, Try.underlying87, rfl⟩ rfl
theorem ti88 : TOk Try.prog 88 ⟨.st [(0, 2), (1, 2), (2, 59)], 3, 40, [(.int .i64 0), (.int .i64 0), (.slice none 0 0)]⟩ := .mk' (by kernel_rfl) ⟨_, Try.underlying88, rfl⟩ rfl
theorem ti94 : TOk Try.prog 94 ⟨.st [(0, 2), (1, 3)], 2, 16, [(.int .i64 0), (.int .i64 0)]⟩ := .mk' (by kernel_rfl) ⟨_, Try.underlying94, rfl⟩ rfl
theorem ti110 : TOk Try.prog 110 ⟨.sl 3, 1, 24, [(.slice none 0 0)]⟩ := .mk' (by kernel_rfl) Try.underlying110 rfl
theorem ti114 : TOk Try.prog 114 ⟨.st [(0, 17), (1, 17), (2, 17), (3, 9)], 4, 40, [(.pointer none), (.pointer none), (.pointer none), (.string ⟨#[]⟩)]⟩ := .mk' (by kernel_rfl) ⟨_, Try.underlying114, rfl⟩ rfl
theorem ti116 : TOk Try.prog 116 ⟨.ar 0 16, 0, 0, []⟩ := .mk' (by kernel_rfl) Try.underlying116 rfl
theorem ti117 : TOk Try.prog 117 ⟨.st [(0, 116)], 0, 0, []⟩ := .mk' (by kernel_rfl) ⟨_, Try.underlying117, rfl⟩ rfl
theorem ti120 : TOk Try.prog 120 ⟨.int .u32, 1, 4, [(.int .u32 0)]⟩ := .mk' (by kernel_rfl) Try.underlying120 rfl
theorem ti124 : TOk Try.prog 124 ⟨.ptr 5, 1, 8, [(.pointer none)]⟩ := .mk' (by kernel_rfl) Try.underlying124 rfl
theorem tk2 (K : TI → Prop) : tiK tab 2 K = K ⟨.int .i64, 1, 8, [(.int .i64 0)]⟩ := tiK_of rfl K
theorem tk3 (K : TI → Prop) : tiK tab 3 K = K ⟨.int .i64, 1, 8, [(.int .i64 0)]⟩ := tiK_of rfl K
theorem tk4 (K : TI → Prop) : tiK tab 4 K = K ⟨.bool, 1, 1, [(.bool false)]⟩ := tiK_of rfl K
theorem tk5 (K : TI → Prop) : tiK tab 5 K = K ⟨.int .u8, 1, 1, [(.int .u8 0)]⟩ := tiK_of rfl K
theorem tk9 (K : TI → Prop) : tiK tab 9 K = K ⟨.str, 1, 16, [(.string ⟨#[]⟩)]⟩ := tiK_of rfl K
theorem tk12 (K : TI → Prop) : tiK tab 12 K = K ⟨.int .u64, 1, 8, [(.int .u64 0)]⟩ := tiK_of rfl K
theorem tk21 (K : TI → Prop) : tiK tab 21 K = K ⟨.int .i32, 1, 4, [(.int .i32 0)]⟩ := tiK_of rfl K
theorem tk22 (K : TI → Prop) : tiK tab 22 K = K ⟨.st [(0, 3), (1, 3), (2, 3), (3, 3), (4, 2), (5, 2)], 6, 48, [(.int .i64 0), (.int .i64 0), (.int .i64 0), (.int .i64 0), (.int .i64 0), (.int .i64 0)]⟩ := tiK_of rfl K
theorem tk23 (K : TI → Prop) : tiK tab 23 K = K ⟨.st [(0, 3), (1, 3), (2, 3), (3, 3), (4, 2), (5, 2)], 6, 48, [(.int .i64 0), (.int .i64 0), (.int .i64 0), (.int .i64 0), (.int .i64 0), (.int .i64 0)]⟩ := tiK_of rfl K
theorem tk24 (K : TI → Prop) : tiK tab 24 K = K ⟨.sl 40, 1, 24, [(.slice none 0 0)]⟩ := tiK_of rfl K
theorem tk27 (K : TI → Prop) : tiK tab 27 K = K ⟨.st [(0, 2), (1, 3)], 2, 16, [(.int .i64 0), (.int .i64 0)]⟩ := tiK_of rfl K
theorem tk28 (K : TI → Prop) : tiK tab 28 K = K ⟨.st [(0, 2), (1, 3)], 2, 16, [(.int .i64 0), (.int .i64 0)]⟩ := tiK_of rfl K
theorem tk29 (K : TI → Prop) : tiK tab 29 K = K ⟨.st [(0, 28), (2, 2)], 3, 24, [(.int .i64 0), (.int .i64 0), (.int .i64 0)]⟩ := tiK_of rfl K
theorem tk30 (K : TI → Prop) : tiK tab 30 K = K ⟨.st [(0, 28), (2, 2)], 3, 24, [(.int .i64 0), (.int .i64 0), (.int .i64 0)]⟩ := tiK_of rfl K
theorem tk37 (K : TI → Prop) : tiK tab 37 K = K ⟨.st [(0, 2), (1, 3)], 2, 16, [(.int .i64 0), (.int .i64 0)]⟩ := tiK_of rfl K
theorem tk38 (K : TI → Prop) : tiK tab 38 K = K ⟨.st [(0, 2), (1, 3)], 2, 16, [(.int .i64 0), (.int .i64 0)]⟩ := tiK_of rfl K
theorem tk39 (K : TI → Prop) : tiK tab 39 K = K ⟨.st [(0, 2), (1, 30), (4, 3), (5, 38)], 7, 56, [(.int .i64 0), (.int .i64 0), (.int .i64 0), (.int .i64 0), (.int .i64 0), (.int .i64 0), (.int .i64 0)]⟩ := tiK_of rfl K
theorem tk40 (K : TI → Prop) : tiK tab 40 K = K ⟨.st [(0, 2), (1, 30), (4, 3), (5, 38)], 7, 56, [(.int .i64 0), (.int .i64 0), (.int .i64 0), (.int .i64 0), (.int .i64 0), (.int .i64 0), (.int .i64 0)]⟩ := tiK_of rfl K
theorem tk42 (K : TI → Prop) : tiK tab 42 K = K ⟨.sl 88, 1, 24, [(.slice none 0 0)]⟩ := tiK_of rfl K
theorem tk43 (K : TI → Prop) : tiK tab 43 K = K ⟨.sl 38, 1, 24, [(.slice none 0 0)]⟩ := tiK_of rfl K
theorem tk44 (K : TI → Prop) : tiK tab 44 K = K ⟨.st [(0, 3), (1, 3), (2, 2), (3, 42), (4, 30), (7, 3), (8, 38), (10, 43)], 11, 120, [(.int .i64 0), (.int .i64 0), (.int .i64 0), (.slice none 0 0), (.int .i64 0), (.int .i64 0), (.int .i64 0), (.int .i64 0), (.int .i64 0), (.int .i64 0), (.slice none 0 0)]⟩ := tiK_of rfl K
theorem tk45 (K : TI → Prop) : tiK tab 45 K = K ⟨.st [(0, 3), (1, 3), (2, 2), (3, 42), (4, 30), (7, 3), (8, 38), (10, 43)], 11, 120, [(.int .i64 0), (.int .i64 0), (.int .i64 0), (.slice none 0 0), (.int .i64 0), (.int .i64 0), (.int .i64 0), (.int .i64 0), (.int .i64 0), (.int .i64 0), (.slice none 0 0)]⟩ := tiK_of rfl K
theorem tk47 (K : TI → Prop) : tiK tab 47 K = K ⟨.int .i64, 1, 8, [(.int .i64 0)]⟩ := tiK_of rfl K
theorem tk58 (K : TI → Prop) : tiK tab 58 K = K ⟨.sl 4, 1, 24, [(.slice none 0 0)]⟩ := tiK_of rfl K
theorem tk59 (K : TI → Prop) : tiK tab 59 K = K ⟨.sl 2, 1, 24, [(.slice none 0 0)]⟩ := tiK_of rfl K
theorem tk60 (K : TI → Prop) : tiK tab 60 K = K ⟨.st [(0, 38), (2, 58), (3, 59), (4, 59), (5, 4)], 6, 96, [(.int .i64 0), (.int .i64 0), (.slice none 0 0), (.slice none 0 0), (.slice none 0 0), (.bool false)]⟩ := tiK_of rfl K
theorem tk61 (K : TI → Prop) : tiK tab 61 K = K ⟨.st [(0, 38), (2, 58), (3, 59), (4, 59), (5, 4)], 6, 96, [(.int .i64 0), (.int .i64 0), (.slice none 0 0), (.slice none 0 0), (.slice none 0 0), (.bool false)]⟩ := tiK_of rfl K
theorem tk70 (K : TI → Prop) : tiK tab 70 K = K ⟨.sl 45, 1, 24, [(.slice none 0 0)]⟩ := tiK_of rfl K
theorem tk80 (K : TI → Prop) : tiK tab 80 K = K ⟨.st [(0, 23), (6, 3)], 7, 56, [(.int .i64 0), (.int .i64 0), (.int .i64 0), (.int .i64 0), (.int .i64 0), (.int .i64 0), (.int .i64 0)]⟩ := tiK_of rfl K
theorem tk81 (K : TI → Prop) : tiK tab 81 K = K ⟨.st [(0, 23), (6, 3)], 7, 56, [(.int .i64 0), (.int .i64 0), (.int .i64 0), (.int .i64 0), (.int .i64 0), (.int .i64 0), (.int .i64 0)]⟩ := tiK_of rfl K
theorem tk87 (K : TI → Prop) : tiK tab 87 K = K ⟨.st [(0, 2), (1, 2), (2, 59)], 3, 40, [(.int .i64 0), (.int .i64 0), (.slice none 0 0)]⟩ := tiK_of rfl K
theorem tk88 (K : TI → Prop) : tiK tab 88 K = K ⟨.st [(0, 2), (1, 2), (2, 59)], 3, 40, [(.int .i64 0), (.int .i64 0), (.slice none 0 0)]⟩ := tiK_of rfl K
theorem tk94 (K : TI → Prop) : tiK tab 94 K = K ⟨.st [(0, 2), (1, 3)], 2, 16, [(.int .i64 0), (.int .i64 0)]⟩ := tiK_of rfl K
theorem tk110 (K : TI → Prop) : tiK tab 110 K = K ⟨.sl 3, 1, 24, [(.slice none 0 0)]⟩ := tiK_of rfl K
theorem tk114 (K : TI → Prop) : tiK tab 114 K = K ⟨.st [(0, 17), (1, 17), (2, 17), (3, 9)], 4, 40, [(.pointer none), (.pointer none), (.pointer none), (.string ⟨#[]⟩)]⟩ := tiK_of rfl K
theorem tk116 (K : TI → Prop) : tiK tab 116 K = K ⟨.ar 0 16, 0, 0, []⟩ := tiK_of rfl K
theorem tk117 (K : TI → Prop) : tiK tab 117 K = K ⟨.st [(0, 116)], 0, 0, []⟩ := tiK_of rfl K
theorem tk120 (K : TI → Prop) : tiK tab 120 K = K ⟨.int .u32, 1, 4, [(.int .u32 0)]⟩ := tiK_of rfl K
theorem tk124 (K : TI → Prop) : tiK tab 124 K = K ⟨.ptr 5, 1, 8, [(.pointer none)]⟩ := tiK_of rfl K
theorem tx2 (K : TI → Prop) : (∃ i, assoc tab 2 = some i ∧ K i) = K ⟨.int .i64, 1, 8, [(.int .i64 0)]⟩ := tab_ex rfl
theorem ty2 : (∃ i, assoc tab 2 = some i) = True := eq_true ⟨_, rfl⟩
theorem tx3 (K : TI → Prop) : (∃ i, assoc tab 3 = some i ∧ K i) = K ⟨.int .i64, 1, 8, [(.int .i64 0)]⟩ := tab_ex rfl
theorem ty3 : (∃ i, assoc tab 3 = some i) = True := eq_true ⟨_, rfl⟩
theorem tx4 (K : TI → Prop) : (∃ i, assoc tab 4 = some i ∧ K i) = K ⟨.bool, 1, 1, [(.bool false)]⟩ := tab_ex rfl
theorem ty4 : (∃ i, assoc tab 4 = some i) = True := eq_true ⟨_, rfl⟩
theorem tx5 (K : TI → Prop) : (∃ i, assoc tab 5 = some i ∧ K i) = K ⟨.int .u8, 1, 1, [(.int .u8 0)]⟩ := tab_ex rfl
theorem ty5 : (∃ i, assoc tab 5 = some i) = True := eq_true ⟨_, rfl⟩
theorem isU8_5 : IsU8 tab 5 = True := eq_true (isU8_of rfl rfl)
theorem tx9 (K : TI → Prop) : (∃ i, assoc tab 9 = some i ∧ K i) = K ⟨.str, 1, 16, [(.string ⟨#[]⟩)]⟩ := tab_ex rfl
theorem ty9 : (∃ i, assoc tab 9 = some i) = True := eq_true ⟨_, rfl⟩
theorem tx12 (K : TI → Prop) : (∃ i, assoc tab 12 = some i ∧ K i) = K ⟨.int .u64, 1, 8, [(.int .u64 0)]⟩ := tab_ex rfl
theorem ty12 : (∃ i, assoc tab 12 = some i) = True := eq_true ⟨_, rfl⟩
theorem tx21 (K : TI → Prop) : (∃ i, assoc tab 21 = some i ∧ K i) = K ⟨.int .i32, 1, 4, [(.int .i32 0)]⟩ := tab_ex rfl
theorem ty21 : (∃ i, assoc tab 21 = some i) = True := eq_true ⟨_, rfl⟩
theorem tx22 (K : TI → Prop) : (∃ i, assoc tab 22 = some i ∧ K i) = K ⟨.st [(0, 3), (1, 3), (2, 3), (3, 3), (4, 2), (5, 2)], 6, 48, [(.int .i64 0), (.int .i64 0), (.int .i64 0), (.int .i64 0), (.int .i64 0), (.int .i64 0)]⟩ := tab_ex rfl
theorem ty22 : (∃ i, assoc tab 22 = some i) = True := eq_true ⟨_, rfl⟩
theorem tx23 (K : TI → Prop) : (∃ i, assoc tab 23 = some i ∧ K i) = K ⟨.st [(0, 3), (1, 3), (2, 3), (3, 3), (4, 2), (5, 2)], 6, 48, [(.int .i64 0), (.int .i64 0), (.int .i64 0), (.int .i64 0), (.int .i64 0), (.int .i64 0)]⟩ := tab_ex rfl
theorem ty23 : (∃ i, assoc tab 23 = some i) = True := eq_true ⟨_, rfl⟩
theorem tx24 (K : TI → Prop) : (∃ i, assoc tab 24 = some i ∧ K i) = K ⟨.sl 40, 1, 24, [(.slice none 0 0)]⟩ := tab_ex rfl
theorem ty24 : (∃ i, assoc tab 24 = some i) = True := eq_true ⟨_, rfl⟩
theorem tx27 (K : TI → Prop) : (∃ i, assoc tab 27 = some i ∧ K i) = K ⟨.st [(0, 2), (1, 3)], 2, 16, [(.int .i64 0), (.int .i64 0)]⟩ := tab_ex rfl
theorem ty27 : (∃ i, assoc tab 27 = some i) = True := eq_true ⟨_, rfl⟩
theorem tx28 (K : TI → Prop) : (∃ i, assoc tab 28 = some i ∧ K i) = K ⟨.st [(0, 2), (1, 3)], 2, 16, [(.int .i64 0), (.int .i64 0)]⟩ := tab_ex rfl
theorem ty28 : (∃ i, assoc tab 28 = some i) = True := eq_true ⟨_, rfl⟩
theorem tx29 (K : TI → Prop) : (∃ i, assoc tab 29 = some i ∧ K i) = K ⟨.st [(0, 28), (2, 2)], 3, 24, [(.int .i64 0), (.int .i64 0), (.int .i64 0)]⟩ := tab_ex rfl
theorem ty29 : (∃ i, assoc tab 29 = some i) = True := eq_true ⟨_, rfl⟩
theorem tx30 (K : TI → Prop) : (∃ i, assoc tab 30 = some i ∧ K i) = K ⟨.st [(0, 28), (2, 2)], 3, 24, [(.int .i64 0), (.int .i64 0), (.int .i64 0)]⟩ := tab_ex rfl
theorem ty30 : (∃ i, assoc tab 30 = some i) = True := eq_true ⟨_, rfl⟩
theorem tx37 (K : TI → Prop) : (∃ i, assoc tab 37 = some i ∧ K i) = K ⟨.st [(0, 2), (1, 3)], 2, 16, [(.int .i64 0), (.int .i64 0)]⟩ := tab_ex rfl
theorem ty37 : (∃ i, assoc tab 37 = some i) = True := eq_true ⟨_, rfl⟩
theorem tx38 (K : TI → Prop) : (∃ i, assoc tab 38 = some i ∧ K i) = K ⟨.st [(0, 2), (1, 3)], 2, 16, [(.int .i64 0), (.int .i64 0)]⟩ := tab_ex rfl
theorem ty38 : (∃ i, assoc tab 38 = some i) = True := eq_true ⟨_, rfl⟩
theorem tx39 (K : TI → Prop) : (∃ i, assoc tab 39 = some i ∧ K i) = K ⟨.st [(0, 2), (1, 30), (4, 3), (5, 38)], 7, 56, [(.int .i64 0), (.int .i64 0), (.int .i64 0), (.int .i64 0), (.int .i64 0), (.int .i64 0), (.int .i64 0)]⟩ := tab_ex rfl
theorem ty39 : (∃ i, assoc tab 39 = some i) = True := eq_true ⟨_, rfl⟩
theorem tx40 (K : TI → Prop) : (∃ i, assoc tab 40 = some i ∧ K i) = K ⟨.st [(0, 2), (1, 30), (4, 3), (5, 38)], 7, 56, [(.int .i64 0), (.int .i64 0), (.int .i64 0), (.int .i64 0), (.int .i64 0), (.int .i64 0), (.int .i64 0)]⟩ := tab_ex rfl
theorem ty40 : (∃ i, assoc tab 40 = some i) = True := eq_true ⟨_, rfl⟩
theorem tx42 (K : TI → Prop) : (∃ i, assoc tab 42 = some i ∧ K i) = K ⟨.sl 88, 1, 24, [(.slice none 0 0)]⟩ := tab_ex rfl
theorem ty42 : (∃ i, assoc tab 42 = some i) = True := eq_true ⟨_, rfl⟩
theorem tx43 (K : TI → Prop) : (∃ i, assoc tab 43 = some i ∧ K i) = K ⟨.sl 38, 1, 24, [(.slice none 0 0)]⟩ := tab_ex rfl
theorem ty43 : (∃ i, assoc tab 43 = some i) = True := eq_true ⟨_, rfl⟩
theorem tx44 (K : TI → Prop) : (∃ i, assoc tab 44 = some i ∧ K i) = K ⟨.st [(0, 3), (1, 3), (2, 2), (3, 42), (4, 30), (7, 3), (8, 38), (10, 43)], 11, 120, [(.int .i64 0), (.int .i64 0), (.int .i64 0), (.slice none 0 0), (.int .i64 0), (.int .i64 0), (.int .i64 0), (.int .i64 0), (.int .i64 0), (.int .i64 0), (.slice none 0 0)]⟩ := tab_ex rfl
theorem ty44 : (∃ i, assoc tab 44 = some i) = True := eq_true ⟨_, rfl⟩
theorem tx45 (K : TI → Prop) : (∃ i, assoc tab 45 = some i ∧ K i) = K ⟨.st [(0, 3), (1, 3), (2, 2), (3, 42), (4, 30), (7, 3), (8, 38), (10, 43)], 11, 120, [(.int .i64 0), (.int .i64 0), (.int .i64 0), (.slice none 0 0), (.int .i64 0), (.int .i64 0), (.int .i64 0), (.int .i64 0), (.int .i64 0), (.int .i64 0), (.slice none 0 0)]⟩ := tab_ex rfl
theorem ty45 : (∃ i, assoc tab 45 = some i) = True := eq_true ⟨_, rfl⟩
theorem tx47 (K : TI → Prop) : (∃ i, assoc tab 47 = some i ∧ K i) = K ⟨.int .i64, 1, 8, [(.int .i64 0)]⟩ := tab_ex rfl
theorem ty47 : (∃ i, assoc tab 47 = some i) = True := eq_true ⟨_, rfl⟩
theorem tx58 (K : TI → Prop) : (∃ i, assoc tab 58 = some i ∧ K i) = K ⟨.sl 4, 1, 24, [(.slice none 0 0)]⟩ := tab_ex rfl
theorem ty58 : (∃ i, assoc tab 58 = some i) = True := eq_true ⟨_, rfl⟩
theorem tx59 (K : TI → Prop) : (∃ i, assoc tab 59 = some i ∧ K i) = K ⟨.sl 2, 1, 24, [(.slice none 0 0)]⟩ := tab_ex rfl
theorem ty59 : (∃ i, assoc tab 59 = some i) = True := eq_true ⟨_, rfl⟩
theorem tx60 (K : TI → Prop) : (∃ i, assoc tab 60 = some i ∧ K i) = K ⟨.st [(0, 38), (2, 58), (3, 59), (4, 59), (5, 4)], 6, 96, [(.int .i64 0), (.int .i64 0), (.slice none 0 0), (.slice none 0 0), (.slice none 0 0), (.bool false)]⟩ := tab_ex rfl
theorem ty60 : (∃ i, assoc tab 60 = some i) = True := eq_true ⟨_, rfl⟩
theorem tx61 (K : TI → Prop) : (∃ i, assoc tab 61 = some i ∧ K i) = K ⟨.st [(0, 38), (2, 58), (3, 59), (4, 59), (5, 4)], 6, 96, [(.int .i64 0), (.int .i64 0), (.slice none 0 0), (.slice none 0 0), (.slice none 0 0), (.bool false)]⟩ := tab_ex rfl
theorem ty61 : (∃ i, assoc tab 61 = some i) = True := eq_true ⟨_, rfl⟩
theorem tx70 (K : TI → Prop) : (∃ i, assoc tab 70 = some i ∧ K i) = K ⟨.sl 45, 1, 24, [(.slice none 0 0)]⟩ := tab_ex rfl
theorem ty70 : (∃ i, assoc tab 70 = some i) = True := eq_true ⟨_, rfl⟩
theorem tx80 (K : TI → Prop) : (∃ i, assoc tab 80 = some i ∧ K i) = K ⟨.st [(0, 23), (6, 3)], 7, 56, [(.int .i64 0), (.int .i64 0), (.int .i64 0), (.int .i64 0), (.int .i64 0), (.int .i64 0), (.int .i64 0)]⟩ := tab_ex rfl
theorem ty80 : (∃ i, assoc tab 80 = some i) = True := eq_true ⟨_, rfl⟩
theorem tx81 (K : TI → Prop) : (∃ i, assoc tab 81 = some i ∧ K i) = K ⟨.st [(0, 23), (6, 3)], 7, 56, [(.int .i64 0), (.int .i64 0), (.int .i64 0), (.int .i64 0), (.int .i64 0), (.int .i64 0), (.int .i64 0)]⟩ := tab_ex rfl
theorem ty81 : (∃ i, assoc tab 81 = some i) = True := eq_true ⟨_, rfl⟩
theorem tx87 (K : TI → Prop) : (∃ i, assoc tab 87 = some i ∧ K i) = K ⟨.st [(0, 2), (1, 2), (2, 59)], 3, 40, [(.int .i64 0), (.int .i64 0), (.slice none 0 0)]⟩ := tab_ex rfl
theorem ty87 : (∃ i, assoc tab 87 = some i) = True := eq_true ⟨_, rfl⟩
theorem tx88 (K : TI → Prop) : (∃ i, assoc tab 88 = some i ∧ K i) = K ⟨.st [(0, 2), (1, 2), (2, 59)], 3, 40, [(.int .i64 0), (.int .i64 0), (.slice none 0 0)]⟩ := tab_ex rfl
theorem ty88 : (∃ i, assoc tab 88 = some i) = True := eq_true ⟨_, rfl⟩
theorem tx94 (K : TI → Prop) : (∃ i, assoc tab 94 = some i ∧ K i) = K ⟨.st [(0, 2), (1, 3)], 2, 16, [(.int .i64 0), (.int .i64 0)]⟩ := tab_ex rfl
theorem ty94 : (∃ i, assoc tab 94 = some i) = True := eq_true ⟨_, rfl⟩
theorem tx110 (K : TI → Prop) : (∃ i, assoc tab 110 = some i ∧ K i) = K ⟨.sl 3, 1, 24, [(.slice none 0 0)]⟩ := tab_ex rfl
theorem ty110 : (∃ i, assoc tab 110 = some i) = True := eq_true ⟨_, rfl⟩
theorem tx114 (K : TI → Prop) : (∃ i, assoc tab 114 = some i ∧ K i) = K ⟨.st [(0, 17), (1, 17), (2, 17), (3, 9)], 4, 40, [(.pointer none), (.pointer none), (.pointer none), (.string ⟨#[]⟩)]⟩ := tab_ex rfl
theorem ty114 : (∃ i, assoc tab 114 = some i) = True := eq_true ⟨_, rfl⟩
theorem tx116 (K : TI → Prop) : (∃ i, assoc tab 116 = some i ∧ K i) = K ⟨.ar 0 16, 0, 0, []⟩ := tab_ex rfl
theorem ty116 : (∃ i, assoc tab 116 = some i) = True := eq_true ⟨_, rfl⟩
theorem tx117 (K : TI → Prop) : (∃ i, assoc tab 117 = some i ∧ K i) = K ⟨.st [(0, 116)], 0, 0, []⟩ := tab_ex rfl
theorem ty117 : (∃ i, assoc tab 117 = some i) = True := eq_true ⟨_, rfl⟩
theorem tx120 (K : TI → Prop) : (∃ i, assoc tab 120 = some i ∧ K i) = K ⟨.int .u32, 1, 4, [(.int .u32 0)]⟩ := tab_ex rfl
theorem ty120 : (∃ i, assoc tab 120 = some i) = True := eq_true ⟨_, rfl⟩
theorem tx124 (K : TI → Prop) : (∃ i, assoc tab 124 = some i ∧ K i) = K ⟨.ptr 5, 1, 8, [(.pointer none)]⟩ := tab_ex rfl
theorem ty124 : (∃ i, assoc tab 124 = some i) = True := eq_true ⟨_, rfl⟩
theorem mixed : Try.prog.follows .mixedOrders = true := by kernel_rfl
theorem tabOk : TabOk Try.prog tab := TabAll.ok ⟨ti2, ti3, ti4, ti5, ti9, ti12, ti21, ti22, ti23, ti24, ti27, ti28, ti29, ti30, ti37, ti38, ti39, ti40, ti42, ti43, ti44, ti45, ti47, ti58, ti59, ti60, ti61, ti70, ti80, ti81, ti87, ti88, ti94, ti110, ti114, ti116, ti117, ti120, ti124, trivial⟩
theorem wt : ((((((type_of% @tk2) ∧ (type_of% @tk3)) ∧ ((type_of% @tk4) ∧ (type_of% @tk5))) ∧ (((type_of% @tk9) ∧ (type_of% @tk12)) ∧ ((type_of% @tk21) ∧ ((type_of% @tk22) ∧ (type_of% @tk23))))) ∧ ((((type_of% @tk24) ∧ (type_of% @tk27)) ∧ ((type_of% @tk28) ∧ ((type_of% @tk29) ∧ (type_of% @tk30)))) ∧ (((type_of% @tk37) ∧ (type_of% @tk38)) ∧ ((type_of% @tk39) ∧ ((type_of% @tk40) ∧ (type_of% @tk42)))))) ∧ (((((type_of% @tk43) ∧ (type_of% @tk44)) ∧ ((type_of% @tk45) ∧ ((type_of% @tk47) ∧ (type_of% @tk58)))) ∧ (((type_of% @tk59) ∧ (type_of% @tk60)) ∧ ((type_of% @tk61) ∧ ((type_of% @tk70) ∧ (type_of% @tk80))))) ∧ ((((type_of% @tk81) ∧ (type_of% @tk87)) ∧ ((type_of% @tk88) ∧ ((type_of% @tk94) ∧ (type_of% @tk110)))) ∧ (((type_of% @tk114) ∧ (type_of% @tk116)) ∧ ((type_of% @tk117) ∧ ((type_of% @tk120) ∧ (type_of% @tk124))))))) ∧ ((((((type_of% @tx2) ∧ (type_of% @tx3)) ∧ ((type_of% @tx4) ∧ (type_of% @tx5))) ∧ (((type_of% @tx9) ∧ (type_of% @tx12)) ∧ ((type_of% @tx21) ∧ ((type_of% @tx22) ∧ (type_of% @tx23))))) ∧ ((((type_of% @tx24) ∧ (type_of% @tx27)) ∧ ((type_of% @tx28) ∧ ((type_of% @tx29) ∧ (type_of% @tx30)))) ∧ (((type_of% @tx37) ∧ (type_of% @tx38)) ∧ ((type_of% @tx39) ∧ ((type_of% @tx40) ∧ (type_of% @tx42)))))) ∧ (((((type_of% @tx43) ∧ (type_of% @tx44)) ∧ ((type_of% @tx45) ∧ ((type_of% @tx47) ∧ (type_of% @tx58)))) ∧ (((type_of% @tx59) ∧ (type_of% @tx60)) ∧ ((type_of% @tx61) ∧ ((type_of% @tx70) ∧ (type_of% @tx80))))) ∧ ((((type_of% @tx81) ∧ (type_of% @tx87)) ∧ ((type_of% @tx88) ∧ ((type_of% @tx94) ∧ (type_of% @tx110)))) ∧ (((type_of% @tx114) ∧ (type_of% @tx116)) ∧ ((type_of% @tx117) ∧ ((type_of% @tx120) ∧ (type_of% @tx124))))))) :=
  ⟨⟨⟨⟨⟨⟨@tk2, @tk3⟩, ⟨@tk4, @tk5⟩⟩, ⟨⟨@tk9, @tk12⟩, ⟨@tk21, ⟨@tk22, @tk23⟩⟩⟩⟩, ⟨⟨⟨@tk24, @tk27⟩, ⟨@tk28, ⟨@tk29, @tk30⟩⟩⟩, ⟨⟨@tk37, @tk38⟩, ⟨@tk39, ⟨@tk40, @tk42⟩⟩⟩⟩⟩, ⟨⟨⟨⟨@tk43, @tk44⟩, ⟨@tk45, ⟨@tk47, @tk58⟩⟩⟩, ⟨⟨@tk59, @tk60⟩, ⟨@tk61, ⟨@tk70, @tk80⟩⟩⟩⟩, ⟨⟨⟨@tk81, @tk87⟩, ⟨@tk88, ⟨@tk94, @tk110⟩⟩⟩, ⟨⟨@tk114, @tk116⟩, ⟨@tk117, ⟨@tk120, @tk124⟩⟩⟩⟩⟩⟩, ⟨⟨⟨⟨⟨@tx2, @tx3⟩, ⟨@tx4, @tx5⟩⟩, ⟨⟨@tx9, @tx12⟩, ⟨@tx21, ⟨@tx22, @tx23⟩⟩⟩⟩, ⟨⟨⟨@tx24, @tx27⟩, ⟨@tx28, ⟨@tx29, @tx30⟩⟩⟩, ⟨⟨@tx37, @tx38⟩, ⟨@tx39, ⟨@tx40, @tx42⟩⟩⟩⟩⟩, ⟨⟨⟨⟨@tx43, @tx44⟩, ⟨@tx45, ⟨@tx47, @tx58⟩⟩⟩, ⟨⟨@tx59, @tx60⟩, ⟨@tx61, ⟨@tx70, @tx80⟩⟩⟩⟩, ⟨⟨⟨@tx81, @tx87⟩, ⟨@tx88, ⟨@tx94, @tx110⟩⟩⟩, ⟨⟨@tx114, @tx116⟩, ⟨@tx117, ⟨@tx120, @tx124⟩⟩⟩⟩⟩⟩⟩
theorem wu : (((((type_of% @ty2) ∧ (type_of% @ty3)) ∧ ((type_of% @ty4) ∧ ((type_of% @ty5) ∧ (type_of% @ty9)))) ∧ (((type_of% @ty12) ∧ (type_of% @ty21)) ∧ ((type_of% @ty22) ∧ ((type_of% @ty23) ∧ (type_of% @ty24))))) ∧ ((((type_of% @ty27) ∧ (type_of% @ty28)) ∧ ((type_of% @ty29) ∧ ((type_of% @ty30) ∧ (type_of% @ty37)))) ∧ (((type_of% @ty38) ∧ (type_of% @ty39)) ∧ ((type_of% @ty40) ∧ ((type_of% @ty42) ∧ (type_of% @ty43)))))) ∧ (((((type_of% @ty44) ∧ (type_of% @ty45)) ∧ ((type_of% @ty47) ∧ ((type_of% @ty58) ∧ (type_of% @ty59)))) ∧ (((type_of% @ty60) ∧ (type_of% @ty61)) ∧ ((type_of% @ty70) ∧ ((type_of% @ty80) ∧ (type_of% @ty81))))) ∧ ((((type_of% @ty87) ∧ (type_of% @ty88)) ∧ ((type_of% @ty94) ∧ ((type_of% @ty110) ∧ (type_of% @ty114)))) ∧ (((type_of% @ty116) ∧ (type_of% @ty117)) ∧ ((type_of% @ty120) ∧ ((type_of% @ty124) ∧ (type_of% @isU8_5)))))) :=
  ⟨⟨⟨⟨⟨@ty2, @ty3⟩, ⟨@ty4, ⟨@ty5, @ty9⟩⟩⟩, ⟨⟨@ty12, @ty21⟩, ⟨@ty22, ⟨@ty23, @ty24⟩⟩⟩⟩, ⟨⟨⟨@ty27, @ty28⟩, ⟨@ty29, ⟨@ty30, @ty37⟩⟩⟩, ⟨⟨@ty38, @ty39⟩, ⟨@ty40, ⟨@ty42, @ty43⟩⟩⟩⟩⟩, ⟨⟨⟨⟨@ty44, @ty45⟩, ⟨@ty47, ⟨@ty58, @ty59⟩⟩⟩, ⟨⟨@ty60, @ty61⟩, ⟨@ty70, ⟨@ty80, @ty81⟩⟩⟩⟩, ⟨⟨⟨@ty87, @ty88⟩, ⟨@ty94, ⟨@ty110, @ty114⟩⟩⟩, ⟨⟨@ty116, @ty117⟩, ⟨@ty120, ⟨@ty124, @isU8_5⟩⟩⟩⟩⟩⟩
end Go.Ab
