import Derived.Test.YtcikejikpnjilaaProg
import Derived.Test.YtcikejikpnjilaaAbG7
import Derived.KernelRfl
set_option maxRecDepth 100000
namespace Go.Ab
open Go Go.Proofs

def tab : Tab :=
  [(2, ⟨.int .i64, 1, 8, [(.int .i64 0)]⟩),
   (3, ⟨.int .i64, 1, 8, [(.int .i64 0)]⟩),
   (4, ⟨.bool, 1, 1, [(.bool false)]⟩),
   (5, ⟨.int .u8, 1, 1, [(.int .u8 0)]⟩),
   (9, ⟨.str, 1, 16, [(.string ⟨#[]⟩)]⟩),
   (12, ⟨.int .u64, 1, 8, [(.int .u64 0)]⟩),
   (21, ⟨.int .i32, 1, 4, [(.int .i32 0)]⟩),
   (22, ⟨.st [(0, 3), (1, 3), (2, 3), (3, 3), (4, 2), (5, 2)], 6, 48, [(.int .i64 0), (.int .i64 0), (.int .i64 0), (.int .i64 0), (.int .i64 0), (.int .i64 0)]⟩),
   (23, ⟨.st [(0, 3), (1, 3), (2, 3), (3, 3), (4, 2), (5, 2)], 6, 48, [(.int .i64 0), (.int .i64 0), (.int .i64 0), (.int .i64 0), (.int .i64 0), (.int .i64 0)]⟩),
   (24, ⟨.sl 5, 1, 24, [(.slice none 0 0)]⟩),
   (26, ⟨.sl 60, 1, 24, [(.slice none 0 0)]⟩),
   (27, ⟨.st [(0, 2), (1, 3)], 2, 16, [(.int .i64 0), (.int .i64 0)]⟩),
   (28, ⟨.st [(0, 2), (1, 3)], 2, 16, [(.int .i64 0), (.int .i64 0)]⟩),
   (29, ⟨.st [(0, 28), (2, 2)], 3, 24, [(.int .i64 0), (.int .i64 0), (.int .i64 0)]⟩),
   (30, ⟨.st [(0, 28), (2, 2)], 3, 24, [(.int .i64 0), (.int .i64 0), (.int .i64 0)]⟩),
   (31, ⟨.st [(0, 2), (1, 3)], 2, 16, [(.int .i64 0), (.int .i64 0)]⟩),
   (32, ⟨.st [(0, 2), (1, 3)], 2, 16, [(.int .i64 0), (.int .i64 0)]⟩),
   (33, ⟨.sl 32, 1, 24, [(.slice none 0 0)]⟩),
   (34, ⟨.st [(0, 3), (1, 3), (2, 2), (3, 26), (4, 30), (7, 3), (8, 32), (10, 33)], 11, 120, [(.int .i64 0), (.int .i64 0), (.int .i64 0), (.slice none 0 0), (.int .i64 0), (.int .i64 0), (.int .i64 0), (.int .i64 0), (.int .i64 0), (.int .i64 0), (.slice none 0 0)]⟩),
   (35, ⟨.st [(0, 3), (1, 3), (2, 2), (3, 26), (4, 30), (7, 3), (8, 32), (10, 33)], 11, 120, [(.int .i64 0), (.int .i64 0), (.int .i64 0), (.slice none 0 0), (.int .i64 0), (.int .i64 0), (.int .i64 0), (.int .i64 0), (.int .i64 0), (.int .i64 0), (.slice none 0 0)]⟩),
   (43, ⟨.int .u16, 1, 2, [(.int .u16 0)]⟩),
   (46, ⟨.ptr 48, 1, 8, [(.pointer none)]⟩),
   (47, ⟨.st [(0, 24), (1, 4)], 2, 32, [(.slice none 0 0), (.bool false)]⟩),
   (48, ⟨.st [(0, 24), (1, 4)], 2, 32, [(.slice none 0 0), (.bool false)]⟩),
   (50, ⟨.ptr 3, 1, 8, [(.pointer none)]⟩),
   (52, ⟨.ptr 2, 1, 8, [(.pointer none)]⟩),
   (53, ⟨.sl 2, 1, 24, [(.slice none 0 0)]⟩),
   (59, ⟨.st [(0, 2), (1, 2), (2, 53)], 3, 40, [(.int .i64 0), (.int .i64 0), (.slice none 0 0)]⟩),
   (60, ⟨.st [(0, 2), (1, 2), (2, 53)], 3, 40, [(.int .i64 0), (.int .i64 0), (.slice none 0 0)]⟩),
   (62, ⟨.int .u64, 1, 8, [(.int .u64 0)]⟩),
   (69, ⟨.st [(0, 2), (1, 30), (4, 3), (5, 32)], 7, 56, [(.int .i64 0), (.int .i64 0), (.int .i64 0), (.int .i64 0), (.int .i64 0), (.int .i64 0), (.int .i64 0)]⟩),
   (70, ⟨.st [(0, 2), (1, 30), (4, 3), (5, 32)], 7, 56, [(.int .i64 0), (.int .i64 0), (.int .i64 0), (.int .i64 0), (.int .i64 0), (.int .i64 0), (.int .i64 0)]⟩),
   (72, ⟨.sl 50, 1, 24, [(.slice none 0 0)]⟩),
   (74, ⟨.sl 52, 1, 24, [(.slice none 0 0)]⟩),
   (77, ⟨.st [(0, 23), (6, 3)], 7, 56, [(.int .i64 0), (.int .i64 0), (.int .i64 0), (.int .i64 0), (.int .i64 0), (.int .i64 0), (.int .i64 0)]⟩),
   (78, ⟨.st [(0, 23), (6, 3)], 7, 56, [(.int .i64 0), (.int .i64 0), (.int .i64 0), (.int .i64 0), (.int .i64 0), (.int .i64 0), (.int .i64 0)]⟩),
   (83, ⟨.int .u64, 1, 8, [(.int .u64 0)]⟩),
   (95, ⟨.sl 53, 1, 24, [(.slice none 0 0)]⟩),
   (106, ⟨.st [(0, 17), (1, 17), (2, 17), (3, 9)], 4, 40, [(.pointer none), (.pointer none), (.pointer none), (.string ⟨#[]⟩)]⟩),
   (108, ⟨.ar 0 16, 0, 0, []⟩),
   (109, ⟨.st [(0, 108)], 0, 0, []⟩),
   (112, ⟨.int .u32, 1, 4, [(.int .u32 0)]⟩),
   (116, ⟨.ptr 5, 1, 8, [(.pointer none)]⟩)]
theorem ti2 : TOk Try.prog 2 ⟨.int .i64, 1, 8, [(.int .i64 0)]⟩ := .mk' (by kernel_rfl) Try.underlying2 rfl
theorem ti3 : TOk Try.prog 3 ⟨.int .i64, 1, 8, [(.int .i64 0)]⟩ := .mk' (by kernel_rfl) Try.underlying3 rfl
theorem ti4 : TOk Try.prog 4 ⟨.bool, 1, 1, [(.bool false)]⟩ := .mk' (by kernel_rfl) Try.underlying4 rfl
theorem ti5 : TOk Try.prog 5 ⟨.int .u8, 1, 1, [(.int .u8 0)]⟩ := .mk' (by kernel_rfl) Try.underlying5 rfl
theorem ti9 : TOk Try.prog 9 ⟨.str, 1, 16, [(.string ⟨#[]⟩)]⟩ := .mk' (by kernel_rfl) Try.underlying9 rfl
theorem ti12 : TOk Try.prog 12 ⟨.int .u64, 1, 8, [(.int .u64 0)]⟩ := .mk' (by kernel_rfl) Try.underlying12 rfl
theorem ti21 : TOk Try.prog 21 ⟨.int .i32, 1, 4, [(.int .i32 0)]⟩ := .mk' (by kernel_rfl) Try.underlying21 rfl
theorem ti22 : TOk Try.prog 22 ⟨.st [(0, 3), (1, 3), (2, 3), (3, 3), (4, 2), (5, 2)], 6, 48, [(.int .i64 0), (.int .i64 0), (.int .i64 0), (.int .i64 0), (.int .i64 0), (.int .i64 0)]⟩ := .mk' (by kernel_rfl) ⟨_, Try.underlying22, rfl⟩ rfl
theorem ti23 : TOk Try.prog 23 ⟨.st [(0, 3), (1, 3), (2, 3), (3, 3), (4, 2), (5, 2)], 6, 48, [(.int .i64 0), (.int .i64 0), (.int .i64 0), (.int .i64 0), (.int .i64 0), (.int .i64 0)]⟩ := .mk' (by kernel_rfl) ⟨_, Try.underlying23, rfl⟩ rfl
theorem ti24 : TOk Try.prog 24 ⟨.sl 5, 1, 24, [(.slice none 0 0)]⟩ := .mk' (by kernel_rfl) Try.underlying24 rfl
theorem ti26 : TOk Try.prog 26 ⟨.sl 60, 1, 24, [(.slice none 0 0)]⟩ := .mk' (by kernel_rfl) Try.underlying26 rfl
theorem ti27 : TOk Try.prog 27 ⟨.st [(0, 2), (1, 3)], 2, 16, [(.int .i64 0), (.int .i64 0)]⟩ := .mk' (by kernel_rfl) ⟨_, Try.underlying27, rfl⟩ rfl
theorem ti28 : TOk Try.prog 28 ⟨.st [(0, 2), (1, 3)], 2, 16, [(.int .i64 0), (.int .i64 0)]⟩ := .mk' (by kernel_rfl) ⟨_, Try.underlying28, rfl⟩ rfl
theorem ti29 : TOk Try.prog 29 ⟨.st [(0, 28), (2, 2)], 3, 24, [(.int .i64 0), (.int .i64 0), (.int .i64 0)]⟩ := .mk' (by kernel_rfl) ⟨_, Try.underlying29, rfl⟩ rfl
theorem ti30 : TOk Try.prog 30 ⟨.st [(0, 28), (2, 2)], 3, 24, [(.int .i64 0), (.int .i64 0), (.int .i64 0)]⟩ := .mk' (by kernel_rfl) ⟨_, Try.underlying30, rfl⟩ rfl
theorem ti31 : TOk Try.prog 31 ⟨.st [(0, 2), (1, 3)], 2, 16, [(.int .i64 0), (.int .i64 0)]⟩ := .mk' (by kernel_rfl) ⟨_, Try.underlying31, rfl⟩ rfl
theorem ti32 : TOk Try.prog 32 ⟨.st [(0, 2), (1, 3)], 2, 16, [(.int .i64 0), (.int .i64 0)]⟩ := .mk' (by kernel_rfl) ⟨_, Try.underlying32, rfl⟩ rfl
theorem ti33 : TOk Try.prog 33 ⟨.sl 32, 1, 24, [(.slice none 0 0)]⟩ := .mk' (by kernel_rfl) Try.underlying33 rfl
theorem ti34 : TOk Try.prog 34 ⟨.st [(0, 3), (1, 3), (2, 2), (3, 26), (4, 30), (7, 3), (8, 32), (10, 33)], 11, 120, [(.int .i64 0), (.int .i64 0), (.int .i64 0), (.slice none 0 0), (.int .i64 0), (.int .i64 0), (.int .i64 0), (.int .i64 0), (.int .i64 0), (.int .i64 0), (.slice none 0 0)]⟩ := .mk' (by kernel_rfl) ⟨_, Try.underlying34, rfl⟩ rfl
theorem ti35 : TOk Try.prog 35 ⟨.st [(0, 3), (1, 3), (2, 2), (3, 26), (4, 30), (7, 3), (8, 32), (10, 33)], 11, 120, [(.int .i64 0), (.int .i64 0), (.int .i64 0), (.slice none 0 0), (.int .i64 0), (.int .i64 0), (.int .i64 0), (.int .i64 0), (.int .i64 0), (.int .i64 0), (.slice none 0 0)]⟩ := .mk' (by kernel_rfl) ⟨_, Try.underlying35, rfl⟩ rfl
theorem ti43 : TOk Try.prog 43 ⟨.int .u16, 1, 2, [(.int .u16 0)]⟩ := .mk' (by kernel_rfl) Try.underlying43 rfl
theorem ti46 : TOk Try.prog 46 ⟨.ptr 48, 1, 8, [(.pointer none)]⟩ := .mk' (by kernel_rfl) Try.underlying46 rfl
theorem ti47 : TOk Try.prog 47 ⟨.st [(0, 24), (1, 4)], 2, 32, [(.slice none 0 0), (.bool false)]⟩ := .mk' (by kernel_rfl) ⟨_, Try.underlying47, rfl⟩ rfl
theorem ti48 : TOk Try.prog 48 ⟨.st [(0, 24), (1, 4)], 2, 32, [(.slice none 0 0), (.bool false)]⟩ := .mk' (by kernel_rfl) ⟨_, Try.underlying48, rfl⟩ rfl
theorem ti50 : TOk Try.prog 50 ⟨.ptr 3, 1, 8, [(.pointer none)]⟩ := .mk' (by kernel_rfl) Try.underlying50 rfl
theorem ti52 : TOk Try.prog 52 ⟨.ptr 2, 1, 8, [(.pointer none)]⟩ := .mk' (by kernel_rfl) Try.underlying52 rfl
theorem ti53 : TOk Try.prog 53 ⟨.sl 2, 1, 24, [(.slice none 0 0)]⟩ := .mk' (by kernel_rfl) Try.underlying53 rfl
theorem ti59 : TOk Try.prog 59 ⟨.st [(0, 2), (1, 2), (2, 53)], 3, 40, [(.int .i64 0), (.int .i64 0), (.slice none 0 0)]⟩ := .mk' (by kernel_rfl) ⟨_, Try.underlying59, rfl⟩ rfl
theorem ti60 : TOk Try.prog 60 ⟨.st [(0, 2), (1, 2), (2, 53)], 3, 40, [(.int .i64 0), (.int .i64 0), (.slice none 0 0)]⟩ := .mk' (by kernel_rfl) ⟨_, Try.underlying60, rfl⟩ rfl
theorem ti62 : TOk Try.prog 62 ⟨.int .u64, 1, 8, [(.int .u64 0)]⟩ := .mk' (by kernel_rfl) Try.underlying62 rfl
theorem ti69 : TOk Try.prog 69 ⟨.st [(0, 2), (1, 30), (4, 3), (5, 32)], 7, 56, [(.int .i64 0), (.int .i64 0), (.int .i64 0), (.int .i64 0), (.int .i64 0), (.int .i64 0), (.int .i64 0)]⟩ := .mk' (by kernel_rfl) ⟨_, Try.underlying69, rfl⟩ rfl
theorem ti70 : TOk Try.prog 70 ⟨.st [(0, 2), (1, 30), (4, 3), (5, 32)], 7, 56, [(.int .i64 0), (.int .i64 0), (.int .i64 0), (.int .i64 0), (.int .i64 0), (.int .i64 0), (.int .i64 0)]⟩ := .mk' (by kernel_rfl) ⟨_, Try.underlying70, rfl⟩ rfl
theorem ti72 : TOk Try.prog 72 ⟨.sl 50, 1, 24, [(.slice none 0 0)]⟩ := .mk' (by kernel_rfl) Try.underlying72 rfl
theorem ti74 : TOk Try.prog 74 ⟨.sl 52, 1, 24, [(.slice none 0 0)]⟩ := .mk' (by kernel_rfl) Try.underlying74 rfl
theorem ti77 : TOk Try.prog 77 ⟨.st [(0, 23), (6, 3)], 7, 56, [(.int .i64 0), (.int .i64 0), (.int .i64 0), (.int .i64 0), (.int .i64 0), (.int .i64 0), (.int .i64 0)]⟩ := .mk' (by kernel_rfl) ⟨_, Try.underlying77, rfl⟩ rfl
theorem ti78 : TOk Try.prog 78 ⟨.st [(0, 23), (6, 3)], 7, 56, [(.int .i64 0), (.int .i64 0), (.int .i64 0), (.int .i64 0), (.int .i64 0), (.int .i64 0), (.int .i64 0)]⟩ := .mk' (by kernel_rfl) ⟨_, Try.underlying78, rfl⟩ rfl
theorem ti83 : TOk Try.prog 83 ⟨.int .u64, 1, 8, [(.int .u64 0)]⟩ := .mk' (by kernel_rfl) Try.underlying83 rfl
theorem ti95 : TOk Try.prog 95 ⟨.sl 53, 1, 24, [(.slice none 0 0)]⟩ := .mk' (by kernel_rfl) Try.underlying95 rfl
theorem ti106 : TOk Try.prog 106 ⟨.st [(0, 17), (1, 17), (2, 17), (3, 9)], 4, 40, [(.pointer none), (.pointer none), (.pointer none), (.string ⟨#[]⟩)]⟩ := .mk' (by kernel_rfl) ⟨_, Try.underlying106, rfl⟩ rfl
theorem ti108 : TOk Try.prog 108 ⟨.ar 0 16, 0, 0, []⟩ := .mk' (by kernel_rfl) Try.underlying108 rfl
theorem ti109 : TOk Try.prog 109 ⟨.st [(0, 108)], 0, 0, []⟩ := .mk' (by kernel_rfl) ⟨_, Try.underlying109, rfl⟩ rfl
theorem ti112 : TOk Try.prog 112 ⟨.int .u32, 1, 4, [(.int .u32 0)]⟩ := .mk' (by kernel_rfl) Try.underlying112 rfl
theorem ti116 : TOk Try.prog 116 ⟨.ptr 5, 1, 8, [(.pointer none)]⟩ := .mk' (by kernel_rfl) Try.underlying116 rfl
theorem tk2 (K : TI → Prop) : tiK tab 2 K = K ⟨.int .i64, 1, 8, [(.int .i64 0)]⟩ := tiK_of rfl K
theorem tk3 (K : TI → Prop) : tiK tab 3 K = K ⟨.int .i64, 1, 8, [(.int .i64 0)]⟩ := tiK_of rfl K
theorem tk4 (K : TI → Prop) : tiK tab 4 K = K ⟨.bool, 1, 1, [(.bool false)]⟩ := tiK_of rfl K
theorem tk5 (K : TI → Prop) : tiK tab 5 K = K ⟨.int .u8, 1, 1, [(.int .u8 0)]⟩ := tiK_of rfl K
theorem tk9 (K : TI → Prop) : tiK tab 9 K = K ⟨.str, 1, 16, [(.string ⟨#[]⟩)]⟩ := tiK_of rfl K
theorem tk12 (K : TI → Prop) : tiK tab 12 K = K ⟨.int .u64, 1, 8, [(.int .u64 0)]⟩ := tiK_of rfl K
theorem tk21 (K : TI → Prop) : tiK tab 21 K = K ⟨.int .i32, 1, 4, [(.int .i32 0)]⟩ := tiK_of rfl K
theorem tk22 (K : TI → Prop) : tiK tab 22 K = K ⟨.st [(0, 3), (1, 3), (2, 3), (3, 3), (4, 2), (5, 2)], 6, 48, [(.int .i64 0), (.int .i64 0), (.int .i64 0), (.int .i64 0), (.int .i64 0), (.int .i64 0)]⟩ := tiK_of rfl K
theorem tk23 (K : TI → Prop) : tiK tab 23 K = K ⟨.st [(0, 3), (1, 3), (2, 3), (3, 3), (4, 2), (5, 2)], 6, 48, [(.int .i64 0), (.int .i64 0), (.int .i64 0), (.int .i64 0), (.int .i64 0), (.int .i64 0)]⟩ := tiK_of rfl K
theorem tk24 (K : TI → Prop) : tiK tab 24 K = K ⟨.sl 5, 1, 24, [(.slice none 0 0)]⟩ := tiK_of rfl K
theorem tk26 (K : TI → Prop) : tiK tab 26 K = K ⟨.sl 60, 1, 24, [(.slice none 0 0)]⟩ := tiK_of rfl K
theorem tk27 (K : TI → Prop) : tiK tab 27 K = K ⟨.st [(0, 2), (1, 3)], 2, 16, [(.int .i64 0), (.int .i64 0)]⟩ := tiK_of rfl K
theorem tk28 (K : TI → Prop) : tiK tab 28 K = K ⟨.st [(0, 2), (1, 3)], 2, 16, [(.int .i64 0), (.int .i64 0)]⟩ := tiK_of rfl K
theorem tk29 (K : TI → Prop) : tiK tab 29 K = K ⟨.st [(0, 28), (2, 2)], 3, 24, [(.int .i64 0), (.int .i64 0), (.int .i64 0)]⟩ := tiK_of rfl K
theorem tk30 (K : TI → Prop) : tiK tab 30 K = K ⟨.st [(0, 28), (2, 2)], 3, 24, [(.int .i64 0), (.int .i64 0), (.int .i64 0)]⟩ := tiK_of rfl K
theorem tk31 (K : TI → Prop) : tiK tab 31 K = K ⟨.st [(0, 2), (1, 3)], 2, 16, [(.int .i64 0), (.int .i64 0)]⟩ := tiK_of rfl K
theorem tk32 (K : TI → Prop) : tiK tab 32 K = K ⟨.st [(0, 2), (1, 3)], 2, 16, [(.int .i64 0), (.int .i64 0)]⟩ := tiK_of rfl K
theorem tk33 (K : TI → Prop) : tiK tab 33 K = K ⟨.sl 32, 1, 24, [(.slice none 0 0)]⟩ := tiK_of rfl K
theorem tk34 (K : TI → Prop) : tiK tab 34 K = K ⟨.st [(0, 3), (1, 3), (2, 2), (3, 26), (4, 30), (7, 3), (8, 32), (10, 33)], 11, 120, [(.int .i64 0), (.int .i64 0), (.int .i64 0), (.slice none 0 0), (.int .i64 0), (.int .i64 0), (.int .i64 0), (.int .i64 0), (.int .i64 0), (.int .i64 0), (.slice none 0 0)]⟩ := tiK_of rfl K
theorem tk35 (K : TI → Prop) : tiK tab 35 K = K ⟨.st [(0, 3), (1, 3), (2, 2), (3, 26), (4, 30), (7, 3), (8, 32), (10, 33)], 11, 120, [(.int .i64 0), (.int .i64 0), (.int .i64 0), (.slice none 0 0), (.int .i64 0), (.int .i64 0), (.int .i64 0), (.int .i64 0), (.int .i64 0), (.int .i64 0), (.slice none 0 0)]⟩ := tiK_of rfl K
theorem tk43 (K : TI → Prop) : tiK tab 43 K = K ⟨.int .u16, 1, 2, [(.int .u16 0)]⟩ := tiK_of rfl K
theorem tk46 (K : TI → Prop) : tiK tab 46 K = K ⟨.ptr 48, 1, 8, [(.pointer none)]⟩ := tiK_of rfl K
theorem tk47 (K : TI → Prop) : tiK tab 47 K = K ⟨.st [(0, 24), (1, 4)], 2, 32, [(.slice none 0 0), (.bool false)]⟩ := tiK_of rfl K
theorem tk48 (K : TI → Prop) : tiK tab 48 K = K ⟨.st [(0, 24), (1, 4)], 2, 32, [(.slice none 0 0), (.bool false)]⟩ := tiK_of rfl K
theorem tk50 (K : TI → Prop) : tiK tab 50 K = K ⟨.ptr 3, 1, 8, [(.pointer none)]⟩ := tiK_of rfl K
theorem tk52 (K : TI → Prop) : tiK tab 52 K = K ⟨.ptr 2, 1, 8, [(.pointer none)]⟩ := tiK_of rfl K
theorem tk53 (K : TI → Prop) : tiK tab 53 K = K ⟨.sl 2, 1, 24, [(.slice none 0 0)]⟩ := tiK_of rfl K
theorem tk59 (K : TI → Prop) : tiK tab 59 K = K ⟨.st [(0, 2), (1, 2), (2, 53)], 3, 40, [(.int .i64 0), (.int .i64 0), (.slice none 0 0)]⟩ := tiK_of rfl K
theorem tk60 (K : TI → Prop) : tiK tab 60 K = K ⟨.st [(0, 2), (1, 2), (2, 53)], 3, 40, [(.int .i64 0), (.int .i64 0), (.slice none 0 0)]⟩ := tiK_of rfl K
theorem tk62 (K : TI → Prop) : tiK tab 62 K = K ⟨.int .u64, 1, 8, [(.int .u64 0)]⟩ := tiK_of rfl K
theorem tk69 (K : TI → Prop) : tiK tab 69 K = K ⟨.st [(0, 2), (1, 30), (4, 3), (5, 32)], 7, 56, [(.int .i64 0), (.int .i64 0), (.int .i64 0), (.int .i64 0), (.int .i64 0), (.int .i64 0), (.int .i64 0)]⟩ := tiK_of rfl K
theorem tk70 (K : TI → Prop) : tiK tab 70 K = K ⟨.st [(0, 2), (1, 30), (4, 3), (5, 32)], 7, 56, [(.int .i64 0), (.int .i64 0), (.int .i64 0), (.int .i64 0), (.int .i64 0), (.int .i64 0), (.int .i64 0)]⟩ := tiK_of rfl K
theorem tk72 (K : TI → Prop) : tiK tab 72 K = K ⟨.sl 50, 1, 24, [(.slice none 0 0)]⟩ := tiK_of rfl K
theorem tk74 (K : TI → Prop) : tiK tab 74 K = K ⟨.sl 52, 1, 24, [(.slice none 0 0)]⟩ := tiK_of rfl K
theorem tk77 (K : TI → Prop) : tiK tab 77 K = K ⟨.st [(0, 23), (6, 3)], 7, 56, [(.int .i64 0), (.int .i64 0), (.int .i64 0), (.int .i64 0), (.int .i64 0), (.int .i64 0), (.int .i64 0)]⟩ := tiK_of rfl K
theorem tk78 (K : TI → Prop) : tiK tab 78 K = K ⟨.st [(0, 23), (6, 3)], 7, 56, [(.int .i64 0), (.int .i64 0), (.int .i64 0), (.int .i64 0), (.int .i64 0), (.int .i64 0), (.int .i64 0)]⟩ := tiK_of rfl K
theorem tk83 (K : TI → Prop) : tiK tab 83 K = K ⟨.int .u64, 1, 8, [(.int .u64 0)]⟩ := tiK_of rfl K
theorem tk95 (K : TI → Prop) : tiK tab 95 K = K ⟨.sl 53, 1, 24, [(.slice none 0 0)]⟩ := tiK_of rfl K
theorem tk106 (K : TI → Prop) : tiK tab 106 K = K ⟨.st [(0, 17), (1, 17), (2, 17), (3, 9)], 4, 40, [(.pointer none), (.pointer none), (.pointer none), (.string ⟨#[]⟩)]⟩ := tiK_of rfl K
theorem tk108 (K : TI → Prop) : tiK tab 108 K = K ⟨.ar 0 16, 0, 0, []⟩ := tiK_of rfl K
theorem tk109 (K : TI → Prop) : tiK tab 109 K = K ⟨.st [(0, 108)], 0, 0, []⟩ := tiK_of rfl K
theorem tk112 (K : TI → Prop) : tiK tab 112 K = K ⟨.int .u32, 1, 4, [(.int .u32 0)]⟩ := tiK_of rfl K
theorem tk116 (K : TI → Prop) : tiK tab 116 K = K ⟨.ptr 5, 1, 8, [(.pointer none)]⟩ := tiK_of rfl K
theorem tx2 (K : TI → Prop) : (∃ i, assoc tab 2 = some i ∧ K i) = K ⟨.int .i64, 1, 8, [(.int .i64 0)]⟩ := tab_ex rfl
theorem ty2 : (∃ i, assoc tab 2 = some i) = True := eq_true ⟨_, rfl⟩
theorem tx3 (K : TI → Prop) : (∃ i, assoc tab 3 = some i ∧ K i) = K ⟨.int .i64, 1, 8, [(.int .i64 0)]⟩ := tab_ex rfl
theorem ty3 : (∃ i, assoc tab 3 = some i) = True := eq_true ⟨_, rfl⟩
theorem tx4 (K : TI → Prop) : (∃ i, assoc tab 4 = some i ∧ K i) = K ⟨.bool, 1, 1, [(.bool false)]⟩ := tab_ex rfl
theorem ty4 : (∃ i, assoc tab 4 = some i) = True := eq_true ⟨_, rfl⟩
theorem tx5 (K : TI → Prop) : (∃ i, assoc tab 5 = some i ∧ K i) = K ⟨.int .u8, 1, 1, [(.int .u8 0)]⟩ := tab_ex rfl
theorem ty5 : (∃ i, assoc tab 5 = some i) = True := eq_true ⟨_, rfl⟩
theorem isU8_5 : IsU8 tab 5 = True := eq_true (isU8_of rfl rfl)
theorem tx9 (K : TI → Prop) : (∃ i, assoc tab 9 = some i ∧ K i) = K ⟨.str, 1, 16, [(.string ⟨#[]⟩)]⟩ := tab_ex rfl
theorem ty9 : (∃ i, assoc tab 9 = some i) = True := eq_true ⟨_, rfl⟩
theorem tx12 (K : TI → Prop) : (∃ i, assoc tab 12 = some i ∧ K i) = K ⟨.int .u64, 1, 8, [(.int .u64 0)]⟩ := tab_ex rfl
theorem ty12 : (∃ i, assoc tab 12 = some i) = True := eq_true ⟨_, rfl⟩
theorem tx21 (K : TI → Prop) : (∃ i, assoc tab 21 = some i ∧ K i) = K ⟨.int .i32, 1, 4, [(.int .i32 0)]⟩ := tab_ex rfl
theorem ty21 : (∃ i, assoc tab 21 = some i) = True := eq_true ⟨_, rfl⟩
theorem tx22 (K : TI → Prop) : (∃ i, assoc tab 22 = some i ∧ K i) = K ⟨.st [(0, 3), (1, 3), (2, 3), (3, 3), (4, 2), (5, 2)], 6, 48, [(.int .i64 0), (.int .i64 0), (.int .i64 0), (.int .i64 0), (.int .i64 0), (.int .i64 0)]⟩ := tab_ex rfl
theorem ty22 : (∃ i, assoc tab 22 = some i) = True := eq_true ⟨_, rfl⟩
theorem tx23 (K : TI → Prop) : (∃ i, assoc tab 23 = some i ∧ K i) = K ⟨.st [(0, 3), (1, 3), (2, 3), (3, 3), (4, 2), (5, 2)], 6, 48, [(.int .i64 0), (.int .i64 0), (.int .i64 0), (.int .i64 0), (.int .i64 0), (.int .i64 0)]⟩ := tab_ex rfl
theorem ty23 : (∃ i, assoc tab 23 = some i) = True := eq_true ⟨_, rfl⟩
theorem tx24 (K : TI → Prop) : (∃ i, assoc tab 24 = some i ∧ K i) = K ⟨.sl 5, 1, 24, [(.slice none 0 0)]⟩ := tab_ex rfl
theorem ty24 : (∃ i, assoc tab 24 = some i) = True := eq_true ⟨_, rfl⟩
theorem tx26 (K : TI → Prop) : (∃ i, assoc tab 26 = some i ∧ K i) = K ⟨.sl 60, 1, 24, [(.slice none 0 0)]⟩ := tab_ex rfl
theorem ty26 : (∃ i, assoc tab 26 = some i) = True := eq_true ⟨_, rfl⟩
theorem tx27 (K : TI → Prop) : (∃ i, assoc tab 27 = some i ∧ K i) = K ⟨.st [(0, 2), (1, 3)], 2, 16, [(.int .i64 0), (.int .i64 0)]⟩ := tab_ex rfl
theorem ty27 : (∃ i, assoc tab 27 = some i) = True := eq_true ⟨_, rfl⟩
theorem tx28 (K : TI → Prop) : (∃ i, assoc tab 28 = some i ∧ K i) = K ⟨.st [(0, 2), (1, 3)], 2, 16, [(.int .i64 0), (.int .i64 0)]⟩ := tab_ex rfl
theorem ty28 : (∃ i, assoc tab 28 = some i) = True := eq_true ⟨_, rfl⟩
theorem tx29 (K : TI → Prop) : (∃ i, assoc tab 29 = some i ∧ K i) = K ⟨.st [(0, 28), (2, 2)], 3, 24, [(.int .i64 0), (.int .i64 0), (.int .i64 0)]⟩ := tab_ex rfl
theorem ty29 : (∃ i, assoc tab 29 = some i) = True := eq_true ⟨_, rfl⟩
theorem tx30 (K : TI → Prop) : (∃ i, assoc tab 30 = some i ∧ K i) = K ⟨.st [(0, 28), (2, 2)], 3, 24, [(.int .i64 0), (.int .i64 0), (.int .i64 0)]⟩ := tab_ex rfl
theorem ty30 : (∃ i, assoc tab 30 = some i) = True := eq_true ⟨_, rfl⟩
theorem tx31 (K : TI → Prop) : (∃ i, assoc tab 31 = some i ∧ K i) = K ⟨.st [(0, 2), (1, 3)], 2, 16, [(.int .i64 0), (.int .i64 0)]⟩ := tab_ex rfl
theorem ty31 : (∃ i, assoc tab 31 = some i) = True := eq_true ⟨_, rfl⟩
theorem tx32 (K : TI → Prop) : (∃ i, assoc tab 32 = some i ∧ K i) = K ⟨.st [(0, 2), (1, 3)], 2, 16, [(.int .i64 0), (.int .i64 0)]⟩ := tab_ex rfl
theorem ty32 : (∃ i, assoc tab 32 = some i) = True := eq_true ⟨_, rfl⟩
theorem tx33 (K : TI → Prop) : (∃ i, assoc tab 33 = some i ∧ K i) = K ⟨.sl 32, 1, 24, [(.slice none 0 0)]⟩ := tab_ex rfl
theorem ty33 : (∃ i, assoc tab 33 = some i) = True := eq_true ⟨_, rfl⟩
theorem tx34 (K : TI → Prop) : (∃ i, assoc tab 34 = some i ∧ K i) = K ⟨.st [(0, 3), (1, 3), (2, 2), (3, 26), (4, 30), (7, 3), (8, 32), (10, 33)], 11, 120, [(.int .i64 0), (.int .i64 0), (.int .i64 0), (.slice none 0 0), (.int .i64 0), (.int .i64 0), (.int .i64 0), (.int .i64 0), (.int .i64 0), (.int .i64 0), (.slice none 0 0)]⟩ := tab_ex rfl
theorem ty34 : (∃ i, assoc tab 34 = some i) = True := eq_true ⟨_, rfl⟩
theorem tx35 (K : TI → Prop) : (∃ i, assoc tab 35 = some i ∧ K i) = K ⟨.st [(0, 3), (1, 3), (2, 2), (3, 26), (4, 30), (7, 3), (8, 32), (10, 33)], 11, 120, [(.int .i64 0), (.int .i64 0), (.int .i64 0), (.slice none 0 0), (.int .i64 0), (.int .i64 0), (.int .i64 0), (.int .i64 0), (.int .i64 0), (.int .i64 0), (.slice none 0 0)]⟩ := tab_ex rfl
theorem ty35 : (∃ i, assoc tab 35 = some i) = True := eq_true ⟨_, rfl⟩
theorem tx43 (K : TI → Prop) : (∃ i, assoc tab 43 = some i ∧ K i) = K ⟨.int .u16, 1, 2, [(.int .u16 0)]⟩ := tab_ex rfl
theorem ty43 : (∃ i, assoc tab 43 = some i) = True := eq_true ⟨_, rfl⟩
theorem tx46 (K : TI → Prop) : (∃ i, assoc tab 46 = some i ∧ K i) = K ⟨.ptr 48, 1, 8, [(.pointer none)]⟩ := tab_ex rfl
theorem ty46 : (∃ i, assoc tab 46 = some i) = True := eq_true ⟨_, rfl⟩
theorem tx47 (K : TI → Prop) : (∃ i, assoc tab 47 = some i ∧ K i) = K ⟨.st [(0, 24), (1, 4)], 2, 32, [(.slice none 0 0), (.bool false)]⟩ := tab_ex rfl
theorem ty47 : (∃ i, assoc tab 47 = some i) = True := eq_true ⟨_, rfl⟩
theorem tx48 (K : TI → Prop) : (∃ i, assoc tab 48 = some i ∧ K i) = K ⟨.st [(0, 24), (1, 4)], 2, 32, [(.slice none 0 0), (.bool false)]⟩ := tab_ex rfl
theorem ty48 : (∃ i, assoc tab 48 = some i) = True := eq_true ⟨_, rfl⟩
theorem tx50 (K : TI → Prop) : (∃ i, assoc tab 50 = some i ∧ K i) = K ⟨.ptr 3, 1, 8, [(.pointer none)]⟩ := tab_ex rfl
theorem ty50 : (∃ i, assoc tab 50 = some i) = True := eq_true ⟨_, rfl⟩
theorem tx52 (K : TI → Prop) : (∃ i, assoc tab 52 = some i ∧ K i) = K ⟨.ptr 2, 1, 8, [(.pointer none)]⟩ := tab_ex rfl
theorem ty52 : (∃ i, assoc tab 52 = some i) = True := eq_true ⟨_, rfl⟩
theorem tx53 (K : TI → Prop) : (∃ i, assoc tab 53 = some i ∧ K i) = K ⟨.sl 2, 1, 24, [(.slice none 0 0)]⟩ := tab_ex rfl
theorem ty53 : (∃ i, assoc tab 53 = some i) = True := eq_true ⟨_, rfl⟩
theorem tx59 (K : TI → Prop) : (∃ i, assoc tab 59 = some i ∧ K i) = K ⟨.st [(0, 2), (1, 2), (2, 53)], 3, 40, [(.int .i64 0), (.int .i64 0), (.slice none 0 0)]⟩ := tab_ex rfl
theorem ty59 : (∃ i, assoc tab 59 = some i) = True := eq_true ⟨_, rfl⟩
theorem tx60 (K : TI → Prop) : (∃ i, assoc tab 60 = some i ∧ K i) = K ⟨.st [(0, 2), (1, 2), (2, 53)], 3, 40, [(.int .i64 0), (.int .i64 0), (.slice none 0 0)]⟩ := tab_ex rfl
theorem ty60 : (∃ i, assoc tab 60 = some i) = True := eq_true ⟨_, rfl⟩
theorem tx62 (K : TI → Prop) : (∃ i, assoc tab 62 = some i ∧ K i) = K ⟨.int .u64, 1, 8, [(.int .u64 0)]⟩ := tab_ex rfl
theorem ty62 : (∃ i, assoc tab 62 = some i) = True := eq_true ⟨_, rfl⟩
theorem tx69 (K : TI → Prop) : (∃ i, assoc tab 69 = some i ∧ K i) = K ⟨.st [(0, 2), (1, 30), (4, 3), (5, 32)], 7, 56, [(.int .i64 0), (.int .i64 0), (.int .i64 0), (.int .i64 0), (.int .i64 0), (.int .i64 0), (.int .i64 0)]⟩ := tab_ex rfl
theorem ty69 : (∃ i, assoc tab 69 = some i) = True := eq_true ⟨_, rfl⟩
theorem tx70 (K : TI → Prop) : (∃ i, assoc tab 70 = some i ∧ K i) = K ⟨.st [(0, 2), (1, 30), (4, 3), (5, 32)], 7, 56, [(.int .i64 0), (.int .i64 0), (.int .i64 0), (.int .i64 0), (.int .i64 0), (.int .i64 0), (.int .i64 0)]⟩ := tab_ex rfl
theorem ty70 : (∃ i, assoc tab 70 = some i) = True := eq_true ⟨_, rfl⟩
theorem tx72 (K : TI → Prop) : (∃ i, assoc tab 72 = some i ∧ K i) = K ⟨.sl 50, 1, 24, [(.slice none 0 0)]⟩ := tab_ex rfl
theorem ty72 : (∃ i, assoc tab 72 = some i) = True := eq_true ⟨_, rfl⟩
theorem tx74 (K : TI → Prop) : (∃ i, assoc tab 74 = some i ∧ K i) = K ⟨.sl 52, 1, 24, [(.slice none 0 0)]⟩ := tab_ex rfl
theorem ty74 : (∃ i, assoc tab 74 = some i) = True := eq_true ⟨_, rfl⟩
theorem tx77 (K : TI → Prop) : (∃ i, assoc tab 77 = some i ∧ K i) = K ⟨.st [(0, 23), (6, 3)], 7, 56, [(.int .i64 0), (.int .i64 0), (.int .i64 0), (.int .i64 0), (.int .i64 0), (.int .i64 0), (.int .i64 0)]⟩ := tab_ex rfl
theorem ty77 : (∃ i, assoc tab 77 = some i) = True := eq_true ⟨_, rfl⟩
theorem tx78 (K : TI → Prop) : (∃ i, assoc tab 78 = some i ∧ K i) = K ⟨.st [(0, 23), (6, 3)], 7, 56, [(.int .i64 0), (.int .i64 0), (.int .i64 0), (.int .i64 0), (.int .i64 0), (.int .i64 0), (.int .i64 0)]⟩ := tab_ex rfl
theorem ty78 : (∃ i, assoc tab 78 = some i) = True := eq_true ⟨_, rfl⟩
theorem tx83 (K : TI → Prop) : (∃ i, assoc tab 83 = some i ∧ K i) = K ⟨.int .u64, 1, 8, [(.int .u64 0)]⟩ := tab_ex rfl
theorem ty83 : (∃ i, assoc tab 83 = some i) = True := eq_true ⟨_, rfl⟩
theorem tx95 (K : TI → Prop) : (∃ i, assoc tab 95 = some i ∧ K i) = K ⟨.sl 53, 1, 24, [(.slice none 0 0)]⟩ := tab_ex rfl
theorem ty95 : (∃ i, assoc tab 95 = some i) = True := eq_true ⟨_, rfl⟩
theorem tx106 (K : TI → Prop) : (∃ i, assoc tab 106 = some i ∧ K i) = K ⟨.st [(0, 17), (1, 17), (2, 17), (3, 9)], 4, 40, [(.pointer none), (.pointer none), (.pointer none), (.string ⟨#[]⟩)]⟩ := tab_ex rfl
theorem ty106 : (∃ i, assoc tab 106 = some i) = True := eq_true ⟨_, rfl⟩
theorem tx108 (K : TI → Prop) : (∃ i, assoc tab 108 = some i ∧ K i) = K ⟨.ar 0 16, 0, 0, []⟩ := tab_ex rfl
theorem ty108 : (∃ i, assoc tab 108 = some i) = True := eq_true ⟨_, rfl⟩
theorem tx109 (K : TI → Prop) : (∃ i, assoc tab 109 = some i ∧ K i) = K ⟨.st [(0, 108)], 0, 0, []⟩ := tab_ex rfl
theorem ty109 : (∃ i, assoc tab 109 = some i) = True := eq_true ⟨_, rfl⟩
theorem tx112 (K : TI → Prop) : (∃ i, assoc tab 112 = some i ∧ K i) = K ⟨.int .u32, 1, 4, [(.int .u32 0)]⟩ := tab_ex rfl
theorem ty112 : (∃ i, assoc tab 112 = some i) = True := eq_true ⟨_, rfl⟩
theorem tx116 (K : TI → Prop) : (∃ i, assoc tab 116 = some i ∧ K i) = K ⟨.ptr 5, 1, 8, [(.pointer none)]⟩ := tab_ex rfl
theorem ty116 : (∃ i, assoc tab 116 = some i) = True := eq_true ⟨_, rfl⟩
theorem mixed : Try.prog.follows .mixedOrders = true := by kernel_rfl
theorem tabOk : TabOk Try.prog tab := TabAll.ok ⟨ti2, ti3, ti4, ti5, ti9, ti12, ti21, ti22, ti23, ti24, ti26, ti27, ti28, ti29, ti30, ti31, ti32, ti33, ti34, ti35, ti43, ti46, ti47, ti48, ti50, ti52, ti53, ti59, ti60, ti62, ti69, ti70, ti72, ti74, ti77, ti78, ti83, ti95, ti106, ti108, ti109, ti112, ti116, trivial⟩
theorem wt : ((((((type_of% @tk2) ∧ (type_of% @tk3)) ∧ ((type_of% @tk4) ∧ ((type_of% @tk5) ∧ (type_of% @tk9)))) ∧ (((type_of% @tk12) ∧ (type_of% @tk21)) ∧ ((type_of% @tk22) ∧ ((type_of% @tk23) ∧ (type_of% @tk24))))) ∧ ((((type_of% @tk26) ∧ (type_of% @tk27)) ∧ ((type_of% @tk28) ∧ ((type_of% @tk29) ∧ (type_of% @tk30)))) ∧ (((type_of% @tk31) ∧ ((type_of% @tk32) ∧ (type_of% @tk33))) ∧ ((type_of% @tk34) ∧ ((type_of% @tk35) ∧ (type_of% @tk43)))))) ∧ (((((type_of% @tk46) ∧ (type_of% @tk47)) ∧ ((type_of% @tk48) ∧ ((type_of% @tk50) ∧ (type_of% @tk52)))) ∧ (((type_of% @tk53) ∧ ((type_of% @tk59) ∧ (type_of% @tk60))) ∧ ((type_of% @tk62) ∧ ((type_of% @tk69) ∧ (type_of% @tk70))))) ∧ ((((type_of% @tk72) ∧ (type_of% @tk74)) ∧ ((type_of% @tk77) ∧ ((type_of% @tk78) ∧ (type_of% @tk83)))) ∧ (((type_of% @tk95) ∧ ((type_of% @tk106) ∧ (type_of% @tk108))) ∧ ((type_of% @tk109) ∧ ((type_of% @tk112) ∧ (type_of% @tk116))))))) ∧ ((((((type_of% @tx2) ∧ (type_of% @tx3)) ∧ ((type_of% @tx4) ∧ ((type_of% @tx5) ∧ (type_of% @tx9)))) ∧ (((type_of% @tx12) ∧ (type_of% @tx21)) ∧ ((type_of% @tx22) ∧ ((type_of% @tx23) ∧ (type_of% @tx24))))) ∧ ((((type_of% @tx26) ∧ (type_of% @tx27)) ∧ ((type_of% @tx28) ∧ ((type_of% @tx29) ∧ (type_of% @tx30)))) ∧ (((type_of% @tx31) ∧ ((type_of% @tx32) ∧ (type_of% @tx33))) ∧ ((type_of% @tx34) ∧ ((type_of% @tx35) ∧ (type_of% @tx43)))))) ∧ (((((type_of% @tx46) ∧ (type_of% @tx47)) ∧ ((type_of% @tx48) ∧ ((type_of% @tx50) ∧ (type_of% @tx52)))) ∧ (((type_of% @tx53) ∧ ((type_of% @tx59) ∧ (type_of% @tx60))) ∧ ((type_of% @tx62) ∧ ((type_of% @tx69) ∧ (type_of% @tx70))))) ∧ ((((type_of% @tx72) ∧ (type_of% @tx74)) ∧ ((type_of% @tx77) ∧ ((type_of% @tx78) ∧ (type_of% @tx83)))) ∧ (((type_of% @tx95) ∧ ((type_of% @tx106) ∧ (type_of% @tx108))) ∧ ((type_of% @tx109) ∧ ((type_of% @tx112) ∧ (type_of% @tx116))))))) :=
  ⟨⟨⟨⟨⟨⟨@tk2, @tk3⟩, ⟨@tk4, ⟨@tk5, @tk9⟩⟩⟩, ⟨⟨@tk12, @tk21⟩, ⟨@tk22, ⟨@tk23, @tk24⟩⟩⟩⟩, ⟨⟨⟨@tk26, @tk27⟩, ⟨@tk28, ⟨@tk29, @tk30⟩⟩⟩, ⟨⟨@tk31, ⟨@tk32, @tk33⟩⟩, ⟨@tk34, ⟨@tk35, @tk43⟩⟩⟩⟩⟩, ⟨⟨⟨⟨@tk46, @tk47⟩, ⟨@tk48, ⟨@tk50, @tk52⟩⟩⟩, ⟨⟨@tk53, ⟨@tk59, @tk60⟩⟩, ⟨@tk62, ⟨@tk69, @tk70⟩⟩⟩⟩, ⟨⟨⟨@tk72, @tk74⟩, ⟨@tk77, ⟨@tk78, @tk83⟩⟩⟩, ⟨⟨@tk95, ⟨@tk106, @tk108⟩⟩, ⟨@tk109, ⟨@tk112, @tk116⟩⟩⟩⟩⟩⟩, ⟨⟨⟨⟨⟨@tx2, @tx3⟩, ⟨@tx4, ⟨@tx5, @tx9⟩⟩⟩, ⟨⟨@tx12, @tx21⟩, ⟨@tx22, ⟨@tx23, @tx24⟩⟩⟩⟩, ⟨⟨⟨@tx26, @tx27⟩, ⟨@tx28, ⟨@tx29, @tx30⟩⟩⟩, ⟨⟨@tx31, ⟨@tx32, @tx33⟩⟩, ⟨@tx34, ⟨@tx35, @tx43⟩⟩⟩⟩⟩, ⟨⟨⟨⟨@tx46, @tx47⟩, ⟨@tx48, ⟨@tx50, @tx52⟩⟩⟩, ⟨⟨@tx53, ⟨@tx59, @tx60⟩⟩, ⟨@tx62, ⟨@tx69, @tx70⟩⟩⟩⟩, ⟨⟨⟨@tx72, @tx74⟩, ⟨@tx77, ⟨@tx78, @tx83⟩⟩⟩, ⟨⟨@tx95, ⟨@tx106, @tx108⟩⟩, ⟨@tx109, ⟨@tx112, @tx116⟩⟩⟩⟩⟩⟩⟩
theorem wu : (((((type_of% @ty2) ∧ (type_of% @ty3)) ∧ ((type_of% @ty4) ∧ ((type_of% @ty5) ∧ (type_of% @ty9)))) ∧ (((type_of% @ty12) ∧ ((type_of% @ty21) ∧ (type_of% @ty22))) ∧ ((type_of% @ty23) ∧ ((type_of% @ty24) ∧ (type_of% @ty26))))) ∧ ((((type_of% @ty27) ∧ (type_of% @ty28)) ∧ ((type_of% @ty29) ∧ ((type_of% @ty30) ∧ (type_of% @ty31)))) ∧ (((type_of% @ty32) ∧ ((type_of% @ty33) ∧ (type_of% @ty34))) ∧ ((type_of% @ty35) ∧ ((type_of% @ty43) ∧ (type_of% @ty46)))))) ∧ (((((type_of% @ty47) ∧ (type_of% @ty48)) ∧ ((type_of% @ty50) ∧ ((type_of% @ty52) ∧ (type_of% @ty53)))) ∧ (((type_of% @ty59) ∧ ((type_of% @ty60) ∧ (type_of% @ty62))) ∧ ((type_of% @ty69) ∧ ((type_of% @ty70) ∧ (type_of% @ty72))))) ∧ ((((type_of% @ty74) ∧ (type_of% @ty77)) ∧ ((type_of% @ty78) ∧ ((type_of% @ty83) ∧ (type_of% @ty95)))) ∧ (((type_of% @ty106) ∧ ((type_of% @ty108) ∧ (type_of% @ty109))) ∧ ((type_of% @ty112) ∧ ((type_of% @ty116) ∧ (type_of% @isU8_5)))))) :=
  ⟨⟨⟨⟨⟨@ty2, @ty3⟩, ⟨@ty4, ⟨@ty5, @ty9⟩⟩⟩, ⟨⟨@ty12, ⟨@ty21, @ty22⟩⟩, ⟨@ty23, ⟨@ty24, @ty26⟩⟩⟩⟩, ⟨⟨⟨@ty27, @ty28⟩, ⟨@ty29, ⟨@ty30, @ty31⟩⟩⟩, ⟨⟨@ty32, ⟨@ty33, @ty34⟩⟩, ⟨@ty35, ⟨@ty43, @ty46⟩⟩⟩⟩⟩, ⟨⟨⟨⟨@ty47, @ty48⟩, ⟨@ty50, ⟨@ty52, @ty53⟩⟩⟩, ⟨⟨@ty59, ⟨@ty60, @ty62⟩⟩, ⟨@ty69, ⟨@ty70, @ty72⟩⟩⟩⟩, ⟨⟨⟨@ty74, @ty77⟩, ⟨@ty78, ⟨@ty83, @ty95⟩⟩⟩, ⟨⟨@ty106, ⟨@ty108, @ty109⟩⟩, ⟨@ty112, ⟨@ty116, @isU8_5⟩⟩⟩⟩⟩⟩
end Go.Ab
