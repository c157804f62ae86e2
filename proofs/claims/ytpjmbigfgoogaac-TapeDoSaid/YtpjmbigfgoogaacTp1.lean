import Derived.Test.YtpjmbigfgoogaacProg
import Derived.Test.YtpjmbigfgoogaacAb35
import Derived.KernelRfl
set_option maxRecDepth 100000
namespace Go.Ab
open Go Go.Proofs

def tab : Tab :=
  [(2, ⟨.int .i64, 1, 8, [(.int .i64 0)]⟩),
   (3, ⟨.int .i64, 1, 8, [(.int .i64 0)]⟩),
   (4, ⟨.bool, 1, 1, [(.bool false)]⟩),
   (5, ⟨.int .u8, 1, 1, [(.int .u8 0)]⟩),
   (9, ⟨.str, 1, 16, [(.string ⟨#[]⟩)]⟩),
   (12, ⟨.int .u64, 1, 8, [(.int .u64 0)]⟩),
   (21, ⟨.int .i32, 1, 4, [(.int .i32 0)]⟩),
   (22, ⟨.sl 5, 1, 24, [(.slice none 0 0)]⟩),
   (24, ⟨.st [(0, 22), (1, 22)], 2, 48, [(.slice none 0 0), (.slice none 0 0)]⟩),
   (25, ⟨.st [(0, 22), (1, 22)], 2, 48, [(.slice none 0 0), (.slice none 0 0)]⟩),
   (26, ⟨.st [(0, 25), (2, 25)], 4, 96, [(.slice none 0 0), (.slice none 0 0), (.slice none 0 0), (.slice none 0 0)]⟩),
   (27, ⟨.st [(0, 25), (2, 25)], 4, 96, [(.slice none 0 0), (.slice none 0 0), (.slice none 0 0), (.slice none 0 0)]⟩),
   (28, ⟨.int .i64, 1, 8, [(.int .i64 0)]⟩),
   (42, ⟨.ptr 25, 1, 8, [(.pointer none)]⟩),
   (44, ⟨.ptr 27, 1, 8, [(.pointer none)]⟩),
   (46, ⟨.sl 4, 1, 24, [(.slice none 0 0)]⟩),
   (48, ⟨.sl 22, 1, 24, [(.slice none 0 0)]⟩),
   (52, ⟨.st [(0, 17), (1, 17), (2, 17), (3, 9)], 4, 40, [(.pointer none), (.pointer none), (.pointer none), (.string ⟨#[]⟩)]⟩),
   (54, ⟨.ar 0 16, 0, 0, []⟩),
   (55, ⟨.st [(0, 54)], 0, 0, []⟩),
   (58, ⟨.int .u32, 1, 4, [(.int .u32 0)]⟩),
   (62, ⟨.ptr 5, 1, 8, [(.pointer none)]⟩)]
theorem ti2 : TOk Try.prog 2 ⟨.int .i64, 1, 8, [(.int .i64 0)]⟩ := .mk' (by kernel_rfl) Try.underlying2 rfl
theorem ti3 : TOk Try.prog 3 ⟨.int .i64, 1, 8, [(.int .i64 0)]⟩ := .mk' (by kernel_rfl) Try.underlying3 rfl
theorem ti4 : TOk Try.prog 4 ⟨.bool, 1, 1, [(.bool false)]⟩ := .mk' (by kernel_rfl) Try.underlying4 rfl
theorem ti5 : TOk Try.prog 5 ⟨.int .u8, 1, 1, [(.int .u8 0)]⟩ := .mk' (by kernel_rfl) Try.underlying5 rfl
theorem ti9 : TOk Try.prog 9 ⟨.str, 1, 16, [(.string ⟨#[]⟩)]⟩ := .mk' (by kernel_rfl) Try.underlying9 rfl
theorem ti12 : TOk Try.prog 12 ⟨.int .u64, 1, 8, [(.int .u64 0)]⟩ := .mk' (by kernel_rfl) Try.underlying12 rfl
theorem ti21 : TOk Try.prog 21 ⟨.int .i32, 1, 4, [(.int .i32 0)]⟩ := .mk' (by kernel_rfl) Try.underlying21 rfl
theorem ti22 : TOk Try.prog 22 ⟨.sl 5, 1, 24, [(.slice none 0 0)]⟩ := .mk' (by kernel_rfl) Try.underlying22 rfl
theorem ti24 : TOk Try.prog 24 ⟨.st [(0, 22), (1, 22)], 2, 48, [(.slice none 0 0), (.slice none 0 0)]⟩ := .mk' (by kernel_rfl) ⟨_, Try.underlying24, rfl⟩ rfl
theorem ti25 : TOk Try.prog 25 ⟨.st [(0, 22), (1, 22)], 2, 48, [(.slice none 0 0), (.slice none 0 0)]⟩ := .mk' (by kernel_rfl) ⟨_, Try.underlying25, rfl⟩ rfl
theorem ti26 : TOk Try.prog 26 ⟨.st [(0, 25), (2, 25)], 4, 96, [(.slice none 0 0), (.slice none 0 0), (.slice none 0 0), (.slice none 0 0)]⟩ := .mk' (by kernel_rfl) ⟨_, Try.underlying26, rfl⟩ rfl
theorem ti27 : TOk Try.prog 27 ⟨.st [(0, 25), (2, 25)], 4, 96, [(.slice none 0 0), (.slice none 0 0), (.slice none 0 0), (.slice none 0 0)]⟩ := .mk' (by kernel_rfl) ⟨_, Try.underlying27, rfl⟩ rfl
theorem ti28 : TOk Try.prog 28 ⟨.int .i64, 1, 8, [(.int .i64 0)]⟩ := .mk' (by kernel_rfl) Try.underlying28 rfl
theorem ti42 : TOk Try.prog 42 ⟨.ptr 25, 1, 8, [(.pointer none)]⟩ := .mk' (by kernel_rfl) Try.underlying42 rfl
theorem ti44 : TOk Try.prog 44 ⟨.ptr 27, 1, 8, [(.pointer none)]⟩ := .mk' (by kernel_rfl) Try.underlying44 rfl
theorem ti46 : TOk Try.prog 46 ⟨.sl 4, 1, 24, [(.slice none 0 0)]⟩ := .mk' (by kernel_rfl) Try.underlying46 rfl
theorem ti48 : TOk Try.prog 48 ⟨.sl 22, 1, 24, [(.slice none 0 0)]⟩ := .mk' (by kernel_rfl) Try.underlying48 rfl
theorem ti52 : TOk Try.prog 52 ⟨.st [(0, 17), (1, 17), (2, 17), (3, 9)], 4, 40, [(.pointer none), (.pointer none), (.pointer none), (.string ⟨#[]⟩)]⟩ := .mk' (by kernel_rfl) ⟨_, Try.underlying52, rfl⟩ rfl
theorem ti54 : TOk Try.prog 54 ⟨.ar 0 16, 0, 0, []⟩ := .mk' (by kernel_rfl) Try.underlying54 rfl
theorem ti55 : TOk Try.prog 55 ⟨.st [(0, 54)], 0, 0, []⟩ := .mk' (by kernel_rfl) ⟨_, Try.underlying55, rfl⟩ rfl
theorem ti58 : TOk Try.prog 58 ⟨.int .u32, 1, 4, [(.int .u32 0)]⟩ := .mk' (by kernel_rfl) Try.underlying58 rfl
theorem ti62 : TOk Try.prog 62 ⟨.ptr 5, 1, 8, [(.pointer none)]⟩ := .mk' (by kernel_rfl) Try.underlying62 rfl
theorem tk2 (K : TI → Prop) : tiK tab 2 K = K ⟨.int .i64, 1, 8, [(.int .i64 0)]⟩ := tiK_of rfl K
theorem tk3 (K : TI → Prop) : tiK tab 3 K = K ⟨.int .i64, 1, 8, [(.int .i64 0)]⟩ := tiK_of rfl K
theorem tk4 (K : TI → Prop) : tiK tab 4 K = K ⟨.bool, 1, 1, [(.bool false)]⟩ := tiK_of rfl K
theorem tk5 (K : TI → Prop) : tiK tab 5 K = K ⟨.int .u8, 1, 1, [(.int .u8 0)]⟩ := tiK_of rfl K
theorem tk9 (K : TI → Prop) : tiK tab 9 K = K ⟨.str, 1, 16, [(.string ⟨#[]⟩)]⟩ := tiK_of rfl K
theorem tk12 (K : TI → Prop) : tiK tab 12 K = K ⟨.int .u64, 1, 8, [(.int .u64 0)]⟩ := tiK_of rfl K
theorem tk21 (K : TI → Prop) : tiK tab 21 K = K ⟨.int .i32, 1, 4, [(.int .i32 0)]⟩ := tiK_of rfl K
theorem tk22 (K : TI → Prop) : tiK tab 22 K = K ⟨.sl 5, 1, 24, [(.slice none 0 0)]⟩ := tiK_of rfl K
theorem tk24 (K : TI → Prop) : tiK tab 24 K = K ⟨.st [(0, 22), (1, 22)], 2, 48, [(.slice none 0 0), (.slice none 0 0)]⟩ := tiK_of rfl K
theorem tk25 (K : TI → Prop) : tiK tab 25 K = K ⟨.st [(0, 22), (1, 22)], 2, 48, [(.slice none 0 0), (.slice none 0 0)]⟩ := tiK_of rfl K
theorem tk26 (K : TI → Prop) : tiK tab 26 K = K ⟨.st [(0, 25), (2, 25)], 4, 96, [(.slice none 0 0), (.slice none 0 0), (.slice none 0 0), (.slice none 0 0)]⟩ := tiK_of rfl K
theorem tk27 (K : TI → Prop) : tiK tab 27 K = K ⟨.st [(0, 25), (2, 25)], 4, 96, [(.slice none 0 0), (.slice none 0 0), (.slice none 0 0), (.slice none 0 0)]⟩ := tiK_of rfl K
theorem tk28 (K : TI → Prop) : tiK tab 28 K = K ⟨.int .i64, 1, 8, [(.int .i64 0)]⟩ := tiK_of rfl K
theorem tk42 (K : TI → Prop) : tiK tab 42 K = K ⟨.ptr 25, 1, 8, [(.pointer none)]⟩ := tiK_of rfl K
theorem tk44 (K : TI → Prop) : tiK tab 44 K = K ⟨.ptr 27, 1, 8, [(.pointer none)]⟩ := tiK_of rfl K
theorem tk46 (K : TI → Prop) : tiK tab 46 K = K ⟨.sl 4, 1, 24, [(.slice none 0 0)]⟩ := tiK_of rfl K
theorem tk48 (K : TI → Prop) : tiK tab 48 K = K ⟨.sl 22, 1, 24, [(.slice none 0 0)]⟩ := tiK_of rfl K
theorem tk52 (K : TI → Prop) : tiK tab 52 K = K ⟨.st [(0, 17), (1, 17), (2, 17), (3, 9)], 4, 40, [(.pointer none), (.pointer none), (.pointer none), (.string ⟨#[]⟩)]⟩ := tiK_of rfl K
theorem tk54 (K : TI → Prop) : tiK tab 54 K = K ⟨.ar 0 16, 0, 0, []⟩ := tiK_of rfl K
theorem tk55 (K : TI → Prop) : tiK tab 55 K = K ⟨.st [(0, 54)], 0, 0, []⟩ := tiK_of rfl K
theorem tk58 (K : TI → Prop) : tiK tab 58 K = K ⟨.int .u32, 1, 4, [(.int .u32 0)]⟩ := tiK_of rfl K
theorem tk62 (K : TI → Prop) : tiK tab 62 K = K ⟨.ptr 5, 1, 8, [(.pointer none)]⟩ := tiK_of rfl K
theorem tx2 (K : TI → Prop) : (∃ i, assoc tab 2 = some i ∧ K i) = K ⟨.int .i64, 1, 8, [(.int .i64 0)]⟩ := tab_ex rfl
theorem ty2 : (∃ i, assoc tab 2 = some i) = True := eq_true ⟨_, rfl⟩
theorem tx3 (K : TI → Prop) : (∃ i, assoc tab 3 = some i ∧ K i) = K ⟨.int .i64, 1, 8, [(.int .i64 0)]⟩ := tab_ex rfl
theorem ty3 : (∃ i, assoc tab 3 = some i) = True := eq_true ⟨_, rfl⟩
theorem tx4 (K : TI → Prop) : (∃ i, assoc tab 4 = some i ∧ K i) = K ⟨.bool, 1, 1, [(.bool false)]⟩ := tab_ex rfl
theorem ty4 : (∃ i, assoc tab 4 = some i) = True := eq_true ⟨_, rfl⟩
theorem tx5 (K : TI → Prop) : (∃ i, assoc tab 5 = some i ∧ K i) = K ⟨.int .u8, 1, 1, [(.int .u8 0)]⟩ := tab_ex rfl
theorem ty5 : (∃ i, assoc tab 5 = some i) = True := eq_true ⟨_, rfl⟩
theorem isU8_5 : IsU8 tab 5 = True := eq_true (isU8_of rfl rfl)
theorem tx9 (K : TI → Prop) : (∃ i, assoc tab 9 = some i ∧ K i) = K ⟨.str, 1, 16, [(.string ⟨#[]⟩)]⟩ := tab_ex rfl
theorem ty9 : (∃ i, assoc tab 9 = some i) = True := eq_true ⟨_, rfl⟩
theorem tx12 (K : TI → Prop) : (∃ i, assoc tab 12 = some i ∧ K i) = K ⟨.int .u64, 1, 8, [(.int .u64 0)]⟩ := tab_ex rfl
theorem ty12 : (∃ i, assoc tab 12 = some i) = True := eq_true ⟨_, rfl⟩
theorem tx21 (K : TI → Prop) : (∃ i, assoc tab 21 = some i ∧ K i) = K ⟨.int .i32, 1, 4, [(.int .i32 0)]⟩ := tab_ex rfl
theorem ty21 : (∃ i, assoc tab 21 = some i) = True := eq_true ⟨_, rfl⟩
theorem tx22 (K : TI → Prop) : (∃ i, assoc tab 22 = some i ∧ K i) = K ⟨.sl 5, 1, 24, [(.slice none 0 0)]⟩ := tab_ex rfl
theorem ty22 : (∃ i, assoc tab 22 = some i) = True := eq_true ⟨_, rfl⟩
theorem tx24 (K : TI → Prop) : (∃ i, assoc tab 24 = some i ∧ K i) = K ⟨.st [(0, 22), (1, 22)], 2, 48, [(.slice none 0 0), (.slice none 0 0)]⟩ := tab_ex rfl
theorem ty24 : (∃ i, assoc tab 24 = some i) = True := eq_true ⟨_, rfl⟩
theorem tx25 (K : TI → Prop) : (∃ i, assoc tab 25 = some i ∧ K i) = K ⟨.st [(0, 22), (1, 22)], 2, 48, [(.slice none 0 0), (.slice none 0 0)]⟩ := tab_ex rfl
theorem ty25 : (∃ i, assoc tab 25 = some i) = True := eq_true ⟨_, rfl⟩
theorem tx26 (K : TI → Prop) : (∃ i, assoc tab 26 = some i ∧ K i) = K ⟨.st [(0, 25), (2, 25)], 4, 96, [(.slice none 0 0), (.slice none 0 0), (.slice none 0 0), (.slice none 0 0)]⟩ := tab_ex rfl
theorem ty26 : (∃ i, assoc tab 26 = some i) = True := eq_true ⟨_, rfl⟩
theorem tx27 (K : TI → Prop) : (∃ i, assoc tab 27 = some i ∧ K i) = K ⟨.st [(0, 25), (2, 25)], 4, 96, [(.slice none 0 0), (.slice none 0 0), (.slice none 0 0), (.slice none 0 0)]⟩ := tab_ex rfl
theorem ty27 : (∃ i, assoc tab 27 = some i) = True := eq_true ⟨_, rfl⟩
theorem tx28 (K : TI → Prop) : (∃ i, assoc tab 28 = some i ∧ K i) = K ⟨.int .i64, 1, 8, [(.int .i64 0)]⟩ := tab_ex rfl
theorem ty28 : (∃ i, assoc tab 28 = some i) = True := eq_true ⟨_, rfl⟩
theorem tx42 (K : TI → Prop) : (∃ i, assoc tab 42 = some i ∧ K i) = K ⟨.ptr 25, 1, 8, [(.pointer none)]⟩ := tab_ex rfl
theorem ty42 : (∃ i, assoc tab 42 = some i) = True := eq_true ⟨_, rfl⟩
theorem tx44 (K : TI → Prop) : (∃ i, assoc tab 44 = some i ∧ K i) = K ⟨.ptr 27, 1, 8, [(.pointer none)]⟩ := tab_ex rfl
theorem ty44 : (∃ i, assoc tab 44 = some i) = True := eq_true ⟨_, rfl⟩
theorem tx46 (K : TI → Prop) : (∃ i, assoc tab 46 = some i ∧ K i) = K ⟨.sl 4, 1, 24, [(.slice none 0 0)]⟩ := tab_ex rfl
theorem ty46 : (∃ i, assoc tab 46 = some i) = True := eq_true ⟨_, rfl⟩
theorem tx48 (K : TI → Prop) : (∃ i, assoc tab 48 = some i ∧ K i) = K ⟨.sl 22, 1, 24, [(.slice none 0 0)]⟩ := tab_ex rfl
theorem ty48 : (∃ i, assoc tab 48 = some i) = True := eq_true ⟨_, rfl⟩
theorem tx52 (K : TI → Prop) : (∃ i, assoc tab 52 = some i ∧ K i) = K ⟨.st [(0, 17), (1, 17), (2, 17), (3, 9)], 4, 40, [(.pointer none), (.pointer none), (.pointer none), (.string ⟨#[]⟩)]⟩ := tab_ex rfl
theorem ty52 : (∃ i, assoc tab 52 = some i) = True := eq_true ⟨_, rfl⟩
theorem tx54 (K : TI → Prop) : (∃ i, assoc tab 54 = some i ∧ K i) = K ⟨.ar 0 16, 0, 0, []⟩ := tab_ex rfl
theorem ty54 : (∃ i, assoc tab 54 = some i) = True := eq_true ⟨_, rfl⟩
theorem tx55 (K : TI → Prop) : (∃ i, assoc tab 55 = some i ∧ K i) = K ⟨.st [(0, 54)], 0, 0, []⟩ := tab_ex rfl
theorem ty55 : (∃ i, assoc tab 55 = some i) = True := eq_true ⟨_, rfl⟩
theorem tx58 (K : TI → Prop) : (∃ i, assoc tab 58 = some i ∧ K i) = K ⟨.int .u32, 1, 4, [(.int .u32 0)]⟩ := tab_ex rfl
theorem ty58 : (∃ i, assoc tab 58 = some i) = True := eq_true ⟨_, rfl⟩
theorem tx62 (K : TI → Prop) : (∃ i, assoc tab 62 = some i ∧ K i) = K ⟨.ptr 5, 1, 8, [(.pointer none)]⟩ := tab_ex rfl
theorem ty62 : (∃ i, assoc tab 62 = some i) = True := eq_true ⟨_, rfl⟩
theorem mixed : Try.prog.follows .mixedOrders = true := by kernel_rfl
theorem tabOk : TabOk Try.prog tab := TabAll.ok ⟨ti2, ti3, ti4, ti5, ti9, ti12, ti21, ti22, ti24, ti25, ti26, ti27, ti28, ti42, ti44, ti46, ti48, ti52, ti54, ti55, ti58, ti62, trivial⟩
theorem wt : (((((type_of% @tk2) ∧ (type_of% @tk3)) ∧ ((type_of% @tk4) ∧ ((type_of% @tk5) ∧ (type_of% @tk9)))) ∧ (((type_of% @tk12) ∧ ((type_of% @tk21) ∧ (type_of% @tk22))) ∧ ((type_of% @tk24) ∧ ((type_of% @tk25) ∧ (type_of% @tk26))))) ∧ ((((type_of% @tk27) ∧ (type_of% @tk28)) ∧ ((type_of% @tk42) ∧ ((type_of% @tk44) ∧ (type_of% @tk46)))) ∧ (((type_of% @tk48) ∧ ((type_of% @tk52) ∧ (type_of% @tk54))) ∧ ((type_of% @tk55) ∧ ((type_of% @tk58) ∧ (type_of% @tk62)))))) ∧ (((((type_of% @tx2) ∧ (type_of% @tx3)) ∧ ((type_of% @tx4) ∧ ((type_of% @tx5) ∧ (type_of% @tx9)))) ∧ (((type_of% @tx12) ∧ ((type_of% @tx21) ∧ (type_of% @tx22))) ∧ ((type_of% @tx24) ∧ ((type_of% @tx25) ∧ (type_of% @tx26))))) ∧ ((((type_of% @tx27) ∧ (type_of% @tx28)) ∧ ((type_of% @tx42) ∧ ((type_of% @tx44) ∧ (type_of% @tx46)))) ∧ (((type_of% @tx48) ∧ ((type_of% @tx52) ∧ (type_of% @tx54))) ∧ ((type_of% @tx55) ∧ ((type_of% @tx58) ∧ (type_of% @tx62)))))) :=
  ⟨⟨⟨⟨⟨@tk2, @tk3⟩, ⟨@tk4, ⟨@tk5, @tk9⟩⟩⟩, ⟨⟨@tk12, ⟨@tk21, @tk22⟩⟩, ⟨@tk24, ⟨@tk25, @tk26⟩⟩⟩⟩, ⟨⟨⟨@tk27, @tk28⟩, ⟨@tk42, ⟨@tk44, @tk46⟩⟩⟩, ⟨⟨@tk48, ⟨@tk52, @tk54⟩⟩, ⟨@tk55, ⟨@tk58, @tk62⟩⟩⟩⟩⟩, ⟨⟨⟨⟨@tx2, @tx3⟩, ⟨@tx4, ⟨@tx5, @tx9⟩⟩⟩, ⟨⟨@tx12, ⟨@tx21, @tx22⟩⟩, ⟨@tx24, ⟨@tx25, @tx26⟩⟩⟩⟩, ⟨⟨⟨@tx27, @tx28⟩, ⟨@tx42, ⟨@tx44, @tx46⟩⟩⟩, ⟨⟨@tx48, ⟨@tx52, @tx54⟩⟩, ⟨@tx55, ⟨@tx58, @tx62⟩⟩⟩⟩⟩⟩
theorem wu : ((((type_of% @ty2) ∧ (type_of% @ty3)) ∧ ((type_of% @ty4) ∧ ((type_of% @ty5) ∧ (type_of% @ty9)))) ∧ (((type_of% @ty12) ∧ ((type_of% @ty21) ∧ (type_of% @ty22))) ∧ ((type_of% @ty24) ∧ ((type_of% @ty25) ∧ (type_of% @ty26))))) ∧ ((((type_of% @ty27) ∧ ((type_of% @ty28) ∧ (type_of% @ty42))) ∧ ((type_of% @ty44) ∧ ((type_of% @ty46) ∧ (type_of% @ty48)))) ∧ (((type_of% @ty52) ∧ ((type_of% @ty54) ∧ (type_of% @ty55))) ∧ ((type_of% @ty58) ∧ ((type_of% @ty62) ∧ (type_of% @isU8_5))))) :=
  ⟨⟨⟨⟨@ty2, @ty3⟩, ⟨@ty4, ⟨@ty5, @ty9⟩⟩⟩, ⟨⟨@ty12, ⟨@ty21, @ty22⟩⟩, ⟨@ty24, ⟨@ty25, @ty26⟩⟩⟩⟩, ⟨⟨⟨@ty27, ⟨@ty28, @ty42⟩⟩, ⟨@ty44, ⟨@ty46, @ty48⟩⟩⟩, ⟨⟨@ty52, ⟨@ty54, @ty55⟩⟩, ⟨@ty58, ⟨@ty62, @isU8_5⟩⟩⟩⟩⟩
end Go.Ab
