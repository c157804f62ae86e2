import Derived.Test.YtblnakmeaokemabProg
import Derived.Test.YtblnakmeaokemabAbG7
import Derived.KernelRfl
set_option maxRecDepth 100000
namespace Go.Ab
open Go Go.Proofs

def tab : Tab :=
  [(2, ⟨.int .i64, 1, 8, [(.int .i64 0)]⟩),
   (3, ⟨.int .i64, 1, 8, [(.int .i64 0)]⟩),
   (4, ⟨.bool, 1, 1, [(.bool false)]⟩),
   (5, ⟨.int .u8, 1, 1, [(.int .u8 0)]⟩),
   (9, ⟨.str, 1, 16, [(.string ⟨#[]⟩)]⟩),
   (21, ⟨.int .i32, 1, 4, [(.int .i32 0)]⟩),
   (22, ⟨.st [(0, 3), (1, 3), (2, 3), (3, 3), (4, 2), (5, 2)], 6, 48, [(.int .i64 0), (.int .i64 0), (.int .i64 0), (.int .i64 0), (.int .i64 0), (.int .i64 0)]⟩),
   (23, ⟨.st [(0, 3), (1, 3), (2, 3), (3, 3), (4, 2), (5, 2)], 6, 48, [(.int .i64 0), (.int .i64 0), (.int .i64 0), (.int .i64 0), (.int .i64 0), (.int .i64 0)]⟩),
   (24, ⟨.sl 49, 1, 24, [(.slice none 0 0)]⟩),
   (36, ⟨.int .i64, 1, 8, [(.int .i64 0)]⟩),
   (47, ⟨.sl 2, 1, 24, [(.slice none 0 0)]⟩),
   (48, ⟨.st [(0, 2), (1, 2), (2, 47)], 3, 40, [(.int .i64 0), (.int .i64 0), (.slice none 0 0)]⟩),
   (49, ⟨.st [(0, 2), (1, 2), (2, 47)], 3, 40, [(.int .i64 0), (.int .i64 0), (.slice none 0 0)]⟩),
   (55, ⟨.ptr 49, 1, 8, [(.pointer none)]⟩)]
theorem ti2 : TOk Try.prog 2 ⟨.int .i64, 1, 8, [(.int .i64 0)]⟩ := .mk' (by kernel_rfl) Try.underlying2 rfl
theorem ti3 : TOk Try.prog 3 ⟨.int .i64, 1, 8, [(.int .i64 0)]⟩ := .mk' (by kernel_rfl) Try.underlying3 rfl
theorem ti4 : TOk Try.prog 4 ⟨.bool, 1, 1, [(.bool false)]⟩ := .mk' (by kernel_rfl) Try.underlying4 rfl
theorem ti5 : TOk Try.prog 5 ⟨.int .u8, 1, 1, [(.int .u8 0)]⟩ := .mk' (by kernel_rfl) Try.underlying5 rfl
theorem ti9 : TOk Try.prog 9 ⟨.str, 1, 16, [(.string ⟨#[]⟩)]⟩ := .mk' (by kernel_rfl) Try.underlying9 rfl
theorem ti21 : TOk Try.prog 21 ⟨.int .i32, 1, 4, [(.int .i32 0)]⟩ := .mk' (by kernel_rfl) Try.underlying21 rfl
theorem ti22 : TOk Try.prog 22 ⟨.st [(0, 3), (1, 3), (2, 3), (3, 3), (4, 2), (5, 2)], 6, 48, [(.int .i64 0), (.int .i64 0), (.int .i64 0), (.int .i64 0), (.int .i64 0), (.int .i64 0)]⟩ := .mk' (by kernel_rfl) ⟨_, Try.underlying22, rfl⟩ rfl
theorem ti23 : TOk Try.prog 23 ⟨.st [(0, 3), (1, 3), (2, 3), (3, 3), (4, 2), (5, 2)], 6, 48, [(.int .i64 0), (.int .i64 0), (.int .i64 0), (.int .i64 0), (.int .i64 0), (.int .i64 0)]⟩ := .mk' (by kernel_rfl) ⟨_, Try.underlying23, rfl⟩ rfl
theorem ti24 : TOk Try.prog 24 ⟨.sl 49, 1, 24, [(.slice none 0 0)]⟩ := .mk' (by kernel_rfl) Try.underlying24 rfl
theorem ti36 : TOk Try.prog 36 ⟨.int .i64, 1, 8, [(.int .i64 0)]⟩ := .mk' (by kernel_rfl) Try.underlying36 rfl
theorem ti47 : TOk Try.prog 47 ⟨.sl 2, 1, 24, [(.slice none 0 0)]⟩ := .mk' (by kernel_rfl) Try.underlying47 rfl
theorem ti48 : TOk Try.prog 48 ⟨.st [(0, 2), (1, 2), (2, 47)], 3, 40, [(.int .i64 0), (.int .i64 0), (.slice none 0 0)]⟩ := .mk' (by kernel_rfl) ⟨_, Try.underlying48, rfl⟩ rfl
theorem ti49 : TOk Try.prog 49 ⟨.st [(0, 2), (1, 2), (2, 47)], 3, 40, [(.int .i64 0), (.int .i64 0), (.slice none 0 0)]⟩ := .mk' (by kernel_rfl) ⟨_, Try.underlying49, rfl⟩ rfl
theorem ti55 : TOk Try.prog 55 ⟨.ptr 49, 1, 8, [(.pointer none)]⟩ := .mk' (by kernel_rfl) Try.underlying55 rfl
theorem tk2 (K : TI → Prop) : tiK tab 2 K = K ⟨.int .i64, 1, 8, [(.int .i64 0)]⟩ := tiK_of rfl K
theorem tk3 (K : TI → Prop) : tiK tab 3 K = K ⟨.int .i64, 1, 8, [(.int .i64 0)]⟩ := tiK_of rfl K
theorem tk4 (K : TI → Prop) : tiK tab 4 K = K ⟨.bool, 1, 1, [(.bool false)]⟩ := tiK_of rfl K
theorem tk5 (K : TI → Prop) : tiK tab 5 K = K ⟨.int .u8, 1, 1, [(.int .u8 0)]⟩ := tiK_of rfl K
theorem tk9 (K : TI → Prop) : tiK tab 9 K = K ⟨.str, 1, 16, [(.string ⟨#[]⟩)]⟩ := tiK_of rfl K
theorem tk21 (K : TI → Prop) : tiK tab 21 K = K ⟨.int .i32, 1, 4, [(.int .i32 0)]⟩ := tiK_of rfl K
theorem tk22 (K : TI → Prop) : tiK tab 22 K = K ⟨.st [(0, 3), (1, 3), (2, 3), (3, 3), (4, 2), (5, 2)], 6, 48, [(.int .i64 0), (.int .i64 0), (.int .i64 0), (.int .i64 0), (.int .i64 0), (.int .i64 0)]⟩ := tiK_of rfl K
theorem tk23 (K : TI → Prop) : tiK tab 23 K = K ⟨.st [(0, 3), (1, 3), (2, 3), (3, 3), (4, 2), (5, 2)], 6, 48, [(.int .i64 0), (.int .i64 0), (.int .i64 0), (.int .i64 0), (.int .i64 0), (.int .i64 0)]⟩ := tiK_of rfl K
theorem tk24 (K : TI → Prop) : tiK tab 24 K = K ⟨.sl 49, 1, 24, [(.slice none 0 0)]⟩ := tiK_of rfl K
theorem tk36 (K : TI → Prop) : tiK tab 36 K = K ⟨.int .i64, 1, 8, [(.int .i64 0)]⟩ := tiK_of rfl K
theorem tk47 (K : TI → Prop) : tiK tab 47 K = K ⟨.sl 2, 1, 24, [(.slice none 0 0)]⟩ := tiK_of rfl K
theorem tk48 (K : TI → Prop) : tiK tab 48 K = K ⟨.st [(0, 2), (1, 2), (2, 47)], 3, 40, [(.int .i64 0), (.int .i64 0), (.slice none 0 0)]⟩ := tiK_of rfl K
theorem tk49 (K : TI → Prop) : tiK tab 49 K = K ⟨.st [(0, 2), (1, 2), (2, 47)], 3, 40, [(.int .i64 0), (.int .i64 0), (.slice none 0 0)]⟩ := tiK_of rfl K
theorem tk55 (K : TI → Prop) : tiK tab 55 K = K ⟨.ptr 49, 1, 8, [(.pointer none)]⟩ := tiK_of rfl K
theorem tx2 (K : TI → Prop) : (∃ i, assoc tab 2 = some i ∧ K i) = K ⟨.int .i64, 1, 8, [(.int .i64 0)]⟩ := tab_ex rfl
theorem ty2 : (∃ i, assoc tab 2 = some i) = True := eq_true ⟨_, rfl⟩
theorem tx3 (K : TI → Prop) : (∃ i, assoc tab 3 = some i ∧ K i) = K ⟨.int .i64, 1, 8, [(.int .i64 0)]⟩ := tab_ex rfl
theorem ty3 : (∃ i, assoc tab 3 = some i) = True := eq_true ⟨_, rfl⟩
theorem tx4 (K : TI → Prop) : (∃ i, assoc tab 4 = some i ∧ K i) = K ⟨.bool, 1, 1, [(.bool false)]⟩ := tab_ex rfl
theorem ty4 : (∃ i, assoc tab 4 = some i) = True := eq_true ⟨_, rfl⟩
theorem tx5 (K : TI → Prop) : (∃ i, assoc tab 5 = some i ∧ K i) = K ⟨.int .u8, 1, 1, [(.int .u8 0)]⟩ := tab_ex rfl
theorem ty5 : (∃ i, assoc tab 5 = some i) = True := eq_true ⟨_, rfl⟩
theorem isU8_5 : IsU8 tab 5 = True := eq_true (isU8_of rfl rfl)
theorem tx9 (K : TI → Prop) : (∃ i, assoc tab 9 = some i ∧ K i) = K ⟨.str, 1, 16, [(.string ⟨#[]⟩)]⟩ := tab_ex rfl
theorem ty9 : (∃ i, assoc tab 9 = some i) = True := eq_true ⟨_, rfl⟩
theorem tx21 (K : TI → Prop) : (∃ i, assoc tab 21 = some i ∧ K i) = K ⟨.int .i32, 1, 4, [(.int .i32 0)]⟩ := tab_ex rfl
theorem ty21 : (∃ i, assoc tab 21 = some i) = True := eq_true ⟨_, rfl⟩
theorem tx22 (K : TI → Prop) : (∃ i, assoc tab 22 = some i ∧ K i) = K ⟨.st [(0, 3), (1, 3), (2, 3), (3, 3), (4, 2), (5, 2)], 6, 48, [(.int .i64 0), (.int .i64 0), (.int .i64 0), (.int .i64 0), (.int .i64 0), (.int .i64 0)]⟩ := tab_ex rfl
theorem ty22 : (∃ i, assoc tab 22 = some i) = True := eq_true ⟨_, rfl⟩
theorem tx23 (K : TI → Prop) : (∃ i, assoc tab 23 = some i ∧ K i) = K ⟨.st [(0, 3), (1, 3), (2, 3), (3, 3), (4, 2), (5, 2)], 6, 48, [(.int .i64 0), (.int .i64 0), (.int .i64 0), (.int .i64 0), (.int .i64 0), (.int .i64 0)]⟩ := tab_ex rfl
theorem ty23 : (∃ i, assoc tab 23 = some i) = True := eq_true ⟨_, rfl⟩
theorem tx24 (K : TI → Prop) : (∃ i, assoc tab 24 = some i ∧ K i) = K ⟨.sl 49, 1, 24, [(.slice none 0 0)]⟩ := tab_ex rfl
theorem ty24 : (∃ i, assoc tab 24 = some i) = True := eq_true ⟨_, rfl⟩
theorem tx36 (K : TI → Prop) : (∃ i, assoc tab 36 = some i ∧ K i) = K ⟨.int .i64, 1, 8, [(.int .i64 0)]⟩ := tab_ex rfl
theorem ty36 : (∃ i, assoc tab 36 = some i) = True := eq_true ⟨_, rfl⟩
theorem tx47 (K : TI → Prop) : (∃ i, assoc tab 47 = some i ∧ K i) = K ⟨.sl 2, 1, 24, [(.slice none 0 0)]⟩ := tab_ex rfl
theorem ty47 : (∃ i, assoc tab 47 = some i) = True := eq_true ⟨_, rfl⟩
theorem tx48 (K : TI → Prop) : (∃ i, assoc tab 48 = some i ∧ K i) = K ⟨.st [(0, 2), (1, 2), (2, 47)], 3, 40, [(.int .i64 0), (.int .i64 0), (.slice none 0 0)]⟩ := tab_ex rfl
theorem ty48 : (∃ i, assoc tab 48 = some i) = True := eq_true ⟨_, rfl⟩
theorem tx49 (K : TI → Prop) : (∃ i, assoc tab 49 = some i ∧ K i) = K ⟨.st [(0, 2), (1, 2), (2, 47)], 3, 40, [(.int .i64 0), (.int .i64 0), (.slice none 0 0)]⟩ := tab_ex rfl
theorem ty49 : (∃ i, assoc tab 49 = some i) = True := eq_true ⟨_, rfl⟩
theorem tx55 (K : TI → Prop) : (∃ i, assoc tab 55 = some i ∧ K i) = K ⟨.ptr 49, 1, 8, [(.pointer none)]⟩ := tab_ex rfl
theorem ty55 : (∃ i, assoc tab 55 = some i) = True := eq_true ⟨_, rfl⟩
theorem mixed : Try.prog.follows .mixedOrders = true := by kernel_rfl
theorem tabOk : TabOk Try.prog tab := TabAll.ok ⟨ti2, ti3, ti4, ti5, ti9, ti21, ti22, ti23, ti24, ti36, ti47, ti48, ti49, ti55, trivial⟩
theorem wt : ((((type_of% @tk2) ∧ ((type_of% @tk3) ∧ (type_of% @tk4))) ∧ (((type_of% @tk5) ∧ (type_of% @tk9)) ∧ ((type_of% @tk21) ∧ (type_of% @tk22)))) ∧ (((type_of% @tk23) ∧ ((type_of% @tk24) ∧ (type_of% @tk36))) ∧ (((type_of% @tk47) ∧ (type_of% @tk48)) ∧ ((type_of% @tk49) ∧ (type_of% @tk55))))) ∧ ((((type_of% @tx2) ∧ ((type_of% @tx3) ∧ (type_of% @tx4))) ∧ (((type_of% @tx5) ∧ (type_of% @tx9)) ∧ ((type_of% @tx21) ∧ (type_of% @tx22)))) ∧ (((type_of% @tx23) ∧ ((type_of% @tx24) ∧ (type_of% @tx36))) ∧ (((type_of% @tx47) ∧ (type_of% @tx48)) ∧ ((type_of% @tx49) ∧ (type_of% @tx55))))) :=
  ⟨⟨⟨⟨@tk2, ⟨@tk3, @tk4⟩⟩, ⟨⟨@tk5, @tk9⟩, ⟨@tk21, @tk22⟩⟩⟩, ⟨⟨@tk23, ⟨@tk24, @tk36⟩⟩, ⟨⟨@tk47, @tk48⟩, ⟨@tk49, @tk55⟩⟩⟩⟩, ⟨⟨⟨@tx2, ⟨@tx3, @tx4⟩⟩, ⟨⟨@tx5, @tx9⟩, ⟨@tx21, @tx22⟩⟩⟩, ⟨⟨@tx23, ⟨@tx24, @tx36⟩⟩, ⟨⟨@tx47, @tx48⟩, ⟨@tx49, @tx55⟩⟩⟩⟩⟩
theorem wu : (((type_of% @ty2) ∧ ((type_of% @ty3) ∧ (type_of% @ty4))) ∧ (((type_of% @ty5) ∧ (type_of% @ty9)) ∧ ((type_of% @ty21) ∧ (type_of% @ty22)))) ∧ ((((type_of% @ty23) ∧ (type_of% @ty24)) ∧ ((type_of% @ty36) ∧ (type_of% @ty47))) ∧ (((type_of% @ty48) ∧ (type_of% @ty49)) ∧ ((type_of% @ty55) ∧ (type_of% @isU8_5)))) :=
  ⟨⟨⟨@ty2, ⟨@ty3, @ty4⟩⟩, ⟨⟨@ty5, @ty9⟩, ⟨@ty21, @ty22⟩⟩⟩, ⟨⟨⟨@ty23, @ty24⟩, ⟨@ty36, @ty47⟩⟩, ⟨⟨@ty48, @ty49⟩, ⟨@ty55, @isU8_5⟩⟩⟩⟩
end Go.Ab
