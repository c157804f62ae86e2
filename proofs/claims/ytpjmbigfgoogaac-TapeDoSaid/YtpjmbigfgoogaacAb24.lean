/- Whole numbers: more. -/
import Derived.Test.YtpjmbigfgoogaacAb23
set_option linter.constructorNameAsVariable false
set_option linter.unusedVariables false
namespace Go.Ab
open Go Go.RowKit

section
variable {p : Prop} [Decidable p] {y n : ASt → Prop} {s : ASt} {w : Bool}
theorem r_casesP (h1 : p → y s) (h2 : ¬ p → n s) : condS (.c (.bool (decide p))) y n s := r_cases (fun h => h1 (of_decide_eq_true h)) fun h => h2 (of_decide_eq_false h)
theorem r_gcasesP (h1 : p → gB (.c (.bool true)) w y n s) (h2 : ¬ p → gB (.c (.bool false)) w y n s) : gB (.c (.bool (decide p))) w y n s := r_gcases (fun h => h1 (of_decide_eq_true h)) fun h => h2 (of_decide_eq_false h)
end
theorem expC_pure {M : Mem} {a b : AV} (h : Weak1 a b) (hu : Under 0 b) : ExpC M a b [] [] := by
  unfold ExpC
  split
  · cases hu
  · rw [Weak1.eq_2 _ _ (by intro sz h1 h2; cases h1)] at h
    cases h
  · exact ⟨h, hu, rfl, rfl⟩
theorem expL_pure {M : Mem} : ∀ {l m : List AV}, WeakL l m → (∀ i (hi : i < m.length), Under 0 m[i]) → ExpL M l m [] []
  | [], [], _, _ => ⟨rfl, rfl⟩
  | a :: r, b :: s, h, hu => ⟨[], [], [], [], rfl, rfl, expC_pure h.1 (hu 0 (by simp)), expL_pure h.2 fun i hi => hu (i + 1) (by simpa using hi)⟩
  | [], _ :: _, h, _ => h.elim
  | _ :: _, [], h, _ => h.elim
theorem expA_pure {M : Mem} {a b : AV} (h : Weak a b) (hu : Under 0 b) : ExpA M a b [] [] := by
  unfold Weak at h
  split at h
  · cases hu with | g _ hu => exact expL_pure h hu
  · rename_i hn
    unfold ExpA
    split
    · exact absurd rfl (hn _ _ rfl)
    · exact expC_pure h hu
/-- Results without memory of the call's own. -/
def PureLL : List AV → List AV → Prop
  | [], [] => True
  | a :: r, b :: s => (Weak a b ∧ Under 0 b) ∧ PureLL r s
  | _, _ => False
theorem expLA_pure {M : Mem} : ∀ {l m : List AV}, PureLL l m → ExpLA M l m [] []
  | [], [], _ => ⟨rfl, rfl⟩
  | a :: r, b :: s, h => ⟨[], [], [], [], rfl, rfl, expA_pure h.1.1 h.1.2, expLA_pure h.2⟩
  | [], _ :: _, h => h.elim
  | _ :: _, [], h => h.elim
theorem exp_t {M : Mem} {l m : List AV} (h : PureLL l m) : Exp M (.t l) (.t m) := ⟨[], [], expLA_pure h, by simp, by simp⟩
theorem exp_g {M : Mem} {l m : List AV} (h : Weak (.g l) (.g m)) (hu : Under 0 (.g m)) : Exp M (.g l) (.g m) := ⟨[], [], (expA_pure h hu : ExpA M (.g l) (.g m) [] []), by simp, by simp⟩
theorem exp_l {M : Mem} {sz : Nat} {xs : List AV} {a : AV} (h : Weak1 a (.l sz xs)) (hu : Under 0 (.l sz xs)) : Exp M a (.l sz xs) := by
  refine ⟨[], [], ?_, by simp, by simp⟩
  have h1 := expC_pure (M := M) h hu
  cases a with
  | t => cases h.t
  | g => cases h.g
  | _ => exact h1
theorem weak_c {v : Value} : Weak (.c v) (.c v) := by unfold Weak; exact .refl _
theorem weak_l {sz : Nat} {xs : List AV} : Weak (.l sz xs) (.l sz xs) := by unfold Weak; exact .refl _
theorem weak_nil {sz : Nat} : Weak (.c (.slice none 0 0)) (.l sz []) := by unfold Weak Weak1; trivial
theorem under_B {k : Nat} {l : List UInt8} : Under k (.l 1 (l.map encB)) := by rw [under_l, underL_B]; trivial
theorem bne_int {a b : Int} : (a != b) = !(decide (a = b)) := rfl
theorem beq_int {a b : Int} : (a == b) = decide (a = b) := rfl
theorem ofInt_nat {w : Nat} {n : Nat} (h : n < 2 ^ w) : (BitVec.ofInt w (n : Int)).toNat = n := by
  rw [BitVec.toNat_ofInt]
  have : ((n : Int) % ((2 ^ w : Nat) : Int)) = n := Int.emod_eq_of_lt (by omega) (by exact_mod_cast h)
  rw [this]; rfl
theorem or_u64 {a b : Nat} (ha : a < 18446744073709551616) (hb : b < 18446744073709551616) :
    IntKind.u64.wrap ((BitVec.ofInt IntKind.u64.bits (a : Int) ||| BitVec.ofInt IntKind.u64.bits (b : Int)).toNat : Nat) = ((a ||| b : Nat) : Int) := by
  rw [BitVec.toNat_or, ofInt_nat (w := IntKind.u64.bits) ha, ofInt_nat (w := IntKind.u64.bits) hb]
  exact wrap_u64 (Nat.or_lt_two_pow (n := 64) ha hb)
theorem and_u8 {a b : Nat} (ha : a < 256) (hb : b < 256) :
    IntKind.u8.wrap ((BitVec.ofInt IntKind.u8.bits (a : Int) &&& BitVec.ofInt IntKind.u8.bits (b : Int)).toNat : Nat) = ((a &&& b : Nat) : Int) := by
  rw [BitVec.toNat_and, ofInt_nat (w := IntKind.u8.bits) ha, ofInt_nat (w := IntKind.u8.bits) hb, wrap_u8]
  have : a &&& b < 256 := Nat.and_lt_two_pow (n := 8) a hb
  omega
theorem and127 {a : Nat} (ha : a < 256) : IntKind.u8.wrap ((BitVec.ofInt IntKind.u8.bits (a : Int) &&& BitVec.ofInt IntKind.u8.bits 127).toNat : Nat) = ((a % 128 : Nat) : Int) := by
  have := and_u8 (b := 127) ha (by decide)
  rw [show ((127 : Nat) : Int) = 127 from rfl] at this
  rw [this, show (127 : Nat) = 2 ^ 7 - 1 from rfl, Nat.and_two_pow_sub_one_eq_mod]
theorem wrap_i64 {n : Int} (h : -9223372036854775808 ≤ n) (h2 : n < 9223372036854775808) : IntKind.i64.wrap n = n := by rw [IntKind.wrap_i64]; omega
theorem or_add {a b k : Nat} (h : a < 2 ^ k) : a ||| (b * 2 ^ k) = a + b * 2 ^ k := by
  have := Nat.two_pow_add_eq_or_of_lt h b
  rw [Nat.mul_comm b, Nat.or_comm, ← this, Nat.add_comm]
theorem u8_lt (c : UInt8) : c.toNat < 256 := c.toNat_lt
/-- Arguments. -/
theorem arg_own {M : Mem} {ids : List Nat} {id n sz : Nat} {T : TypeId} {xs : List AV} (hi : id ∈ ids) (h : M.get id = some ⟨T, sz, xs⟩) (hn : n = xs.length) (hp : PureL xs) :
    VOkA M (.s id 0 n) ∧ (∀ i ∈ idsA (.s id 0 n), i ∈ ids) ∧ Weak (viewA M (.s id 0 n)) (.l sz xs) ∧ Under 0 (.l sz xs) := by
  refine ⟨⟨_, h, by simpa using hn, hp⟩, fun i h => ?_, ?_, .l _ _ hp⟩
  · simp only [idsA, idsC, List.mem_singleton] at h; exact h ▸ hi
  · simp only [viewA, viewC, h, List.drop_zero]; exact weak_l
theorem arg_c {M : Mem} {ids : List Nat} {v : Value} : VOkA M (.c v) ∧ (∀ i ∈ idsA (.c v), i ∈ ids) ∧ Weak (viewA M (.c v)) (.c v) ∧ Under 0 (.c v) :=
  ⟨trivial, (fun i h => by simp [idsA, idsC] at h), weak_c, .c _⟩
theorem arg_l {M : Mem} {ids : List Nat} {sz : Nat} {xs : List AV} (h : PureL xs) : VOkA M (.l sz xs) ∧ (∀ i ∈ idsA (.l sz xs), i ∈ ids) ∧ Weak (viewA M (.l sz xs)) (.l sz xs) ∧ Under 0 (.l sz xs) :=
  ⟨trivial, (fun i h => by simp [idsA, idsC] at h), weak_l, .l _ _ h⟩
theorem arg_nil {M : Mem} {ids : List Nat} {sz : Nat} : VOkA M (.c (.slice none 0 0)) ∧ (∀ i ∈ idsA (.c (.slice none 0 0)), i ∈ ids) ∧ Weak (viewA M (.c (.slice none 0 0))) (.l sz []) ∧ Under 0 (.l sz []) :=
  ⟨trivial, (fun i h => by simp [idsA, idsC] at h), weak_nil, .l _ _ fun i h => absurd h (by simp)⟩
/-- Strings. -/
theorem str_size (l : List UInt8) : (⟨l.toArray⟩ : ByteArray).size = l.length := by simp [ByteArray.size]
theorem str_append (l m : List UInt8) : (⟨l.toArray⟩ : ByteArray) ++ ⟨m.toArray⟩ = ⟨(l ++ m).toArray⟩ := by
  apply ByteArray.ext; simp
theorem str_extract (l : List UInt8) (i j : Nat) : (⟨l.toArray⟩ : ByteArray).extract i j = ⟨((l.take j).drop i).toArray⟩ := by
  apply ByteArray.ext; simp [ByteArray.data_extract, List.drop_take]
theorem strOf_B (l : List UInt8) : strOf (l.map encB) = ⟨l.toArray⟩ := by
  simp only [strOf, List.map_map]
  congr 2
  refine (List.map_congr_left (g := id) fun b _ => ?_).trans (List.map_id _)
  simp [byteOf, encB]
theorem isB_B (l : List UInt8) : (∀ z ∈ l.map encB, IsB z) = True := eq_true fun z hz => by
  obtain ⟨b, _, rfl⟩ := List.mem_map.1 hz
  exact isB_encB b
theorem str_toList (l : List UInt8) : (⟨l.toArray⟩ : ByteArray).toList = l := by simp
theorem mapB_take {l : List UInt8} {n : Nat} : (l.map encB).take n = (l.take n).map encB := by rw [List.map_take]
theorem mapB_drop {l : List UInt8} {n : Nat} : (l.map encB).drop n = (l.drop n).map encB := by rw [List.map_drop]
theorem take_drop' {α : Type} {l : List α} {n : Nat} : List.take (l.length - n) (List.drop n l) = List.drop n l := List.take_of_length_le (by simp)
theorem str_data (l : List UInt8) : (⟨l.toArray⟩ : ByteArray).data.toList = l := rfl
/-- Bytes' type. -/
theorem isU8_of {tab : Tab} {e : TypeId} {ti : TI} (h : assoc tab e = some ti) (hk : ti.k = .int .u8) : IsU8 tab e := ⟨ti, h, by rw [hk]; trivial⟩
theorem tab_ex {tab : Tab} {t : TypeId} {ti : TI} {K : TI → Prop} (h : assoc tab t = some ti) : (∃ i, assoc tab t = some i ∧ K i) = K ti := by
  simp only [h, Option.some.injEq, exists_eq_left']
end Go.Ab
