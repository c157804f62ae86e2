/- The sum of bytes: four bits at a time, one bit at a time. -/
import Derived.Test.YtdnhojfkjgggbaaDoorNb1
import Derived.Test.YtdnhojfkjgggbaaDoorAbG9
set_option linter.unusedSimpArgs false
set_option linter.unusedVariables false
set_option linter.constructorNameAsVariable false
set_option maxRecDepth 100000
namespace Go.Ab
open Go Go.Proofs Go.RowKit

/-- One bit leaves; four do. -/
def bitS (s : BitVec 32) : BitVec 32 := (s >>> 1) ^^^ (if s &&& 1#32 = 1#32 then 0xEDB88320#32 else 0#32)
def halfT : List (BitVec 32) := [0x00000000#32, 0x1DB71064#32, 0x3B6E20C8#32, 0x26D930AC#32, 0x76DC4190#32, 0x6B6B51F4#32, 0x4DB26158#32, 0x5005713C#32, 0xEDB88320#32, 0xF00F9344#32, 0xD6D6A3E8#32, 0xCB61B38C#32, 0x9B64C2B0#32, 0x86D3D2D4#32, 0xA00AE278#32, 0xBDBDF21C#32]
def halfAt (i : Nat) : BitVec 32 := halfT.getD i 0#32
def nibS (s : BitVec 32) : BitVec 32 := (s >>> 4) ^^^ halfAt (s &&& 15#32).toNat
theorem bitS_xor (a b : BitVec 32) : bitS (a ^^^ b) = bitS a ^^^ bitS b := by
  have h1 : (a ^^^ b) &&& 1#32 = (a &&& 1#32) ^^^ (b &&& 1#32) := by
    apply BitVec.eq_of_getLsbD_eq; intro i hi; simp only [BitVec.getLsbD_and, BitVec.getLsbD_xor]
    cases a.getLsbD i <;> cases b.getLsbD i <;> simp
  have key : ∀ c : BitVec 32, c &&& 1#32 = 1#32 ∨ c &&& 1#32 = 0#32 := fun c => by
    have : (c &&& 1#32).toNat = c.toNat % 2 := by
      rw [BitVec.toNat_and]; exact Nat.and_one_is_mod _
    rcases Nat.mod_two_eq_zero_or_one c.toNat with h | h
    · right; apply BitVec.eq_of_toNat_eq; rw [this, h]; rfl
    · left; apply BitVec.eq_of_toNat_eq; rw [this, h]; rfl
  unfold bitS
  rw [BitVec.ushiftRight_xor_distrib, h1]
  rcases key a with ha | ha <;> rcases key b with hb | hb <;> simp only [ha, hb] <;> simp
  · rw [BitVec.xor_assoc, BitVec.xor_comm _ (b >>> 1 ^^^ _), BitVec.xor_assoc]; simp
  · rw [BitVec.xor_assoc, BitVec.xor_assoc, BitVec.xor_comm (b >>> 1)]
  · rw [BitVec.xor_assoc]
def bitN : Nat → BitVec 32 → BitVec 32
  | 0, s => s
  | n + 1, s => bitN n (bitS s)
theorem bitN_xor : ∀ n a b, bitN n (a ^^^ b) = bitN n a ^^^ bitN n b
  | 0, a, b => rfl
  | n + 1, a, b => by rw [bitN, bitS_xor, bitN_xor n]; rfl
theorem bitS_even {s : BitVec 32} (h : s.toNat % 2 = 0) : bitS s = s >>> 1 := by
  have : (s &&& 1#32).toNat = 0 := by rw [BitVec.toNat_and]; exact (Nat.and_one_is_mod _).trans h
  unfold bitS
  rw [if_neg (by intro e; rw [e] at this; revert this; decide), BitVec.xor_zero]
theorem nib_bits (s : BitVec 32) : nibS s = bitN 4 s := by
  have e : s = ((s >>> 4) <<< 4) ^^^ (s &&& 15#32) := by
    apply BitVec.eq_of_getLsbD_eq
    intro i hi
    simp only [BitVec.getLsbD_xor, BitVec.getLsbD_shiftLeft, BitVec.getLsbD_ushiftRight, BitVec.getLsbD_and]
    by_cases h4 : i < 4
    · have : i = 0 ∨ i = 1 ∨ i = 2 ∨ i = 3 := by omega
      rcases this with rfl | rfl | rfl | rfl <;> simp
    · have h15 : (15#32).getLsbD i = false := by
        simp only [BitVec.getLsbD, BitVec.toNat_ofNat]
        apply Nat.testBit_lt_two_pow
        calc 15 % 2 ^ 32 < 2 ^ 4 := by decide
          _ ≤ 2 ^ i := Nat.pow_le_pow_right (by decide) (by omega)
      have h15' : (15#32)[i] = false := by rw [← BitVec.getLsbD_eq_getElem]; exact h15
      simp [h4, hi, h15', show 4 + (i - 4) = i by omega]
  have hs : ∀ t : BitVec 32, t.toNat < 2 ^ 28 → bitN 4 (t <<< 4) = t := fun t ht => by
    have sh : ∀ (k n : Nat), n < 2 ^ 31 → bitS (BitVec.ofNat 32 (2 * n)) = BitVec.ofNat 32 n := fun k n hn => by
      rw [bitS_even (by rw [BitVec.toNat_ofNat]; omega)]
      apply BitVec.eq_of_toNat_eq
      rw [BitVec.toNat_ushiftRight, BitVec.toNat_ofNat, BitVec.toNat_ofNat, Nat.shiftRight_eq_div_pow, Nat.mod_eq_of_lt (by omega), Nat.mod_eq_of_lt (by omega)]
      omega
    have e1 : t <<< 4 = BitVec.ofNat 32 (2 * (2 * (2 * (2 * t.toNat)))) := by
      apply BitVec.eq_of_toNat_eq
      rw [BitVec.toNat_shiftLeft, BitVec.toNat_ofNat, Nat.shiftLeft_eq]
      congr 1; omega
    rw [e1]
    show bitS (bitS (bitS (bitS _))) = t
    rw [sh 0 _ (by omega), sh 0 _ (by omega), sh 0 _ (by omega), sh 0 _ (by omega)]
    simp
  have hl : ∀ i : Fin 16, bitN 4 (BitVec.ofNat 32 i.val) = halfAt i.val := by decide +kernel
  have hlow : (s &&& 15#32).toNat < 16 := by
    rw [BitVec.toNat_and]
    exact Nat.lt_of_le_of_lt Nat.and_le_right (by decide)
  conv => rhs; rw [e, bitN_xor, hs _ (by rw [BitVec.toNat_ushiftRight, Nat.shiftRight_eq_div_pow]; have := s.isLt; omega)]
  have := hl ⟨(s &&& 15#32).toNat, hlow⟩
  simp only [BitVec.ofNat_toNat, BitVec.setWidth_eq] at this
  rw [this]
  rfl
/-- A byte is taken in. -/
def byteS (s : BitVec 32) (c : UInt8) : BitVec 32 := bitN 8 (s ^^^ BitVec.ofNat 32 c.toNat)
theorem byte_nib (s : BitVec 32) (c : UInt8) : nibS (nibS (s ^^^ BitVec.ofNat 32 c.toNat)) = byteS s c := by
  rw [nib_bits, nib_bits]; rfl
def sumL (s : BitVec 32) (b : List UInt8) : BitVec 32 := b.foldl byteS s
def crcB (b : List UInt8) : BitVec 32 := 0xFFFFFFFF#32 ^^^ sumL 0xFFFFFFFF#32 b
end Go.Ab
