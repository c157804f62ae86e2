/- FrameFlips. -/
import Derived.Test.YtdnhojfkjgggbaaDoorFr8
set_option linter.unusedSimpArgs false
set_option linter.unusedVariables false
set_option linter.constructorNameAsVariable false
set_option maxRecDepth 100000
namespace Go.Ab
open Go Go.Proofs Go.RowKit

theorem sc_cons {a z : List UInt8} (ha : a.length < 18446744073709551616) : scP (frL a ++ z) = a :: scP z := by
  obtain ⟨r, h1, h2, h3⟩ := scP_is z
  refine scP_eq ⟨r, ?_, h2, fun p hp => ?_⟩
  · show frL a ++ z = (frL a ++ frs (scP z)) ++ r
    rw [List.append_assoc, ← h1]
  · rcases List.mem_cons.1 hp with rfl | hp
    · exact ha
    · exact h3 p hp
theorem sc_other {b z : List UInt8} (hl : z.length = (frL b).length) (hz : z ≠ frL b) : ∀ l, scP z ≠ b :: l := fun l e => by
  obtain ⟨r, h1, h2, h3⟩ := scP_is z
  rw [e] at h1
  have h4 : z = frL b ++ (frs l ++ r) := by rw [h1]; simp [frs]
  have h5 := congrArg List.length h4
  rw [List.length_append] at h5
  have h6 : frs l ++ r = [] := List.eq_nil_of_length_eq_zero (by omega)
  rw [h6, List.append_nil] at h4
  exact hz h4
/-- A bit turned. -/
theorem flip_ne (c m : BitVec 8) (hm : m ≠ 0#8) : (c ^^^ m) ≠ c := fun h => hm (by
  have : c ^^^ (c ^^^ m) = c ^^^ c := by rw [h]
  rw [← BitVec.xor_assoc, BitVec.xor_self, BitVec.zero_xor] at this
  exact this)
def flipB (c : UInt8) (k : Nat) : UInt8 := UInt8.ofNat (BitVec.ofNat 8 c.toNat ^^^ BitVec.ofNat 8 (2 ^ (k % 8))).toNat
theorem flipB_ne (c : UInt8) (k : Nat) : flipB c k ≠ c := fun h => by
  have h1 := congrArg UInt8.toNat h
  have hlt := (BitVec.ofNat 8 c.toNat ^^^ BitVec.ofNat 8 (2 ^ (k % 8))).isLt
  rw [flipB, UInt8.toNat_ofNat', Nat.mod_eq_of_lt hlt] at h1
  refine flip_ne (BitVec.ofNat 8 c.toNat) (BitVec.ofNat 8 (2 ^ (k % 8))) ?_ (BitVec.eq_of_toNat_eq ?_)
  · have hk : k % 8 < 8 := Nat.mod_lt _ (by decide)
    generalize k % 8 = i at hk
    have h : ∀ i : Fin 8, BitVec.ofNat 8 (2 ^ i.val) ≠ 0#8 := by decide
    exact h ⟨i, hk⟩
  · rw [h1, BitVec.toNat_ofNat]
    have := c.toNat_lt
    omega
theorem u8_of (n : Nat) : BitVec.ofInt IntKind.u8.bits (n : Int) = BitVec.ofNat 8 n := BitVec.ofInt_natCast _ _
theorem flip_val (c bit : UInt8) : AV.c (.int .u8 (IntKind.u8.wrap ((BitVec.ofInt IntKind.u8.bits (c.toNat : Int) ^^^ BitVec.ofInt IntKind.u8.bits (IntKind.u8.wrap (1 * 2 ^ min ((bit.toNat : Int).tmod 8).toNat IntKind.u8.bits))).toNat : Int))) = encB (flipB c bit.toNat) := by
  have hk : bit.toNat % 8 < 8 := Nat.mod_lt _ (by decide)
  have e1 : ((bit.toNat : Int).tmod 8).toNat = bit.toNat % 8 := by rw [show (bit.toNat : Int).tmod 8 = ((bit.toNat % 8 : Nat) : Int) from tmod_nat (b := 8)]; rfl
  have e2 : min (bit.toNat % 8) IntKind.u8.bits = bit.toNat % 8 := by show min (bit.toNat % 8) 8 = _; omega
  have hp : 2 ^ (bit.toNat % 8) < 256 := Nat.lt_of_lt_of_le (Nat.pow_lt_pow_right (by decide) hk) (by decide)
  have e3 : IntKind.u8.wrap (1 * 2 ^ (bit.toNat % 8)) = ((2 ^ (bit.toNat % 8) : Nat) : Int) := by
    rw [show (1 : Int) * 2 ^ (bit.toNat % 8) = ((2 ^ (bit.toNat % 8) : Nat) : Int) by simp]
    generalize 2 ^ (bit.toNat % 8) = n at hp
    rw [wrap_u8]
    omega
  rw [e1, e2, e3, u8_of, u8_of]
  have hlt := (BitVec.ofNat 8 c.toNat ^^^ BitVec.ofNat 8 (2 ^ (bit.toNat % 8))).isLt
  show AV.c (.int .u8 (IntKind.u8.wrap (((BitVec.ofNat 8 c.toNat ^^^ BitVec.ofNat 8 (2 ^ (bit.toNat % 8))).toNat : Nat) : Int))) = _
  rw [byte_of, flipB]
  congr 1
  rw [Nat.mod_eq_of_lt hlt]
theorem elem_setB {l : List UInt8} {i : Nat} {K : AV → Prop} : Elem (l.map encB) i K = (i < l.length ∧ K (encB (l.getD i 0))) := elem_map 0
theorem frL_le {p : List UInt8} (h : p.length ≤ 1000) : (frL p).length ≤ 1014 := by
  have := frL_len p
  have := putL_len10 (n := p.length) (by omega)
  omega
set_option maxHeartbeats 4000000 in
theorem frameflips_call (a b : List UInt8) (cut : Nat) (bit : UInt8) (hc : cut < 65536) : PCall Tryd.prog 5 [Bs a, Bs b, .c (.int .u16 cut), encB bit] (.c (.bool true)) := by
  refine pcall_body tabOk Tryd.func5 rfl rfl (by rw [Tryd.ntmps5]; simp) ?_
  simp only [Tryd.ntmps5, Bs, encB]
  simp only [↓wt, wu, wk0, wk1, wk2, wk3, Nat.reduceAdd, Nat.reduceEqDiff, Nat.reduceLeDiff, Nat.reduceLT, Nat.reduceMul, Int.reduceLE, Int.reduceLT, Int.reduceEq, Int.reduceNe, wk4, laidS, keepS]
  refine icall_drop [] faw_call trivial (.c _) ?_
  simp only [↓wt, wu, wk0, wk1, wk2, wk3, Nat.reduceAdd, Nat.reduceEqDiff, Nat.reduceLeDiff, Nat.reduceLT, Nat.reduceMul, Int.reduceLE, Int.reduceLT, Int.reduceEq, Int.reduceNe, wk4, laidS, keepS]
  repeat' (first | (refine r_casesD (fun hp hb => ?_) (fun hp hb => ?_) <;> simp only [↓wt, wu, wk0, wk1, wk2, wk3, Nat.reduceAdd, Nat.reduceEqDiff, Nat.reduceLeDiff, Nat.reduceLT, Nat.reduceMul, Int.reduceLE, Int.reduceLT, Int.reduceEq, Int.reduceNe, wk4, laidS, keepS, Tryd.results5, hb]) | (refine r_casesN (fun hp hb => ?_) (fun hp hb => ?_) <;> simp only [↓wt, wu, wk0, wk1, wk2, wk3, Nat.reduceAdd, Nat.reduceEqDiff, Nat.reduceLeDiff, Nat.reduceLT, Nat.reduceMul, Int.reduceLE, Int.reduceLT, Int.reduceEq, Int.reduceNe, wk4, laidS, keepS, Tryd.results5, hb]) | (refine r_casesM (fun hp hb => ?_) (fun hp hb => ?_) <;> simp only [↓wt, wu, wk0, wk1, wk2, wk3, Nat.reduceAdd, Nat.reduceEqDiff, Nat.reduceLeDiff, Nat.reduceLT, Nat.reduceMul, Int.reduceLE, Int.reduceLT, Int.reduceEq, Int.reduceNe, wk4, laidS, keepS, Tryd.results5, hb]) | (refine r_casesB (fun hp hb => ?_) (fun hp hb => ?_) <;> simp only [↓wt, wu, wk0, wk1, wk2, wk3, Nat.reduceAdd, Nat.reduceEqDiff, Nat.reduceLeDiff, Nat.reduceLT, Nat.reduceMul, Int.reduceLE, Int.reduceLT, Int.reduceEq, Int.reduceNe, wk4, laidS, keepS, Tryd.results5, hb]) | (refine r_gcasesD (fun hp hb => ?_) (fun hp hb => ?_) <;> simp only [↓wt, wu, wk0, wk1, wk2, wk3, Nat.reduceAdd, Nat.reduceEqDiff, Nat.reduceLeDiff, Nat.reduceLT, Nat.reduceMul, Int.reduceLE, Int.reduceLT, Int.reduceEq, Int.reduceNe, wk4, laidS, keepS, Tryd.results5, hb]) | (refine r_gcasesN (fun hp hb => ?_) (fun hp hb => ?_) <;> simp only [↓wt, wu, wk0, wk1, wk2, wk3, Nat.reduceAdd, Nat.reduceEqDiff, Nat.reduceLeDiff, Nat.reduceLT, Nat.reduceMul, Int.reduceLE, Int.reduceLT, Int.reduceEq, Int.reduceNe, wk4, laidS, keepS, Tryd.results5, hb]) | (refine r_gcasesM (fun hp hb => ?_) (fun hp hb => ?_) <;> simp only [↓wt, wu, wk0, wk1, wk2, wk3, Nat.reduceAdd, Nat.reduceEqDiff, Nat.reduceLeDiff, Nat.reduceLT, Nat.reduceMul, Int.reduceLE, Int.reduceLT, Int.reduceEq, Int.reduceNe, wk4, laidS, keepS, Tryd.results5, hb]) | (refine r_gcasesB (fun hp hb => ?_) (fun hp hb => ?_) <;> simp only [↓wt, wu, wk0, wk1, wk2, wk3, Nat.reduceAdd, Nat.reduceEqDiff, Nat.reduceLeDiff, Nat.reduceLT, Nat.reduceMul, Int.reduceLE, Int.reduceLT, Int.reduceEq, Int.reduceNe, wk4, laidS, keepS, Tryd.results5, hb]) | ((with_reducible refine And.intro ?_ ?_); omega) | fail)
  all_goals try exact exp_c
  have ha : a.length ≤ 1000 := by omega
  have hb : b.length ≤ 1000 := by omega
  have hla := frL_le ha
  have hlb := frL_le hb
  have hfb := frL_len b
  have m1 := (fput_call [] a (by simp) (by omega)).frz
  rw [List.nil_append] at m1
  change PCall _ _ _ (Bs (frL a)) at m1
  have m2 := fput_call (frL a) b (by omega) (by omega)
  refine icall_drop [] m1 ⟨arg_nil, arg_l (pureB _), trivial⟩ okR_Bs ?_
  simp only [↓wt, wu, wk0, wk1, wk2, wk3, Nat.reduceAdd, Nat.reduceEqDiff, Nat.reduceLeDiff, Nat.reduceLT, Nat.reduceMul, Int.reduceLE, Int.reduceLT, Int.reduceEq, Int.reduceNe, wk4, laidS, keepS, Bs]
  refine icall_drop [] m2 ⟨arg_l (pureB _), arg_l (pureB _), trivial⟩ (pureB _) ?_
  have e0 : IntKind.i64.wrap (cut : Int) = (cut : Int) := wrap_i64 (by omega) (by omega)
  have e1 : IntKind.i64.wrap ((((frL a).length + (frL b).length : Nat) : Int) - ((frL a).length : Int)) = ((frL b).length : Int) := by
    rw [wrap_i64 (by omega) (by omega)]; omega
  have e2 : ((cut : Int).tmod ((frL b).length : Int)) = ((cut % (frL b).length : Nat) : Int) := tmod_nat
  have hk := Nat.mod_lt cut (show 0 < (frL b).length by omega)
  generalize hj : cut % (frL b).length = j at hk e2
  have e3 : IntKind.i64.wrap (((frL a).length : Int) + (j : Int)) = (((frL a).length + j : Nat) : Int) := by rw [wrap_i64 (by omega) (by omega)]; omega
  simp only [↓wt, wu, wk0, wk1, wk2, wk3, Nat.reduceAdd, Nat.reduceEqDiff, Nat.reduceLeDiff, Nat.reduceLT, Nat.reduceMul, Int.reduceLE, Int.reduceLT, Int.reduceEq, Int.reduceNe, wk4, laidS, keepS, e0, e1, e2, e3, elem_setB, flip_val]
  refine ⟨by omega, ⟨by omega, by omega⟩, by omega, ?_, ⟨by omega, by omega⟩, by omega, ?_⟩
  · rw [show (bit.toNat : Int).tmod 8 = ((bit.toNat % 8 : Nat) : Int) from tmod_nat (b := 8)]; omega
  have hg : (frL a ++ frL b).getD ((frL a).length + j) 0 = (frL b).getD j 0 := by
    rw [List.getD_eq_getElem?_getD, List.getD_eq_getElem?_getD, List.getElem?_append_right (by omega), Nat.add_sub_cancel_left]
  obtain ⟨z, hz⟩ : ∃ z, z = (frL b).set j (flipB ((frL b).getD j 0) bit.toNat) := ⟨_, rfl⟩
  have hzl : z.length = (frL b).length := by rw [hz, List.length_set]
  have hzn : z ≠ frL b := fun h => by
    have h1 : z[j]? = some (flipB ((frL b).getD j 0) bit.toNat) := by rw [hz, List.getElem?_set_self hk]
    rw [h, List.getElem?_eq_getElem hk] at h1
    have h2 : (frL b).getD j 0 = (frL b)[j] := by rw [List.getD_eq_getElem?_getD, List.getElem?_eq_getElem hk]; rfl
    rw [h2] at h1
    injection h1 with h1
    exact flipB_ne _ _ h1.symm
  have hset : ((frL a ++ frL b).map encB).set ((frL a).length + j) (AV.c (.int .u8 ((flipB ((frL b).getD j 0) bit.toNat).toNat : Int))) = (frL a ++ z).map encB := by
    show ((frL a ++ frL b).map encB).set ((frL a).length + j) (encB (flipB ((frL b).getD j 0) bit.toNat)) = _
    rw [← List.map_set, List.set_append_right _ _ (by omega), Nat.add_sub_cancel_left, hz]
  have hoth := sc_other hzl hzn
  have hsc := sc_cons (z := z) (show a.length < 18446744073709551616 by omega)
  have m3 := fscan_call (frL a ++ z) (by rw [List.length_append]; omega)
  rw [hsc] at m3
  have hfl : (frs (a :: scP z)).length = (frL a).length + (frs (scP z)).length := by simp only [frs, List.length_append]
  have m4 := rsize_call b.length (by omega)
  rw [← hfb] at m4
  simp only [Int.toNat_natCast, hg, hset]
  refine icall_drop [0] m3 ⟨arg_own (by simp) rfl (by simp [hzl]) (pureB _), trivial⟩ okR_scan ?_
  generalize hL : scP z = L at *
  obtain ⟨l1, hl1⟩ : ∃ e, e = a :: L := ⟨_, rfl⟩
  have hn1 : l1.length = L.length + 1 := by rw [hl1]; rfl
  have hg0 : l1.getD 0 [] = a := by rw [hl1]; rfl
  rw [← hl1]
  have f0 : decide ((((frs l1).length : Nat) : Int) ≥ ((frL a).length : Int)) = true := decide_eq_true (by rw [hl1]; omega)
  have f1 : decide ((l1.length : Int) ≥ 1) = true := decide_eq_true (by omega)
  have f2 : (l1.getD 0 [] == a) = true := by rw [hg0]; exact beq_self_eq_true a
  have f3 : 0 < l1.length := by omega
  simp only [↓wt, wu, wk0, wk1, wk2, wk3, Nat.reduceAdd, Nat.reduceEqDiff, Nat.reduceLeDiff, Nat.reduceLT, Nat.reduceMul, Int.reduceLE, Int.reduceLT, Int.reduceEq, Int.reduceNe, wk4, laidS, keepS, Bs]
  refine draw_rule tabOk mixed [0, 0, 0, 0, 0, 0, 0, 0, 0, 0, 0, 0, 0, 0, 0, 0, 0, 0, 0, 0, 0, 0, 0, 0, 0, 0, 0, 0, 0, 0, 0, 0, 0, 0, 3, 0, 0, 0, 0, 0, 0, 0, 0, 0] [[], [0], [0, 1], [0, 1, 2], [0, 1, 2, 3], [0, 1, 2, 3, 4], [0, 1, 2, 3, 4, 5], [0, 1, 2, 3, 4, 5, 6], [0, 1, 2, 3], [0, 1, 2, 3, 8], [0, 1, 2, 3, 4, 5, 6, 7, 8, 9], [0, 1, 2, 3, 4, 5, 6, 7, 8, 9, 10], [0, 1, 2, 3, 4, 5, 6, 7, 8, 9, 10, 11], [0, 1, 2, 3, 4, 5, 6, 7, 8, 9, 10, 11, 12], [0, 1, 2, 3, 4, 5, 6, 7, 8, 9, 10, 11, 12], [0, 1, 2, 3, 4, 5, 6, 7, 8, 9, 10, 11, 12, 14], [0, 1, 2, 3, 4, 5, 6, 7, 8, 9, 10, 11, 12, 13, 14, 15], [0, 1, 2, 3, 4, 5, 6, 7, 8, 9, 10, 11, 12, 13, 14, 15, 16], [0, 1, 2, 3, 4, 5, 6, 7, 8, 9, 10, 11, 12, 13, 14, 15, 16, 17], [0, 1, 2, 3, 4, 5, 6, 7, 8, 9, 10, 11, 12, 13, 14, 15, 16, 17, 18], [0, 1, 2, 3, 4, 5, 6, 7, 8, 9, 10, 11, 12, 13, 14, 15, 16, 17, 18, 19], [0, 1, 2, 3, 4, 5, 6, 7, 8, 9, 10, 11, 12, 13, 14, 15, 16, 17, 18, 19, 20], [0, 1, 2, 3, 4, 5, 6, 7, 8, 9, 10, 11, 12, 13, 14, 15, 16, 17, 18, 19, 20, 21], [0, 1, 2, 3, 4, 5, 6, 7, 8, 9, 10, 11, 12, 13, 14, 15, 16, 17, 18, 19, 20, 21, 22], [0, 1, 2, 3, 4, 5, 6, 7, 8, 9, 10, 11, 12, 13, 14, 15, 16, 17, 18, 19, 20, 21, 22, 23], [0, 1, 2, 3, 4, 5, 6, 7, 8, 9, 10, 11, 12, 13, 14, 15, 16, 17, 18, 19, 20, 21, 22, 23, 24], [0, 1, 2, 3, 4, 5, 6, 7, 8, 9, 10, 11, 12, 13, 14, 15, 16, 17, 18, 19, 20, 21, 22, 23, 24, 25], [0, 1, 2, 3, 4, 5, 6, 7, 8, 9, 10, 11, 12, 13, 14, 15, 16, 17, 18, 19, 20, 21, 22], [0, 1, 2, 3, 4, 5, 6, 7, 8, 9, 10, 11, 12, 13, 14, 15, 16, 17, 18, 19, 20, 21, 22, 27], [0, 1, 2, 3, 4, 5, 6, 7, 8, 9, 10, 11, 12, 13, 14, 15, 16, 17, 18, 19, 20, 21, 22, 23, 24, 25, 26, 27, 28], [0, 1, 2, 3, 4, 5, 6, 7, 8, 9, 10, 11, 12, 13, 14, 15, 16, 17, 18, 19, 20, 21, 22, 23, 24, 25, 26, 27, 28, 29], [0, 1, 2, 3, 4, 5, 6, 7, 8, 9, 10, 11, 12, 13, 14, 15, 16, 17, 18, 19, 20, 21, 22, 23, 24, 25, 26, 27, 28, 29, 30], [0, 1, 2, 3, 4, 5, 6, 7, 8, 9, 10, 11, 12, 13, 14, 15, 16, 17, 18, 19, 20, 21, 22, 23, 24, 25, 26, 27, 28, 29, 30, 31], [0, 1, 2, 3, 4, 5, 6, 7, 8, 9, 10, 11, 12, 13, 14, 15, 16, 17, 18, 19, 20, 21, 22, 23, 24, 25, 26, 27, 28, 29, 30, 31, 32], [0, 1, 2, 3, 4, 5, 6, 7, 8, 9, 10, 11, 12, 13, 14, 15, 16, 17, 18, 19, 20, 21, 22, 23, 24, 25, 26, 27, 28, 29, 30, 31, 32, 33], [0, 1, 2, 3, 4, 5, 6, 7, 8, 9, 10, 11, 12, 13, 14, 15, 16, 17, 18, 19, 20, 21, 22, 23, 24, 25, 26, 27, 28, 29, 30, 31], [0, 1, 2, 3, 4, 5, 6, 7, 8, 9, 10, 11, 12, 13, 14, 15, 16, 17, 18, 19, 20, 21, 22, 23, 24, 25, 26, 27, 28, 29, 30, 31, 35], [0, 1, 2, 3, 4, 5, 6, 7, 8, 9, 10, 11, 12, 13, 14, 15, 16, 17, 18, 19, 20, 21, 22, 23, 24, 25, 26, 27, 28, 29, 30, 31], [0, 1, 2, 3, 4, 5, 6, 7, 8, 9, 10, 11, 12, 13, 14, 15, 16, 17, 18, 19, 20, 21, 22, 23, 24, 25, 26, 27, 28, 29, 30, 31, 37], [0, 1, 2, 3, 4, 5, 6, 7, 8, 9, 10, 11, 12, 13, 14, 15, 16, 17, 18, 19, 20, 21, 22, 23, 24, 25, 26, 27, 28, 29, 30, 31, 35, 36, 37, 38], [0, 1, 2, 3, 4, 5, 6, 7, 8, 9, 10, 11, 12, 13, 14, 15, 16, 17, 18, 19, 20, 21, 22, 23, 24, 25, 26, 27, 28, 29, 30, 31, 32, 33, 34, 35, 36, 37, 38, 39], [0, 1, 2, 3, 4, 5, 6, 7, 8, 9, 10, 11, 12, 13, 14, 15, 16, 17, 18, 19, 20, 21, 22, 23, 24, 25, 26, 27, 28, 29, 30, 31, 32, 33, 34, 35, 36, 37, 38, 39, 40], [0, 1, 2, 3, 4, 5, 6, 7, 8, 9, 10, 11, 12, 13, 14, 15, 16, 17, 18, 19, 20, 21, 22, 23, 24, 25, 26, 27, 28, 29, 30, 31, 32, 33, 34, 35, 36, 37, 38, 39, 40, 41], [0, 1, 2, 3, 4, 5, 6, 7, 8, 9, 10, 11, 12, 13, 14, 15, 16, 17, 18, 19, 20, 21, 22, 23, 24, 25, 26, 27, 28, 29, 30, 31, 32, 33, 34, 35, 36, 37, 38, 39, 40, 41, 42]] (by kernel_rfl) ?_
  by_cases hz0 : L.length = 0
  · have f4 : decide ((l1.length : Int) = 1) = true := decide_eq_true (by omega)
    simp (maxSteps := 10000000) only [↓wt, wu, wk0, wk1, wk2, wk3, Nat.reduceAdd, Nat.reduceEqDiff, Nat.reduceLeDiff, Nat.reduceLT, Nat.reduceMul, Int.reduceLE, Int.reduceLT, Int.reduceEq, Int.reduceNe, wk4, laidS, keepS, elem_Bs, Bs, f0, f1, f2, f3, f4]
    simp (maxSteps := 10000000) only [↓wt, wu, wk0, wk1, wk2, wk3, Nat.reduceAdd, Nat.reduceEqDiff, Nat.reduceLeDiff, Nat.reduceLT, Nat.reduceMul, Int.reduceLE, Int.reduceLT, Int.reduceEq, Int.reduceNe, wk4, laidS, keepS, elem_Bs, Bs, f0, f1, f2, f3, f4, Tryd.results5]
    exact ⟨by omega, exp_c⟩
  · have f4 : decide ((l1.length : Int) = 1) = false := decide_eq_false (by omega)
    have f6 : 1 < l1.length := by omega
    have f5 : (l1.getD 1 [] == b) = false := beq_eq_false_iff_ne.2 fun h => by
      rw [hl1] at h
      cases L with
      | nil => exact hz0 rfl
      | cons p l' => exact hoth l' (by rw [show p = b from h])
    simp (maxSteps := 10000000) only [↓wt, wu, wk0, wk1, wk2, wk3, Nat.reduceAdd, Nat.reduceEqDiff, Nat.reduceLeDiff, Nat.reduceLT, Nat.reduceMul, Int.reduceLE, Int.reduceLT, Int.reduceEq, Int.reduceNe, wk4, laidS, keepS, elem_Bs, Bs, f0, f1, f2, f3, f4, f5, f6]
    refine ⟨by omega, by omega, (show (1 : Int).toNat < l1.length from f6), ?_⟩
    rw [show (1 : Int).toNat = 1 from rfl]
    simp (maxSteps := 10000000) only [↓wt, wu, wk0, wk1, wk2, wk3, Nat.reduceAdd, Nat.reduceEqDiff, Nat.reduceLeDiff, Nat.reduceLT, Nat.reduceMul, Int.reduceLE, Int.reduceLT, Int.reduceEq, Int.reduceNe, wk4, laidS, keepS, elem_Bs, Bs, f0, f1, f2, f3, f4, f5, f6, Tryd.results5]
    exact exp_c
end Go.Ab
