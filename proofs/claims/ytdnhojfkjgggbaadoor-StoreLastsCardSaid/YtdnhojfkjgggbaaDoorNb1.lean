/- pack.Put: what is put. -/
import Derived.Test.YtdnhojfkjgggbaaDoorTab
import Derived.Test.YtdnhojfkjgggbaaDoorAbG8
import Derived.Test.YtdnhojfkjgggbaaDoorAbG5
set_option linter.unusedSimpArgs false
set_option linter.unusedVariables false
set_option maxRecDepth 100000
namespace Go.Ab
open Go Go.Proofs

/-- A number's bytes. -/
def putL (n : Nat) : List UInt8 := if n < 128 then [UInt8.ofNat n] else UInt8.ofNat (n % 128 + 128) :: putL (n / 128)
theorem putL_low {n : Nat} (h : n < 128) : putL n = [UInt8.ofNat n] := by rw [putL, if_pos h]
theorem putL_high {n : Nat} (h : ¬ n < 128) : putL n = UInt8.ofNat (n % 128 + 128) :: putL (n / 128) := by rw [putL, if_neg h]
theorem putL_len : ∀ (k n : Nat), n < 128 ^ (k + 1) → (putL n).length ≤ k + 1
  | 0, n, h => by rw [putL_low (by simpa using h)]; simp
  | k + 1, n, h => by
    by_cases h1 : n < 128
    · rw [putL_low h1]; simp
    · rw [putL_high h1]
      have : n / 128 < 128 ^ (k + 1) := by
        rw [Nat.div_lt_iff_lt_mul (by decide)]
        rw [Nat.pow_succ] at h; exact h
      have := putL_len k (n / 128) this
      simp; omega
theorem putL_len10 {n : Nat} (h : n < 18446744073709551616) : (putL n).length ≤ 10 := putL_len 9 n (by omega)
theorem or128 (x : BitVec 8) : (x ||| 128#8).toNat = x.toNat % 128 + 128 := by
  revert x; decide
theorem encB_ofNat {k : Nat} (h : k < 256) : encB (UInt8.ofNat k) = .c (.int .u8 k) := by
  simp only [encB, UInt8.toNat_ofNat', Nat.mod_eq_of_lt h]
theorem put_byte (v : Nat) : AV.c (.int .u8 (IntKind.u8.wrap ((BitVec.ofInt IntKind.u8.bits (IntKind.u8.wrap (v : Int)) ||| BitVec.ofInt IntKind.u8.bits 128).toNat : Nat))) = encB (UInt8.ofNat (v % 128 + 128)) := by
  rw [encB_ofNat (by omega)]
  have h := or128 (BitVec.ofInt 8 (IntKind.u8.wrap (v : Int)))
  have h2 : (BitVec.ofInt 8 (IntKind.u8.wrap (v : Int))).toNat = v % 256 := by
    rw [wrap_u8, BitVec.toNat_ofInt]; omega
  rw [h2] at h
  have h3 : (BitVec.ofInt IntKind.u8.bits (IntKind.u8.wrap (v : Int)) ||| BitVec.ofInt IntKind.u8.bits 128).toNat = v % 256 % 128 + 128 := h
  rw [h3, wrap_u8]
  congr 2; omega

def put_I (x : List UInt8 × Nat) : ASt := ⟨[(1, .c (.int .u64 x.2)), (5, .s 0 0 x.1.length)], ⟨[(0, ⟨5, 1, x.1.map encB⟩)], 1⟩, 24⟩
theorem nput_call (l : List UInt8) (n : Nat) (hl : l.length ≤ 1000000000) (hn : n < 18446744073709551616) : PCall Tryd.prog 33 [Bs l, .c (.int .u64 n)] (.o 5 1 ((l ++ putL n).map encB)) := by
  refine pcall_body tabOk Tryd.func33 rfl rfl (by rw [Tryd.ntmps33]; simp) ?_
  simp only [Tryd.ntmps33, Bs]
  simp only [↓wt, wu, wk0, wk1, wk2, wk3, Nat.reduceAdd, Nat.reduceEqDiff, Nat.reduceLeDiff, Nat.reduceLT, Nat.reduceMul, Int.reduceLE, Int.reduceLT, Int.reduceEq, Int.reduceNe, wk4, laidS, keepS]
  have hlen := putL_len10 hn
  refine ⟨by omega, loop_rule tabOk put_I (fun x => x.1 ++ putL x.2 = l ++ putL n ∧ x.2 < 18446744073709551616) (fun x => x.2) (l, n) ⟨rfl, hn⟩ ?_ (fun _ => rfl) ?_⟩
  · simp only [↓wt, wu, wk0, wk1, wk2, wk3, wkf, Nat.reduceAdd, Nat.reduceEqDiff, Nat.reduceLeDiff, Nat.reduceLT, Nat.reduceMul, Int.reduceLE, Int.reduceLT, Int.reduceEq, Int.reduceNe, wk4, laidS, keepS, put_I]
  · rintro ⟨d, v⟩ ⟨h1, h2⟩
    have hd : d.length ≤ l.length + 10 := by
      have := congrArg List.length h1
      simp only [List.length_append] at this
      omega
    simp only [put_I]
    simp only [↓wt, wu, wk0, wk1, wk2, wk3, Nat.reduceAdd, Nat.reduceEqDiff, Nat.reduceLeDiff, Nat.reduceLT, Nat.reduceMul, Int.reduceLE, Int.reduceLT, Int.reduceEq, Int.reduceNe, wk4, laidS, keepS]
    refine r_cases (fun hc => ?_) (fun hc => ?_)
    · simp only [↓wt, wu, wk0, wk1, wk2, wk3, Nat.reduceAdd, Nat.reduceEqDiff, Nat.reduceLeDiff, Nat.reduceLT, Nat.reduceMul, Int.reduceLE, Int.reduceLT, Int.reduceEq, Int.reduceNe, wk4, laidS, keepS]
      have hv : 128 ≤ v := by have := of_decide_eq_true hc; omega
      refine ⟨by omega, (d ++ [UInt8.ofNat (v % 128 + 128)], v / 128), ⟨?_, by omega⟩, by omega, ?_⟩
      · rw [← h1, List.append_assoc]
        simp only [putL_high (Nat.not_lt.2 hv), List.cons_append, List.nil_append]
      · have e : (v : Int).fdiv (2 ^ min (Int.toNat 7) IntKind.u64.bits) = ((v / 128 : Nat) : Int) := shr_nat
        simp only [↓tk2, ↓tk3, ↓tk4, ↓tk5, ↓tk9, ↓tk12, ↓tk21, ↓tk22, ↓tk24, ↓tk29, ↓tk30, ↓tk35, ↓tk36, ↓tk37, ↓tk38, ↓tk45, ↓tk59, ↓tk63, ↓tk73, ↓tk75, ↓tk77, ↓tk79, ↓tk80, ↓tk81, ↓tk84, ↓tk89, ↓tk91, ↓tk93, ↓tk94, ↓tk100, ↓tx2, ↓tx3, ↓tx4, ↓tx5, ↓tx9, ↓tx12, ↓tx21, ↓tx22, ↓tx24, ↓tx29, ↓tx30, ↓tx35, ↓tx36, ↓tx37, ↓tx38, ↓tx45, ↓tx59, ↓tx63, ↓tx73, ↓tx75, ↓tx77, ↓tx79, ↓tx80, ↓tx81, ↓tx84, ↓tx89, ↓tx91, ↓tx93, ↓tx94, ↓tx100, isU8_5, ty2, ty3, ty4, ty5, ty9, ty12, ty21, ty22, ty24, ty29, ty30, ty35, ty36, ty37, ty38, ty45, ty59, ty63, ty73, ty75, ty77, ty79, ty80, ty81, ty84, ty89, ty91, ty93, ty94, ty100, mkSlots, Nat.zero_add, Nat.reduceAdd, r_skip, r_label, r_ret, r_exit, r_region, r_draw, r_seq, r_cond, r_block, r_loop, r_then, r_thenR, r_thenE, r_blockN, r_blockR, r_blockE, r_condT, r_condF, r_nil, r_op, r_opg, r_gS, r_gU, r_gTT, r_gFF, r_gTF, r_gFT, r_set, r_set0, r_setX, r_skS, r_atM, o_move, o_assign, o_pick, o_alloc, o_box, o_build, o_buildSlice, o_load, o_nilCheck, o_bin, o_un, o_conv, o_makeFunc, o_makeSlice, o_slice, o_fieldAddr, o_field, o_indexAddr, o_extract, o_callF, o_callV, o_len, o_append, o_max, o_min, o_store, slK_eq, stK_eq, blkK_sel, selK_eq, elem_0, elem_s, elem_B, ev_tmp, ev_const, ev_func, ev_global, cv_int, cv_bool, cv_string, cv_slice, cv_ptr, Slots.get, Mem.get, assoc, insert, nbeq, nble, cond_true, cond_false, Option.getD_some, Option.getD_none, Option.map_some, Option.map_none, Option.isNone_none, Option.isNone_some, Option.isSome_none, Option.isSome_some, Nat.reduceEqDiff, Nat.reduceLeDiff, Nat.reduceLT, decide_true, decide_false, true_and, and_true, if_true, if_false, List.map_nil, List.map_cons, List.length_nil, List.length_cons, List.range'_zero, List.range'_succ, List.getElem?_toArray, List.getElem?_cons_zero, List.getElem?_cons_succ, Option.bind_some, Nat.reduceMul, sliceK, AllVP, VOkA, VOkC, AllSz, viewP, viewA, viewC, idsP, idsA, idsC, Mem.without, Mem.drop, remove, newMem, Nat.zero_mul, Nat.zero_le, Nat.lt_add_one, Nat.zero_lt_one, appendK, dstK, srcK, List.drop_zero, List.nil_append, List.length_map, Mem.put, Cells, Cell, AllCell, AV.cells, List.append_nil, List.cons_append, convK, intConvK, strConvK, bytesStrK, binK, strBinK, boolBinK, unK, Int.toNat_natCast, List.headD_cons, beq_int, maxK, minK, pickK, extractK, lenK, loadK, storeK, fieldK, fieldVK, idxK, cutK, bnds, bnd, boxK, allocK, zeroAV, part, ibin, ipre, TK.known, TK.agg, Bool.not_true, Bool.not_false, Bool.false_eq_true, thaw, thawLA, thawA, thawC, thawL, blks, blksLA, blksA, blksC, blksL, Mem.adds, retK, resK, oneK, tkAlt, tkAlt2, r_noGotoN, r_noGotoR, r_noGotoE, r_blockF, d_nil, d_op, d_opg, d_free, z_move, z_assign, z_pick, z_unOp, z_extract, z_convert, z_slice, z_field, z_load, z_indexAddr, z_fieldAddr, z_nilCheck, z_binOp, z_call, z_lit, z_set, litK, d_read, d_back, freeOk, readOk, notOwn, NoNil, mem0, cvK, litC, constK, nilCheckK, AllV, List.length_append, str_size, str_append, str_extract, strOf_B, isB_B, str_toList, str_data, mapB_take, mapB_drop, take_drop', Int.toNat_zero, Nat.sub_zero, Int.cast_ofNat_Int, Int.reduceLE, Int.reduceLT, Int.reduceEq, Int.reduceNe, bne_int, beq_self_eq_true, eq_self, imp_self, implies_true, Int.le_refl, Nat.le_refl, List.set_cons_zero, List.set_cons_succ, List.mem_cons, List.not_mem_nil, or_false, forall_eq_or_imp, forall_eq, false_implies, buildK, fillA, AllKnown, splice, mkEl, or_self, or_true, true_or, elem_I, encI_eq, mapI_take, mapI_drop, List.take_zero, List.headD_cons, List.take_succ_cons, List.getD_cons_zero, List.getD_cons_succ, List.drop_succ_cons, r_pin, x_alloc, x_box, x_build, x_buildSlice, x_load, x_conv, x_makeSlice, x_slice, x_append, x_store, x_indexAddr, o_clear, clearK, x_callF, r1_skip, r1_ret, r1_exit, r1_region, r1_loop, r1_scope, r1_seq, r1_cond, r1_block, r1_range, r_callV, r_callB, idx2K_s, idx2K_l, idx2K_g, bldK, arrK, sapK, arK_eq, o_sap, x_sap, r_mkf1, r_mkf2, frz, mapB, frzE, frzC, FOkE, FOk, SOk, BOk, Fits, slFit, memFit, under_c, under_s, under_x, under_p, under_l, underL_nil, underL_B, underL_B1, under_g, under_t, underL_I, underL_cons, List.mem_cons, List.not_mem_nil, or_false, forall_eq_or_imp, forall_eq, AV.cells, put_byte, underL_append, e, mapB_snoc]
    · have hv : v < 128 := by have := of_decide_eq_false hc; omega
      rw [putL_low hv] at h1
      have e : AV.c (.int .u8 (IntKind.u8.wrap (v : Int))) = encB (UInt8.ofNat v) := by
        rw [encB_ofNat (by omega), wrap_u8]; congr 2; omega
      simp only [↓tk2, ↓tk3, ↓tk4, ↓tk5, ↓tk9, ↓tk12, ↓tk21, ↓tk22, ↓tk24, ↓tk29, ↓tk30, ↓tk35, ↓tk36, ↓tk37, ↓tk38, ↓tk45, ↓tk59, ↓tk63, ↓tk73, ↓tk75, ↓tk77, ↓tk79, ↓tk80, ↓tk81, ↓tk84, ↓tk89, ↓tk91, ↓tk93, ↓tk94, ↓tk100, ↓tx2, ↓tx3, ↓tx4, ↓tx5, ↓tx9, ↓tx12, ↓tx21, ↓tx22, ↓tx24, ↓tx29, ↓tx30, ↓tx35, ↓tx36, ↓tx37, ↓tx38, ↓tx45, ↓tx59, ↓tx63, ↓tx73, ↓tx75, ↓tx77, ↓tx79, ↓tx80, ↓tx81, ↓tx84, ↓tx89, ↓tx91, ↓tx93, ↓tx94, ↓tx100, isU8_5, ty2, ty3, ty4, ty5, ty9, ty12, ty21, ty22, ty24, ty29, ty30, ty35, ty36, ty37, ty38, ty45, ty59, ty63, ty73, ty75, ty77, ty79, ty80, ty81, ty84, ty89, ty91, ty93, ty94, ty100, mkSlots, Nat.zero_add, Nat.reduceAdd, r_skip, r_label, r_ret, r_exit, r_region, r_draw, r_seq, r_cond, r_block, r_loop, r_then, r_thenR, r_thenE, r_blockN, r_blockR, r_blockE, r_condT, r_condF, r_nil, r_op, r_opg, r_gS, r_gU, r_gTT, r_gFF, r_gTF, r_gFT, r_set, r_set0, r_setX, r_skS, r_atM, o_move, o_assign, o_pick, o_alloc, o_box, o_build, o_buildSlice, o_load, o_nilCheck, o_bin, o_un, o_conv, o_makeFunc, o_makeSlice, o_slice, o_fieldAddr, o_field, o_indexAddr, o_extract, o_callF, o_callV, o_len, o_append, o_max, o_min, o_store, slK_eq, stK_eq, blkK_sel, selK_eq, elem_0, elem_s, elem_B, ev_tmp, ev_const, ev_func, ev_global, cv_int, cv_bool, cv_string, cv_slice, cv_ptr, Slots.get, Mem.get, assoc, insert, nbeq, nble, cond_true, cond_false, Option.getD_some, Option.getD_none, Option.map_some, Option.map_none, Option.isNone_none, Option.isNone_some, Option.isSome_none, Option.isSome_some, Nat.reduceEqDiff, Nat.reduceLeDiff, Nat.reduceLT, decide_true, decide_false, true_and, and_true, if_true, if_false, List.map_nil, List.map_cons, List.length_nil, List.length_cons, List.range'_zero, List.range'_succ, List.getElem?_toArray, List.getElem?_cons_zero, List.getElem?_cons_succ, Option.bind_some, Nat.reduceMul, sliceK, AllVP, VOkA, VOkC, AllSz, viewP, viewA, viewC, idsP, idsA, idsC, Mem.without, Mem.drop, remove, newMem, Nat.zero_mul, Nat.zero_le, Nat.lt_add_one, Nat.zero_lt_one, appendK, dstK, srcK, List.drop_zero, List.nil_append, List.length_map, Mem.put, Cells, Cell, AllCell, AV.cells, List.append_nil, List.cons_append, convK, intConvK, strConvK, bytesStrK, binK, strBinK, boolBinK, unK, Int.toNat_natCast, List.headD_cons, beq_int, maxK, minK, pickK, extractK, lenK, loadK, storeK, fieldK, fieldVK, idxK, cutK, bnds, bnd, boxK, allocK, zeroAV, part, ibin, ipre, TK.known, TK.agg, Bool.not_true, Bool.not_false, Bool.false_eq_true, thaw, thawLA, thawA, thawC, thawL, blks, blksLA, blksA, blksC, blksL, Mem.adds, retK, resK, oneK, tkAlt, tkAlt2, r_noGotoN, r_noGotoR, r_noGotoE, r_blockF, d_nil, d_op, d_opg, d_free, z_move, z_assign, z_pick, z_unOp, z_extract, z_convert, z_slice, z_field, z_load, z_indexAddr, z_fieldAddr, z_nilCheck, z_binOp, z_call, z_lit, z_set, litK, d_read, d_back, freeOk, readOk, notOwn, NoNil, mem0, cvK, litC, constK, nilCheckK, AllV, List.length_append, str_size, str_append, str_extract, strOf_B, isB_B, str_toList, str_data, mapB_take, mapB_drop, take_drop', Int.toNat_zero, Nat.sub_zero, Int.cast_ofNat_Int, Int.reduceLE, Int.reduceLT, Int.reduceEq, Int.reduceNe, bne_int, beq_self_eq_true, eq_self, imp_self, implies_true, Int.le_refl, Nat.le_refl, List.set_cons_zero, List.set_cons_succ, List.mem_cons, List.not_mem_nil, or_false, forall_eq_or_imp, forall_eq, false_implies, buildK, fillA, AllKnown, splice, mkEl, or_self, or_true, true_or, elem_I, encI_eq, mapI_take, mapI_drop, List.take_zero, List.headD_cons, List.take_succ_cons, List.getD_cons_zero, List.getD_cons_succ, List.drop_succ_cons, r_pin, x_alloc, x_box, x_build, x_buildSlice, x_load, x_conv, x_makeSlice, x_slice, x_append, x_store, x_indexAddr, o_clear, clearK, x_callF, r1_skip, r1_ret, r1_exit, r1_region, r1_loop, r1_scope, r1_seq, r1_cond, r1_block, r1_range, r_callV, r_callB, idx2K_s, idx2K_l, idx2K_g, bldK, arrK, sapK, arK_eq, o_sap, x_sap, r_mkf1, r_mkf2, frz, mapB, frzE, frzC, FOkE, FOk, SOk, BOk, Tryd.results33]
      simp only [e, mapB_snoc, h1]
      exact ⟨by omega, exp_own rfl (by rw [← h1]; simp) (pureB _)⟩
end Go.Ab
