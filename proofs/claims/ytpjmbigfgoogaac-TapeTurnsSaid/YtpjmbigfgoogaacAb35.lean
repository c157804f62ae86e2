/- The rules, in bundles. -/
import Derived.Test.YtpjmbigfgoogaacAb34
set_option maxRecDepth 100000
namespace Go.Ab
open Go Go.RowKit

theorem wk0 :
  ((((((type_of% @Go.Ab.mkSlots.eq_1) ∧ (type_of% @Go.Ab.mkSlots.eq_2)) ∧ ((type_of% @Nat.zero_add) ∧ (type_of% @Go.Ab.r_skip))) ∧ (((type_of% @Go.Ab.r_label) ∧ (type_of% @Go.Ab.r_ret)) ∧ ((type_of% @Go.Ab.r_exit) ∧
 ((type_of% @Go.Ab.r_region) ∧ (type_of% @Go.Ab.r_draw))))) ∧ ((((type_of% @Go.Ab.r_seq) ∧ (type_of% @Go.Ab.r_cond)) ∧ ((type_of% @Go.Ab.r_block) ∧ ((type_of% @Go.Ab.r_loop) ∧ (type_of% @Go.Ab.r_then)))) ∧ (((type_of%
 @Go.Ab.r_thenR) ∧ (type_of% @Go.Ab.r_thenE)) ∧ ((type_of% @Go.Ab.r_blockN) ∧ ((type_of% @Go.Ab.r_blockR) ∧ (type_of% @Go.Ab.r_blockE)))))) ∧ (((((type_of% @Go.Ab.r_condT) ∧ (type_of% @Go.Ab.r_condF)) ∧ ((type_of%
 @Go.Ab.r_nil) ∧ ((type_of% @Go.Ab.r_op) ∧ (type_of% @Go.Ab.r_opg)))) ∧ (((type_of% @Go.Ab.r_gS) ∧ (type_of% @Go.Ab.r_gU)) ∧ ((type_of% @Go.Ab.r_gTT) ∧ ((type_of% @Go.Ab.r_gFF) ∧ (type_of% @Go.Ab.r_gTF))))) ∧ ((((type_of%
 @Go.Ab.r_gFT) ∧ (type_of% @Go.Ab.r_set)) ∧ ((type_of% @Go.Ab.r_set0) ∧ ((type_of% @Go.Ab.r_setX) ∧ (type_of% @Go.Ab.r_skS)))) ∧ (((type_of% @Go.Ab.r_atM) ∧ (type_of% @Go.Ab.o_move)) ∧ ((type_of% @Go.Ab.o_assign) ∧
 ((type_of% @Go.Ab.o_pick) ∧ (type_of% @Go.Ab.o_alloc))))))) ∧ ((((((type_of% @Go.Ab.o_box) ∧ (type_of% @Go.Ab.o_build)) ∧ ((type_of% @Go.Ab.o_buildSlice) ∧ ((type_of% @Go.Ab.o_load) ∧ (type_of% @Go.Ab.o_nilCheck)))) ∧
 (((type_of% @Go.Ab.o_bin) ∧ (type_of% @Go.Ab.o_un)) ∧ ((type_of% @Go.Ab.o_conv) ∧ ((type_of% @Go.Ab.o_makeFunc) ∧ (type_of% @Go.Ab.o_makeSlice))))) ∧ ((((type_of% @Go.Ab.o_slice) ∧ (type_of% @Go.Ab.o_fieldAddr)) ∧
 ((type_of% @Go.Ab.o_field) ∧ ((type_of% @Go.Ab.o_indexAddr) ∧ (type_of% @Go.Ab.o_extract)))) ∧ (((type_of% @Go.Ab.o_callF) ∧ (type_of% @Go.Ab.o_callV)) ∧ ((type_of% @Go.Ab.o_len) ∧ ((type_of% @Go.Ab.o_append) ∧ (type_of%
 @Go.Ab.o_max)))))) ∧ (((((type_of% @Go.Ab.o_min) ∧ (type_of% @Go.Ab.o_store)) ∧ ((type_of% @Go.Ab.slK_eq) ∧ ((type_of% @Go.Ab.stK_eq) ∧ (type_of% @Go.Ab.blkK_sel)))) ∧ (((type_of% @Go.Ab.selK_eq) ∧ (type_of%
 @Go.Ab.elem_0)) ∧ ((type_of% @Go.Ab.elem_s) ∧ ((type_of% @Go.Ab.elem_B) ∧ (type_of% @Go.Ab.ev_tmp))))) ∧ ((((type_of% @Go.Ab.ev_const) ∧ (type_of% @Go.Ab.ev_func)) ∧ ((type_of% @Go.Ab.ev_global) ∧ ((type_of%
 @Go.Ab.cv_int) ∧ (type_of% @Go.Ab.cv_bool)))) ∧ (((type_of% @Go.Ab.cv_string) ∧ (type_of% @Go.Ab.cv_slice)) ∧ ((type_of% @Go.Ab.cv_ptr) ∧ ((type_of% @Go.Ab.Slots.get.eq_1) ∧ (type_of% @Go.Ab.Mem.get.eq_1))))))) :=
⟨⟨⟨⟨⟨⟨@Go.Ab.mkSlots.eq_1, @Go.Ab.mkSlots.eq_2⟩, ⟨@Nat.zero_add, @Go.Ab.r_skip⟩⟩, ⟨⟨@Go.Ab.r_label, @Go.Ab.r_ret⟩, ⟨@Go.Ab.r_exit, ⟨@Go.Ab.r_region, @Go.Ab.r_draw⟩⟩⟩⟩, ⟨⟨⟨@Go.Ab.r_seq, @Go.Ab.r_cond⟩, ⟨@Go.Ab.r_block,
 ⟨@Go.Ab.r_loop, @Go.Ab.r_then⟩⟩⟩, ⟨⟨@Go.Ab.r_thenR, @Go.Ab.r_thenE⟩, ⟨@Go.Ab.r_blockN, ⟨@Go.Ab.r_blockR, @Go.Ab.r_blockE⟩⟩⟩⟩⟩, ⟨⟨⟨⟨@Go.Ab.r_condT, @Go.Ab.r_condF⟩, ⟨@Go.Ab.r_nil, ⟨@Go.Ab.r_op, @Go.Ab.r_opg⟩⟩⟩,
 ⟨⟨@Go.Ab.r_gS, @Go.Ab.r_gU⟩, ⟨@Go.Ab.r_gTT, ⟨@Go.Ab.r_gFF, @Go.Ab.r_gTF⟩⟩⟩⟩, ⟨⟨⟨@Go.Ab.r_gFT, @Go.Ab.r_set⟩, ⟨@Go.Ab.r_set0, ⟨@Go.Ab.r_setX, @Go.Ab.r_skS⟩⟩⟩, ⟨⟨@Go.Ab.r_atM, @Go.Ab.o_move⟩, ⟨@Go.Ab.o_assign,
 ⟨@Go.Ab.o_pick, @Go.Ab.o_alloc⟩⟩⟩⟩⟩⟩, ⟨⟨⟨⟨⟨@Go.Ab.o_box, @Go.Ab.o_build⟩, ⟨@Go.Ab.o_buildSlice, ⟨@Go.Ab.o_load, @Go.Ab.o_nilCheck⟩⟩⟩, ⟨⟨@Go.Ab.o_bin, @Go.Ab.o_un⟩, ⟨@Go.Ab.o_conv, ⟨@Go.Ab.o_makeFunc,
 @Go.Ab.o_makeSlice⟩⟩⟩⟩, ⟨⟨⟨@Go.Ab.o_slice, @Go.Ab.o_fieldAddr⟩, ⟨@Go.Ab.o_field, ⟨@Go.Ab.o_indexAddr, @Go.Ab.o_extract⟩⟩⟩, ⟨⟨@Go.Ab.o_callF, @Go.Ab.o_callV⟩, ⟨@Go.Ab.o_len, ⟨@Go.Ab.o_append, @Go.Ab.o_max⟩⟩⟩⟩⟩,
 ⟨⟨⟨⟨@Go.Ab.o_min, @Go.Ab.o_store⟩, ⟨@Go.Ab.slK_eq, ⟨@Go.Ab.stK_eq, @Go.Ab.blkK_sel⟩⟩⟩, ⟨⟨@Go.Ab.selK_eq, @Go.Ab.elem_0⟩, ⟨@Go.Ab.elem_s, ⟨@Go.Ab.elem_B, @Go.Ab.ev_tmp⟩⟩⟩⟩, ⟨⟨⟨@Go.Ab.ev_const, @Go.Ab.ev_func⟩,
 ⟨@Go.Ab.ev_global, ⟨@Go.Ab.cv_int, @Go.Ab.cv_bool⟩⟩⟩, ⟨⟨@Go.Ab.cv_string, @Go.Ab.cv_slice⟩, ⟨@Go.Ab.cv_ptr, ⟨@Go.Ab.Slots.get.eq_1, @Go.Ab.Mem.get.eq_1⟩⟩⟩⟩⟩⟩⟩
theorem wk1 :
  (((((((type_of% @Go.Ab.assoc.eq_1) ∧ (type_of% @Go.Ab.assoc.eq_2)) ∧ ((type_of% @Go.Ab.insert.eq_1) ∧ (type_of% @Go.Ab.insert.eq_2))) ∧ (((type_of% @Go.Ab.nbeq) ∧ (type_of% @Go.Ab.nble)) ∧ ((type_of% @cond_true.{1}) ∧
 (type_of% @cond_false.{1})))) ∧ ((((type_of% @Option.getD_some.{0}) ∧ (type_of% @Option.getD_none.{0})) ∧ ((type_of% @Option.map_some.{0, 0}) ∧ (type_of% @Option.map_none.{0, 0}))) ∧ (((type_of% @Option.isNone_none.{0})
 ∧ (type_of% @Option.isNone_some.{0})) ∧ ((type_of% @Option.isSome_none.{0}) ∧ (type_of% @Option.isSome_some.{0}))))) ∧ (((((type_of% @decide_true) ∧ (type_of% @decide_false)) ∧ ((type_of% @true_and) ∧ (type_of%
 @and_true))) ∧ (((type_of% @if_true.{1}) ∧ (type_of% @if_false.{1})) ∧ ((type_of% @List.map_nil.{0, 0}) ∧ (type_of% @List.map_cons.{0, 0})))) ∧ ((((type_of% @List.length_nil.{0}) ∧ (type_of% @List.length_cons.{0})) ∧
 ((type_of% @List.range'_zero) ∧ (type_of% @List.range'_succ))) ∧ (((type_of% @List.getElem?_toArray.{0}) ∧ (type_of% @List.getElem?_cons_zero.{0})) ∧ ((type_of% @List.getElem?_cons_succ.{0}) ∧ (type_of%
 @Option.bind_some.{0, 0})))))) ∧ ((((((type_of% @Go.Ab.sliceK.eq_1) ∧ (type_of% @Go.Ab.AllVP.eq_1)) ∧ ((type_of% @Go.Ab.AllVP.eq_2) ∧ (type_of% @Go.Ab.VOkA.eq_1))) ∧ (((type_of% @Go.Ab.VOkA.eq_2) ∧ (type_of%
 @Go.Ab.VOkC.eq_1)) ∧ ((type_of% @Go.Ab.VOkC.eq_2) ∧ (type_of% @Go.Ab.VOkC.eq_3)))) ∧ ((((type_of% @Go.Ab.AllSz.eq_1) ∧ (type_of% @Go.Ab.AllSz.eq_2)) ∧ ((type_of% @Go.Ab.viewP.eq_1) ∧ (type_of% @Go.Ab.viewP.eq_2))) ∧
 (((type_of% @Go.Ab.viewA.eq_1) ∧ (type_of% @Go.Ab.viewA.eq_2)) ∧ ((type_of% @Go.Ab.viewC.eq_1) ∧ (type_of% @Go.Ab.viewC.eq_2))))) ∧ (((((type_of% @Go.Ab.idsP.eq_1) ∧ (type_of% @Go.Ab.idsP.eq_2)) ∧ ((type_of%
 @Go.Ab.idsA.eq_1) ∧ (type_of% @Go.Ab.idsA.eq_2))) ∧ (((type_of% @Go.Ab.idsC.eq_1) ∧ (type_of% @Go.Ab.idsC.eq_2)) ∧ ((type_of% @Go.Ab.Mem.without.eq_1) ∧ (type_of% @Go.Ab.Mem.without.eq_2)))) ∧ ((((type_of%
 @Go.Ab.Mem.drop.eq_1) ∧ (type_of% @Go.Ab.remove.eq_1)) ∧ ((type_of% @Go.Ab.remove.eq_2) ∧ (type_of% @Go.Ab.newMem.eq_1))) ∧ (((type_of% @Nat.zero_mul) ∧ (type_of% @Nat.zero_le)) ∧ ((type_of% @Nat.lt_add_one) ∧ ((type_of%
 @Nat.zero_lt_one) ∧ (type_of% @Go.Ab.appendK.eq_1)))))))) ∧ (((((((type_of% @Go.Ab.dstK.eq_1) ∧ (type_of% @Go.Ab.dstK.eq_2)) ∧ ((type_of% @Go.Ab.dstK.eq_3) ∧ (type_of% @Go.Ab.srcK.eq_1))) ∧ (((type_of% @Go.Ab.srcK.eq_2)
 ∧ (type_of% @Go.Ab.srcK.eq_3)) ∧ ((type_of% @Go.Ab.srcK.eq_4) ∧ (type_of% @Go.Ab.srcK.eq_5)))) ∧ ((((type_of% @List.drop_zero.{0}) ∧ (type_of% @List.nil_append.{0})) ∧ ((type_of% @List.length_map.{0, 0}) ∧ (type_of%
 @Go.Ab.Mem.put.eq_1))) ∧ (((type_of% @Go.Ab.Cells.eq_1) ∧ (type_of% @Go.Ab.Cells.eq_2)) ∧ ((type_of% @Go.Ab.Cell.eq_1) ∧ (type_of% @Go.Ab.Cell.eq_2))))) ∧ (((((type_of% @Go.Ab.Cell.eq_3) ∧ (type_of% @Go.Ab.Cell.eq_4)) ∧
 ((type_of% @Go.Ab.Cell.eq_5) ∧ (type_of% @Go.Ab.Cell.eq_6))) ∧ (((type_of% @Go.Ab.Cell.eq_7) ∧ (type_of% @Go.Ab.AllCell.eq_1)) ∧ ((type_of% @Go.Ab.AllCell.eq_2) ∧ (type_of% @Go.Ab.AV.cells.eq_1)))) ∧ ((((type_of%
 @Go.Ab.AV.cells.eq_2) ∧ (type_of% @List.append_nil.{0})) ∧ ((type_of% @List.cons_append.{0}) ∧ (type_of% @Go.Ab.convK.eq_1))) ∧ (((type_of% @Go.Ab.convK.eq_2) ∧ (type_of% @Go.Ab.convK.eq_3)) ∧ ((type_of%
 @Go.Ab.intConvK.eq_1) ∧ ((type_of% @Go.Ab.intConvK.eq_2) ∧ (type_of% @Go.Ab.strConvK.eq_1))))))) ∧ ((((((type_of% @Go.Ab.strConvK.eq_2) ∧ (type_of% @Go.Ab.strConvK.eq_3)) ∧ ((type_of% @Go.Ab.bytesStrK.eq_1) ∧ (type_of%
 @Go.Ab.bytesStrK.eq_2))) ∧ (((type_of% @Go.Ab.binK.eq_1) ∧ (type_of% @Go.Ab.binK.eq_2)) ∧ ((type_of% @Go.Ab.binK.eq_3) ∧ (type_of% @Go.Ab.binK.eq_4)))) ∧ ((((type_of% @Go.Ab.binK.eq_5) ∧ (type_of% @Go.Ab.binK.eq_6)) ∧
 ((type_of% @Go.Ab.binK.eq_7) ∧ (type_of% @Go.Ab.binK.eq_8))) ∧ (((type_of% @Go.Ab.strBinK.eq_1) ∧ (type_of% @Go.Ab.strBinK.eq_2)) ∧ ((type_of% @Go.Ab.strBinK.eq_3) ∧ (type_of% @Go.Ab.strBinK.eq_4))))) ∧ (((((type_of%
 @Go.Ab.strBinK.eq_5) ∧ (type_of% @Go.Ab.boolBinK.eq_1)) ∧ ((type_of% @Go.Ab.boolBinK.eq_2) ∧ (type_of% @Go.Ab.boolBinK.eq_3))) ∧ (((type_of% @Go.Ab.unK.eq_1) ∧ (type_of% @Go.Ab.unK.eq_2)) ∧ ((type_of% @Go.Ab.unK.eq_3) ∧
 (type_of% @Go.Ab.unK.eq_4)))) ∧ ((((type_of% @Go.Ab.unK.eq_5) ∧ (type_of% @Go.Ab.unK.eq_6)) ∧ ((type_of% @Int.toNat_natCast) ∧ (type_of% @List.headD_cons.{0}))) ∧ (((type_of% @Go.Ab.beq_int) ∧ (type_of%
 @Go.Ab.maxK.eq_1)) ∧ ((type_of% @Go.Ab.maxK.eq_2) ∧ ((type_of% @Go.Ab.minK.eq_1) ∧ (type_of% @Go.Ab.minK.eq_2)))))))) :=
⟨⟨⟨⟨⟨⟨⟨@Go.Ab.assoc.eq_1, @Go.Ab.assoc.eq_2⟩, ⟨@Go.Ab.insert.eq_1, @Go.Ab.insert.eq_2⟩⟩, ⟨⟨@Go.Ab.nbeq, @Go.Ab.nble⟩, ⟨@cond_true.{1}, @cond_false.{1}⟩⟩⟩, ⟨⟨⟨@Option.getD_some.{0}, @Option.getD_none.{0}⟩,
 ⟨@Option.map_some.{0, 0}, @Option.map_none.{0, 0}⟩⟩, ⟨⟨@Option.isNone_none.{0}, @Option.isNone_some.{0}⟩, ⟨@Option.isSome_none.{0}, @Option.isSome_some.{0}⟩⟩⟩⟩, ⟨⟨⟨⟨@decide_true, @decide_false⟩, ⟨@true_and, @and_true⟩⟩,
 ⟨⟨@if_true.{1}, @if_false.{1}⟩, ⟨@List.map_nil.{0, 0}, @List.map_cons.{0, 0}⟩⟩⟩, ⟨⟨⟨@List.length_nil.{0}, @List.length_cons.{0}⟩, ⟨@List.range'_zero, @List.range'_succ⟩⟩, ⟨⟨@List.getElem?_toArray.{0},
 @List.getElem?_cons_zero.{0}⟩, ⟨@List.getElem?_cons_succ.{0}, @Option.bind_some.{0, 0}⟩⟩⟩⟩⟩, ⟨⟨⟨⟨⟨@Go.Ab.sliceK.eq_1, @Go.Ab.AllVP.eq_1⟩, ⟨@Go.Ab.AllVP.eq_2, @Go.Ab.VOkA.eq_1⟩⟩, ⟨⟨@Go.Ab.VOkA.eq_2, @Go.Ab.VOkC.eq_1⟩,
 ⟨@Go.Ab.VOkC.eq_2, @Go.Ab.VOkC.eq_3⟩⟩⟩, ⟨⟨⟨@Go.Ab.AllSz.eq_1, @Go.Ab.AllSz.eq_2⟩, ⟨@Go.Ab.viewP.eq_1, @Go.Ab.viewP.eq_2⟩⟩, ⟨⟨@Go.Ab.viewA.eq_1, @Go.Ab.viewA.eq_2⟩, ⟨@Go.Ab.viewC.eq_1, @Go.Ab.viewC.eq_2⟩⟩⟩⟩,
 ⟨⟨⟨⟨@Go.Ab.idsP.eq_1, @Go.Ab.idsP.eq_2⟩, ⟨@Go.Ab.idsA.eq_1, @Go.Ab.idsA.eq_2⟩⟩, ⟨⟨@Go.Ab.idsC.eq_1, @Go.Ab.idsC.eq_2⟩, ⟨@Go.Ab.Mem.without.eq_1, @Go.Ab.Mem.without.eq_2⟩⟩⟩, ⟨⟨⟨@Go.Ab.Mem.drop.eq_1, @Go.Ab.remove.eq_1⟩,
 ⟨@Go.Ab.remove.eq_2, @Go.Ab.newMem.eq_1⟩⟩, ⟨⟨@Nat.zero_mul, @Nat.zero_le⟩, ⟨@Nat.lt_add_one, ⟨@Nat.zero_lt_one, @Go.Ab.appendK.eq_1⟩⟩⟩⟩⟩⟩⟩, ⟨⟨⟨⟨⟨⟨@Go.Ab.dstK.eq_1, @Go.Ab.dstK.eq_2⟩, ⟨@Go.Ab.dstK.eq_3,
 @Go.Ab.srcK.eq_1⟩⟩, ⟨⟨@Go.Ab.srcK.eq_2, @Go.Ab.srcK.eq_3⟩, ⟨@Go.Ab.srcK.eq_4, @Go.Ab.srcK.eq_5⟩⟩⟩, ⟨⟨⟨@List.drop_zero.{0}, @List.nil_append.{0}⟩, ⟨@List.length_map.{0, 0}, @Go.Ab.Mem.put.eq_1⟩⟩, ⟨⟨@Go.Ab.Cells.eq_1,
 @Go.Ab.Cells.eq_2⟩, ⟨@Go.Ab.Cell.eq_1, @Go.Ab.Cell.eq_2⟩⟩⟩⟩, ⟨⟨⟨⟨@Go.Ab.Cell.eq_3, @Go.Ab.Cell.eq_4⟩, ⟨@Go.Ab.Cell.eq_5, @Go.Ab.Cell.eq_6⟩⟩, ⟨⟨@Go.Ab.Cell.eq_7, @Go.Ab.AllCell.eq_1⟩, ⟨@Go.Ab.AllCell.eq_2,
 @Go.Ab.AV.cells.eq_1⟩⟩⟩, ⟨⟨⟨@Go.Ab.AV.cells.eq_2, @List.append_nil.{0}⟩, ⟨@List.cons_append.{0}, @Go.Ab.convK.eq_1⟩⟩, ⟨⟨@Go.Ab.convK.eq_2, @Go.Ab.convK.eq_3⟩, ⟨@Go.Ab.intConvK.eq_1, ⟨@Go.Ab.intConvK.eq_2,
 @Go.Ab.strConvK.eq_1⟩⟩⟩⟩⟩⟩, ⟨⟨⟨⟨⟨@Go.Ab.strConvK.eq_2, @Go.Ab.strConvK.eq_3⟩, ⟨@Go.Ab.bytesStrK.eq_1, @Go.Ab.bytesStrK.eq_2⟩⟩, ⟨⟨@Go.Ab.binK.eq_1, @Go.Ab.binK.eq_2⟩, ⟨@Go.Ab.binK.eq_3, @Go.Ab.binK.eq_4⟩⟩⟩,
 ⟨⟨⟨@Go.Ab.binK.eq_5, @Go.Ab.binK.eq_6⟩, ⟨@Go.Ab.binK.eq_7, @Go.Ab.binK.eq_8⟩⟩, ⟨⟨@Go.Ab.strBinK.eq_1, @Go.Ab.strBinK.eq_2⟩, ⟨@Go.Ab.strBinK.eq_3, @Go.Ab.strBinK.eq_4⟩⟩⟩⟩, ⟨⟨⟨⟨@Go.Ab.strBinK.eq_5, @Go.Ab.boolBinK.eq_1⟩,
 ⟨@Go.Ab.boolBinK.eq_2, @Go.Ab.boolBinK.eq_3⟩⟩, ⟨⟨@Go.Ab.unK.eq_1, @Go.Ab.unK.eq_2⟩, ⟨@Go.Ab.unK.eq_3, @Go.Ab.unK.eq_4⟩⟩⟩, ⟨⟨⟨@Go.Ab.unK.eq_5, @Go.Ab.unK.eq_6⟩, ⟨@Int.toNat_natCast, @List.headD_cons.{0}⟩⟩,
 ⟨⟨@Go.Ab.beq_int, @Go.Ab.maxK.eq_1⟩, ⟨@Go.Ab.maxK.eq_2, ⟨@Go.Ab.minK.eq_1, @Go.Ab.minK.eq_2⟩⟩⟩⟩⟩⟩⟩⟩
theorem wk2 :
  (((((((type_of% @Go.Ab.pickK.eq_1) ∧ (type_of% @Go.Ab.pickK.eq_2)) ∧ ((type_of% @Go.Ab.extractK.eq_1) ∧ ((type_of% @Go.Ab.extractK.eq_2) ∧ (type_of% @Go.Ab.lenK.eq_1)))) ∧ (((type_of% @Go.Ab.lenK.eq_2) ∧ (type_of%
 @Go.Ab.lenK.eq_3)) ∧ ((type_of% @Go.Ab.lenK.eq_4) ∧ ((type_of% @Go.Ab.lenK.eq_5) ∧ (type_of% @Go.Ab.loadK.eq_1))))) ∧ ((((type_of% @Go.Ab.loadK.eq_2) ∧ (type_of% @Go.Ab.loadK.eq_3)) ∧ ((type_of% @Go.Ab.storeK.eq_1) ∧
 ((type_of% @Go.Ab.storeK.eq_2) ∧ (type_of% @Go.Ab.fieldK.eq_1)))) ∧ (((type_of% @Go.Ab.fieldK.eq_2) ∧ (type_of% @Go.Ab.fieldK.eq_3)) ∧ ((type_of% @Go.Ab.fieldVK.eq_1) ∧ ((type_of% @Go.Ab.fieldVK.eq_2) ∧ (type_of%
 @Go.Ab.idxK.eq_1)))))) ∧ (((((type_of% @Go.Ab.idxK.eq_2) ∧ (type_of% @Go.Ab.idxK.eq_3)) ∧ ((type_of% @Go.Ab.cutK.eq_1) ∧ ((type_of% @Go.Ab.cutK.eq_2) ∧ (type_of% @Go.Ab.cutK.eq_3)))) ∧ (((type_of% @Go.Ab.cutK.eq_4) ∧
 (type_of% @Go.Ab.cutK.eq_5)) ∧ ((type_of% @Go.Ab.cutK.eq_6) ∧ ((type_of% @Go.Ab.cutK.eq_7) ∧ (type_of% @Go.Ab.cutK.eq_8))))) ∧ ((((type_of% @Go.Ab.cutK.eq_9) ∧ (type_of% @Go.Ab.bnds.eq_1)) ∧ ((type_of% @Go.Ab.bnd.eq_1) ∧
 ((type_of% @Go.Ab.bnd.eq_2) ∧ (type_of% @Go.Ab.bnd.eq_3)))) ∧ (((type_of% @Go.Ab.boxK.eq_1) ∧ ((type_of% @Go.Ab.allocK.eq_1) ∧ (type_of% @Go.Ab.zeroAV.eq_1))) ∧ ((type_of% @Go.Ab.part.eq_1) ∧ ((type_of% @Go.Ab.ibin.eq_1)
 ∧ (type_of% @Go.Ab.ibin.eq_2))))))) ∧ ((((((type_of% @Go.Ab.ibin.eq_3) ∧ (type_of% @Go.Ab.ibin.eq_4)) ∧ ((type_of% @Go.Ab.ibin.eq_5) ∧ ((type_of% @Go.Ab.ibin.eq_6) ∧ (type_of% @Go.Ab.ibin.eq_7)))) ∧ (((type_of%
 @Go.Ab.ibin.eq_8) ∧ (type_of% @Go.Ab.ibin.eq_9)) ∧ ((type_of% @Go.Ab.ibin.eq_10) ∧ ((type_of% @Go.Ab.ibin.eq_11) ∧ (type_of% @Go.Ab.ibin.eq_12))))) ∧ ((((type_of% @Go.Ab.ibin.eq_13) ∧ (type_of% @Go.Ab.ibin.eq_14)) ∧
 ((type_of% @Go.Ab.ibin.eq_15) ∧ ((type_of% @Go.Ab.ibin.eq_16) ∧ (type_of% @Go.Ab.ibin.eq_17)))) ∧ (((type_of% @Go.Ab.ipre.eq_1) ∧ ((type_of% @Go.Ab.ipre.eq_2) ∧ (type_of% @Go.Ab.ipre.eq_3))) ∧ ((type_of%
 @Go.Ab.ipre.eq_4) ∧ ((type_of% @Go.Ab.ipre.eq_5) ∧ (type_of% @Go.Ab.TK.known.eq_1)))))) ∧ (((((type_of% @Go.Ab.TK.known.eq_2) ∧ (type_of% @Go.Ab.TK.agg.eq_1)) ∧ ((type_of% @Go.Ab.TK.agg.eq_2) ∧ ((type_of%
 @Go.Ab.TK.agg.eq_3) ∧ (type_of% @Bool.not_true)))) ∧ (((type_of% @Bool.not_false) ∧ (type_of% @Bool.false_eq_true)) ∧ ((type_of% @Go.Ab.thaw.eq_1) ∧ ((type_of% @Go.Ab.thaw.eq_2) ∧ (type_of% @Go.Ab.thawLA.eq_1))))) ∧
 ((((type_of% @Go.Ab.thawLA.eq_2) ∧ (type_of% @Go.Ab.thawA.eq_1)) ∧ ((type_of% @Go.Ab.thawA.eq_2) ∧ ((type_of% @Go.Ab.thawC.eq_1) ∧ (type_of% @Go.Ab.thawC.eq_2)))) ∧ (((type_of% @Go.Ab.thawL.eq_1) ∧ ((type_of%
 @Go.Ab.thawL.eq_2) ∧ (type_of% @Go.Ab.blks.eq_1))) ∧ ((type_of% @Go.Ab.blks.eq_2) ∧ ((type_of% @Go.Ab.blksLA.eq_1) ∧ (type_of% @Go.Ab.blksLA.eq_2)))))))) ∧ (((((((type_of% @Go.Ab.blksA.eq_1) ∧ (type_of%
 @Go.Ab.blksA.eq_2)) ∧ ((type_of% @Go.Ab.blksC.eq_1) ∧ ((type_of% @Go.Ab.blksC.eq_2) ∧ (type_of% @Go.Ab.blksL.eq_1)))) ∧ (((type_of% @Go.Ab.blksL.eq_2) ∧ (type_of% @Go.Ab.Mem.adds.eq_1)) ∧ ((type_of% @Go.Ab.Mem.adds.eq_2)
 ∧ ((type_of% @Go.Ab.retK.eq_1) ∧ (type_of% @Go.Ab.retK.eq_2))))) ∧ ((((type_of% @Go.Ab.retK.eq_3) ∧ (type_of% @Go.Ab.resK.eq_1)) ∧ ((type_of% @Go.Ab.resK.eq_2) ∧ ((type_of% @Go.Ab.resK.eq_3) ∧ (type_of%
 @Go.Ab.oneK.eq_1)))) ∧ (((type_of% @Go.Ab.oneK.eq_2) ∧ (type_of% @Go.Ab.tkAlt)) ∧ ((type_of% @Go.Ab.tkAlt2) ∧ ((type_of% @Go.Ab.r_noGotoN) ∧ (type_of% @Go.Ab.r_noGotoR)))))) ∧ (((((type_of% @Go.Ab.r_noGotoE) ∧ (type_of%
 @Go.Ab.r_blockF)) ∧ ((type_of% @Go.Ab.d_nil) ∧ ((type_of% @Go.Ab.d_op) ∧ (type_of% @Go.Ab.d_opg)))) ∧ (((type_of% @Go.Ab.d_free) ∧ (type_of% @Go.Ab.z_move)) ∧ ((type_of% @Go.Ab.z_assign) ∧ ((type_of% @Go.Ab.z_pick) ∧
 (type_of% @Go.Ab.z_unOp))))) ∧ ((((type_of% @Go.Ab.z_extract) ∧ (type_of% @Go.Ab.z_convert)) ∧ ((type_of% @Go.Ab.z_slice) ∧ ((type_of% @Go.Ab.z_field) ∧ (type_of% @Go.Ab.z_load)))) ∧ (((type_of% @Go.Ab.z_indexAddr) ∧
 ((type_of% @Go.Ab.z_fieldAddr) ∧ (type_of% @Go.Ab.z_nilCheck))) ∧ ((type_of% @Go.Ab.z_binOp) ∧ ((type_of% @Go.Ab.z_call) ∧ (type_of% @Go.Ab.z_lit))))))) ∧ ((((((type_of% @Go.Ab.z_set) ∧ (type_of% @Go.Ab.litK.eq_1)) ∧
 ((type_of% @Go.Ab.d_read) ∧ ((type_of% @Go.Ab.d_back) ∧ (type_of% @Go.Ab.freeOk.eq_1)))) ∧ (((type_of% @Go.Ab.freeOk.eq_2) ∧ (type_of% @Go.Ab.freeOk.eq_3)) ∧ ((type_of% @Go.Ab.freeOk.eq_4) ∧ ((type_of%
 @Go.Ab.freeOk.eq_5) ∧ (type_of% @Go.Ab.freeOk.eq_6))))) ∧ ((((type_of% @Go.Ab.freeOk.eq_7) ∧ (type_of% @Go.Ab.freeOk.eq_8)) ∧ ((type_of% @Go.Ab.freeOk.eq_9) ∧ ((type_of% @Go.Ab.freeOk.eq_10) ∧ (type_of%
 @Go.Ab.freeOk.eq_11)))) ∧ (((type_of% @Go.Ab.freeOk.eq_12) ∧ ((type_of% @Go.Ab.freeOk.eq_13) ∧ (type_of% @Go.Ab.freeOk.eq_14))) ∧ ((type_of% @Go.Ab.freeOk.eq_15) ∧ ((type_of% @Go.Ab.readOk.eq_1) ∧ (type_of%
 @Go.Ab.readOk.eq_2)))))) ∧ (((((type_of% @Go.Ab.readOk.eq_3) ∧ (type_of% @Go.Ab.notOwn.eq_1)) ∧ ((type_of% @Go.Ab.notOwn.eq_2) ∧ ((type_of% @Go.Ab.NoNil.eq_1) ∧ (type_of% @Go.Ab.NoNil.eq_2)))) ∧ (((type_of%
 @Go.Ab.mem0.eq_1) ∧ (type_of% @Go.Ab.cvK.eq_1)) ∧ ((type_of% @Go.Ab.litC.eq_1) ∧ ((type_of% @Go.Ab.litC.eq_2) ∧ (type_of% @Go.Ab.constK.eq_1))))) ∧ ((((type_of% @Go.Ab.constK.eq_2) ∧ (type_of% @Go.Ab.nilCheckK.eq_1)) ∧
 ((type_of% @Go.Ab.nilCheckK.eq_2) ∧ ((type_of% @Go.Ab.nilCheckK.eq_3) ∧ (type_of% @Go.Ab.nilCheckK.eq_4)))) ∧ (((type_of% @Go.Ab.AllV.eq_1) ∧ ((type_of% @Go.Ab.AllV.eq_2) ∧ (type_of% @List.length_append.{0}))) ∧
 ((type_of% @Go.Ab.encB_toInt) ∧ ((type_of% @Go.Ab.str_size) ∧ (type_of% @Go.Ab.str_append)))))))) :=
⟨⟨⟨⟨⟨⟨⟨@Go.Ab.pickK.eq_1, @Go.Ab.pickK.eq_2⟩, ⟨@Go.Ab.extractK.eq_1, ⟨@Go.Ab.extractK.eq_2, @Go.Ab.lenK.eq_1⟩⟩⟩, ⟨⟨@Go.Ab.lenK.eq_2, @Go.Ab.lenK.eq_3⟩, ⟨@Go.Ab.lenK.eq_4, ⟨@Go.Ab.lenK.eq_5, @Go.Ab.loadK.eq_1⟩⟩⟩⟩,
 ⟨⟨⟨@Go.Ab.loadK.eq_2, @Go.Ab.loadK.eq_3⟩, ⟨@Go.Ab.storeK.eq_1, ⟨@Go.Ab.storeK.eq_2, @Go.Ab.fieldK.eq_1⟩⟩⟩, ⟨⟨@Go.Ab.fieldK.eq_2, @Go.Ab.fieldK.eq_3⟩, ⟨@Go.Ab.fieldVK.eq_1, ⟨@Go.Ab.fieldVK.eq_2, @Go.Ab.idxK.eq_1⟩⟩⟩⟩⟩,
 ⟨⟨⟨⟨@Go.Ab.idxK.eq_2, @Go.Ab.idxK.eq_3⟩, ⟨@Go.Ab.cutK.eq_1, ⟨@Go.Ab.cutK.eq_2, @Go.Ab.cutK.eq_3⟩⟩⟩, ⟨⟨@Go.Ab.cutK.eq_4, @Go.Ab.cutK.eq_5⟩, ⟨@Go.Ab.cutK.eq_6, ⟨@Go.Ab.cutK.eq_7, @Go.Ab.cutK.eq_8⟩⟩⟩⟩, ⟨⟨⟨@Go.Ab.cutK.eq_9,
 @Go.Ab.bnds.eq_1⟩, ⟨@Go.Ab.bnd.eq_1, ⟨@Go.Ab.bnd.eq_2, @Go.Ab.bnd.eq_3⟩⟩⟩, ⟨⟨@Go.Ab.boxK.eq_1, ⟨@Go.Ab.allocK.eq_1, @Go.Ab.zeroAV.eq_1⟩⟩, ⟨@Go.Ab.part.eq_1, ⟨@Go.Ab.ibin.eq_1, @Go.Ab.ibin.eq_2⟩⟩⟩⟩⟩⟩,
 ⟨⟨⟨⟨⟨@Go.Ab.ibin.eq_3, @Go.Ab.ibin.eq_4⟩, ⟨@Go.Ab.ibin.eq_5, ⟨@Go.Ab.ibin.eq_6, @Go.Ab.ibin.eq_7⟩⟩⟩, ⟨⟨@Go.Ab.ibin.eq_8, @Go.Ab.ibin.eq_9⟩, ⟨@Go.Ab.ibin.eq_10, ⟨@Go.Ab.ibin.eq_11, @Go.Ab.ibin.eq_12⟩⟩⟩⟩,
 ⟨⟨⟨@Go.Ab.ibin.eq_13, @Go.Ab.ibin.eq_14⟩, ⟨@Go.Ab.ibin.eq_15, ⟨@Go.Ab.ibin.eq_16, @Go.Ab.ibin.eq_17⟩⟩⟩, ⟨⟨@Go.Ab.ipre.eq_1, ⟨@Go.Ab.ipre.eq_2, @Go.Ab.ipre.eq_3⟩⟩, ⟨@Go.Ab.ipre.eq_4, ⟨@Go.Ab.ipre.eq_5,
 @Go.Ab.TK.known.eq_1⟩⟩⟩⟩⟩, ⟨⟨⟨⟨@Go.Ab.TK.known.eq_2, @Go.Ab.TK.agg.eq_1⟩, ⟨@Go.Ab.TK.agg.eq_2, ⟨@Go.Ab.TK.agg.eq_3, @Bool.not_true⟩⟩⟩, ⟨⟨@Bool.not_false, @Bool.false_eq_true⟩, ⟨@Go.Ab.thaw.eq_1, ⟨@Go.Ab.thaw.eq_2,
 @Go.Ab.thawLA.eq_1⟩⟩⟩⟩, ⟨⟨⟨@Go.Ab.thawLA.eq_2, @Go.Ab.thawA.eq_1⟩, ⟨@Go.Ab.thawA.eq_2, ⟨@Go.Ab.thawC.eq_1, @Go.Ab.thawC.eq_2⟩⟩⟩, ⟨⟨@Go.Ab.thawL.eq_1, ⟨@Go.Ab.thawL.eq_2, @Go.Ab.blks.eq_1⟩⟩, ⟨@Go.Ab.blks.eq_2,
 ⟨@Go.Ab.blksLA.eq_1, @Go.Ab.blksLA.eq_2⟩⟩⟩⟩⟩⟩⟩, ⟨⟨⟨⟨⟨⟨@Go.Ab.blksA.eq_1, @Go.Ab.blksA.eq_2⟩, ⟨@Go.Ab.blksC.eq_1, ⟨@Go.Ab.blksC.eq_2, @Go.Ab.blksL.eq_1⟩⟩⟩, ⟨⟨@Go.Ab.blksL.eq_2, @Go.Ab.Mem.adds.eq_1⟩,
 ⟨@Go.Ab.Mem.adds.eq_2, ⟨@Go.Ab.retK.eq_1, @Go.Ab.retK.eq_2⟩⟩⟩⟩, ⟨⟨⟨@Go.Ab.retK.eq_3, @Go.Ab.resK.eq_1⟩, ⟨@Go.Ab.resK.eq_2, ⟨@Go.Ab.resK.eq_3, @Go.Ab.oneK.eq_1⟩⟩⟩, ⟨⟨@Go.Ab.oneK.eq_2, @Go.Ab.tkAlt⟩, ⟨@Go.Ab.tkAlt2,
 ⟨@Go.Ab.r_noGotoN, @Go.Ab.r_noGotoR⟩⟩⟩⟩⟩, ⟨⟨⟨⟨@Go.Ab.r_noGotoE, @Go.Ab.r_blockF⟩, ⟨@Go.Ab.d_nil, ⟨@Go.Ab.d_op, @Go.Ab.d_opg⟩⟩⟩, ⟨⟨@Go.Ab.d_free, @Go.Ab.z_move⟩, ⟨@Go.Ab.z_assign, ⟨@Go.Ab.z_pick, @Go.Ab.z_unOp⟩⟩⟩⟩,
 ⟨⟨⟨@Go.Ab.z_extract, @Go.Ab.z_convert⟩, ⟨@Go.Ab.z_slice, ⟨@Go.Ab.z_field, @Go.Ab.z_load⟩⟩⟩, ⟨⟨@Go.Ab.z_indexAddr, ⟨@Go.Ab.z_fieldAddr, @Go.Ab.z_nilCheck⟩⟩, ⟨@Go.Ab.z_binOp, ⟨@Go.Ab.z_call, @Go.Ab.z_lit⟩⟩⟩⟩⟩⟩,
 ⟨⟨⟨⟨⟨@Go.Ab.z_set, @Go.Ab.litK.eq_1⟩, ⟨@Go.Ab.d_read, ⟨@Go.Ab.d_back, @Go.Ab.freeOk.eq_1⟩⟩⟩, ⟨⟨@Go.Ab.freeOk.eq_2, @Go.Ab.freeOk.eq_3⟩, ⟨@Go.Ab.freeOk.eq_4, ⟨@Go.Ab.freeOk.eq_5, @Go.Ab.freeOk.eq_6⟩⟩⟩⟩,
 ⟨⟨⟨@Go.Ab.freeOk.eq_7, @Go.Ab.freeOk.eq_8⟩, ⟨@Go.Ab.freeOk.eq_9, ⟨@Go.Ab.freeOk.eq_10, @Go.Ab.freeOk.eq_11⟩⟩⟩, ⟨⟨@Go.Ab.freeOk.eq_12, ⟨@Go.Ab.freeOk.eq_13, @Go.Ab.freeOk.eq_14⟩⟩, ⟨@Go.Ab.freeOk.eq_15,
 ⟨@Go.Ab.readOk.eq_1, @Go.Ab.readOk.eq_2⟩⟩⟩⟩⟩, ⟨⟨⟨⟨@Go.Ab.readOk.eq_3, @Go.Ab.notOwn.eq_1⟩, ⟨@Go.Ab.notOwn.eq_2, ⟨@Go.Ab.NoNil.eq_1, @Go.Ab.NoNil.eq_2⟩⟩⟩, ⟨⟨@Go.Ab.mem0.eq_1, @Go.Ab.cvK.eq_1⟩, ⟨@Go.Ab.litC.eq_1,
 ⟨@Go.Ab.litC.eq_2, @Go.Ab.constK.eq_1⟩⟩⟩⟩, ⟨⟨⟨@Go.Ab.constK.eq_2, @Go.Ab.nilCheckK.eq_1⟩, ⟨@Go.Ab.nilCheckK.eq_2, ⟨@Go.Ab.nilCheckK.eq_3, @Go.Ab.nilCheckK.eq_4⟩⟩⟩, ⟨⟨@Go.Ab.AllV.eq_1, ⟨@Go.Ab.AllV.eq_2,
 @List.length_append.{0}⟩⟩, ⟨@Go.Ab.encB_toInt, ⟨@Go.Ab.str_size, @Go.Ab.str_append⟩⟩⟩⟩⟩⟩⟩⟩
theorem wk3 :
  ((((((type_of% @Go.Ab.str_extract) ∧ (type_of% @Go.Ab.strOf_B)) ∧ ((type_of% @Go.Ab.isB_B) ∧ ((type_of% @Go.Ab.str_toList) ∧ (type_of% @Go.Ab.str_data)))) ∧ (((type_of% @Go.Ab.mapB_take) ∧ ((type_of% @Go.Ab.mapB_drop) ∧
 (type_of% @Go.Ab.take_drop'))) ∧ ((type_of% @Int.toNat_zero) ∧ ((type_of% @Nat.sub_zero) ∧ (type_of% @Int.cast_ofNat_Int))))) ∧ ((((type_of% @Go.Ab.bne_int) ∧ (type_of% @beq_self_eq_true.{0})) ∧ ((type_of% @eq_self.{1})
 ∧ ((type_of% @imp_self) ∧ (type_of% @implies_true.{0})))) ∧ (((type_of% @implies_true.{1}) ∧ ((type_of% @Int.le_refl) ∧ (type_of% @Nat.le_refl))) ∧ ((type_of% @List.set_cons_zero.{0}) ∧ ((type_of%
 @List.set_cons_succ.{0}) ∧ (type_of% @List.mem_cons.{0})))))) ∧ (((((type_of% @List.not_mem_nil.{0}) ∧ (type_of% @or_false)) ∧ ((type_of% @forall_eq_or_imp.{1}) ∧ ((type_of% @forall_eq.{1}) ∧ (type_of% @false_implies))))
 ∧ (((type_of% @Go.Ab.buildK.eq_1) ∧ ((type_of% @Go.Ab.fillA.eq_1) ∧ (type_of% @Go.Ab.fillA.eq_2))) ∧ ((type_of% @Go.Ab.AllKnown.eq_1) ∧ ((type_of% @Go.Ab.AllKnown.eq_2) ∧ (type_of% @Go.Ab.splice.eq_1))))) ∧ ((((type_of%
 @Go.Ab.mkEl.eq_1) ∧ (type_of% @Go.Ab.mkEl.eq_2)) ∧ ((type_of% @or_self) ∧ ((type_of% @or_true) ∧ (type_of% @true_or)))) ∧ (((type_of% @Go.Ab.elem_I) ∧ ((type_of% @Go.Ab.encI_eq) ∧ (type_of% @Go.Ab.mapI_take))) ∧
 ((type_of% @Go.Ab.mapI_drop) ∧ ((type_of% @List.take_zero.{0}) ∧ (type_of% @List.headD_cons.{0}))))))) ∧ ((((((type_of% @List.take_succ_cons.{0}) ∧ (type_of% @List.getD_cons_zero.{0})) ∧ ((type_of%
 @List.getD_cons_succ.{0}) ∧ ((type_of% @List.drop_succ_cons.{0}) ∧ (type_of% @Go.Ab.r_pin)))) ∧ (((type_of% @Go.Ab.x_alloc) ∧ ((type_of% @Go.Ab.x_box) ∧ (type_of% @Go.Ab.x_build))) ∧ ((type_of% @Go.Ab.x_buildSlice) ∧
 ((type_of% @Go.Ab.x_load) ∧ (type_of% @Go.Ab.x_conv))))) ∧ ((((type_of% @Go.Ab.x_makeSlice) ∧ (type_of% @Go.Ab.x_slice)) ∧ ((type_of% @Go.Ab.x_append) ∧ ((type_of% @Go.Ab.x_store) ∧ (type_of% @Go.Ab.x_callF)))) ∧
 (((type_of% @Go.Ab.r1_skip) ∧ ((type_of% @Go.Ab.r1_ret) ∧ (type_of% @Go.Ab.r1_exit))) ∧ ((type_of% @Go.Ab.r1_region) ∧ ((type_of% @Go.Ab.r1_loop) ∧ (type_of% @Go.Ab.r1_scope)))))) ∧ (((((type_of% @Go.Ab.r1_seq) ∧
 (type_of% @Go.Ab.r1_cond)) ∧ ((type_of% @Go.Ab.r1_block) ∧ ((type_of% @Go.Ab.r1_range) ∧ (type_of% @Go.Ab.r_callV)))) ∧ (((type_of% @Go.Ab.frz.eq_1) ∧ ((type_of% @Go.Ab.mapB.eq_1) ∧ (type_of% @Go.Ab.mapB.eq_2))) ∧
 ((type_of% @Go.Ab.frzE.eq_1) ∧ ((type_of% @Go.Ab.frzE.eq_2) ∧ (type_of% @Go.Ab.frzC.eq_1))))) ∧ ((((type_of% @Go.Ab.frzC.eq_2) ∧ (type_of% @Go.Ab.frzC.eq_3)) ∧ ((type_of% @Go.Ab.FOkE.eq_1) ∧ ((type_of% @Go.Ab.FOkE.eq_2)
 ∧ (type_of% @Go.Ab.FOk.eq_1)))) ∧ (((type_of% @Go.Ab.FOk.eq_2) ∧ ((type_of% @Go.Ab.FOk.eq_3) ∧ (type_of% @Go.Ab.SOk.eq_1))) ∧ ((type_of% @Go.Ab.SOk.eq_2) ∧ ((type_of% @Go.Ab.BOk.eq_1) ∧ (type_of% @Go.Ab.BOk.eq_2))))))) :=
⟨⟨⟨⟨⟨⟨@Go.Ab.str_extract, @Go.Ab.strOf_B⟩, ⟨@Go.Ab.isB_B, ⟨@Go.Ab.str_toList, @Go.Ab.str_data⟩⟩⟩, ⟨⟨@Go.Ab.mapB_take, ⟨@Go.Ab.mapB_drop, @Go.Ab.take_drop'⟩⟩, ⟨@Int.toNat_zero, ⟨@Nat.sub_zero, @Int.cast_ofNat_Int⟩⟩⟩⟩,
 ⟨⟨⟨@Go.Ab.bne_int, @beq_self_eq_true.{0}⟩, ⟨@eq_self.{1}, ⟨@imp_self, @implies_true.{0}⟩⟩⟩, ⟨⟨@implies_true.{1}, ⟨@Int.le_refl, @Nat.le_refl⟩⟩, ⟨@List.set_cons_zero.{0}, ⟨@List.set_cons_succ.{0}, @List.mem_cons.{0}⟩⟩⟩⟩⟩,
 ⟨⟨⟨⟨@List.not_mem_nil.{0}, @or_false⟩, ⟨@forall_eq_or_imp.{1}, ⟨@forall_eq.{1}, @false_implies⟩⟩⟩, ⟨⟨@Go.Ab.buildK.eq_1, ⟨@Go.Ab.fillA.eq_1, @Go.Ab.fillA.eq_2⟩⟩, ⟨@Go.Ab.AllKnown.eq_1, ⟨@Go.Ab.AllKnown.eq_2,
 @Go.Ab.splice.eq_1⟩⟩⟩⟩, ⟨⟨⟨@Go.Ab.mkEl.eq_1, @Go.Ab.mkEl.eq_2⟩, ⟨@or_self, ⟨@or_true, @true_or⟩⟩⟩, ⟨⟨@Go.Ab.elem_I, ⟨@Go.Ab.encI_eq, @Go.Ab.mapI_take⟩⟩, ⟨@Go.Ab.mapI_drop, ⟨@List.take_zero.{0},
 @List.headD_cons.{0}⟩⟩⟩⟩⟩⟩, ⟨⟨⟨⟨⟨@List.take_succ_cons.{0}, @List.getD_cons_zero.{0}⟩, ⟨@List.getD_cons_succ.{0}, ⟨@List.drop_succ_cons.{0}, @Go.Ab.r_pin⟩⟩⟩, ⟨⟨@Go.Ab.x_alloc, ⟨@Go.Ab.x_box, @Go.Ab.x_build⟩⟩,
 ⟨@Go.Ab.x_buildSlice, ⟨@Go.Ab.x_load, @Go.Ab.x_conv⟩⟩⟩⟩, ⟨⟨⟨@Go.Ab.x_makeSlice, @Go.Ab.x_slice⟩, ⟨@Go.Ab.x_append, ⟨@Go.Ab.x_store, @Go.Ab.x_callF⟩⟩⟩, ⟨⟨@Go.Ab.r1_skip, ⟨@Go.Ab.r1_ret, @Go.Ab.r1_exit⟩⟩,
 ⟨@Go.Ab.r1_region, ⟨@Go.Ab.r1_loop, @Go.Ab.r1_scope⟩⟩⟩⟩⟩, ⟨⟨⟨⟨@Go.Ab.r1_seq, @Go.Ab.r1_cond⟩, ⟨@Go.Ab.r1_block, ⟨@Go.Ab.r1_range, @Go.Ab.r_callV⟩⟩⟩, ⟨⟨@Go.Ab.frz.eq_1, ⟨@Go.Ab.mapB.eq_1, @Go.Ab.mapB.eq_2⟩⟩,
 ⟨@Go.Ab.frzE.eq_1, ⟨@Go.Ab.frzE.eq_2, @Go.Ab.frzC.eq_1⟩⟩⟩⟩, ⟨⟨⟨@Go.Ab.frzC.eq_2, @Go.Ab.frzC.eq_3⟩, ⟨@Go.Ab.FOkE.eq_1, ⟨@Go.Ab.FOkE.eq_2, @Go.Ab.FOk.eq_1⟩⟩⟩, ⟨⟨@Go.Ab.FOk.eq_2, ⟨@Go.Ab.FOk.eq_3, @Go.Ab.SOk.eq_1⟩⟩,
 ⟨@Go.Ab.SOk.eq_2, ⟨@Go.Ab.BOk.eq_1, @Go.Ab.BOk.eq_2⟩⟩⟩⟩⟩⟩⟩
theorem wkf :
  ((((type_of% @Go.Ab.Fits.eq_1) ∧ ((type_of% @Go.Ab.slFit.eq_1) ∧ (type_of% @Go.Ab.slFit.eq_2))) ∧ ((type_of% @Go.Ab.memFit.eq_1) ∧ ((type_of% @Go.Ab.memFit.eq_2) ∧ (type_of% @Go.Ab.under_c)))) ∧ (((type_of%
 @Go.Ab.under_s) ∧ ((type_of% @Go.Ab.under_x) ∧ (type_of% @Go.Ab.under_p))) ∧ ((type_of% @Go.Ab.under_l) ∧ ((type_of% @Go.Ab.underL_nil) ∧ (type_of% @Go.Ab.underL_B))))) ∧ ((((type_of% @Go.Ab.underL_B1) ∧ ((type_of%
 @Go.Ab.under_g) ∧ (type_of% @Go.Ab.under_t))) ∧ ((type_of% @Go.Ab.underL_I) ∧ ((type_of% @Go.Ab.underL_cons) ∧ (type_of% @List.mem_cons.{0})))) ∧ (((type_of% @List.not_mem_nil.{0}) ∧ ((type_of% @or_false) ∧ (type_of%
 @forall_eq_or_imp.{1}))) ∧ ((type_of% @forall_eq.{1}) ∧ ((type_of% @Go.Ab.AV.cells.eq_1) ∧ (type_of% @Go.Ab.AV.cells.eq_2))))) :=
⟨⟨⟨⟨@Go.Ab.Fits.eq_1, ⟨@Go.Ab.slFit.eq_1, @Go.Ab.slFit.eq_2⟩⟩, ⟨@Go.Ab.memFit.eq_1, ⟨@Go.Ab.memFit.eq_2, @Go.Ab.under_c⟩⟩⟩, ⟨⟨@Go.Ab.under_s, ⟨@Go.Ab.under_x, @Go.Ab.under_p⟩⟩, ⟨@Go.Ab.under_l, ⟨@Go.Ab.underL_nil,
 @Go.Ab.underL_B⟩⟩⟩⟩, ⟨⟨⟨@Go.Ab.underL_B1, ⟨@Go.Ab.under_g, @Go.Ab.under_t⟩⟩, ⟨@Go.Ab.underL_I, ⟨@Go.Ab.underL_cons, @List.mem_cons.{0}⟩⟩⟩, ⟨⟨@List.not_mem_nil.{0}, ⟨@or_false, @forall_eq_or_imp.{1}⟩⟩, ⟨@forall_eq.{1},
 ⟨@Go.Ab.AV.cells.eq_1, @Go.Ab.AV.cells.eq_2⟩⟩⟩⟩⟩
end Go.Ab
