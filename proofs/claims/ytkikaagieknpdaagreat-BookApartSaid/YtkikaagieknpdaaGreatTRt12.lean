/- Rights: awake. Paint: what is taken: the books with which bytes begin, or .. -/
import Derived.Test.YtkikaagieknpdaaGreatTRt8
import Derived.Test.YtkikaagieknpdaaGreatTNb5
import Derived.Test.YtkikaagieknpdaaGreatAbG7
set_option linter.unusedSimpArgs false
set_option linter.unusedVariables false
set_option linter.constructorNameAsVariable false
set_option maxRecDepth 100000
open Nat (reduceAdd reduceMul reduceEqDiff reduceLeDiff)
open Int (reduceLE reduceLT reduceEq reduceNe)
namespace Go.Ab
open Go Go.Proofs Go.RowKit
def c0 : Conf := ⟨3, 1, 0, 1, 7, 5⟩
def l0 : List RowD := [⟨0, 0, [0, 0, 0]⟩, ⟨0, 0, [0, 0, 0]⟩, ⟨0, 0, [0, 0, 0]⟩]
def l1 : List RowD := [⟨0, 0, [0, 0, 3]⟩, ⟨0, 0, [0, 0, 0]⟩, ⟨0, 0, [0, 0, 0]⟩]
theorem lens_dec {l : List RowD} (h : l.length < 1000 ∧ ∀ r ∈ l, r.o.length < 1000) : Lens l := by
 refine ⟨by omega, fun k => ?_⟩
 by_cases hk : k < l.length
 · have := h.2 _ (List.getElem_mem hk)
   rw [rowAt, List.getD_eq_getElem?_getD, List.getElem?_eq_getElem hk, Option.getD_some]; omega
 · rw [rowAt_ge (by omega)]; simp
end Go.Ab
namespace Go.Ab
open Go Go.Proofs Go.RowKit
theorem tk_put {v : Nat} {r : List UInt8} (h : v < 18446744073709551616) : tk (putL v ++ r) = (v, r, true) := by
 obtain ⟨h1, h2, h3⟩ := (tk_is (putL v ++ r)).uniq (.inl ⟨rfl, h, rfl⟩)
 exact Prod.ext h1 (Prod.ext h2 h3)
theorem wrap_nat63 {v : Nat} (h : v < M63) : IntKind.i64.wrap (v : Int) = v := by
 have : v < 9223372036854775808 := h
 exact wrap_i64 (by omega) (by omega)
theorem uNat_nn {v : Int} (h : 0 ≤ v) (h2 : v < 9223372036854775808) : ((uNat v : Nat) : Int) = v := by unfold uNat; omega
theorem num_ok {B : Nat} (hB : B ≤ M63) {b : List UInt8} (h : (num B b).2.2 = true) : b = putL (uNat (num B b).1) ++ (num B b).2.1 ∧ 0 ≤ (num B b).1 ∧ (num B b).1 < B := by
 simp only [num, Bool.and_eq_true, decide_eq_true_eq] at h ⊢
 have hw := wrap_nat63 (v := (tk b).1) (by omega)
 rw [hw]
 rcases tk_is b with ⟨_, h1, h2⟩ | ⟨h1, _⟩
 · refine ⟨?_, by omega, by omega⟩
   have : uNat ((tk b).1 : Int) = (tk b).1 := by unfold uNat; omega
   rw [this]; exact h2
 · rw [h.1] at h1; cases h1
theorem num_put {B : Nat} (hB : B ≤ M63) {v : Int} {r : List UInt8} (h1 : 0 ≤ v) (h2 : v < B) : num B (putL (uNat v) ++ r) = (v, r, true) := by
 have h3 : v < 9223372036854775808 := by
  have : B ≤ 9223372036854775808 := hB
  omega
 have e := uNat_nn h1 h3
 have hl : uNat v < B := by omega
 simp only [num, tk_put (uNat_lt v), Bool.true_and, decide_eq_true hl]
 rw [e]
 exact Prod.ext (wrap_i64 (by omega) h3) rfl
theorem many_put {B : Nat} (hB : B ≤ M63) : ∀ (xs : List Int) (r : List UInt8), (∀ v ∈ xs, 0 ≤ v ∧ v < B) → manyL (num B) xs.length (encN xs ++ r) = (xs, r)
 | [], r, _ => rfl
 | v :: xs, r, h => by
  have hv := h v (by simp)
  have ih := many_put hB xs r fun w hw => h w (by simp [hw])
  have e := num_put hB (r := encN xs ++ r) hv.1 hv.2
  simp only [encN, List.length_cons, List.append_assoc, manyL, e, if_true, ih]
theorem many_of {B : Nat} (hB : B ≤ M63) : ∀ n b, b = encN (manyL (num B) n b).1 ++ (manyL (num B) n b).2
 | 0, b => by simp [manyL, encN]
 | n + 1, b => by
  simp only [manyL]
  split
  · rename_i h
    have h1 := num_ok hB h
    have ih := many_of hB n (num B b).2.1
    simp only [encN, List.append_assoc, ← ih]
    exact h1.1
  · simp [encN]
theorem row_put {B n : Nat} (hB : B ≤ M63) {w : RowD} {r : List UInt8} (hl : w.o.length = n) (h : ∀ v ∈ numsR w, 0 ≤ v ∧ v < B) : rowT B n (encN (numsR w) ++ r) = (w, r, true) := by
 have := many_put hB (numsR w) r h
 rw [numsR_len, hl] at this
 rw [rowT, this, if_pos (by rw [numsR_len, hl])]
 simp [numsR]
theorem row_of {B n : Nat} (hB : B ≤ M63) {b : List UInt8} (h : (rowT B n b).2.2 = true) : b = encN (numsR (rowT B n b).1) ++ (rowT B n b).2.1 ∧ (rowT B n b).1.o.length = n := by
 unfold rowT at h ⊢
 split
 · rename_i hl
   have h1 := many_of hB (n + 2) b
   generalize manyL (num B) (n + 2) b = m at h1 hl ⊢
   obtain ⟨xs, r⟩ := m
   dsimp only at h1 hl ⊢
   match xs, hl with
   | x :: y :: zs, hl => exact ⟨by simpa [numsR] using h1, by simpa using hl⟩
 · rename_i hl
   rw [if_neg hl] at h; cases h
theorem rows_put {B n : Nat} (hB : B ≤ M63) : ∀ (l : List RowD) (r : List UInt8), (∀ w ∈ l, w.o.length = n ∧ ∀ v ∈ numsR w, 0 ≤ v ∧ v < B) → manyL (rowT B n) l.length (encN (numsB l) ++ r) = (l, r)
 | [], r, _ => rfl
 | w :: l, r, h => by
  have hw := h w (by simp)
  have ih := rows_put hB l r fun x hx => h x (by simp [hx])
  have e := row_put hB (r := encN (numsB l) ++ r) hw.1 hw.2
  simp only [numsB, encN_append, List.length_cons, List.append_assoc, manyL, e, if_true, ih]
theorem rows_of {B n : Nat} (hB : B ≤ M63) : ∀ m b, b = encN (numsB (manyL (rowT B n) m b).1) ++ (manyL (rowT B n) m b).2 ∧ ∀ w ∈ (manyL (rowT B n) m b).1, w.o.length = n
 | 0, b => by simp [manyL, encN, numsB]
 | m + 1, b => by
  simp only [manyL]
  split
  · rename_i h
    have h1 := row_of hB h
    have ih := rows_of (n := n) hB m (rowT B n b).2.1
    refine ⟨?_, fun w hw => ?_⟩
    · simp only [numsB, encN_append, List.append_assoc, ← ih.1]
      exact h1.1
    · rcases List.mem_cons.1 hw with rfl | hw
      · exact h1.2
      · exact ih.2 w hw
  · exact ⟨by simp [encN, numsB], fun w hw => by simp at hw⟩
noncomputable def takeB (B : Nat) (c : Conf) (b : List UInt8) : List RowD × List UInt8 × Bool :=
 if MayC c ∧ (manyL (rowT B c.n.toNat) c.n.toNat b).1.length = c.n.toNat ∧ RightB c (manyL (rowT B c.n.toNat) c.n.toNat b).1 then ((manyL (rowT B c.n.toNat) c.n.toNat b).1, (manyL (rowT B c.n.toNat) c.n.toNat b).2, true) else ([], [], false)
def BooksIs (c : Conf) (b : List UInt8) (l : List RowD) (r : List UInt8) (o : Bool) : Prop :=
 (o = true ∧ RightB c l ∧ b = encN (numsB l) ++ r) ∨ (o = false ∧ l = [] ∧ r = [] ∧ ∀ l' r', RightB c l' → encN (numsB l') ++ r' ≠ b)
theorem right_mem {c : Conf} {l : List RowD} (h : RightB c l) {w : RowD} (hw : w ∈ l) : w.o.length = c.n.toNat ∧ ∀ v ∈ numsR w, 0 ≤ v ∧ v < 4611686018427387905 := by
 obtain ⟨k, hk, rfl⟩ := List.getElem_of_mem hw
 have e : l[k] = rowAt l k := by rw [rowAt, List.getD_eq_getElem?_getD, List.getElem?_eq_getElem hk]; rfl
 rw [e]
 have hr := h.2.1.row h.1 hk
 have hn := h.2.1.1
 refine ⟨by omega, fun v hv => ?_⟩
 simp only [numsR, List.mem_cons] at hv
 rcases hv with rfl | rfl | hv
 · omega
 · omega
 · have := hr.2.2.2.2.1 v hv
   unfold Within at this; omega
theorem books_put {B : Nat} (hB : B ≤ M63) (hB2 : 4611686018427387905 ≤ B) {c : Conf} {l : List RowD} {r : List UInt8} (h : RightB c l) : takeB B c (encN (numsB l) ++ r) = (l, r, true) := by
 have hn := h.2.1.1
 have hm := rows_put hB (n := c.n.toNat) l r fun w hw => ⟨(right_mem h hw).1, fun v hv => by have := (right_mem h hw).2 v hv; omega⟩
 have e : l.length = c.n.toNat := by omega
 rw [e] at hm
 rw [takeB, hm, if_pos ⟨h.1, e, h⟩]
theorem takeB_is {B : Nat} (hB : B ≤ M63) (hB2 : 4611686018427387905 ≤ B) (c : Conf) (b : List UInt8) : BooksIs c b (takeB B c b).1 (takeB B c b).2.1 (takeB B c b).2.2 := by
 by_cases h : MayC c ∧ (manyL (rowT B c.n.toNat) c.n.toNat b).1.length = c.n.toNat ∧ RightB c (manyL (rowT B c.n.toNat) c.n.toNat b).1
 · rw [takeB, if_pos h]
   exact .inl ⟨rfl, h.2.2, (rows_of hB _ b).1⟩
 · have e : takeB B c b = ([], [], false) := by rw [takeB, if_neg h]
   rw [e]
   refine .inr ⟨rfl, rfl, rfl, fun l' r' hr he => ?_⟩
   have := books_put hB hB2 (r := r') hr
   rw [he, e] at this
   cases this
theorem BooksIs.uniq {c : Conf} {b : List UInt8} {l m : List RowD} {r s : List UInt8} {o p : Bool} (h : BooksIs c b l r o) (k : BooksIs c b m s p) : l = m ∧ r = s ∧ o = p := by
 rcases h with ⟨rfl, h1, h2⟩ | ⟨rfl, rfl, rfl, h3⟩ <;> rcases k with ⟨rfl, k1, k2⟩ | ⟨rfl, rfl, rfl, k3⟩
 · have e1 := books_put (Nat.le_refl M63) (by decide) (r := r) h1
   have e2 := books_put (Nat.le_refl M63) (by decide) (r := s) k1
   rw [← h2] at e1
   rw [← k2, e1] at e2
   simp only [Prod.mk.injEq] at e2
   exact ⟨e2.1, e2.2.1, rfl⟩
 · exact absurd h2.symm (k3 _ _ h1)
 · exact absurd k2.symm (h3 _ _ k1)
 · exact ⟨rfl, rfl, rfl⟩
theorem takeB_lens {c : Conf} {B m n : Nat} {b : List UInt8} (hB : B ≤ M63) (hm : m ≤ 16) (hn : n ≤ 16) : Lens (manyL (rowT B n) m b).1 :=
 lens_dec ⟨by have := manyL_len (take := rowT B n) m b; omega, fun w hw => by have := (rows_of hB m b).2 w hw; omega⟩
end Go.Ab
namespace Go.Ab
open Go Go.Proofs Go.RowKit
def TakeV (p : List RowD × List UInt8 × Bool) : AV := .t [BooksV p.1, Bs p.2.1, .c (.bool p.2.2)]
theorem exp_takeN {M : Mem} {p : List RowD × List UInt8 × Bool} (h : p = ([], [], false)) : Exp M (.t [.c (.slice none 0 0), .c (.slice none 0 0), .c (.bool false)]) (TakeV p) := by
 subst h; exact exp_take0
theorem exp_takeY {M : Mem} {p : List RowD × List UInt8 × Bool} {l : List RowD} {r : List UInt8} (h : p = (l, r, true)) : Exp M (.t [.l 3 (l.map RowV), .l 1 (r.map encB), .c (.bool true)]) (TakeV p) := by
 subst h; exact exp_tA (xT_cons (xA_pure weak_l (.l _ _ (pureR _))) (xT_cons xA_Bs (xT_cons xA_c xT_nil)))
theorem okR_manyR {l : List RowD} {b : List UInt8} {v : Value} : OkR (Under 0) (.t [BooksV l, Bs b, .c v]) := ⟨.l _ _ (pureR _), okR_Bs, .c _, trivial⟩
theorem arg_fc {M : Mem} {ids : List Nat} {fn : FuncId} {c : Conf} : VOkA M (.f fn [.e [.c (.int .i64 c.n), .c (.int .i64 c.q), .c (.int .i64 c.r), .c (.int .i64 c.p), .c (.int .i64 c.k), .c (.int .i64 c.c)]]) ∧ (∀ k ∈ idsA (.f fn [.e [.c (.int .i64 c.n), .c (.int .i64 c.q), .c (.int .i64 c.r), .c (.int .i64 c.p), .c (.int .i64 c.k), .c (.int .i64 c.c)]]), k ∈ ids) ∧ Weak (viewA M (.f fn [.e [.c (.int .i64 c.n), .c (.int .i64 c.q), .c (.int .i64 c.r), .c (.int .i64 c.p), .c (.int .i64 c.k), .c (.int .i64 c.c)]])) (.f fn [.e [.c (.int .i64 c.n), .c (.int .i64 c.q), .c (.int .i64 c.r), .c (.int .i64 c.p), .c (.int .i64 c.k), .c (.int .i64 c.c)]]) ∧ Under 0 (.f fn [.e [.c (.int .i64 c.n), .c (.int .i64 c.q), .c (.int .i64 c.r), .c (.int .i64 c.p), .c (.int .i64 c.k), .c (.int .i64 c.c)]]) :=
 arg_fe fun a ha => by rw [List.mem_singleton.1 ha, under_e]; simp only [under_c, List.mem_cons, List.not_mem_nil, or_false, forall_eq_or_imp, forall_eq, and_self]
theorem ptake_call (c : Conf) (b : List UInt8) (hl : b.length ≤ 1000000000) : PCall Tryz.prog 60 [ConfA c, Bs b] (TakeV (takeB M63 c b)) := by
 refine pcall_bodyA tabOk Tryz.func60 rfl rfl (by rw [Tryz.ntmps60]; simp) ?_
 simp only [Tryz.ntmps60, Bs, ConfA]
 refine acode_sw tabOk ?_
 simp only [↓wt, wz, reduceAdd, reduceMul, reduceEqDiff, reduceLeDiff, Nat.reduceLT, reduceLE, reduceLT, reduceEq, reduceNe]
 refine .done ?_
 simp only [↓wt, wz, reduceAdd, reduceMul, reduceEqDiff, reduceLeDiff, Nat.reduceLT, reduceLE, reduceLT, reduceEq, reduceNe]
 refine acode_sw tabOk ?_
 simp only [↓wt, wz, reduceAdd, reduceMul, reduceEqDiff, reduceLeDiff, Nat.reduceLT, reduceLE, reduceLT, reduceEq, reduceNe]
 refine icall_drop [] (rtmay_call c) ⟨arg_conf', trivial⟩ (.c _) ?_
 simp only [↓wt, wz, reduceAdd, reduceMul, reduceEqDiff, reduceLeDiff, Nat.reduceLT, reduceLE, reduceLT, reduceEq, reduceNe]
 refine r_casesN (fun hp hb => ?_) (fun hp hb => ?_) <;> simp only [↓wt, wz, reduceAdd, reduceMul, reduceEqDiff, reduceLeDiff, Nat.reduceLT, reduceLE, reduceLT, reduceEq, reduceNe, hb]
 rotate_left
 · simp only [↓wt, wz, reduceAdd, reduceMul, reduceEqDiff, reduceLeDiff, Nat.reduceLT, reduceLE, reduceLT, reduceEq, reduceNe, Tryz.results60]
   exact exp_takeN (by rw [takeB, if_neg fun h => hp h.1])
 have hn := hp.1
 refine .step 0 [1, 2, 9] (by simp only [↓wt, wz, reduceAdd, reduceMul, reduceEqDiff, reduceLeDiff, Nat.reduceLT, reduceLE, reduceLT, reduceEq, reduceNe]; (try (repeat' (first | (exact fun _ => by simp only [pureL_eq, underL_cons, underL_nil, AV.cells, under_l, under_c, under_g, under_e, under_f, underL_B, underL_I, underL_Bs, under_Bs, List.mem_cons, List.not_mem_nil, or_false, forall_eq_or_imp, forall_eq, and_self, and_true, true_and]) | ((with_reducible refine And.intro ?_ ?_)) | (intro _) | omega | (simp only [pureL_eq, underL_cons, underL_nil, AV.cells, under_l, under_c, under_g, under_e, under_f, underL_B, underL_I, underL_Bs, under_Bs, List.mem_cons, List.not_mem_nil, or_false, forall_eq_or_imp, forall_eq, and_self, and_true, true_and])))); done) (by simp only [↓wt, wz, reduceAdd, reduceMul, reduceEqDiff, reduceLeDiff, Nat.reduceLT, reduceLE, reduceLT, reduceEq, reduceNe]; (try (repeat' (first | (exact fun _ => by simp only [pureL_eq, underL_cons, underL_nil, AV.cells, under_l, under_c, under_g, under_e, under_f, underL_B, underL_I, underL_Bs, under_Bs, List.mem_cons, List.not_mem_nil, or_false, forall_eq_or_imp, forall_eq, and_self, and_true, true_and]) | ((with_reducible refine And.intro ?_ ?_)) | (intro _) | omega | (simp only [pureL_eq, underL_cons, underL_nil, AV.cells, under_l, under_c, under_g, under_e, under_f, underL_B, underL_I, underL_Bs, under_Bs, List.mem_cons, List.not_mem_nil, or_false, forall_eq_or_imp, forall_eq, and_self, and_true, true_and])))); done) ?_; refine .done ?_; simp only [↓wt, wz, reduceAdd, reduceMul, reduceEqDiff, reduceLeDiff, Nat.reduceLT, reduceLE, reduceLT, reduceEq, reduceNe]
 refine aw_sound tabOk _ _ _ ?_
 simp only [↓wt, wz, reduceAdd, reduceMul, reduceEqDiff, reduceLeDiff, Nat.reduceLT, reduceLE, reduceLT, reduceEq, reduceNe]
 refine icall_drop [] (manyR_call c b hl hn) ⟨arg_l (pureB _), arg_c, arg_fc, trivial⟩ okR_manyR ?_
 simp only [↓wt, wz, reduceAdd, reduceMul, reduceEqDiff, reduceLeDiff, Nat.reduceLT, reduceLE, reduceLT, reduceEq, reduceNe, Bs, BooksV]
 repeat' (first | ((first | refine r_casesD (fun hp hb => ?_) (fun hp hb => ?_) | refine r_casesN (fun hp hb => ?_) (fun hp hb => ?_) | refine r_casesM (fun hp hb => ?_) (fun hp hb => ?_) | refine r_casesB (fun hp hb => ?_) (fun hp hb => ?_) | refine r_gcasesD (fun hp hb => ?_) (fun hp hb => ?_) | refine r_gcasesN (fun hp hb => ?_) (fun hp hb => ?_) | refine r_gcasesM (fun hp hb => ?_) (fun hp hb => ?_) | refine r_gcasesB (fun hp hb => ?_) (fun hp hb => ?_)) <;> simp only [↓wt, wz, reduceAdd, reduceMul, reduceEqDiff, reduceLeDiff, Nat.reduceLT, reduceLE, reduceLT, reduceEq, reduceNe, Tryz.results60, hb]) | ((with_reducible refine And.intro ?_ ?_); omega) | fail)
 rotate_left
 · exact exp_takeN (by rw [takeB, if_neg fun h => hp h.2.1])
 have hls := takeB_lens (c := c) (b := b) (m := c.n.toNat) (n := c.n.toNat) (Nat.le_refl M63) (by omega) (by omega)
 refine icall_drop [] (right_call c _ hls) ⟨arg_conf', arg_books, trivial⟩ (.c _) ?_
 simp only [↓wt, wz, reduceAdd, reduceMul, reduceEqDiff, reduceLeDiff, Nat.reduceLT, reduceLE, reduceLT, reduceEq, reduceNe]
 repeat' (first | ((first | refine r_casesD (fun hp hb => ?_) (fun hp hb => ?_) | refine r_casesN (fun hp hb => ?_) (fun hp hb => ?_) | refine r_casesM (fun hp hb => ?_) (fun hp hb => ?_) | refine r_casesB (fun hp hb => ?_) (fun hp hb => ?_) | refine r_gcasesD (fun hp hb => ?_) (fun hp hb => ?_) | refine r_gcasesN (fun hp hb => ?_) (fun hp hb => ?_) | refine r_gcasesM (fun hp hb => ?_) (fun hp hb => ?_) | refine r_gcasesB (fun hp hb => ?_) (fun hp hb => ?_)) <;> simp only [↓wt, wz, reduceAdd, reduceMul, reduceEqDiff, reduceLeDiff, Nat.reduceLT, reduceLE, reduceLT, reduceEq, reduceNe, Tryz.results60, hb]) | ((with_reducible refine And.intro ?_ ?_); omega) | fail)
 · exact exp_takeY (by rw [takeB, if_pos ⟨by assumption, by assumption, by assumption⟩])
 · exact exp_takeN (by rw [takeB, if_neg fun h => hp h.2.2])
end Go.Ab
namespace Go.Ab
open Go Go.Proofs Go.RowKit
theorem isnan64_call (a : Int) : PCall Tryz.prog 118 [.c (.int .i64 a)] (.c (.bool false)) := by
 refine pcall_body tabOk Tryz.func118 rfl rfl (by rw [Tryz.ntmps118]; simp) ?_
 simp only [Tryz.ntmps118]
 simp only [↓wt, wz, reduceAdd, reduceMul, reduceEqDiff, reduceLeDiff, Nat.reduceLT, reduceLE, reduceLT, reduceEq, reduceNe, Tryz.results118]
 exact exp_c
theorem isnan_call (a : Int) : PCall Tryz.prog 119 [.c (.int .i64 a)] (.c (.bool false)) := by
 refine pcall_body tabOk Tryz.func119 rfl rfl (by rw [Tryz.ntmps119]; simp) ?_
 simp only [Tryz.ntmps119]
 simp only [↓wt, wz, reduceAdd, reduceMul, reduceEqDiff, reduceLeDiff, Nat.reduceLT, reduceLE, reduceLT, reduceEq, reduceNe, Tryz.results119]
 exact exp_c
def cmpI (a b : Int) : Int := if a < b then -1 else if a > b then 1 else 0
theorem cmp64_call (a b : Int) : PCall Tryz.prog 116 [.c (.int .i64 a), .c (.int .i64 b)] (.c (.int .i64 (cmpI a b))) := by
 refine pcall_body tabOk Tryz.func116 rfl rfl (by rw [Tryz.ntmps116]; simp) ?_
 simp only [Tryz.ntmps116]
 simp only [↓wt, wz, reduceAdd, reduceMul, reduceEqDiff, reduceLeDiff, Nat.reduceLT, reduceLE, reduceLT, reduceEq, reduceNe]
 refine icall_drop [] (isnan64_call a) ⟨arg_c, trivial⟩ (.c _) ?_
 simp only [↓wt, wz, reduceAdd, reduceMul, reduceEqDiff, reduceLeDiff, Nat.reduceLT, reduceLE, reduceLT, reduceEq, reduceNe]
 refine icall_drop [] (isnan64_call b) ⟨arg_c, trivial⟩ (.c _) ?_
 simp only [↓wt, wz, reduceAdd, reduceMul, reduceEqDiff, reduceLeDiff, Nat.reduceLT, reduceLE, reduceLT, reduceEq, reduceNe]
 repeat' (first | ((first | refine r_casesD (fun hp hb => ?_) (fun hp hb => ?_) | refine r_casesN (fun hp hb => ?_) (fun hp hb => ?_) | refine r_casesM (fun hp hb => ?_) (fun hp hb => ?_) | refine r_casesB (fun hp hb => ?_) (fun hp hb => ?_) | refine r_gcasesD (fun hp hb => ?_) (fun hp hb => ?_) | refine r_gcasesN (fun hp hb => ?_) (fun hp hb => ?_) | refine r_gcasesM (fun hp hb => ?_) (fun hp hb => ?_) | refine r_gcasesB (fun hp hb => ?_) (fun hp hb => ?_)) <;> simp only [↓wt, wz, reduceAdd, reduceMul, reduceEqDiff, reduceLeDiff, Nat.reduceLT, reduceLE, reduceLT, reduceEq, reduceNe, Tryz.results116, hb]) | ((with_reducible refine And.intro ?_ ?_); omega) | fail)
 all_goals exact exp_i (by unfold cmpI; omega)
theorem cmpi_call (a b : Int) : PCall Tryz.prog 117 [.c (.int .i64 a), .c (.int .i64 b)] (.c (.int .i64 (cmpI a b))) := by
 refine pcall_body tabOk Tryz.func117 rfl rfl (by rw [Tryz.ntmps117]; simp) ?_
 simp only [Tryz.ntmps117]
 simp only [↓wt, wz, reduceAdd, reduceMul, reduceEqDiff, reduceLeDiff, Nat.reduceLT, reduceLE, reduceLT, reduceEq, reduceNe]
 refine icall_drop [] (isnan_call a) ⟨arg_c, trivial⟩ (.c _) ?_
 simp only [↓wt, wz, reduceAdd, reduceMul, reduceEqDiff, reduceLeDiff, Nat.reduceLT, reduceLE, reduceLT, reduceEq, reduceNe]
 refine icall_drop [] (isnan_call b) ⟨arg_c, trivial⟩ (.c _) ?_
 simp only [↓wt, wz, reduceAdd, reduceMul, reduceEqDiff, reduceLeDiff, Nat.reduceLT, reduceLE, reduceLT, reduceEq, reduceNe]
 repeat' (first | ((first | refine r_casesD (fun hp hb => ?_) (fun hp hb => ?_) | refine r_casesN (fun hp hb => ?_) (fun hp hb => ?_) | refine r_casesM (fun hp hb => ?_) (fun hp hb => ?_) | refine r_casesB (fun hp hb => ?_) (fun hp hb => ?_) | refine r_gcasesD (fun hp hb => ?_) (fun hp hb => ?_) | refine r_gcasesN (fun hp hb => ?_) (fun hp hb => ?_) | refine r_gcasesM (fun hp hb => ?_) (fun hp hb => ?_) | refine r_gcasesB (fun hp hb => ?_) (fun hp hb => ?_)) <;> simp only [↓wt, wz, reduceAdd, reduceMul, reduceEqDiff, reduceLeDiff, Nat.reduceLT, reduceLE, reduceLT, reduceEq, reduceNe, Tryz.results117, hb]) | ((with_reducible refine And.intro ?_ ?_); omega) | fail)
 all_goals exact exp_i (by unfold cmpI; omega)
def orI : List Int → Int
 | [] => 0
 | a :: l => if a = 0 then orI l else a
theorem orI_drop {l : List Int} {k : Nat} (h : k < l.length) : orI (l.drop k) = if l.getD k 0 = 0 then orI (l.drop (k + 1)) else l.getD k 0 := by
 rw [List.drop_eq_getElem_cons h, orI, List.getD_eq_getElem?_getD, List.getElem?_eq_getElem h]; rfl
theorem or_call (l : List Int) (hl : l.length < 1000) : PCall Tryz.prog 115 [.l 1 (l.map encI)] (.c (.int .i64 (orI l))) := by
 refine pcall_body tabOk Tryz.func115 rfl rfl (by rw [Tryz.ntmps115]; simp) ?_
 simp only [Tryz.ntmps115]
 simp only [↓wt, wz, reduceAdd, reduceMul, reduceEqDiff, reduceLeDiff, Nat.reduceLT, reduceLE, reduceLT, reduceEq, reduceNe]
 refine loop_ruleC tabOk [3, 6, 7] (fun k : Nat => [(8, .c (.int .i64 k))]) (fun k => k ≤ l.length ∧ orI l = orI (l.drop k)) (fun k => l.length - k) 0 ⟨by omega, rfl⟩ ?_ ?_
 · simp only [↓wt, wz, wkf, reduceAdd, reduceMul, reduceEqDiff, reduceLeDiff, Nat.reduceLT, reduceLE, reduceLT, reduceEq, reduceNe, underL_I]
   try trivial
 · rintro k ⟨hk, ho⟩
   simp only [↓wt, wz, reduceAdd, reduceMul, reduceEqDiff, reduceLeDiff, Nat.reduceLT, reduceLE, reduceLT, reduceEq, reduceNe]
   have hs : k < l.length → orI l = if l.getD k 0 = 0 then orI (l.drop (k + 1)) else l.getD k 0 := fun h => by rw [ho, orI_drop h]
   repeat' (first | ((first | refine r_casesD (fun hp hb => ?_) (fun hp hb => ?_) | refine r_casesN (fun hp hb => ?_) (fun hp hb => ?_) | refine r_casesM (fun hp hb => ?_) (fun hp hb => ?_) | refine r_casesB (fun hp hb => ?_) (fun hp hb => ?_) | refine r_gcasesD (fun hp hb => ?_) (fun hp hb => ?_) | refine r_gcasesN (fun hp hb => ?_) (fun hp hb => ?_) | refine r_gcasesM (fun hp hb => ?_) (fun hp hb => ?_) | refine r_gcasesB (fun hp hb => ?_) (fun hp hb => ?_)) <;> simp only [↓wt, wz, reduceAdd, reduceMul, reduceEqDiff, reduceLeDiff, Nat.reduceLT, reduceLE, reduceLT, reduceEq, reduceNe, Tryz.results115, hb]) | ((with_reducible refine And.intro ?_ ?_); omega) | fail)
   · have e3 : IntKind.i64.wrap ((k : Int) + 1) = ((k + 1 : Nat) : Int) := by rw [wrap_i64 (by omega) (by omega)]; omega
     refine ⟨k + 1, ⟨by omega, by rw [hs (by omega), if_pos (by assumption)]⟩, by omega, ?_⟩
     simp only [↓wt, wz, wkf, reduceAdd, reduceMul, reduceEqDiff, reduceLeDiff, Nat.reduceLT, reduceLE, reduceLT, reduceEq, reduceNe, e3, underL_I]
     try trivial
   · exact exp_i (by rw [hs (by omega), if_neg (by assumption)])
   · have : k = l.length := by omega
     subst this
     exact exp_i (by rw [ho, List.drop_length]; rfl)
def Old (t w t' w' : Int) : Prop := t < t' ∨ t = t' ∧ w < w'
instance (t w t' w' : Int) : Decidable (Old t w t' w') := by unfold Old; infer_instance
def StA (t w : Int) : AV := .g [.c (.int .i64 t), .c (.int .i64 w)]
theorem arg_st {M : Mem} {ids : List Nat} {t w : Int} : VOkA M (.g [.c (.int .i64 t), .c (.int .i64 w)]) ∧ (∀ k ∈ idsA (.g [.c (.int .i64 t), .c (.int .i64 w)]), k ∈ ids) ∧ Weak (viewA M (.g [.c (.int .i64 t), .c (.int .i64 w)])) (StA t w) ∧ Under 0 (StA t w) :=
 arg_pure ⟨argC_c, argC_c, trivial⟩
theorem before_call (t w t' w' : Int) : PCall Tryz.prog 107 [StA t w, StA t' w'] (.c (.bool (decide (Old t w t' w')))) := by
 refine pcall_body tabOk Tryz.func107 rfl rfl (by rw [Tryz.ntmps107]; simp) ?_
 simp only [Tryz.ntmps107, StA]
 simp only [↓wt, wz, reduceAdd, reduceMul, reduceEqDiff, reduceLeDiff, Nat.reduceLT, reduceLE, reduceLT, reduceEq, reduceNe]
 refine freeze_rule 0 [2, 3] (by simp only [↓wt, wz, reduceAdd, reduceMul, reduceEqDiff, reduceLeDiff, Nat.reduceLT, reduceLE, reduceLT, reduceEq, reduceNe]; (try (repeat' (first | (exact fun _ => by simp only [pureL_eq, underL_cons, underL_nil, AV.cells, under_l, under_c, under_g, under_e, under_f, underL_B, underL_I, underL_Bs, under_Bs, List.mem_cons, List.not_mem_nil, or_false, forall_eq_or_imp, forall_eq, and_self, and_true, true_and]) | ((with_reducible refine And.intro ?_ ?_)) | (intro _) | omega | (simp only [pureL_eq, underL_cons, underL_nil, AV.cells, under_l, under_c, under_g, under_e, under_f, underL_B, underL_I, underL_Bs, under_Bs, List.mem_cons, List.not_mem_nil, or_false, forall_eq_or_imp, forall_eq, and_self, and_true, true_and])))); done) (by simp only [↓wt, wz, reduceAdd, reduceMul, reduceEqDiff, reduceLeDiff, Nat.reduceLT, reduceLE, reduceLT, reduceEq, reduceNe]; (try (repeat' (first | (exact fun _ => by simp only [pureL_eq, underL_cons, underL_nil, AV.cells, under_l, under_c, under_g, under_e, under_f, underL_B, underL_I, underL_Bs, under_Bs, List.mem_cons, List.not_mem_nil, or_false, forall_eq_or_imp, forall_eq, and_self, and_true, true_and]) | ((with_reducible refine And.intro ?_ ?_)) | (intro _) | omega | (simp only [pureL_eq, underL_cons, underL_nil, AV.cells, under_l, under_c, under_g, under_e, under_f, underL_B, underL_I, underL_Bs, under_Bs, List.mem_cons, List.not_mem_nil, or_false, forall_eq_or_imp, forall_eq, and_self, and_true, true_and])))); done) ?_; simp only [↓wt, wz, reduceAdd, reduceMul, reduceEqDiff, reduceLeDiff, Nat.reduceLT, reduceLE, reduceLT, reduceEq, reduceNe]; refine freeze_rule 1 [2, 3] (by simp only [↓wt, wz, reduceAdd, reduceMul, reduceEqDiff, reduceLeDiff, Nat.reduceLT, reduceLE, reduceLT, reduceEq, reduceNe]; (try (repeat' (first | (exact fun _ => by simp only [pureL_eq, underL_cons, underL_nil, AV.cells, under_l, under_c, under_g, under_e, under_f, underL_B, underL_I, underL_Bs, under_Bs, List.mem_cons, List.not_mem_nil, or_false, forall_eq_or_imp, forall_eq, and_self, and_true, true_and]) | ((with_reducible refine And.intro ?_ ?_)) | (intro _) | omega | (simp only [pureL_eq, underL_cons, underL_nil, AV.cells, under_l, under_c, under_g, under_e, under_f, underL_B, underL_I, underL_Bs, under_Bs, List.mem_cons, List.not_mem_nil, or_false, forall_eq_or_imp, forall_eq, and_self, and_true, true_and])))); done) (by simp only [↓wt, wz, reduceAdd, reduceMul, reduceEqDiff, reduceLeDiff, Nat.reduceLT, reduceLE, reduceLT, reduceEq, reduceNe]; (try (repeat' (first | (exact fun _ => by simp only [pureL_eq, underL_cons, underL_nil, AV.cells, under_l, under_c, under_g, under_e, under_f, underL_B, underL_I, underL_Bs, under_Bs, List.mem_cons, List.not_mem_nil, or_false, forall_eq_or_imp, forall_eq, and_self, and_true, true_and]) | ((with_reducible refine And.intro ?_ ?_)) | (intro _) | omega | (simp only [pureL_eq, underL_cons, underL_nil, AV.cells, under_l, under_c, under_g, under_e, under_f, underL_B, underL_I, underL_Bs, under_Bs, List.mem_cons, List.not_mem_nil, or_false, forall_eq_or_imp, forall_eq, and_self, and_true, true_and])))); done) ?_; simp only [↓wt, wz, reduceAdd, reduceMul, reduceEqDiff, reduceLeDiff, Nat.reduceLT, reduceLE, reduceLT, reduceEq, reduceNe]
 refine draw_rule tabOk mixed [0, 0, 0, 0, 1, 0, 0, 0, 0, 1, 1, 1, 0, 0] [[], [0], [], [2], [0, 1, 2, 3], [], [5], [], [7], [0, 1, 2, 3, 4, 5, 6, 7, 8], [0, 1, 2, 3, 4, 5, 6, 7, 8, 9], [0, 1, 2, 3, 4, 5, 6, 7, 8, 9, 10], [0, 1, 2, 3, 4, 5, 6, 7, 8, 9, 10, 11], [0, 1, 2, 3, 4, 5, 6, 7, 8, 9, 10, 11, 12]] (by kernel_rfl) ?_
 simp only [↓wt, wz, reduceAdd, reduceMul, reduceEqDiff, reduceLeDiff, Nat.reduceLT, reduceLE, reduceLT, reduceEq, reduceNe]
 refine d_heavyC (icall_drop [] (cmp64_call t t') ⟨arg_c, arg_c, trivial⟩ (.c _) ⟨rfl, rfl⟩) ?_
 simp only [↓wt, wz, reduceAdd, reduceMul, reduceEqDiff, reduceLeDiff, Nat.reduceLT, reduceLE, reduceLT, reduceEq, reduceNe]
 refine d_heavyC (icall_drop [] (cmpi_call w w') ⟨arg_c, arg_c, trivial⟩ (.c _) ⟨rfl, rfl⟩) ?_
 simp only [↓wt, wz, reduceAdd, reduceMul, reduceEqDiff, reduceLeDiff, Nat.reduceLT, reduceLE, reduceLT, reduceEq, reduceNe]
 refine d_heavyX (by simp only [↓wt, wz, reduceAdd, reduceMul, reduceEqDiff, reduceLeDiff, Nat.reduceLT, reduceLE, reduceLT, reduceEq, reduceNe]; (repeat (first | refine And.intro (by omega) ?_ | refine And.intro (pureB _) ?_ | refine And.intro (pureI _) ?_ | refine And.intro ⟨pureB _, pureB _⟩ ?_ | refine And.intro ⟨pureB _, pureI _⟩ ?_ | refine And.intro ⟨pureI _, pureB _⟩ ?_ | refine And.intro ⟨pureI _, pureI _⟩ ?_)); exact ⟨rfl, rfl⟩) ?_
 simp only [↓wt, wz, reduceAdd, reduceMul, reduceEqDiff, reduceLeDiff, Nat.reduceLT, reduceLE, reduceLT, reduceEq, reduceNe]
 refine d_heavyC (icall_drop [2] (or_call [cmpI t t', cmpI w w'] (by simp)) ⟨arg_own (by simp) rfl rfl (pureI [cmpI t t', cmpI w w']), trivial⟩ (.c _) ⟨rfl, rfl⟩) ?_
 simp only [↓wt, wz, reduceAdd, reduceMul, reduceEqDiff, reduceLeDiff, Nat.reduceLT, reduceLE, reduceLT, reduceEq, reduceNe, Tryz.results107]
 exact exp_bE (by unfold orI orI orI cmpI Old; omega)
theorem older_call (t w t' w' : Int) : PCall Tryz.prog 79 [StA t w, StA t' w'] (.c (.bool (decide (Old t w t' w')))) := by
 refine pcall_body tabOk Tryz.func79 rfl rfl (by rw [Tryz.ntmps79]; simp) ?_
 simp only [Tryz.ntmps79, StA]
 simp only [↓wt, wz, reduceAdd, reduceMul, reduceEqDiff, reduceLeDiff, Nat.reduceLT, reduceLE, reduceLT, reduceEq, reduceNe]
 refine icall_drop [] (before_call t w t' w') ⟨arg_st, arg_st, trivial⟩ (.c _) ?_
 simp only [↓wt, wz, reduceAdd, reduceMul, reduceEqDiff, reduceLeDiff, Nat.reduceLT, reduceLE, reduceLT, reduceEq, reduceNe, Tryz.results79]
 exact exp_c
theorem rolder_call (t w t' w' : Int) : PCall Tryz.prog 92 [StA t w, StA t' w'] (.c (.bool (decide (Old t w t' w')))) := by
 refine pcall_body tabOk Tryz.func92 rfl rfl (by rw [Tryz.ntmps92]; simp) ?_
 simp only [Tryz.ntmps92, StA]
 simp only [↓wt, wz, reduceAdd, reduceMul, reduceEqDiff, reduceLeDiff, Nat.reduceLT, reduceLE, reduceLT, reduceEq, reduceNe]
 repeat' (first | ((first | refine r_casesD (fun hp hb => ?_) (fun hp hb => ?_) | refine r_casesN (fun hp hb => ?_) (fun hp hb => ?_) | refine r_casesM (fun hp hb => ?_) (fun hp hb => ?_) | refine r_casesB (fun hp hb => ?_) (fun hp hb => ?_) | refine r_gcasesD (fun hp hb => ?_) (fun hp hb => ?_) | refine r_gcasesN (fun hp hb => ?_) (fun hp hb => ?_) | refine r_gcasesM (fun hp hb => ?_) (fun hp hb => ?_) | refine r_gcasesB (fun hp hb => ?_) (fun hp hb => ?_)) <;> simp only [↓wt, wz, reduceAdd, reduceMul, reduceEqDiff, reduceLeDiff, Nat.reduceLT, reduceLE, reduceLT, reduceEq, reduceNe, Tryz.results92, hb]) | ((with_reducible refine And.intro ?_ ?_); omega) | fail)
 · exact exp_bT (by unfold Old; omega)
 · exact exp_bE (by unfold Old; omega)
 · exact exp_bF (by unfold Old; omega)
def MaySt (t w n : Int) : Prop := 1 ≤ t ∧ t ≤ 1125899906842624 ∧ 0 ≤ w ∧ w < n
instance (t w n : Int) : Decidable (MaySt t w n) := by unfold MaySt; infer_instance
theorem stmay_call (t w n : Int) : PCall Tryz.prog 80 [StA t w, .c (.int .i64 n)] (.c (.bool (decide (MaySt t w n)))) := by
 refine pcall_body tabOk Tryz.func80 rfl rfl (by rw [Tryz.ntmps80]; simp) ?_
 simp only [Tryz.ntmps80, StA]
 simp only [↓wt, wz, reduceAdd, reduceMul, reduceEqDiff, reduceLeDiff, Nat.reduceLT, reduceLE, reduceLT, reduceEq, reduceNe]
 repeat' (first | ((first | refine r_casesD (fun hp hb => ?_) (fun hp hb => ?_) | refine r_casesN (fun hp hb => ?_) (fun hp hb => ?_) | refine r_casesM (fun hp hb => ?_) (fun hp hb => ?_) | refine r_casesB (fun hp hb => ?_) (fun hp hb => ?_) | refine r_gcasesD (fun hp hb => ?_) (fun hp hb => ?_) | refine r_gcasesN (fun hp hb => ?_) (fun hp hb => ?_) | refine r_gcasesM (fun hp hb => ?_) (fun hp hb => ?_) | refine r_gcasesB (fun hp hb => ?_) (fun hp hb => ?_)) <;> simp only [↓wt, wz, reduceAdd, reduceMul, reduceEqDiff, reduceLeDiff, Nat.reduceLT, reduceLE, reduceLT, reduceEq, reduceNe, Tryz.results80, hb]) | ((with_reducible refine And.intro ?_ ?_); omega) | fail)
 all_goals first | exact exp_bE (by unfold MaySt; omega) | exact exp_bF (by unfold MaySt; omega)
theorem rstmay_call (t w n : Int) : PCall Tryz.prog 53 [StA t w, .c (.int .i64 n)] (.c (.bool (decide (MaySt t w n)))) := by
 refine pcall_body tabOk Tryz.func53 rfl rfl (by rw [Tryz.ntmps53]; simp) ?_
 simp only [Tryz.ntmps53, StA]
 simp only [↓wt, wz, reduceAdd, reduceMul, reduceEqDiff, reduceLeDiff, Nat.reduceLT, reduceLE, reduceLT, reduceEq, reduceNe]
 repeat' (first | ((first | refine r_casesD (fun hp hb => ?_) (fun hp hb => ?_) | refine r_casesN (fun hp hb => ?_) (fun hp hb => ?_) | refine r_casesM (fun hp hb => ?_) (fun hp hb => ?_) | refine r_casesB (fun hp hb => ?_) (fun hp hb => ?_) | refine r_gcasesD (fun hp hb => ?_) (fun hp hb => ?_) | refine r_gcasesN (fun hp hb => ?_) (fun hp hb => ?_) | refine r_gcasesM (fun hp hb => ?_) (fun hp hb => ?_) | refine r_gcasesB (fun hp hb => ?_) (fun hp hb => ?_)) <;> simp only [↓wt, wz, reduceAdd, reduceMul, reduceEqDiff, reduceLeDiff, Nat.reduceLT, reduceLE, reduceLT, reduceEq, reduceNe, Tryz.results53, hb]) | ((with_reducible refine And.intro ?_ ?_); omega) | fail)
 all_goals first | exact exp_bE (by unfold MaySt; omega) | exact exp_bF (by unfold MaySt; omega)
end Go.Ab
namespace Go.Ab
open Go Go.Proofs Go.RowKit
theorem short_lens {l : List RowD} (h : ShortB l) : Lens l := by
 unfold ShortB shN at h
 have hn : ∀ j, 0 ≤ (((rowAt l j).o.length : Nat) : Int) := fun j => by omega
 have h0 := isum_nn (f := fun j => ((rowAt l j).o.length : Int)) (k := l.length) fun j _ => hn j
 refine ⟨by omega, fun k => ?_⟩
 by_cases hk : k < l.length
 · have h1 := isum_mono (f := fun j => ((rowAt l j).o.length : Int)) hn (k := k + 1) (m := l.length) hk
   have h2 := isum_nn (f := fun j => ((rowAt l j).o.length : Int)) (k := k) fun j _ => hn j
   simp only [isum] at h1
   omega
 · rw [rowAt_ge (by omega)]; simp
end Go.Ab
namespace Go.Ab
open Go Go.Proofs Go.RowKit
end Go.Ab
