/- Rights: the laws RightsShares, RightsMeet, RightsKeep. Rights: the law .. -/
import Derived.Test.YtkikaagieknpdaaGreatTRt12
import Derived.Test.YtkikaagieknpdaaGreatAbG5
import Derived.Test.YtkikaagieknpdaaGreatAbG6
import Derived.Test.YtkikaagieknpdaaGreatTRt8
set_option linter.unusedSimpArgs false
set_option linter.unusedVariables false
set_option linter.constructorNameAsVariable false
set_option maxRecDepth 100000
open Nat (reduceAdd reduceMul reduceEqDiff reduceLeDiff)
open Int (reduceLE reduceLT reduceEq reduceNe)
namespace Go.Ab
open Go Go.Proofs Go.RowKit
theorem newB_at {c : Conf} (h : MayC c) {k : Nat} (hk : k < c.n.toNat) : rowAt (newB c) k = ⟨0, 0, List.replicate c.n.toNat 0⟩ := by
 rw [newB, if_pos h, rowAt, List.getD_eq_getElem?_getD, List.getElem?_eq_getElem (by simpa using hk)]
 simp
theorem newB_length {c : Conf} (h : MayC c) : (newB c).length = c.n.toNat := by rw [newB, if_pos h, List.length_replicate]
theorem rep_getD {n k : Nat} : (List.replicate n (0 : Int)).getD k 0 = 0 := by
 rw [List.getD_eq_getElem?_getD, List.getElem?_replicate]
 split <;> rfl
theorem newB_rows {c : Conf} (h : MayC c) : RowsOk c (newB c) := by
 have hn := h.1
 refine ⟨by rw [newB_length h]; omega, fun k hk => ?_⟩
 rw [newB_length h] at hk
 rw [newB_at h hk]
 have hc := h.2.2.2.2.2.1
 refine ⟨⟨⟨by omega, by omega⟩, by simp; omega, show Within 0 1099511627776 from ⟨by decide, by decide⟩, show Within 0 1099511627776 from ⟨by decide, by decide⟩, rep_getD, fun v hv => ?_⟩, hc.1⟩
 rw [List.eq_of_mem_replicate hv]
 exact ⟨by decide, by decide⟩
theorem newB_of {c : Conf} (h : MayC c) {w : Nat} (hw : w < c.n.toNat) : ofC c (newB c) w = shareC c w := by
 have hn := h.1
 have h1 : came (newB c) w (newB c).length = 0 := by
  unfold came
  rw [isum_congr (g := fun _ => 0) fun j hj => ?_, isum_zero]
  rw [newB_length h] at hj
  rw [newB_at h hj]
  exact rep_getD
 have h2 : sentR (List.replicate c.n.toNat (0 : Int)) = 0 := by
  rw [sent_isum (by simp; omega) fun v hv => by rw [List.eq_of_mem_replicate hv]; exact ⟨by decide, by decide⟩]
  rw [isum_congr (g := fun _ => 0) fun j hj => rep_getD, isum_zero]
 unfold ofC
 rw [newB_at h hw, h1, h2]
 dsimp only
 omega
theorem newB_right {c : Conf} (h : MayC c) : RightB c (newB c) := by
 refine ⟨h, newB_rows h, fun k hk => ?_⟩
 rw [newB_length h] at hk
 rw [newB_of h hk]
 exact (share_bnd c k).1
end Go.Ab
namespace Go.Ab
open Go Go.Proofs Go.RowKit
end Go.Ab
namespace Go.Ab
open Go Go.Proofs Go.RowKit Go.ChangeShapes Go.WideShapes Go.ChangeAt
theorem int_opener : Opener Tryz.prog 3 (fun n : Int => .c (.int .i64 n)) (fun n => -9223372036854775808 ≤ n ∧ n < 9223372036854775808) :=
 Opener.map (.int Tryz.underlying3) id fun n h => ⟨rfl, wf_i64 h⟩
theorem i64_opener : Opener Tryz.prog 2 (fun n : Int => .c (.int .i64 n)) (fun n => -9223372036854775808 ≤ n ∧ n < 9223372036854775808) :=
 Opener.map (.int Tryz.underlying2) id fun n h => ⟨rfl, wf_i64 h⟩
theorem conf_opener : Opener Tryz.prog 23 ConfA (fun _ => True) := by
 refine Opener.map (Opener.struct ti23 rfl (by simp [cellsOf_tok ti3, cellsOf_tok ti2]) (FOpener.cons int_opener ti3 (.cons int_opener ti3 (.cons int_opener ti3 (.cons int_opener ti3 (.cons i64_opener ti2 (.cons i64_opener ti2 .nil))))))) (fun a => ⟨a.1, a.2.1, a.2.2.1, a.2.2.2.1, a.2.2.2.2.1, a.2.2.2.2.2.1⟩) fun a _ => ⟨rfl, trivial⟩
theorem row_opener : Opener Tryz.prog 112 RowV (fun r => r.o.length < 4611686018427387904) := by
 refine Opener.map (Opener.struct ti112 rfl (by simp [cellsOf_tok ti2, cellsOf_tok ti33]) (FOpener.cons i64_opener ti2 (.cons i64_opener ti2 (.cons (.sliceB Tryz.underlying33 i64_opener ti2 (by decide)) ti33 .nil)))) (fun a => ⟨a.1, a.2.1, a.2.2.1⟩) fun a h => ⟨rfl, ?_⟩
 have := h.2.2.1.1
 simp only [reachBytes] at this ⊢
 omega
theorem books_opener : Opener Tryz.prog 26 BooksV Wide := by
 refine Opener.map (.sliceB Tryz.underlying26 row_opener ti112 (by decide)) id fun a h => ⟨rfl, ?_⟩
 have := h.1
 simp only [reachBytes] at this
 refine ⟨by show a.length < _; omega, fun k => ?_⟩
 show (rowAt a k).o.length < _
 unfold rowAt
 rw [List.getD_eq_getElem?_getD]
 cases e : a[k]? with
 | none => simp
 | some r => exact h.2 r (List.mem_of_getElem? e)
end Go.Ab
namespace Go.Ab
open Go Go.Proofs Go.RowKit
theorem eqi_look : EqI Tryz.prog 2 31 2 :=
 EqI.of (D := 0) Tryz.underlying31 (by kernel_rfl) (.int (by decide) rfl Tryz.underlying2 (.int (by decide) rfl Tryz.underlying3 .nil))
theorem eqi_stamp : EqI Tryz.prog 2 66 2 :=
 EqI.of (D := 0) Tryz.underlying66 (by kernel_rfl) (.int (by decide) rfl Tryz.underlying2 (.int (by decide) rfl Tryz.underlying3 .nil))
theorem eqi_request : EqI Tryz.prog 3 68 3 :=
 EqI.of (D := 1) Tryz.underlying68 (by kernel_rfl) (.st (m := 2) (by decide) rfl ti66 rfl rfl eqi_stamp (.int (by decide) rfl Tryz.underlying2 .nil))
theorem eqi_note : EqI Tryz.prog 4 72 7 :=
 EqI.of (D := 2) Tryz.underlying72 (by kernel_rfl) (.int (by decide) rfl Tryz.underlying2 (.st (m := 3) (by decide) rfl ti68 rfl rfl eqi_request (.int (by decide) rfl Tryz.underlying3 (.st (m := 2) (by decide) rfl ti31 rfl rfl (eqi_look.mono (k := 1)) .nil))))
theorem look_eql {M : Mem} {K : AV → Mem → Prop} {a b c d : Int} : aggBinK Tryz.prog 31 M [.c (.int .i64 a), .c (.int .i64 b)] [.c (.int .i64 c), .c (.int .i64 d)] K .eql = K (.c (.bool (decide (a = c ∧ b = d)))) M :=
 agg_eql eqi_look (by decide) (by kernel_rfl) (l := [a, b]) (m := [c, d]) rfl rfl (by simp)
theorem look_neq {M : Mem} {K : AV → Mem → Prop} {a b c d : Int} : aggBinK Tryz.prog 31 M [.c (.int .i64 a), .c (.int .i64 b)] [.c (.int .i64 c), .c (.int .i64 d)] K .neq = K (.c (.bool (!decide (a = c ∧ b = d)))) M :=
 agg_neq eqi_look (by decide) (by kernel_rfl) (l := [a, b]) (m := [c, d]) rfl rfl (by simp)
theorem req_eql {M : Mem} {K : AV → Mem → Prop} {a b e c d f : Int} : aggBinK Tryz.prog 68 M [.c (.int .i64 a), .c (.int .i64 b), .c (.int .i64 e)] [.c (.int .i64 c), .c (.int .i64 d), .c (.int .i64 f)] K .eql = K (.c (.bool (decide (a = c ∧ b = d ∧ e = f)))) M :=
 agg_eql eqi_request (by decide) (by kernel_rfl) (l := [a, b, e]) (m := [c, d, f]) rfl rfl (by simp)
structure NoteD where
 ck : Int
 t : Int
 w : Int
 a : Int
 k : Int
 y : Int
 p : Int
 deriving Inhabited, DecidableEq
def noteL (n : NoteD) : List Int := [n.ck, n.t, n.w, n.a, n.k, n.y, n.p]
theorem noteL_inj {n m : NoteD} : noteL n = noteL m ↔ n = m := by
 cases n; cases m; simp [noteL]
def note0 : NoteD := ⟨0, 0, 0, 0, 0, 0, 0⟩
def NoteV (n : NoteD) : AV := .g [.c (.int .i64 n.ck), .c (.int .i64 n.t), .c (.int .i64 n.w), .c (.int .i64 n.a), .c (.int .i64 n.k), .c (.int .i64 n.y), .c (.int .i64 n.p)]
theorem NoteV_eq {n : NoteD} : NoteV n = .g [.c (.int .i64 n.ck), .c (.int .i64 n.t), .c (.int .i64 n.w), .c (.int .i64 n.a), .c (.int .i64 n.k), .c (.int .i64 n.y), .c (.int .i64 n.p)] := rfl
theorem note_eql {M : Mem} {K : AV → Mem → Prop} {n m : NoteD} : aggBinK Tryz.prog 72 M [.c (.int .i64 n.ck), .c (.int .i64 n.t), .c (.int .i64 n.w), .c (.int .i64 n.a), .c (.int .i64 n.k), .c (.int .i64 n.y), .c (.int .i64 n.p)] [.c (.int .i64 m.ck), .c (.int .i64 m.t), .c (.int .i64 m.w), .c (.int .i64 m.a), .c (.int .i64 m.k), .c (.int .i64 m.y), .c (.int .i64 m.p)] K .eql = K (.c (.bool (decide (n = m)))) M :=
 agg_eql eqi_note (by decide) (by kernel_rfl) (l := noteL n) (m := noteL m) rfl rfl noteL_inj
theorem note_neq {M : Mem} {K : AV → Mem → Prop} {n m : NoteD} : aggBinK Tryz.prog 72 M [.c (.int .i64 n.ck), .c (.int .i64 n.t), .c (.int .i64 n.w), .c (.int .i64 n.a), .c (.int .i64 n.k), .c (.int .i64 n.y), .c (.int .i64 n.p)] [.c (.int .i64 m.ck), .c (.int .i64 m.t), .c (.int .i64 m.w), .c (.int .i64 m.a), .c (.int .i64 m.k), .c (.int .i64 m.y), .c (.int .i64 m.p)] K .neq = K (.c (.bool (!decide (n = m)))) M :=
 agg_neq eqi_note (by decide) (by kernel_rfl) (l := noteL n) (m := noteL m) rfl rfl noteL_inj
theorem note_eql0 {M : Mem} {K : AV → Mem → Prop} {n : NoteD} : aggBinK Tryz.prog 72 M [.c (.int .i64 n.ck), .c (.int .i64 n.t), .c (.int .i64 n.w), .c (.int .i64 n.a), .c (.int .i64 n.k), .c (.int .i64 n.y), .c (.int .i64 n.p)] [.c (.int .i64 0), .c (.int .i64 0), .c (.int .i64 0), .c (.int .i64 0), .c (.int .i64 0), .c (.int .i64 0), .c (.int .i64 0)] K .eql = K (.c (.bool (decide (n = note0)))) M :=
 note_eql (m := note0)
theorem note_neq0 {M : Mem} {K : AV → Mem → Prop} {n : NoteD} : aggBinK Tryz.prog 72 M [.c (.int .i64 n.ck), .c (.int .i64 n.t), .c (.int .i64 n.w), .c (.int .i64 n.a), .c (.int .i64 n.k), .c (.int .i64 n.y), .c (.int .i64 n.p)] [.c (.int .i64 0), .c (.int .i64 0), .c (.int .i64 0), .c (.int .i64 0), .c (.int .i64 0), .c (.int .i64 0), .c (.int .i64 0)] K .neq = K (.c (.bool (!decide (n = note0)))) M :=
 note_neq (m := note0)
def noteAt (l : List NoteD) (k : Nat) : NoteD := l.getD k note0
theorem elem_N {l : List NoteD} {i : Nat} {K : AV → Prop} : Elem (l.map NoteV) i K = (i < l.length ∧ K (NoteV (noteAt l i))) := elem_map _
theorem under_NoteV {k : Nat} (r : NoteD) : ∀ x ∈ (NoteV r).cells, Under k x := fun x hx => by
 simp only [NoteV, AV.cells, List.mem_cons, List.not_mem_nil, or_false] at hx
 rcases hx with rfl | rfl | rfl | rfl | rfl | rfl | rfl <;> exact .c _
theorem underL_N {k : Nat} {l : List NoteD} : UnderL k (l.map NoteV) = True := eq_true (underL_map k under_NoteV l)
theorem pureN (l : List NoteD) : PureL (l.map NoteV) := by rw [pureL_eq, underL_N]; trivial
def NotesV (l : List NoteD) : AV := .l 7 (l.map NoteV)
theorem arg_note {M : Mem} {ids : List Nat} {n : NoteD} : VOkA M (NoteV n) ∧ (∀ k ∈ idsA (NoteV n), k ∈ ids) ∧ Weak (viewA M (NoteV n)) (NoteV n) ∧ Under 0 (NoteV n) :=
 arg_pure ⟨argC_c, argC_c, argC_c, argC_c, argC_c, argC_c, argC_c, trivial⟩
theorem arg_notes {M : Mem} {ids : List Nat} {l : List NoteD} : VOkA M (.l 7 (l.map NoteV)) ∧ (∀ k ∈ idsA (.l 7 (l.map NoteV)), k ∈ ids) ∧ Weak (viewA M (.l 7 (l.map NoteV))) (.l 7 (l.map NoteV)) ∧ Under 0 (.l 7 (l.map NoteV)) := arg_l (pureN l)
theorem notes_ext {a b : List NoteD} (hl : a.length = b.length) (h : ∀ k, k < a.length → noteAt a k = noteAt b k) : a = b := by
 refine List.ext_getElem hl fun k h1 h2 => ?_
 have := h k h1
 rwa [noteAt, noteAt, List.getD_eq_getElem?_getD, List.getD_eq_getElem?_getD, List.getElem?_eq_getElem h1, List.getElem?_eq_getElem h2] at this
def LookV (l : Int × Int) : AV := .g [.c (.int .i64 l.1), .c (.int .i64 l.2)]
def lookAt (l : List (Int × Int)) (k : Nat) : Int × Int := l.getD k (0, 0)
structure MailD where
 f : Int
 o : Int
 ck : Int
 r : List RowD
 t : Int
 w : Int
 a : Int
 k : Int
 y : Int
 p : Int
 e : List (Int × Int)
 deriving Inhabited, DecidableEq
def MailD.note (m : MailD) : NoteD := ⟨m.ck, m.t, m.w, m.a, m.k, m.y, m.p⟩
def HeadOk (n who t w a : Int) : Prop := (t = 0 ∧ w = 0 ∧ a = 0) ∨ (MaySt t w n ∧ w = who ∧ 1 ≤ a ∧ a ≤ 1099511627776)
instance (n who t w a : Int) : Decidable (HeadOk n who t w a) := by unfold HeadOk; infer_instance
def LookOk (y p : Int) : Prop := (y = 0 ∧ p = 0) ∨ (1 ≤ y ∧ y ≤ 1125899906842624 ∧ (p = 1 ∨ p = 2))
instance (y p : Int) : Decidable (LookOk y p) := by unfold LookOk; infer_instance
def NoteOk (c : Conf) (who : Int) (n : NoteD) : Prop := (0 ≤ n.ck ∧ n.ck ≤ 1125899906842624) ∧ HeadOk c.n who n.t n.w n.a ∧ (0 ≤ n.k ∧ n.k ≤ c.r) ∧ LookOk n.y n.p
instance (c : Conf) (who : Int) (n : NoteD) : Decidable (NoteOk c who n) := by unfold NoteOk; infer_instance
def FromV (c : Conf) (k : Int) : AV := .g [.c (.int .i64 c.n), .c (.int .i64 c.q), .c (.int .i64 c.r), .c (.int .i64 c.p), .c (.int .i64 c.k), .c (.int .i64 c.c), .c (.int .i64 k)]
def ReqV (t w a : Int) : AV := .g [.c (.int .i64 t), .c (.int .i64 w), .c (.int .i64 a)]
theorem head_call (c : Conf) (who t w a : Int) : PCall Tryz.prog 108 [FromV c who, ReqV t w a] (.c (.bool (decide (HeadOk c.n who t w a)))) := by
 refine pcall_body tabOk Tryz.func108 rfl rfl (by rw [Tryz.ntmps108]; simp) ?_
 simp only [Tryz.ntmps108, FromV, ReqV]
 simp only [↓wt, wz, reduceAdd, reduceMul, reduceEqDiff, reduceLeDiff, Nat.reduceLT, reduceLE, reduceLT, reduceEq, reduceNe, req_eql]
 repeat' (first | ((first | refine r_casesD (fun hp hb => ?_) (fun hp hb => ?_) | refine r_casesN (fun hp hb => ?_) (fun hp hb => ?_) | refine r_casesM (fun hp hb => ?_) (fun hp hb => ?_) | refine r_casesB (fun hp hb => ?_) (fun hp hb => ?_) | refine r_gcasesD (fun hp hb => ?_) (fun hp hb => ?_) | refine r_gcasesN (fun hp hb => ?_) (fun hp hb => ?_) | refine r_gcasesM (fun hp hb => ?_) (fun hp hb => ?_) | refine r_gcasesB (fun hp hb => ?_) (fun hp hb => ?_)) <;> simp only [↓wt, wz, reduceAdd, reduceMul, reduceEqDiff, reduceLeDiff, Nat.reduceLT, reduceLE, reduceLT, reduceEq, reduceNe, req_eql, Tryz.results108, hb]) | ((with_reducible refine And.intro ?_ ?_); omega) | fail)
 · exact exp_bT (p := HeadOk c.n who t w a) (.inl hp)
 · refine icall_drop [] (stmay_call t w c.n) ⟨arg_st, arg_c, trivial⟩ (.c _) ?_
   simp only [↓wt, wz, reduceAdd, reduceMul, reduceEqDiff, reduceLeDiff, Nat.reduceLT, reduceLE, reduceLT, reduceEq, reduceNe]
   repeat' (first | ((first | refine r_casesD (fun hp hb => ?_) (fun hp hb => ?_) | refine r_casesN (fun hp hb => ?_) (fun hp hb => ?_) | refine r_casesM (fun hp hb => ?_) (fun hp hb => ?_) | refine r_casesB (fun hp hb => ?_) (fun hp hb => ?_) | refine r_gcasesD (fun hp hb => ?_) (fun hp hb => ?_) | refine r_gcasesN (fun hp hb => ?_) (fun hp hb => ?_) | refine r_gcasesM (fun hp hb => ?_) (fun hp hb => ?_) | refine r_gcasesB (fun hp hb => ?_) (fun hp hb => ?_)) <;> simp only [↓wt, wz, reduceAdd, reduceMul, reduceEqDiff, reduceLeDiff, Nat.reduceLT, reduceLE, reduceLT, reduceEq, reduceNe, Tryz.results108, hb]) | ((with_reducible refine And.intro ?_ ?_); omega) | fail)
   all_goals simp only [MaySt] at *
   all_goals first | exact exp_bE (by unfold HeadOk MaySt; omega) | exact exp_bF (p := HeadOk c.n who t w a) (by unfold HeadOk MaySt; omega)
theorem look_call (y p : Int) : PCall Tryz.prog 109 [LookV (y, p)] (.c (.bool (decide (LookOk y p)))) := by
 refine pcall_body tabOk Tryz.func109 rfl rfl (by rw [Tryz.ntmps109]; simp) ?_
 simp only [Tryz.ntmps109, LookV]
 simp only [↓wt, wz, reduceAdd, reduceMul, reduceEqDiff, reduceLeDiff, Nat.reduceLT, reduceLE, reduceLT, reduceEq, reduceNe, look_eql]
 repeat' (first | ((first | refine r_casesD (fun hp hb => ?_) (fun hp hb => ?_) | refine r_casesN (fun hp hb => ?_) (fun hp hb => ?_) | refine r_casesM (fun hp hb => ?_) (fun hp hb => ?_) | refine r_casesB (fun hp hb => ?_) (fun hp hb => ?_) | refine r_gcasesD (fun hp hb => ?_) (fun hp hb => ?_) | refine r_gcasesN (fun hp hb => ?_) (fun hp hb => ?_) | refine r_gcasesM (fun hp hb => ?_) (fun hp hb => ?_) | refine r_gcasesB (fun hp hb => ?_) (fun hp hb => ?_)) <;> simp only [↓wt, wz, reduceAdd, reduceMul, reduceEqDiff, reduceLeDiff, Nat.reduceLT, reduceLE, reduceLT, reduceEq, reduceNe, look_eql, Tryz.results109, hb]) | ((with_reducible refine And.intro ?_ ?_); omega) | fail)
 all_goals first | exact exp_bT (p := LookOk y p) (by unfold LookOk; omega) | exact exp_bE (by unfold LookOk; omega) | exact exp_bF (p := LookOk y p) (by unfold LookOk; omega)
end Go.Ab
namespace Go.Ab
open Go Go.Proofs Go.RowKit
theorem arg_from {M : Mem} {ids : List Nat} {c : Conf} {k : Int} : VOkA M (.g [.c (.int .i64 c.n), .c (.int .i64 c.q), .c (.int .i64 c.r), .c (.int .i64 c.p), .c (.int .i64 c.k), .c (.int .i64 c.c), .c (.int .i64 k)]) ∧ (∀ i ∈ idsA (.g [.c (.int .i64 c.n), .c (.int .i64 c.q), .c (.int .i64 c.r), .c (.int .i64 c.p), .c (.int .i64 c.k), .c (.int .i64 c.c), .c (.int .i64 k)]), i ∈ ids) ∧ Weak (viewA M (.g [.c (.int .i64 c.n), .c (.int .i64 c.q), .c (.int .i64 c.r), .c (.int .i64 c.p), .c (.int .i64 c.k), .c (.int .i64 c.c), .c (.int .i64 k)])) (FromV c k) ∧ Under 0 (FromV c k) :=
 arg_pure ⟨argC_c, argC_c, argC_c, argC_c, argC_c, argC_c, argC_c, trivial⟩
theorem arg_req {M : Mem} {ids : List Nat} {t w a : Int} : VOkA M (.g [.c (.int .i64 t), .c (.int .i64 w), .c (.int .i64 a)]) ∧ (∀ i ∈ idsA (.g [.c (.int .i64 t), .c (.int .i64 w), .c (.int .i64 a)]), i ∈ ids) ∧ Weak (viewA M (.g [.c (.int .i64 t), .c (.int .i64 w), .c (.int .i64 a)])) (ReqV t w a) ∧ Under 0 (ReqV t w a) :=
 arg_pure ⟨argC_c, argC_c, argC_c, trivial⟩
theorem arg_look {M : Mem} {ids : List Nat} {y p : Int} : VOkA M (.g [.c (.int .i64 y), .c (.int .i64 p)]) ∧ (∀ i ∈ idsA (.g [.c (.int .i64 y), .c (.int .i64 p)]), i ∈ ids) ∧ Weak (viewA M (.g [.c (.int .i64 y), .c (.int .i64 p)])) (LookV (y, p)) ∧ Under 0 (LookV (y, p)) :=
 arg_pure ⟨argC_c, argC_c, trivial⟩
theorem note_call (c : Conf) (who : Int) (n : NoteD) : PCall Tryz.prog 84 [FromV c who, NoteV n] (.c (.bool (decide (NoteOk c who n)))) := by
 refine pcall_body tabOk Tryz.func84 rfl rfl (by rw [Tryz.ntmps84]; simp) ?_
 simp only [Tryz.ntmps84, FromV, NoteV]
 simp only [↓wt, wz, reduceAdd, reduceMul, reduceEqDiff, reduceLeDiff, Nat.reduceLT, reduceLE, reduceLT, reduceEq, reduceNe]
 repeat' (first | ((first | refine r_casesD (fun hp hb => ?_) (fun hp hb => ?_) | refine r_casesN (fun hp hb => ?_) (fun hp hb => ?_) | refine r_casesM (fun hp hb => ?_) (fun hp hb => ?_) | refine r_casesB (fun hp hb => ?_) (fun hp hb => ?_) | refine r_gcasesD (fun hp hb => ?_) (fun hp hb => ?_) | refine r_gcasesN (fun hp hb => ?_) (fun hp hb => ?_) | refine r_gcasesM (fun hp hb => ?_) (fun hp hb => ?_) | refine r_gcasesB (fun hp hb => ?_) (fun hp hb => ?_)) <;> simp only [↓wt, wz, reduceAdd, reduceMul, reduceEqDiff, reduceLeDiff, Nat.reduceLT, reduceLE, reduceLT, reduceEq, reduceNe, Tryz.results84, hb]) | ((with_reducible refine And.intro ?_ ?_); omega) | fail)
 · refine icall_drop [] (head_call c who n.t n.w n.a) ⟨arg_from, arg_req, trivial⟩ (.c _) ?_
   simp only [↓wt, wz, reduceAdd, reduceMul, reduceEqDiff, reduceLeDiff, Nat.reduceLT, reduceLE, reduceLT, reduceEq, reduceNe]
   repeat' (first | ((first | refine r_casesD (fun hp hb => ?_) (fun hp hb => ?_) | refine r_casesN (fun hp hb => ?_) (fun hp hb => ?_) | refine r_casesM (fun hp hb => ?_) (fun hp hb => ?_) | refine r_casesB (fun hp hb => ?_) (fun hp hb => ?_) | refine r_gcasesD (fun hp hb => ?_) (fun hp hb => ?_) | refine r_gcasesN (fun hp hb => ?_) (fun hp hb => ?_) | refine r_gcasesM (fun hp hb => ?_) (fun hp hb => ?_) | refine r_gcasesB (fun hp hb => ?_) (fun hp hb => ?_)) <;> simp only [↓wt, wz, reduceAdd, reduceMul, reduceEqDiff, reduceLeDiff, Nat.reduceLT, reduceLE, reduceLT, reduceEq, reduceNe, Tryz.results84, hb]) | ((with_reducible refine And.intro ?_ ?_); omega) | fail)
   · refine icall_drop [] (look_call n.y n.p) ⟨arg_look, trivial⟩ (.c _) ?_
     simp only [↓wt, wz, reduceAdd, reduceMul, reduceEqDiff, reduceLeDiff, Nat.reduceLT, reduceLE, reduceLT, reduceEq, reduceNe, Tryz.results84]
     refine exp_bE ⟨fun h => ⟨⟨by omega, by omega⟩, by assumption, ⟨by omega, by omega⟩, h⟩, fun h => h.2.2.2⟩
   all_goals exact exp_bF (p := NoteOk c who n) fun h => by obtain ⟨g1, g2, g3, g4⟩ := h; first | omega | contradiction
 all_goals exact exp_bF (p := NoteOk c who n) fun h => by obtain ⟨g1, g2, g3, g4⟩ := h; first | omega | contradiction
theorem own_call (c : Conf) (who : Int) (n : NoteD) : PCall Tryz.prog 85 [FromV c who, NoteV n] (.c (.bool (decide (n = note0)))) := by
 refine pcall_body tabOk Tryz.func85 rfl rfl (by rw [Tryz.ntmps85]; simp) ?_
 simp only [Tryz.ntmps85, FromV, NoteV]
 simp only [↓wt, wz, reduceAdd, reduceMul, reduceEqDiff, reduceLeDiff, Nat.reduceLT, reduceLE, reduceLT, reduceEq, reduceNe, note_eql0, Tryz.results85]
 exact exp_c
theorem rlook_call (y p : Int) : PCall Tryz.prog 112 [LookV (y, p)] (.c (.bool (decide (LookOk y p)))) := by
 refine pcall_body tabOk Tryz.func112 rfl rfl (by rw [Tryz.ntmps112]; simp) ?_
 simp only [Tryz.ntmps112, LookV]
 simp only [↓wt, wz, reduceAdd, reduceMul, reduceEqDiff, reduceLeDiff, Nat.reduceLT, reduceLE, reduceLT, reduceEq, reduceNe]
 repeat' (first | ((first | refine r_casesD (fun hp hb => ?_) (fun hp hb => ?_) | refine r_casesN (fun hp hb => ?_) (fun hp hb => ?_) | refine r_casesM (fun hp hb => ?_) (fun hp hb => ?_) | refine r_casesB (fun hp hb => ?_) (fun hp hb => ?_) | refine r_gcasesD (fun hp hb => ?_) (fun hp hb => ?_) | refine r_gcasesN (fun hp hb => ?_) (fun hp hb => ?_) | refine r_gcasesM (fun hp hb => ?_) (fun hp hb => ?_) | refine r_gcasesB (fun hp hb => ?_) (fun hp hb => ?_)) <;> simp only [↓wt, wz, reduceAdd, reduceMul, reduceEqDiff, reduceLeDiff, Nat.reduceLT, reduceLE, reduceLT, reduceEq, reduceNe, Tryz.results112, hb]) | ((with_reducible refine And.intro ?_ ?_); omega) | fail)
 all_goals first | exact exp_bT (p := LookOk y p) (by unfold LookOk; omega) | exact exp_bE (by unfold LookOk; omega) | exact exp_bF (p := LookOk y p) (by unfold LookOk; omega)
def OnC (c : Conf) (n : NoteD) : Prop := MayC c ∧ 0 < n.a ∧ c.r ≤ n.k
instance (c : Conf) (n : NoteD) : Decidable (OnC c n) := by unfold OnC; infer_instance
def ThereC (c : Conf) (who : Int) : Prop := MayC c ∧ There c who
instance (c : Conf) (who : Int) : Decidable (ThereC c who) := by unfold ThereC; infer_instance
theorem cthere_call (c : Conf) (who : Int) : PCall Tryz.prog 83 [ConfA c, .c (.int .i64 who)] (.c (.bool (decide (ThereC c who)))) := by
 refine pcall_body tabOk Tryz.func83 rfl rfl (by rw [Tryz.ntmps83]; simp) ?_
 simp only [Tryz.ntmps83, ConfA]
 simp only [↓wt, wz, reduceAdd, reduceMul, reduceEqDiff, reduceLeDiff, Nat.reduceLT, reduceLE, reduceLT, reduceEq, reduceNe]
 refine icall_drop [] (rtmay_call c) ⟨arg_conf', trivial⟩ (.c _) ?_
 simp only [↓wt, wz, reduceAdd, reduceMul, reduceEqDiff, reduceLeDiff, Nat.reduceLT, reduceLE, reduceLT, reduceEq, reduceNe]
 repeat' (first | ((first | refine r_casesD (fun hp hb => ?_) (fun hp hb => ?_) | refine r_casesN (fun hp hb => ?_) (fun hp hb => ?_) | refine r_casesM (fun hp hb => ?_) (fun hp hb => ?_) | refine r_casesB (fun hp hb => ?_) (fun hp hb => ?_) | refine r_gcasesD (fun hp hb => ?_) (fun hp hb => ?_) | refine r_gcasesN (fun hp hb => ?_) (fun hp hb => ?_) | refine r_gcasesM (fun hp hb => ?_) (fun hp hb => ?_) | refine r_gcasesB (fun hp hb => ?_) (fun hp hb => ?_)) <;> simp only [↓wt, wz, reduceAdd, reduceMul, reduceEqDiff, reduceLeDiff, Nat.reduceLT, reduceLE, reduceLT, reduceEq, reduceNe, Tryz.results83, hb]) | ((with_reducible refine And.intro ?_ ?_); omega) | fail)
 · exact exp_bE ⟨fun h => ⟨by assumption, by unfold There; omega⟩, fun h => h.2.2⟩
 all_goals exact exp_bF (p := ThereC c who) fun h => by obtain ⟨g1, g2⟩ := h; unfold There at g2; first | omega | contradiction
def MayN (c : Conf) (who : Int) (l : List NoteD) : Prop := ThereC c who ∧ (l.length : Int) = c.n ∧ ∀ k, k < l.length → NoteOk c k (noteAt l k) ∧ (k = who → noteAt l k = note0)
instance (c : Conf) (who : Int) (l : List NoteD) : Decidable (MayN c who l) := by unfold MayN; infer_instance
theorem note0_ok {c : Conf} (h : MayC c) (who : Int) : NoteOk c who note0 := by
 unfold MayC at h
 refine ⟨⟨by decide, by decide⟩, .inl ⟨rfl, rfl, rfl⟩, ⟨by decide, ?_⟩, .inl ⟨rfl, rfl⟩⟩
 show (0 : Int) ≤ c.r
 omega
set_option maxHeartbeats 2000000 in
theorem mayn_call (c : Conf) (who : Int) (l : List NoteD) (hl : l.length ≤ 1000000000) : PCall Tryz.prog 49 [ConfA c, .c (.int .i64 who), NotesV l] (.c (.bool (decide (MayN c who l)))) := by
 refine pcall_body tabOk Tryz.func49 rfl rfl (by rw [Tryz.ntmps49]; simp) ?_
 simp only [Tryz.ntmps49, ConfA, NotesV]
 simp only [↓wt, wz, reduceAdd, reduceMul, reduceEqDiff, reduceLeDiff, Nat.reduceLT, reduceLE, reduceLT, reduceEq, reduceNe]
 refine icall_drop [] (cthere_call c who) ⟨arg_conf', arg_c, trivial⟩ (.c _) ?_
 simp only [↓wt, wz, reduceAdd, reduceMul, reduceEqDiff, reduceLeDiff, Nat.reduceLT, reduceLE, reduceLT, reduceEq, reduceNe]
 repeat' (first | ((first | refine r_casesD (fun hp hb => ?_) (fun hp hb => ?_) | refine r_casesN (fun hp hb => ?_) (fun hp hb => ?_) | refine r_casesM (fun hp hb => ?_) (fun hp hb => ?_) | refine r_casesB (fun hp hb => ?_) (fun hp hb => ?_) | refine r_gcasesD (fun hp hb => ?_) (fun hp hb => ?_) | refine r_gcasesN (fun hp hb => ?_) (fun hp hb => ?_) | refine r_gcasesM (fun hp hb => ?_) (fun hp hb => ?_) | refine r_gcasesB (fun hp hb => ?_) (fun hp hb => ?_)) <;> simp only [↓wt, wz, reduceAdd, reduceMul, reduceEqDiff, reduceLeDiff, Nat.reduceLT, reduceLE, reduceLT, reduceEq, reduceNe, Tryz.results49, hb]) | ((with_reducible refine And.intro ?_ ?_); omega) | fail)
 rotate_left
 · exact exp_bF (p := MayN c who l) fun h => by obtain ⟨g1, g2, g3⟩ := h; first | omega | contradiction
 · exact exp_bF (p := MayN c who l) fun h => by obtain ⟨g1, g2, g3⟩ := h; first | omega | contradiction
 rename_i hc _
 have hmc : MayC c := hc.1
 refine loop_ruleC tabOk [1, 3, 21, 22] (fun k : Nat => [(23, .c (.int .i64 k))]) (fun k => k ≤ l.length ∧ ∀ j, j < k → NoteOk c j (noteAt l j) ∧ (j = who → noteAt l j = note0)) (fun k => l.length - k) 0 ⟨by omega, fun j h => by omega⟩ ?_ ?_
 · simp only [↓wt, wz, wkf, reduceAdd, reduceMul, reduceEqDiff, reduceLeDiff, Nat.reduceLT, reduceLE, reduceLT, reduceEq, reduceNe, underL_N, under_e]
   try trivial
 · rintro k ⟨hk, hG⟩
   simp only [↓wt, wz, reduceAdd, reduceMul, reduceEqDiff, reduceLeDiff, Nat.reduceLT, reduceLE, reduceLT, reduceEq, reduceNe]
   repeat' (first | ((first | refine r_casesD (fun hp hb => ?_) (fun hp hb => ?_) | refine r_casesN (fun hp hb => ?_) (fun hp hb => ?_) | refine r_casesM (fun hp hb => ?_) (fun hp hb => ?_) | refine r_casesB (fun hp hb => ?_) (fun hp hb => ?_) | refine r_gcasesD (fun hp hb => ?_) (fun hp hb => ?_) | refine r_gcasesN (fun hp hb => ?_) (fun hp hb => ?_) | refine r_gcasesM (fun hp hb => ?_) (fun hp hb => ?_) | refine r_gcasesB (fun hp hb => ?_) (fun hp hb => ?_)) <;> simp only [↓wt, wz, reduceAdd, reduceMul, reduceEqDiff, reduceLeDiff, Nat.reduceLT, reduceLE, reduceLT, reduceEq, reduceNe, elem_N, NoteV_eq, hb]) | ((with_reducible refine And.intro ?_ ?_); omega) | fail)
   · have hkl : k < l.length := by omega
     have e3 := wi_succ (k := k) (by omega)
     refine icall_drop [] (own_call c k (noteAt l k)) ⟨arg_from, arg_note, trivial⟩ (.c _) ?_
     simp only [↓wt, wz, reduceAdd, reduceMul, reduceEqDiff, reduceLeDiff, Nat.reduceLT, reduceLE, reduceLT, reduceEq, reduceNe]
     repeat' (first | ((first | refine r_casesD (fun hp hb => ?_) (fun hp hb => ?_) | refine r_casesN (fun hp hb => ?_) (fun hp hb => ?_) | refine r_casesM (fun hp hb => ?_) (fun hp hb => ?_) | refine r_casesB (fun hp hb => ?_) (fun hp hb => ?_) | refine r_gcasesD (fun hp hb => ?_) (fun hp hb => ?_) | refine r_gcasesN (fun hp hb => ?_) (fun hp hb => ?_) | refine r_gcasesM (fun hp hb => ?_) (fun hp hb => ?_) | refine r_gcasesB (fun hp hb => ?_) (fun hp hb => ?_)) <;> simp only [↓wt, wz, reduceAdd, reduceMul, reduceEqDiff, reduceLeDiff, Nat.reduceLT, reduceLE, reduceLT, reduceEq, reduceNe, e3, hb]) | ((with_reducible refine And.intro ?_ ?_); omega) | fail)
     · rename_i hw _; have hz := hp
       refine ⟨k + 1, ⟨by omega, fun j hj => ?_⟩, by omega, ?_⟩
       · rcases Nat.lt_or_ge j k with h | h
         · exact hG j h
         · have : j = k := by omega
           subst this
           exact ⟨by rw [hz]; exact note0_ok hmc _, fun _ => hz⟩
       · simp only [↓wt, wz, wkf, reduceAdd, reduceMul, reduceEqDiff, reduceLeDiff, Nat.reduceLT, reduceLE, reduceLT, reduceEq, reduceNe, e3, underL_N, under_e]
         try trivial
     · rename_i hw _; have hz := hp
       simp only [↓wt, wz, reduceAdd, reduceMul, reduceEqDiff, reduceLeDiff, Nat.reduceLT, reduceLE, reduceLT, reduceEq, reduceNe, Tryz.results49]
       exact exp_bF (p := MayN c who l) fun h => hz ((h.2.2 k hkl).2 hw)
   · have hkl : k < l.length := by omega
     have e3 := wi_succ (k := k) (by omega)
     refine icall_drop [] (note_call c k (noteAt l k)) ⟨arg_from, arg_note, trivial⟩ (.c _) ?_
     simp only [↓wt, wz, reduceAdd, reduceMul, reduceEqDiff, reduceLeDiff, Nat.reduceLT, reduceLE, reduceLT, reduceEq, reduceNe]
     repeat' (first | ((first | refine r_casesD (fun hp hb => ?_) (fun hp hb => ?_) | refine r_casesN (fun hp hb => ?_) (fun hp hb => ?_) | refine r_casesM (fun hp hb => ?_) (fun hp hb => ?_) | refine r_casesB (fun hp hb => ?_) (fun hp hb => ?_) | refine r_gcasesD (fun hp hb => ?_) (fun hp hb => ?_) | refine r_gcasesN (fun hp hb => ?_) (fun hp hb => ?_) | refine r_gcasesM (fun hp hb => ?_) (fun hp hb => ?_) | refine r_gcasesB (fun hp hb => ?_) (fun hp hb => ?_)) <;> simp only [↓wt, wz, reduceAdd, reduceMul, reduceEqDiff, reduceLeDiff, Nat.reduceLT, reduceLE, reduceLT, reduceEq, reduceNe, e3, hb]) | ((with_reducible refine And.intro ?_ ?_); omega) | fail)
     · rename_i hw _; have hz := hp
       refine ⟨k + 1, ⟨by omega, fun j hj => ?_⟩, by omega, ?_⟩
       · rcases Nat.lt_or_ge j k with h | h
         · exact hG j h
         · have : j = k := by omega
           subst this
           exact ⟨hz, fun h => absurd h hw⟩
       · simp only [↓wt, wz, wkf, reduceAdd, reduceMul, reduceEqDiff, reduceLeDiff, Nat.reduceLT, reduceLE, reduceLT, reduceEq, reduceNe, e3, underL_N, under_e]
         try trivial
     · rename_i hw _; have hz := hp
       simp only [↓wt, wz, reduceAdd, reduceMul, reduceEqDiff, reduceLeDiff, Nat.reduceLT, reduceLE, reduceLT, reduceEq, reduceNe, Tryz.results49]
       exact exp_bF (p := MayN c who l) fun h => hz (h.2.2 k hkl).1
   · have hk2 : k = l.length := by omega
     subst hk2
     simp only [↓wt, wz, reduceAdd, reduceMul, reduceEqDiff, reduceLeDiff, Nat.reduceLT, reduceLE, reduceLT, reduceEq, reduceNe, Tryz.results49]
     exact exp_bT (p := MayN c who l) ⟨hc, by omega, hG⟩
end Go.Ab
namespace Go.Ab
open Go Go.Proofs Go.RowKit
def idxA {α : Type} (p : α → Bool) : List α → Nat → Int
 | [], _ => -1
 | a :: r, k => if p a = true then k else idxA p r (k + 1)
theorem idxA_at {α : Type} {p : α → Bool} {d : α} : ∀ (o : List α) (k n : Nat), k < o.length → (∀ j, j < k → p (o.getD j d) = false) → p (o.getD k d) = true → idxA p o n = ((n + k : Nat) : Int)
 | a :: r, 0, n, _, _, h => by
  have : p a = true := h
  simp [idxA, this]
 | a :: r, k + 1, n, hk, hb, h => by
  have h0 : p a = false := hb 0 (by omega)
  have := idxA_at r k (n + 1) (by simpa using hk) (fun j hj => by have := hb (j + 1) (by omega); simpa using this) (by simpa using h)
  simp only [idxA, h0, this, Bool.false_eq_true, if_false]
  omega
theorem idxA_none {α : Type} {p : α → Bool} {d : α} : ∀ (o : List α) (n : Nat), (∀ j, j < o.length → p (o.getD j d) = false) → idxA p o n = -1
 | [], n, _ => rfl
 | a :: r, n, h => by
  have h0 : p a = false := h 0 (by simp)
  simp only [idxA, h0, Bool.false_eq_true, if_false]
  exact idxA_none (d := d) r (n + 1) fun j hj => by have := h (j + 1) (by simpa using hj); simpa using this
theorem idxA_iff {α : Type} {p : α → Bool} : ∀ (o : List α) (n : Nat), 0 ≤ idxA p o n ↔ o.any p = true
 | [], n => by simp [idxA]
 | a :: r, n => by
  unfold idxA
  rw [List.any_cons]
  by_cases h : p a = true
  · rw [if_pos h, h]; simp
  · rw [if_neg h, idxA_iff r (n + 1)]
    have h' : p a = false := by simpa using h
    rw [h', Bool.false_or]
theorem idxA_any {α : Type} {p : α → Bool} (o : List α) (n : Nat) : decide (idxA p o n ≥ 0) = o.any p := by
 rw [Bool.eq_iff_iff, decide_eq_true_iff]; exact idxA_iff o n
def MayM (c : Conf) (m : MailD) : Prop :=
 ThereC c m.f ∧ There c m.o ∧ m.f ≠ m.o ∧ 1 ≤ m.ck ∧ RightB c m.r ∧ (m.e.length : Int) = c.n ∧ lookAt m.e m.f.toNat = (0, 0) ∧ (∀ k, k < m.e.length → LookOk (lookAt m.e k).1 (lookAt m.e k).2) ∧ NoteOk c m.f m.note
noncomputable instance (c : Conf) (m : MailD) : Decidable (MayM c m) := Classical.propDecidable _
end Go.Ab
