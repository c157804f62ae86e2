/- Walking by simp: rules whose continuations are named, so that nothing is looked at before its turn. -/
import Derived.Test.YtpjmbigfgoogaacAb19
set_option linter.unusedVariables false
set_option linter.unusedSimpArgs false
set_option linter.constructorNameAsVariable false
namespace Go.Ab
open Go Go.RowKit

def atM (K : AV → Mem → Prop) (M : Mem) (a : AV) : Prop := K a M
def aopS (P : Program) (tab : Tab) (K : ASt → Prop) (dst : Option Tmp) (op : Op) (s : ASt) : Prop := aop P tab s K ⟨dst, op, 0, "", #[], none⟩
def setT (sl : Slots) (N : Nat) (K : ASt → Prop) (dst : Option Tmp) (a : AV) (M : Mem) : Prop := setK ⟨sl, ⟨[], 0⟩, N⟩ K dst a M
def setX (sl : Slots) (N : Nat) (K : ASt → Prop) (dst : Option Tmp) (M : Mem) : Prop := setT sl N K dst .x M
def skS (K : ASt → Prop) (dst : Option Tmp) (s : ASt) : Prop := setK s K dst (.t []) s.m
def gS (o : Option Tmp) (w : Bool) (y n : ASt → Prop) (s : ASt) : Prop := ∃ d b, o = some d ∧ d < s.N ∧ gv (Slots.get s.sl d) w = some b ∧ if b = true then y s else n s
def gB (a : AV) (w : Bool) (y n : ASt → Prop) (s : ASt) : Prop := ∃ b, gv a w = some b ∧ if b = true then y s else n s
def condS (a : AV) (y n : ASt → Prop) (s : ASt) : Prop := condK a (y s) (n s)
def selK (o : Option Blk) (n : Nat) (K : Blk → Prop) : Prop := ∃ blk, o = some blk ∧ n = blk.xs.length ∧ K blk

section
variable {P : Program} {tab : Tab} {K : ASt → Prop} {KE : Exit → ASt → Prop} {dst : Option Tmp} {sl : Slots} {m : Mem} {N : Nat} {s : ASt}
theorem r_skip : aw P tab .skip KE s = KE .normal s := rfl
theorem r_label {l : Nat} : aw P tab (.label l) KE s = KE .normal s := rfl
theorem r_ret : aw P tab .ret KE s = KE .ret s := rfl
theorem r_exit {id : Nat} : aw P tab (.exit id) KE s = KE (.exit id) s := rfl
theorem r_region {id : Nat} {ops : Array Oper} : aw P tab (.region id ops false) KE s = aops P tab ops (KE .normal) ops.toList s := rfl
theorem r_draw {id : Nat} {ops : Array Oper} : aw P tab (.region id ops true) KE s = ACode P (.region id ops true) KE s := rfl
theorem r_seq {x' y : Code} : aw P tab (.seq x' y) KE s = aw P tab x' (thenK (aw P tab y KE) KE) s := rfl
theorem r_cond {c : Operand} {x' y : Code} : aw P tab (.cond c x' y) KE s = condS (ev s.sl c) (aw P tab x' KE) (aw P tab y KE) s := rfl
theorem r_block {id : Nat} {c : Code} : aw P tab (.block id c) KE s = aw P tab c (blockK id KE) s := rfl
theorem r_loop {c : Code} : aw P tab (.loop c) KE s = ACode P (.loop c) KE s := rfl
theorem r_then {n : ASt → Prop} : thenK n KE .normal s = n s := rfl
theorem r_thenR {n : ASt → Prop} : thenK n KE .ret s = KE .ret s := rfl
theorem r_thenE {n : ASt → Prop} {j : Nat} : thenK n KE (.exit j) s = KE (.exit j) s := rfl
theorem r_blockN {id : Nat} : blockK id KE .normal s = KE .normal s := rfl
theorem r_blockR {id : Nat} : blockK id KE .ret s = KE .ret s := rfl
theorem r_blockE {id : Nat} : blockK id KE (.exit id) s = KE .normal s := by simp [blockK]
theorem r_blockF {id j : Nat} (h : Nat.beq j id = false) : blockK id KE (.exit j) s = KE (.exit j) s := by
  have : j ≠ id := fun e => by subst e; simp at h
  simp [blockK, this]
theorem r_condT {y n : ASt → Prop} : condS (.c (.bool true)) y n s = y s := rfl
theorem r_condF {y n : ASt → Prop} : condS (.c (.bool false)) y n s = n s := rfl
theorem r_cases {b : Bool} {y n : ASt → Prop} (h1 : b = true → y s) (h2 : b = false → n s) : condS (.c (.bool b)) y n s := by cases b; exact h2 rfl; exact h1 rfl
theorem r_nil {ops : Array Oper} : aops P tab ops K [] s = K s := rfl
theorem r_op {ops : Array Oper} {r : List Oper} {op : Op} {ty : TypeId} {pos : String} {af : Array Edge} :
    aops P tab ops K (⟨dst, op, ty, pos, af, none⟩ :: r) s = aopS P tab (aops P tab ops K r) dst op s := rfl
theorem r_opg {ops : Array Oper} {r : List Oper} {op : Op} {ty : TypeId} {pos : String} {af : Array Edge} {j : Nat} {w : Bool} :
    aops P tab ops K (⟨dst, op, ty, pos, af, some (j, w)⟩ :: r) s = gS ((ops[j]?).bind (·.dst)) w (aopS P tab (aops P tab ops K r) dst op) (skS (aops P tab ops K r) dst) s := rfl
theorem r_gS {d : Tmp} {w : Bool} {y n : ASt → Prop} : gS (some d) w y n ⟨sl, m, N⟩ = (d < N ∧ gB (Slots.get sl d) w y n ⟨sl, m, N⟩) := by
  simp only [gS, gB, Option.some.injEq, eq_iff_iff]
  constructor
  · rintro ⟨_, b, rfl, h1, h2, h3⟩; exact ⟨h1, b, h2, h3⟩
  · rintro ⟨h1, b, h2, h3⟩; exact ⟨d, b, rfl, h1, h2, h3⟩
theorem gB_eq {b w : Bool} {y n : ASt → Prop} : gB (.c (.bool b)) w y n s = if b = w then y s else n s := by
  simp only [gB, gv, Option.some.injEq, exists_eq_left']
  cases b <;> cases w <;> simp
theorem r_gU {w : Bool} {y n : ASt → Prop} : gB (.t []) w y n s = n s := by simp [gB, gv]
theorem r_gTT {y n : ASt → Prop} : gB (.c (.bool true)) true y n s = y s := by simp [gB_eq]
theorem r_gFF {y n : ASt → Prop} : gB (.c (.bool false)) false y n s = y s := by simp [gB_eq]
theorem r_gTF {y n : ASt → Prop} : gB (.c (.bool true)) false y n s = n s := by simp [gB_eq]
theorem r_gFT {y n : ASt → Prop} : gB (.c (.bool false)) true y n s = n s := by simp [gB_eq]
theorem r_gcases {b w : Bool} {y n : ASt → Prop} (h1 : b = true → gB (.c (.bool true)) w y n s) (h2 : b = false → gB (.c (.bool false)) w y n s) : gB (.c (.bool b)) w y n s := by
  cases b; exact h2 rfl; exact h1 rfl
theorem r_set {d : Tmp} {a : AV} {M : Mem} : setT sl N K (some d) a M = (d < N ∧ K ⟨insert sl d a, M, N⟩) := rfl
theorem r_set0 {a : AV} {M : Mem} : setT sl N K none a M = K ⟨sl, M, N⟩ := rfl
theorem r_setX {M : Mem} : setX sl N K dst M = setT sl N K dst .x M := rfl
theorem r_skS : skS K dst ⟨sl, m, N⟩ = setT sl N K dst (.t []) m := by cases dst <;> rfl
theorem r_atM {K : AV → Mem → Prop} {M : Mem} {a : AV} : atM K M a = K a M := rfl
theorem setT_eq {a : AV} {M : Mem} : setK ⟨sl, m, N⟩ K dst a M = setT sl N K dst a M := by cases dst <;> rfl
theorem setT_fun : setK ⟨sl, m, N⟩ K dst = setT sl N K dst := by funext a M; exact setT_eq
theorem setT_fun2 : (fun a M => setK ⟨sl, m, N⟩ K dst a M) = setT sl N K dst := by funext a M; exact setT_eq
theorem setX_fun : (fun M => setK ⟨sl, m, N⟩ K dst .x M) = setX sl N K dst := by funext M; exact setT_eq

variable {x' y c a b : Operand} {T : TypeId} {type : TypeId}
theorem o_move : aopS P tab K dst (.move x') ⟨sl, m, N⟩ = setT sl N K dst (ev sl x') m := setT_eq
theorem o_assign : aopS P tab K dst (.assign x') ⟨sl, m, N⟩ = setT sl N K dst (ev sl x') m := setT_eq
theorem o_pick : aopS P tab K dst (.pick c a b) ⟨sl, m, N⟩ = pickK (ev sl c) (ev sl a) (ev sl b) (atM (setT sl N K dst) m) := by
  show pickK _ _ _ (fun a => setK ⟨sl, m, N⟩ K dst a m) = _
  simp only [setT_eq]; rfl
theorem o_alloc : aopS P tab K dst (.alloc T) ⟨sl, m, N⟩ = tiK tab T fun ti => allocK T ti m (setT sl N K dst) := by
  rw [← setT_fun2 (m := m)]; rfl
theorem o_box : aopS P tab K dst (.box T x') ⟨sl, m, N⟩ = boxK T m (ev sl x') (setT sl N K dst) := by
  rw [← setT_fun2 (m := m)]; rfl
theorem o_build {ps : Array (Nat × Operand)} : aopS P tab K dst (.build T ps) ⟨sl, m, N⟩ = tiK tab T fun ti => stK ti.k fun fs => buildK tab ti fs m (ps.toList.map fun p => (p.1, ev sl p.2)) (setT sl N K dst) := by
  rw [← setT_fun2 (m := m)]; rfl
theorem o_buildSlice {n : Nat} {ps : Array (Nat × Operand)} : aopS P tab K dst (.buildSlice T n ps) ⟨sl, m, N⟩ = tiK tab T fun tt => slK tt.k fun e => tiK tab e fun ti =>
    n = ps.toList.length ∧ (ps.toList.map fun p => p.1) = List.range' 0 n ∧ sliceK e ti m (ps.toList.map fun p => (p.1, ev sl p.2)) (setT sl N K dst) := by
  rw [← setT_fun2 (m := m)]; rfl
theorem o_load : aopS P tab K dst (.load T x') ⟨sl, m, N⟩ = tiK tab T fun ti => ti.k.known = true ∧ loadK ti m (ev sl x') (setT sl N K dst) := by
  rw [← setT_fun2 (m := m)]; rfl
theorem o_nilCheck : aopS P tab K dst (.nilCheck x') ⟨sl, m, N⟩ = nilCheckK (ev sl x') (atM (setT sl N K dst) m) := by
  rw [← setT_fun2 (m := m)]; rfl
theorem o_bin {op : BinOp} {yT : TypeId} : aopS P tab K dst (.binOp op T x' y yT) ⟨sl, m, N⟩ = tiK tab T fun ti => binK P op T ti.k m (ev sl x') (ev sl y) (setT sl N K dst) := by
  rw [← setT_fun2 (m := m)]; rfl
theorem o_un {op : UnOp} : aopS P tab K dst (.unOp op T x') ⟨sl, m, N⟩ = unK op (ev sl x') (atM (setT sl N K dst) m) := by
  rw [← setT_fun2 (m := m)]; rfl
theorem o_conv {S : TypeId} : aopS P tab K dst (.convert S T x') ⟨sl, m, N⟩ = tiK tab S fun ta => tiK tab T fun tb => ta.k.known = true ∧ cvK (Nat.beq S T) ta.k tb.k tab m (ev sl x') (setT sl N K dst) := by
  rw [← setT_fun2 (m := m)]; rfl
theorem o_makeFunc {f : FuncId} {first caps : Array Operand} : aopS P tab K dst (.makeFunc (.func f) first caps) ⟨sl, m, N⟩ = (first.toList = [] ∧ setT sl N K dst (.f f (caps.toList.map fun c => ev sl c)) m) := by
  rw [← setT_fun2 (m := m)]; rfl
theorem o_makeSlice {l c : Operand} : aopS P tab K dst (.makeSlice T l c) ⟨sl, m, N⟩ = tiK tab T fun tt => slK tt.k fun e => tiK tab e fun ti => makeK e ti m (ev sl l) (ev sl c) (setT sl N K dst) := by
  rw [← setT_fun2 (m := m)]; rfl
theorem o_slice {lo hi mx : Option Operand} : aopS P tab K dst (.slice T x' lo hi mx) ⟨sl, m, N⟩ = tiK tab T fun tt => cutK tt.k tab m (lo.map (ev sl)) (hi.map (ev sl)) (mx.map (ev sl)) (ev sl x') (setT sl N K dst) := by
  rw [← setT_fun2 (m := m)]; rfl
theorem o_fieldAddr {f : Nat} : aopS P tab K dst (.fieldAddr T x' f) ⟨sl, m, N⟩ = tiK tab T fun tS => stK tS.k fun fs => f < fs.length ∧ tiK tab (fs.getD f (0, 0)).2 fun ti => fieldK fs ti f m (ev sl x') (setT sl N K dst) := by
  rw [← setT_fun2 (m := m)]; rfl
theorem o_field {f : Nat} : aopS P tab K dst (.field T x' f) ⟨sl, m, N⟩ = tiK tab T fun tS => stK tS.k fun fs => f < fs.length ∧ tiK tab (fs.getD f (0, 0)).2 fun ti => ti.k.known = true ∧ fieldVK fs ti f (ev sl x') (atM (setT sl N K dst) m) := by
  rw [← setT_fun2 (m := m)]; rfl
theorem o_indexAddr : aopS P tab K dst (.indexAddr T x' y) ⟨sl, m, N⟩ = tiK tab T fun tt => slK tt.k fun e => tiK tab e fun ti => idxK ti.sz m (ev sl x') (ev sl y) (setT sl N K dst) := by
  rw [← setT_fun2 (m := m)]; rfl
theorem o_extract {i : Nat} : aopS P tab K dst (.extract x' i) ⟨sl, m, N⟩ = extractK i (ev sl x') (atM (setT sl N K dst) m) := by
  rw [← setT_fun2 (m := m)]; rfl
theorem o_callF {f : FuncId} {as : Array Operand} {ts : Array TypeId} : aopS P tab K dst (.call ⟨.value (.func f), as, ts⟩) ⟨sl, m, N⟩ = ICall P f (as.toList.map (ev sl)) m (setT sl N K dst) := by
  rw [← setT_fun2 (m := m)]
  show ICall P f (as.toList.map (fun o => ev sl o) ++ []) m _ = _
  rw [List.append_nil]
theorem o_callV {f : Tmp} {as : Array Operand} {ts : Array TypeId} : aopS P tab K dst (.call ⟨.value (.tmp f), as, ts⟩) ⟨sl, m, N⟩ = callValK P m (as.toList.map (ev sl)) (setT sl N K dst) (Slots.get sl f) := by
  rw [← setT_fun2 (m := m)]; rfl
theorem o_len {t : TypeId} : aopS P tab K dst (.call ⟨.builtin .len, #[x'], #[t]⟩) ⟨sl, m, N⟩ = tiK tab t fun ti => lenK ti.k (ev sl x') (atM (setT sl N K dst) m) := by
  rw [← setT_fun2 (m := m)]; rfl
theorem o_append {t t2 : TypeId} : aopS P tab K dst (.call ⟨.builtin .append, #[x', y], #[t, t2]⟩) ⟨sl, m, N⟩ = tiK tab t fun tt => slK tt.k fun e => tiK tab e fun ti => (tiK tab t2 fun t2i => t2i.k = .str ∨ ∃ e2, t2i.k = .sl e2) ∧ appendK e ti m (ev sl x') (ev sl y) (setT sl N K dst) := by
  rw [← setT_fun2 (m := m)]; rfl
theorem o_max {ts : Array TypeId} : aopS P tab K dst (.call ⟨.builtin .max, #[x', y], ts⟩) ⟨sl, m, N⟩ = maxK (ev sl x') (ev sl y) (atM (setT sl N K dst) m) := by
  rw [← setT_fun2 (m := m)]
  obtain ⟨ts⟩ := ts
  cases ts with
  | nil => rfl
  | cons _ ts => cases ts <;> rfl
theorem o_min {ts : Array TypeId} : aopS P tab K dst (.call ⟨.builtin .min, #[x', y], ts⟩) ⟨sl, m, N⟩ = minK (ev sl x') (ev sl y) (atM (setT sl N K dst) m) := by
  rw [← setT_fun2 (m := m)]
  obtain ⟨ts⟩ := ts
  cases ts with
  | nil => rfl
  | cons _ ts => cases ts <;> rfl
theorem o_store : aopS P tab K dst (.store T x' y) ⟨sl, m, N⟩ = tiK tab T fun ti => storeK ti m (ev sl x') (ev sl y) (setX sl N K dst) := by
  rw [← setX_fun (m := m)]; rfl
end

theorem ev_tmp {sl : Slots} {t : Tmp} : ev sl (.tmp t) = (assoc sl t).getD .x := rfl
theorem ev_const {sl : Slots} {v : Value} : ev sl (.const v) = constAV v := rfl
theorem ev_global {sl : Slots} {g : Nat} : ev sl (.global g) = .c (.pointer (some ⟨g, 0, none⟩)) := rfl
theorem ev_func {sl : Slots} {f : FuncId} : ev sl (.func f) = .f f [] := rfl
theorem cv_int {k : IntKind} {n : Int} : constAV (.int k n) = .c (.int k n) := rfl
theorem cv_bool {b : Bool} : constAV (.bool b) = .c (.bool b) := rfl
theorem cv_string {b : ByteArray} : constAV (.string b) = .c (.string b) := rfl
theorem cv_slice {A : Option Addr} {n c : Nat} : constAV (.slice A n c) = .c (.slice A n c) := rfl
theorem cv_ptr {A : Option Addr} : constAV (.pointer A) = .c (.pointer A) := rfl
theorem nbeq {a b : Nat} : Nat.beq a b = decide (a = b) := by
  by_cases h : a = b
  · subst h; simp
  · rw [beq_ne h]; simp [h]
theorem nble {a b : Nat} : Nat.ble a b = decide (a ≤ b) := by
  by_cases h : a ≤ b
  · rw [Nat.ble_eq_true_of_le h]; simp [h]
  · simp only [h, decide_false]
    exact Bool.eq_false_iff.2 fun e => h (Nat.le_of_ble_eq_true e)
theorem tkAlt {e : TypeId} : (TK.sl e = TK.str ∨ ∃ e2, TK.sl e = TK.sl e2) = True := eq_true (.inr ⟨e, rfl⟩)
theorem tkAlt2 : (TK.str = TK.str ∨ ∃ e2, TK.str = TK.sl e2) = True := eq_true (.inl rfl)
theorem encB_toInt {b : UInt8} : encB b = .c (.int .u8 b.toNat) := rfl
/-- What is under a bound. -/
theorem under_c {k : Nat} {v : Value} : Under k (.c v) = True := eq_true (.c v)
theorem under_x {k : Nat} : Under k .x = True := eq_true .x
theorem under_s {k id off n : Nat} : Under k (.s id off n) = (id < k) := propext ⟨fun h => by cases h; assumption, .s _ _ _⟩
theorem under_p {k id i j n : Nat} : Under k (.p id i j n) = (id < k) := propext ⟨fun h => by cases h; assumption, .p _ _ _ _⟩
theorem under_l {k sz : Nat} {xs : List AV} : Under k (.l sz xs) = UnderL k xs := propext ⟨fun h => by cases h; assumption, .l _ _⟩
theorem underL_nil {k : Nat} : UnderL k [] = True := eq_true fun i h => absurd h (by simp)
theorem underL_cons {k : Nat} {a : AV} {r : List AV} : UnderL k (a :: r) = ((∀ x ∈ a.cells, Under k x) ∧ UnderL k r) := propext ⟨fun h => ⟨fun x hx => by
    obtain ⟨j, hj, rfl⟩ := List.getElem_of_mem hx
    exact h 0 (by simp) j hj, fun i hi j hj => h (i + 1) (by simpa using hi) j hj⟩, fun ⟨h1, h2⟩ i hi j hj => by
    cases i with
    | zero => exact h1 _ (List.getElem_mem _)
    | succ i => exact h2 i (by simpa using hi) j hj⟩
theorem underL_append {k : Nat} {l r : List AV} : UnderL k (l ++ r) = (UnderL k l ∧ UnderL k r) := by
  induction l with
  | nil => simp [underL_nil]
  | cons a l ih => simp only [List.cons_append, underL_cons, ih, and_assoc]
theorem underL_B {k : Nat} {l : List UInt8} : UnderL k (l.map encB) = True := by
  induction l with
  | nil => simp [underL_nil]
  | cons a l ih => simp only [List.map_cons, underL_cons, ih, encB, AV.cells, List.mem_singleton, forall_eq, under_c, and_self]
theorem underL_B1 {k : Nat} {b : UInt8} : UnderL k [encB b] = True := underL_B (l := [b])
theorem mapB_snoc {l : List UInt8} {b : UInt8} : l.map encB ++ [encB b] = (l ++ [b]).map encB := by simp
theorem pureL_eq {xs : List AV} : PureL xs = UnderL 0 xs := rfl
theorem pureB (l : List UInt8) : PureL (l.map encB) := by rw [pureL_eq, underL_B]; trivial
theorem exp_own {M : Mem} {id n : Nat} {T : TypeId} {sz : Nat} {xs : List AV} (h : M.get id = some ⟨T, sz, xs⟩) (hn : n = xs.length) (hp : PureL xs) : Exp M (.s id 0 n) (.o T sz xs) :=
  ⟨[id], [], ⟨rfl, rfl, rfl, h, hn, hp⟩, by simp, by simp⟩
theorem exp_c {M : Mem} {v : Value} : Exp M (.c v) (.c v) := ⟨[], [], by
    have h : ExpC M (.c v) (.c v) [] [] := by unfold ExpC; exact ⟨.refl _, .c v, rfl, rfl⟩
    exact h, by simp, by simp⟩
/-- Whole numbers. -/
theorem wrap_u64 {n : Nat} (h : n < 18446744073709551616) : IntKind.u64.wrap (n : Int) = n := by rw [IntKind.wrap_u64]; omega
theorem wrap_u8 {n : Int} : IntKind.u8.wrap n = n % 256 := IntKind.wrap_u8 n
theorem shr_nat {n k : Nat} : (n : Int).fdiv (2 ^ k) = ((n / 2 ^ k : Nat) : Int) := by
  rw [Int.fdiv_eq_ediv_of_nonneg _ (Int.pow_nonneg (by decide))]
  norm_cast
/-- Facts for what is looked up. -/
theorem tiK_of {tab : Tab} {t : TypeId} {ti : TI} (h : assoc tab t = some ti) (K : TI → Prop) : tiK tab t K = K ti := by
  simp only [tiK, h, Option.some.injEq, exists_eq_left']
theorem slK_eq {e : TypeId} {K : TypeId → Prop} : slK (.sl e) K = K e := by simp only [slK, TK.sl.injEq, exists_eq_left']
theorem stK_eq {fs : List (Nat × TypeId)} {K : List (Nat × TypeId) → Prop} : stK (.st fs) K = K fs := by simp only [stK, TK.st.injEq, exists_eq_left']
theorem blkK_sel {M : Mem} {id n : Nat} {K : Blk → Prop} : blkK M id n K = selK (M.get id) n K := rfl
theorem selK_eq {blk : Blk} {n : Nat} {K : Blk → Prop} : selK (some blk) n K = (n = blk.xs.length ∧ K blk) := by simp only [selK, Option.some.injEq, exists_eq_left']
theorem elem_0 {x' : AV} {xs : List AV} {K : AV → Prop} : Elem (x' :: xs) 0 K = K x' := by simp [Elem]
theorem elem_s {x' : AV} {xs : List AV} {i : Nat} {K : AV → Prop} : Elem (x' :: xs) (i + 1) K = Elem xs i K := by simp [Elem]
theorem elem_B {l : List UInt8} {i : Nat} {K : AV → Prop} : Elem (l.map encB) i K = (i < l.length ∧ K (encB (l.getD i 0))) := by
  simp only [Elem, List.length_map, List.getElem_map, eq_iff_iff]
  constructor
  · rintro ⟨h, k⟩
    refine ⟨h, ?_⟩
    rw [List.getD_eq_getElem?_getD, List.getElem?_eq_getElem h]; exact k
  · rintro ⟨h, k⟩
    refine ⟨h, ?_⟩
    rw [List.getD_eq_getElem?_getD, List.getElem?_eq_getElem h] at k; exact k

theorem aw_congr {P : Program} {tab : Tab} {c : Code} {K : Exit → ASt → Prop} {s s' : ASt} (h : s = s') : aw P tab c K s = aw P tab c K s' := by rw [h]
theorem aops_congr {P : Program} {tab : Tab} {ops : Array Oper} {K : ASt → Prop} {l : List Oper} {s s' : ASt} (h : s = s') : aops P tab ops K l s = aops P tab ops K l s' := by rw [h]
theorem aopS_congr {P : Program} {tab : Tab} {s s' : ASt} {K : ASt → Prop} {d : Option Tmp} {o : Op} (h : s = s') : aopS P tab K d o s = aopS P tab K d o s' := by rw [h]
theorem setT_congr {sl : Slots} {N : Nat} {K : ASt → Prop} {d : Option Tmp} {a a' : AV} {M M' : Mem} (h : a = a') (h' : M = M') : setT sl N K d a M = setT sl N K d a' M' := by rw [h, h']
theorem tiK_congr {tab : Tab} {t t' : TypeId} {K : TI → Prop} (h : t = t') : tiK tab t K = tiK tab t' K := by rw [h]
theorem slK_congr {k k' : TK} {K : TypeId → Prop} (h : k = k') : slK k K = slK k' K := by rw [h]
theorem stK_congr {k k' : TK} {K : List (Nat × TypeId) → Prop} (h : k = k') : stK k K = stK k' K := by rw [h]
theorem selK_congr {o o' : Option Blk} {n n' : Nat} {K : Blk → Prop} (h : o = o') (h1 : n = n') : selK o n K = selK o' n' K := by rw [h, h1]
theorem Elem_congr {xs xs' : List AV} {i i' : Nat} {K : AV → Prop} (h : xs = xs') (h1 : i = i') : Elem xs i K = Elem xs' i' K := by rw [h, h1]
theorem srcK_congr {sz sz' : Nat} {M M' : Mem} {a a' : AV} {K : List AV → Prop} (h0 : sz = sz') (h : M = M') (h1 : a = a') : srcK sz M a K = srcK sz' M' a' K := by rw [h0, h, h1]
theorem dstK_congr {e sz sz' : Nat} {M M' : Mem} {a a' : AV} {K : List AV → (Blk → Nat × Mem) → Prop} (h0 : sz = sz') (h : M = M') (h1 : a = a') : dstK e sz M a K = dstK e sz' M' a' K := by rw [h0, h, h1]
theorem bnd_congr {d d' : Int} {a a' : Option AV} {K : Int → Prop} (h : d = d') (h1 : a = a') : bnd d a K = bnd d' a' K := by rw [h, h1]
theorem bnds_congr {n n' : Nat} {a a' b b' c c' : Option AV} {K : Nat → Nat → Prop} (h : n = n') (h1 : a = a') (h2 : b = b') (h3 : c = c') : bnds n a b c K = bnds n' a' b' c' K := by rw [h, h1, h2, h3]
theorem fillA_congr {tab : Tab} {fs : List (Nat × TypeId)} {cs cs' : List AV} {ps ps' : List (Nat × AV)} {K : List AV → Prop} (h : cs = cs') (h1 : ps = ps') : fillA tab fs cs ps K = fillA tab fs cs' ps' K := by rw [h, h1]
attribute [congr] aw_congr aops_congr aopS_congr setT_congr tiK_congr slK_congr stK_congr selK_congr Elem_congr srcK_congr dstK_congr bnd_congr bnds_congr fillA_congr
end Go.Ab
