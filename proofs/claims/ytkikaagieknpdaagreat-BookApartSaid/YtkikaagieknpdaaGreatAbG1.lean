/- Abstract values and how they stand for the machine's values: whole numbers, .. -/
import Derived.WalkKit
import Derived.WalkSpells
import Derived.WalkLawsBesides
import Derived.Deep.Draws
import Derived.OrdersIn
import Derived.RangeFuncCalls
import Derived.Sort.LoopGhostIn
set_option linter.unusedVariables false
set_option linter.unusedSimpArgs false
set_option linter.constructorNameAsVariable false
namespace Go.Ab
open Go Go.RowKit
inductive AV where
 | c (v : Value)
 | l (sz : Nat) (xs : List AV)
 | o (T sz : Nat) (xs : List AV)
 | g (cs : List AV)
 | t (vs : List AV)
 | p (id i j n : Nat)
 | e (cs : List AV)
 | s (id off n : Nat)
 | f (fn : FuncId) (caps : List AV)
 | b (fn : FuncId) (first : List AV)
 | u (sz : Nat) (xs : List AV)
 | w (id len n : Nat)
 | x
 deriving Inhabited
def AV.cells : AV → List AV
 | .g cs => cs
 | v => [v]
structure At where
 b : Nat
 sz : Nat
 n : Nat
 cp : Nat
structure Env where
 w : World
 ad : Nat → Option At
 k : Nat
 hid : Nat → Prop
def Env.Z (E : Env) (b : Nat) : Prop := b < E.w.heap.size ∧ ¬ E.hid b ∧ ∀ id q, E.ad id = some q → 0 < q.cp → q.b ≠ b
def One (v : Value) : Prop := v.oneCell' = true
inductive Rep (E : Env) : AV → Value → Prop where
 | c (v : Value) (h : One v) : Rep E (.c v) v
 | x (v : Value) : Rep E .x v
 | g (cs : List AV) (ys : Array Value) (h : ys.size = cs.length) (hr : ∀ i (h1 : i < cs.length) (h2 : i < ys.size), Rep E cs[i] ys[i]) : Rep E (.g cs) (.agg ys)
 | t (cs : List AV) (ys : Array Value) (h : ys.size = cs.length) (hr : ∀ i (h1 : i < cs.length) (h2 : i < ys.size), Rep E cs[i] ys[i]) : Rep E (.t cs) (.tuple ys)
 | l (sz : Nat) (xs : List AV) (b off cap : Nat) (y : Nat → Nat → Value) (hcap : xs.length ≤ cap) (hz : E.Z b)
  (hs : ∀ i (h : i < xs.length), xs[i].cells.length = sz)
  (hc : ∀ i j, i < xs.length → j < sz → E.w.cell? ⟨b, off + (i * sz + j), none⟩ = some (y i j) ∧ One (y i j))
  (hr : ∀ i (hi : i < xs.length) j (hj : j < xs[i].cells.length), Rep E xs[i].cells[j] (y i j)) : Rep E (.l sz xs) (.slice (some ⟨b, off, none⟩) xs.length cap)
 | l0 (sz : Nat) (A : Option Addr) (cap : Nat) : Rep E (.l sz []) (.slice A 0 cap)
 | p (id i j n : Nat) (a : Addr) (hk : id < E.k) (h : ∀ q, E.ad id = some q → n ≤ q.n ∧ (n = q.n → a = ⟨q.b, i * q.sz + j, none⟩)) : Rep E (.p id i j n) (.pointer (some a))
 | s (id off n : Nat) (A : Option Addr) (cap : Nat) (hk : id < E.k)
  (h : ∀ q, E.ad id = some q → off + n ≤ q.n ∧ (off + n = q.n → off + cap = q.cp ∧ (0 < cap → A = some ⟨q.b, off * q.sz, none⟩))) : Rep E (.s id off n) (.slice A n cap)
 | e (cs : List AV) (b off : Nat) (y : Nat → Value) (hz : E.Z b) (hc : ∀ j, j < cs.length → E.w.cell? ⟨b, off + j, none⟩ = some (y j) ∧ One (y j))
  (hr : ∀ j (hj : j < cs.length), Rep E cs[j] (y j)) : Rep E (.e cs) (.pointer (some ⟨b, off, none⟩))
 | f (fn : FuncId) (caps : List AV) (ys : Array Value) (h : ys.size = caps.length) (hr : ∀ i (h1 : i < caps.length) (h2 : i < ys.size), Rep E caps[i] ys[i]) : Rep E (.f fn caps) (.func (.func fn) #[] ys)
 | b (fn : FuncId) (caps : List AV) (ys : Array Value) (h : ys.size = caps.length) (hr : ∀ i (h1 : i < caps.length) (h2 : i < ys.size), Rep E caps[i] ys[i]) : Rep E (.b fn caps) (.func (.func fn) ys #[])
 | u (sz : Nat) (xs : List AV) (A : Option Addr) (h : Rep E (.l sz xs) (.slice A xs.length xs.length)) : Rep E (.u sz xs) (.slice A xs.length xs.length)
 | w (id len n : Nat) (A : Option Addr) (cap : Nat) (hk : id < E.k) (h : ∀ q, E.ad id = some q → len ≤ q.n ∧ (q.n ≤ n → 0 < q.n ∧ n ≤ q.cp ∧ cap = q.cp ∧ A = some ⟨q.b, 0, none⟩)) : Rep E (.w id len n) (.slice A len cap)
structure Later (E E' : Env) : Prop where
 z : ∀ b, E.Z b → E'.Z b ∧ E'.w.heap[b]? = E.w.heap[b]?
 k : E.k ≤ E'.k
 ad : ∀ id, id < E.k → ∀ q', E'.ad id = some q' → ∃ q, E.ad id = some q ∧ q.n ≤ q'.n ∧ (q'.n = q.n → q = q') ∧ (0 < q.n → q'.n ≤ q.cp → q'.b = q.b ∧ q'.cp = q.cp)
 hid : E'.hid = E.hid
 hs : ∀ b, E.hid b → E'.w.heap[b]? = E.w.heap[b]?
theorem Later.refl (E : Env) : Later E E := ⟨fun _ h => ⟨h, rfl⟩, Nat.le_refl _, fun _ _ q h => ⟨q, h, Nat.le_refl _, fun _ => rfl, fun _ _ => ⟨rfl, rfl⟩⟩, rfl, fun _ _ => rfl⟩
theorem Later.trans {E E' E'' : Env} (h : Later E E') (k : Later E' E'') : Later E E'' := by
 refine ⟨fun b hb => ?_, Nat.le_trans h.k k.k, fun id hid q'' hq => ?_, k.hid.trans h.hid, fun b hb => (k.hs b (by rw [h.hid]; exact hb)).trans (h.hs b hb)⟩
 · have h1 := h.z b hb
   have h2 := k.z b h1.1
   exact ⟨h2.1, h2.2.trans h1.2⟩
 · obtain ⟨q', h1, h2, h3, hm'⟩ := k.ad id (Nat.lt_of_lt_of_le hid h.k) q'' hq
   obtain ⟨q, h4, h5, h6, hm⟩ := h.ad id hid q' h1
   refine ⟨q, h4, Nat.le_trans h5 h2, fun he => ?_, fun h0 he => ?_⟩
   rotate_left
   · obtain ⟨m1, m2⟩ := hm h0 (by omega)
     obtain ⟨m3, m4⟩ := hm' (by omega) (by omega)
     exact ⟨m3.trans m1, m4.trans m2⟩
   have e1 : q''.n = q'.n := by omega
   have e2 := h3 e1
   subst e2
   exact h6 he
theorem cell_same {w w' : World} {b : Nat} (h : w'.heap[b]? = w.heap[b]?) (o : Nat) (s : Option Nat) : w'.cell? ⟨b, o, s⟩ = w.cell? ⟨b, o, s⟩ := by
 simp only [World.cell?, h]
theorem Rep.later {E E' : Env} (hl : Later E E') {a : AV} {v : Value} (h : Rep E a v) : Rep E' a v := by
 induction h with
 | c v h => exact .c v h
 | x v => exact .x v
 | g cs ys h hr ih => exact .g cs ys h ih
 | t cs ys h hr ih => exact .t cs ys h ih
 | l sz xs b off cap y hcap hz hs hc hr ih =>
  refine .l sz xs b off cap y hcap (hl.z b hz).1 hs (fun i j hi hj => ?_) ih
  rw [cell_same (hl.z b hz).2]; exact hc i j hi hj
 | l0 sz A cap => exact .l0 sz A cap
 | p id i j n a hk h =>
  refine .p id i j n a (Nat.lt_of_lt_of_le hk hl.k) fun q' hq' => ?_
  obtain ⟨q, h1, h2, h3, hm⟩ := hl.ad id hk q' hq'
  have h4 := h q h1
  refine ⟨Nat.le_trans h4.1 h2, fun he => ?_⟩
  have : q = q' := h3 (by omega)
  subst this
  exact h4.2 he
 | s id off n A cap hk h =>
  refine .s id off n A cap (Nat.lt_of_lt_of_le hk hl.k) fun q' hq' => ?_
  obtain ⟨q, h1, h2, h3, hm⟩ := hl.ad id hk q' hq'
  have h4 := h q h1
  refine ⟨Nat.le_trans h4.1 h2, fun he => ?_⟩
  have : q = q' := h3 (by omega)
  subst this
  exact h4.2 he
 | e cs b off y hz hc hr ih =>
  refine .e cs b off y (hl.z b hz).1 (fun j hj => ?_) ih
  rw [cell_same (hl.z b hz).2]; exact hc j hj
 | f fn caps ys h hr ih => exact .f fn caps ys h ih
 | b fn caps ys h hr ih => exact .b fn caps ys h ih
 | u sz xs A h ih => exact .u sz xs A ih
 | w id len n A cap hk h =>
  refine .w id len n A cap (Nat.lt_of_lt_of_le hk hl.k) fun q' hq' => ?_
  obtain ⟨q, h1, h2, h3, hm⟩ := hl.ad id hk q' hq'
  have h4 := h q h1
  refine ⟨Nat.le_trans h4.1 h2, fun he => ?_⟩
  obtain ⟨k0, k1, k2, k3⟩ := h4.2 (by omega)
  obtain ⟨k4, k5⟩ := hm k0 (by omega)
  rw [k4, k5]
  exact ⟨by omega, k1, k2, k3⟩
structure Blk where
 T : TypeId
 sz : Nat
 xs : List AV
 deriving Inhabited
structure Mem where
 l : List (Nat × Blk)
 k : Nat
def assoc {α : Type} : List (Nat × α) → Nat → Option α
 | [], _ => none
 | (k, v) :: r, n => bif Nat.beq k n then some v else assoc r n
def insert {α : Type} : List (Nat × α) → Nat → α → List (Nat × α)
 | [], n, x => [(n, x)]
 | (k, v) :: r, n, x => bif Nat.beq k n then (n, x) :: r else bif Nat.ble n k then (n, x) :: (k, v) :: r else (k, v) :: insert r n x
theorem beq_ne {a b : Nat} (h : a ≠ b) : Nat.beq a b = false := by
 cases e : Nat.beq a b with
 | false => rfl
 | true => exact absurd (Nat.eq_of_beq_eq_true e) h
theorem assoc_insert {α : Type} (l : List (Nat × α)) (n : Nat) (x : α) (m : Nat) : assoc (insert l n x) m = if n = m then some x else assoc l m := by
 induction l with
 | nil =>
  by_cases h : n = m
  · subst h; simp [insert, assoc]
  · simp [insert, assoc, beq_ne h, h]
 | cons a r ih =>
  obtain ⟨k, v⟩ := a
  by_cases h1 : k = n
  · subst h1
    by_cases h : k = m
    · subst h; simp [insert, assoc]
    · simp [insert, assoc, beq_ne h, h]
  · cases h2 : Nat.ble n k with
    | true =>
     by_cases h : n = m
     · subst h; simp [insert, assoc, beq_ne h1, h2]
     · simp [insert, assoc, beq_ne h1, beq_ne h, h2, h]
    | false =>
     by_cases h : k = m
     · subst h; simp [insert, assoc, beq_ne h1, h2, Ne.symm h1]
     · simp [insert, assoc, beq_ne h1, beq_ne h, h2, ih]
def remove {α : Type} : List (Nat × α) → Nat → List (Nat × α)
 | [], _ => []
 | (k, v) :: r, n => bif Nat.beq k n then remove r n else (k, v) :: remove r n
theorem assoc_remove {α : Type} (l : List (Nat × α)) (n m : Nat) : assoc (remove l n) m = if n = m then none else assoc l m := by
 induction l with
 | nil => simp [remove, assoc]
 | cons a r ih =>
  obtain ⟨k, v⟩ := a
  by_cases h1 : k = n
  · subst h1
    by_cases h : k = m
    · subst h; simpa [remove] using ih
    · simpa [remove, assoc, beq_ne h, h] using ih
  · by_cases h : k = m
    · subst h; simp [remove, assoc, beq_ne h1, Ne.symm h1]
    · simpa [remove, assoc, beq_ne h1, beq_ne h] using ih
def Mem.get (M : Mem) (id : Nat) : Option Blk := assoc M.l id
def Mem.put (M : Mem) (id : Nat) (b : Blk) : Mem := ⟨insert M.l id b, M.k⟩
def Mem.drop (M : Mem) (id : Nat) : Mem := ⟨remove M.l id, M.k⟩
def U8T : TypeId := 5
def SpareA (T : TypeId) (arr : Array Value) (n : Nat) : Prop := T = U8T → ∀ j y, n ≤ j → arr[j]? = some y → ∃ v, y = .int .u8 v
theorem SpareA.exact {T : TypeId} {arr : Array Value} {n : Nat} (h : arr.size ≤ n) : SpareA T arr n := fun _ j y hj hy => by
 have := (Array.getElem?_eq_some_iff.1 hy).1
 omega
theorem SpareA.mono {T : TypeId} {arr arr' : Array Value} {n m : Nat} (h : SpareA T arr n) (hn : n ≤ m) (he : ∀ j, m ≤ j → arr'[j]? = arr[j]?) : SpareA T arr' m := fun hT j y hj hy => h hT j y (by omega) (by rw [← he j hj]; exact hy)
def Backed (E : Env) (q : At) (blk : Blk) : Prop :=
 q.cp ≤ maxLen ∧ ∃ arr, E.w.heap[q.b]? = some (.cells arr blk.T (0, 0)) ∧ (arr.size = q.cp * q.sz ∧ SpareA blk.T arr (blk.xs.length * blk.sz)) ∧
  ∀ i (hi : i < blk.xs.length), blk.xs[i].cells.length = blk.sz ∧ ∀ j (hj : j < blk.xs[i].cells.length), ∃ y, arr[i * blk.sz + j]? = some y ∧ One y ∧ Rep E blk.xs[i].cells[j] y
def GT : List (Nat × List Value) := []
structure BelowG (n : Nat) (w0 w : World) : Prop extends Below n w0 w where
 glob : ∀ g vs, (g, vs) ∈ GT → g < n ∧ ∀ i (h : i < vs.length), w0.cell? ⟨g, i, none⟩ = some vs[i]
theorem BelowG.trans {n : Nat} {a b c : World} (h : BelowG n a b) (k : Below n b c) : BelowG n a c := ⟨h.toBelow.trans k, h.glob⟩
theorem BelowG.next {n : Nat} {a b : World} (h : BelowG n a b) (hn : n ≤ b.heap.size) : BelowG b.heap.size b b := ⟨.refl _ _, fun g vs hm => by
 obtain ⟨h1, h2⟩ := h.glob g vs hm
 exact ⟨by omega, fun i hi => by rw [h.toBelow.cell (p := ⟨g, i, none⟩) h1]; exact h2 i hi⟩⟩
structure Good (w0 : World) (E : Env) (M : Mem) : Prop where
 below : BelowG w0.heap.size w0 E.w
 k : M.k = E.k
 lt : ∀ id q, E.ad id = some q → id < E.k
 gone : ∀ id, M.get id = none → E.ad id = none
 held : ∀ id blk, M.get id = some blk → ∃ q, E.ad id = some q ∧ q.sz = blk.sz ∧ q.n = blk.xs.length ∧ q.n ≤ q.cp ∧ (0 < q.cp → w0.heap.size ≤ q.b ∧ Backed E q blk)
 hid : ∀ id q, E.ad id = some q → 0 < q.cp → ¬ E.hid q.b
 old : ∀ b, E.hid b → b < E.w.heap.size
 inj : ∀ id id' q q', id ≠ id' → E.ad id = some q → E.ad id' = some q' → 0 < q.cp → 0 < q'.cp → q.b ≠ q'.b
abbrev Slots := List (Nat × AV)
def Slots.get (s : Slots) (t : Nat) : AV := (assoc s t).getD .x
def RepS (E : Env) (s : Slots) (tmps : Array Value) : Prop := ∀ t, Rep E (Slots.get s t) (tmps.getD t undef)
theorem RepS.later {E E' : Env} (hl : Later E E') {s : Slots} {tmps : Array Value} (h : RepS E s tmps) : RepS E' s tmps := fun t => (h t).later hl
theorem RepS.put {E : Env} {s : Slots} {tmps : Array Value} (h : RepS E s tmps) {d : Nat} {a : AV} {v : Value} (hd : d < tmps.size) (hr : Rep E a v) :
 RepS E (insert s d a) (tmps.setIfInBounds d v) := by
 intro t
 unfold Slots.get
 rw [assoc_insert]
 by_cases e : d = t
 · subst e
   have : (tmps.setIfInBounds d v).getD d undef = v := by simp [Array.getD, hd]
   rw [this]; simpa using hr
 · have : (tmps.setIfInBounds d v).getD t undef = tmps.getD t undef := by
    simp only [Array.getD_eq_getD_getElem?, Array.getElem?_setIfInBounds, e, if_false]
   rw [this, if_neg e]; exact h t
end Go.Ab
namespace Go.Ab
open Go Go.RowKit
inductive TK where
 | int (k : IntKind)
 | bool
 | str
 | sl (e : TypeId)
 | ptr (e : TypeId)
 | st (fs : List (Nat × TypeId))
 | ar (n : Nat) (e : TypeId)
 | fn
 | other
structure TI where
 k : TK
 sz : Nat
 by' : Nat
 z : List Value
def TK.agg : TK → Bool
 | .st _ => true
 | .ar _ _ => true
 | _ => false
def TK.known : TK → Bool
 | .other => false
 | _ => true
def TI.zero (t : TI) : Value := bif t.k.agg then .agg t.z.toArray else t.z.headD undef
def KOk (P : Program) (t : TypeId) : TK → Prop
 | .int k => P.underlying t = some (.int k)
 | .bool => P.underlying t = some .bool
 | .str => P.underlying t = some .string
 | .sl e => P.underlying t = some (.slice e)
 | .ptr e => P.underlying t = some (.pointer e)
 | .st fs => ∃ a, P.underlying t = some (.struct a) ∧ (a.toList.map fun f => (f.offset, f.type)) = fs
 | .ar n e => P.underlying t = some (.array n e)
 | .fn => ∃ a b c, P.underlying t = some (.func a b c)
 | .other => True
structure TOk (P : Program) (t : TypeId) (i : TI) : Prop where
 info : (P.info? t).map (fun i => (i.zero, i.size, i.bytes)) = some (some i.zero, i.sz, i.by')
 k : KOk P t i.k
 z : i.z.length = i.sz
 one : ∀ v ∈ i.z, One v
 zc : i.zero.cells.size = i.sz
 u8 : t = U8T → i.z = [.int .u8 0]
abbrev Tab := List (Nat × TI)
def TabOk (P : Program) (tab : Tab) : Prop := ∀ t i, assoc tab t = some i → TOk P t i
def Out (P : Program) (w0 : World) (E : Env) (s : Sem Value) (K : AV → Mem → Prop) : Prop :=
 ∃ v E' M' a, s.run P E.w = .ok v E'.w ∧ Good w0 E' M' ∧ Later E E' ∧ Rep E' a v ∧ K a M'
theorem Out.val {P : Program} {w0 : World} {E : Env} {M : Mem} {s : Sem Value} {K : AV → Mem → Prop} {v : Value} {a : AV} (hg : Good w0 E M)
 (hr : s.run P E.w = .ok v E.w) (ha : Rep E a v) (hk : K a M) : Out P w0 E s K := ⟨v, E, M, a, hr, hg, .refl E, ha, hk⟩
def ibin : BinOp → IntKind → Int → Int → Value
 | .add, k, a, b => .int k (k.wrap (a + b))
 | .sub, k, a, b => .int k (k.wrap (a - b))
 | .mul, k, a, b => .int k (k.wrap (a * b))
 | .quo, k, a, b => .int k (k.wrap (a.tdiv b))
 | .rem, k, a, b => .int k (a.tmod b)
 | .and, k, a, b => .int k (k.wrap (BitVec.ofInt k.bits a &&& BitVec.ofInt k.bits b).toNat)
 | .or, k, a, b => .int k (k.wrap (BitVec.ofInt k.bits a ||| BitVec.ofInt k.bits b).toNat)
 | .xor, k, a, b => .int k (k.wrap (BitVec.ofInt k.bits a ^^^ BitVec.ofInt k.bits b).toNat)
 | .andNot, k, a, b => .int k (k.wrap (BitVec.ofInt k.bits a &&& ~~~ BitVec.ofInt k.bits b).toNat)
 | .shl, k, a, b => .int k (k.wrap (a * 2 ^ min b.toNat k.bits))
 | .shr, k, a, b => .int k (a.fdiv (2 ^ min b.toNat k.bits))
 | .eql, _, a, b => .bool (a == b)
 | .neq, _, a, b => .bool (a != b)
 | .lss, _, a, b => .bool (a < b)
 | .leq, _, a, b => .bool (a ≤ b)
 | .gtr, _, a, b => .bool (a > b)
 | .geq, _, a, b => .bool (a ≥ b)
def ipre : BinOp → IntKind → IntKind → Int → Prop
 | .quo, k, k', b => k = k' ∧ b ≠ 0
 | .rem, k, k', b => k = k' ∧ b ≠ 0
 | .shl, _, _, b => 0 ≤ b
 | .shr, _, _, b => 0 ≤ b
 | _, k, k', _ => k = k'
theorem run_ibin {P : Program} (w : World) (op : BinOp) (t : TypeId) (x y : Operand) (k k' : IntKind) (a b : Int) (h : ipre op k k' b) :
 (do eqGuard op t x y (.int k a) (.int k' b); binOp op t (.int k a) (.int k' b)).run P w = .ok (ibin op k a b) w := by
 cases op <;> simp only [ipre] at h
 case shl => simp [binOp_shl, Op.shift, Int.not_lt.2 h, go_sem, ibin]
 case shr => simp [binOp_shr, Op.shift, Int.not_lt.2 h, go_sem, ibin]
 case quo => obtain ⟨rfl, h⟩ := h; simp [Op.intDiv, h, go_sem, ibin]
 case rem => obtain ⟨rfl, h⟩ := h; simp [Op.intDiv, h, go_sem, ibin]
 all_goals
  subst h
  simp [Op.intArith, Op.intBits, go_sem, ibin]
theorem one_ibin (op : BinOp) (k : IntKind) (a b : Int) : One (ibin op k a b) := by cases op <;> rfl
end Go.Ab
namespace Go.Ab
open Go Go.RowKit
def upd (ad : Nat → Option At) (id : Nat) (q : Option At) : Nat → Option At := fun i => if i = id then q else ad i
theorem upd_self (ad : Nat → Option At) (id : Nat) (q : Option At) : upd ad id q id = q := by simp [upd]
theorem upd_ne (ad : Nat → Option At) {id i : Nat} (q : Option At) (h : i ≠ id) : upd ad id q i = ad i := by simp [upd, h]
theorem backed_lt {E : Env} {q : At} {blk : Blk} (h : Backed E q blk) : q.b < E.w.heap.size := by
 obtain ⟨_, arr, h, _⟩ := h
 exact (Array.getElem?_eq_some_iff.1 h).1
theorem Backed.later {E E' : Env} (hl : Later E E') {q : At} {blk : Blk} (h : Backed E q blk) (hh : E'.w.heap[q.b]? = E.w.heap[q.b]?) : Backed E' q blk := by
 obtain ⟨h0, arr, h1, h2, h3⟩ := h
 refine ⟨h0, arr, by rw [hh]; exact h1, h2, fun i hi => ⟨(h3 i hi).1, fun j hj => ?_⟩⟩
 obtain ⟨y, hy, hone, hr⟩ := (h3 i hi).2 j hj
 exact ⟨y, hy, hone, hr.later hl⟩
theorem Good.upd {w0 : World} {E : Env} {M : Mem} (hg : Good w0 E M) (w' : World) (id k' : Nat) (q' : At) (blk' : Blk)
 (hk : E.k ≤ k') (hid : id < k') (hbelow : BelowG w0.heap.size w0 w') (hsz : E.w.heap.size ≤ w'.heap.size)
 (hsame : ∀ b, b < E.w.heap.size → (∀ q, E.ad id = some q → 0 < q.cp → q.b ≠ b) → w'.heap[b]? = E.w.heap[b]?)
 (hq1 : q'.sz = blk'.sz) (hq2 : q'.n = blk'.xs.length) (hq3 : q'.n ≤ q'.cp)
 (hb : 0 < q'.cp → w0.heap.size ≤ q'.b ∧ (E.w.heap.size ≤ q'.b ∨ ∃ q, E.ad id = some q ∧ 0 < q.cp ∧ q.b = q'.b))
 (hn : ∀ q, E.ad id = some q → q.n ≤ q'.n ∧ (q'.n = q.n → q = q') ∧ (0 < q.n → q'.n ≤ q.cp → q'.b = q.b ∧ q'.cp = q.cp))
 (hnew : id < E.k → ∃ q, E.ad id = some q)
 (hback : Later E ⟨w', Ab.upd E.ad id (some q'), k', E.hid⟩ → 0 < q'.cp → Backed ⟨w', Ab.upd E.ad id (some q'), k', E.hid⟩ q' blk') :
 Good w0 ⟨w', Ab.upd E.ad id (some q'), k', E.hid⟩ ⟨insert M.l id blk', k'⟩ ∧ Later E ⟨w', Ab.upd E.ad id (some q'), k', E.hid⟩ := by
 have hlater : Later E ⟨w', Ab.upd E.ad id (some q'), k', E.hid⟩ := by
  refine ⟨fun b hb0 => ⟨⟨Nat.lt_of_lt_of_le hb0.1 hsz, hb0.2.1, fun i q hq hcp => ?_⟩, hsame b hb0.1 (fun q hq hcp => hb0.2.2 id q hq hcp)⟩, hk, fun i hi q hq => ?_, rfl, fun b hb0 => hsame b (hg.old b hb0) fun q hq hcp e => hg.hid id q hq hcp (e ▸ hb0)⟩
  · by_cases e : i = id
    · subst e
      simp only [upd_self, Option.some.injEq] at hq
      subst hq
      rcases (hb hcp).2 with h | ⟨q, h1, h2, h3⟩
      · have := hb0.1; omega
      · rw [← h3]; exact hb0.2.2 i q h1 h2
    · simp only [upd_ne _ _ e] at hq
      exact hb0.2.2 i q hq hcp
  · by_cases e : i = id
    · subst e
      simp only [upd_self, Option.some.injEq] at hq
      subst hq
      obtain ⟨q, hq⟩ := hnew hi
      exact ⟨q, hq, hn q hq⟩
    · simp only [upd_ne _ _ e] at hq
      exact ⟨q, hq, Nat.le_refl _, fun _ => rfl, fun _ _ => ⟨rfl, rfl⟩⟩
 refine ⟨⟨hbelow, rfl, fun i q hq => ?_, fun i hi => ?_, fun i blk hi => ?_, fun i q hq hcp => ?_, fun b hb => Nat.lt_of_lt_of_le (hg.old b hb) hsz, fun i i' q1 q2 hne h1 h2 hc1 hc2 => ?_⟩, hlater⟩
 · by_cases e : i = id
   · subst e; exact hid
   · simp only [upd_ne _ _ e] at hq
     exact Nat.lt_of_lt_of_le (hg.lt i q hq) hk
 · simp only [Mem.get, assoc_insert] at hi
   by_cases e : id = i
   · simp [e] at hi
   · simp only [e, if_false] at hi
     simp only [upd_ne _ _ (Ne.symm e)]
     exact hg.gone i hi
 · simp only [Mem.get, assoc_insert] at hi
   by_cases e : id = i
   · subst e
     simp only [if_true, Option.some.injEq] at hi
     subst hi
     exact ⟨q', by simp only [upd_self], hq1, hq2, hq3, fun hcp => ⟨(hb hcp).1, hback hlater hcp⟩⟩
   · simp only [e, if_false] at hi
     obtain ⟨q, h1, h2, h3, h4, h5⟩ := hg.held i blk hi
     refine ⟨q, by simp only [upd_ne _ _ (Ne.symm e)]; exact h1, h2, h3, h4, fun hcp => ⟨(h5 hcp).1, ((h5 hcp).2).later hlater ?_⟩⟩
     exact hsame _ (backed_lt (h5 hcp).2) (fun q0 hq0 hcp0 => hg.inj id i q0 q e hq0 h1 hcp0 hcp)
 · by_cases e : i = id
   · subst e
     simp only [upd_self, Option.some.injEq] at hq
     subst hq
     intro hh
     have := hg.old _ hh
     rcases (hb hcp).2 with h | ⟨q0, a1, a2, a3⟩
     · simp only at hh; omega
     · exact hg.hid i q0 a1 a2 (a3 ▸ hh)
   · simp only [upd_ne _ _ e] at hq
     exact hg.hid i q hq hcp
 · have key : ∀ i q, i ≠ id → E.ad i = some q → 0 < q.cp → 0 < q'.cp → q.b ≠ q'.b := fun i q hne hq hcp hcp' => by
    rcases (hb hcp').2 with h | ⟨q0, a1, a2, a3⟩
    · cases hM : M.get i with
      | none => rw [hg.gone i hM] at hq; cases hq
      | some blk =>
       obtain ⟨q1, b1, _, _, _, b5⟩ := hg.held i blk hM
       rw [hq] at b1
       cases b1
       have := backed_lt (b5 hcp).2
       omega
    · rw [← a3]; exact hg.inj i id q q0 hne hq a1 hcp a2
   by_cases e1 : i = id
   · subst e1
     simp only [upd_self, Option.some.injEq] at h1
     subst h1
     simp only [upd_ne _ _ (Ne.symm hne)] at h2
     exact (key i' q2 (Ne.symm hne) h2 hc2 hc1).symm
   · simp only [upd_ne _ _ e1] at h1
     by_cases e2 : i' = id
     · subst e2
       simp only [upd_self, Option.some.injEq] at h2
       subst h2
       exact key i q1 e1 h1 hc1 hc2
     · simp only [upd_ne _ _ e2] at h2
       exact hg.inj i i' q1 q2 hne h1 h2 hc1 hc2
theorem Good.drawn {w0 : World} {E : Env} {M : Mem} (hg : Good w0 E M) (d : Nat) : Good w0 ⟨{ E.w with drawn := d }, E.ad, E.k, E.hid⟩ M ∧ Later E ⟨{ E.w with drawn := d }, E.ad, E.k, E.hid⟩ := by
 have hl : Later E ⟨{ E.w with drawn := d }, E.ad, E.k, E.hid⟩ := ⟨fun b h => ⟨h, rfl⟩, Nat.le_refl _, fun i _ q hq => ⟨q, hq, Nat.le_refl _, fun _ => rfl, fun _ _ => ⟨rfl, rfl⟩⟩, rfl, fun _ _ => rfl⟩
 refine ⟨⟨hg.below.trans ⟨rfl, rfl, rfl, Nat.le_refl _, fun _ _ => rfl⟩, hg.k, hg.lt, hg.gone, fun i blk hi => ?_, hg.hid, hg.old, hg.inj⟩, hl⟩
 obtain ⟨q, h1, h2, h3, h4, h5⟩ := hg.held i blk hi
 exact ⟨q, h1, h2, h3, h4, fun hcp => ⟨(h5 hcp).1, ((h5 hcp).2).later hl rfl⟩⟩
theorem Good.drop {w0 : World} {E : Env} {M : Mem} (hg : Good w0 E M) (id : Nat) : Good w0 ⟨E.w, Ab.upd E.ad id none, E.k, E.hid⟩ (M.drop id) ∧ Later E ⟨E.w, Ab.upd E.ad id none, E.k, E.hid⟩ := by
 have hl : Later E ⟨E.w, Ab.upd E.ad id none, E.k, E.hid⟩ := by
  refine ⟨fun b h => ⟨⟨h.1, h.2.1, fun i q hq hcp => ?_⟩, rfl⟩, Nat.le_refl _, fun i _ q hq => ?_, rfl, fun _ _ => rfl⟩
  · by_cases e : i = id
    · subst e; simp [upd_self] at hq
    · simp only [upd_ne _ _ e] at hq; exact h.2.2 i q hq hcp
  · by_cases e : i = id
    · subst e; simp [upd_self] at hq
    · simp only [upd_ne _ _ e] at hq
      exact ⟨q, hq, Nat.le_refl _, fun _ => rfl, fun _ _ => ⟨rfl, rfl⟩⟩
 refine ⟨⟨hg.below, hg.k, fun i q hq => ?_, fun i hi => ?_, fun i blk hi => ?_, fun i q hq hcp => ?_, hg.old, fun i i' q1 q2 hne h1 h2 hc1 hc2 => ?_⟩, hl⟩
 · by_cases e : i = id
   · subst e; simp [upd_self] at hq
   · simp only [upd_ne _ _ e] at hq; exact hg.lt i q hq
 · by_cases e : i = id
   · subst e; simp [upd_self]
   · simp only [upd_ne _ _ e]
     simp only [Mem.get, Mem.drop, assoc_remove, Ne.symm e, if_false] at hi
     exact hg.gone i hi
 · simp only [Mem.get, Mem.drop, assoc_remove] at hi
   by_cases e : id = i
   · simp [e] at hi
   · simp only [e, if_false] at hi
     obtain ⟨q, h1, h2, h3, h4, h5⟩ := hg.held i blk hi
     exact ⟨q, by simp only [upd_ne _ _ (Ne.symm e)]; exact h1, h2, h3, h4, fun hcp => ⟨(h5 hcp).1, ((h5 hcp).2).later hl rfl⟩⟩
 · by_cases e : i = id
   · subst e; simp [upd_self] at hq
   · simp only [upd_ne _ _ e] at hq; exact hg.hid i q hq hcp
 · by_cases e1 : i = id
   · subst e1; simp [upd_self] at h1
   · by_cases e2 : i' = id
     · subst e2; simp [upd_self] at h2
     · simp only [upd_ne _ _ e1] at h1
       simp only [upd_ne _ _ e2] at h2
       exact hg.inj i i' q1 q2 hne h1 h2 hc1 hc2
def below' {α : Type} : List (Nat × α) → Nat → List (Nat × α)
 | [], _ => []
 | (k, v) :: r, n => bif Nat.blt k n then (k, v) :: below' r n else below' r n
theorem assoc_below' {α : Type} (l : List (Nat × α)) (n m : Nat) : assoc (below' l n) m = if m < n then assoc l m else none := by
 induction l with
 | nil => simp [below', assoc]
 | cons a r ih =>
  obtain ⟨k, v⟩ := a
  cases h1 : Nat.blt k n with
  | true =>
   have hk : k < n := by simpa [Nat.blt_eq] using h1
   by_cases h : k = m
   · subst h; simp [below', assoc, h1, hk]
   · simpa [below', assoc, h1, beq_ne h] using ih
  | false =>
   have hk : ¬ k < n := by
    intro h
    have : Nat.blt k n = true := by simpa [Nat.blt_eq] using h
    rw [this] at h1; cases h1
   by_cases h : k = m
   · subst h; simp only [below', h1, cond_false, ih, hk, if_false]
   · simpa [below', assoc, h1, beq_ne h] using ih
def Mem.cut (M : Mem) (k : Nat) : Mem := ⟨below' M.l k, k⟩
def Env.cut (E : Env) (k : Nat) : Env := ⟨E.w, fun i => if i < k then E.ad i else none, k, E.hid⟩
theorem Later.cut {E0 E : Env} (h : Later E0 E) : Later E0 (E.cut E0.k) := by
 refine ⟨fun b hb => ⟨⟨(h.z b hb).1.1, (h.z b hb).1.2.1, fun i q hq hcp => ?_⟩, (h.z b hb).2⟩, Nat.le_refl _, fun i hi q hq => ?_, h.hid, h.hs⟩
 · simp only [Env.cut] at hq
   split at hq
   · exact (h.z b hb).1.2.2 i q hq hcp
   · cases hq
 · simp only [Env.cut, hi, if_true] at hq
   exact h.ad i hi q hq
inductive Under (k : Nat) : AV → Prop where
 | c (v : Value) : Under k (.c v)
 | x : Under k .x
 | l (sz : Nat) (xs : List AV) (h : ∀ i (hi : i < xs.length), ∀ j (hj : j < xs[i].cells.length), Under k xs[i].cells[j]) : Under k (.l sz xs)
 | g (cs : List AV) (h : ∀ i (hi : i < cs.length), Under k cs[i]) : Under k (.g cs)
 | t (cs : List AV) (h : ∀ i (hi : i < cs.length), Under k cs[i]) : Under k (.t cs)
 | e (cs : List AV) (h : ∀ i (hi : i < cs.length), Under k cs[i]) : Under k (.e cs)
 | f (fn : FuncId) (cs : List AV) (h : ∀ i (hi : i < cs.length), Under k cs[i]) : Under k (.f fn cs)
 | b (fn : FuncId) (cs : List AV) (h : ∀ i (hi : i < cs.length), Under k cs[i]) : Under k (.b fn cs)
 | p (id i j n : Nat) (h : id < k) : Under k (.p id i j n)
 | s (id off n : Nat) (h : id < k) : Under k (.s id off n)
theorem Rep.cut {E : Env} {k : Nat} {a : AV} {v : Value} (hr : Rep E a v) (hu : Under k a) : Rep (E.cut k) a v := by
 have hz : ∀ b, E.Z b → (E.cut k).Z b := fun b h => ⟨h.1, h.2.1, fun i q hq hcp => by
  simp only [Env.cut] at hq
  split at hq
  · exact h.2.2 i q hq hcp
  · cases hq⟩
 induction hr with
 | c v h => exact .c v h
 | x v => exact .x v
 | g cs ys h hr ih => cases hu with | g _ hu => exact .g cs ys h fun i h1 h2 => ih i h1 h2 (hu i h1)
 | t cs ys h hr ih => cases hu with | t _ hu => exact .t cs ys h fun i h1 h2 => ih i h1 h2 (hu i h1)
 | f fn cs ys h hr ih => cases hu with | f _ _ hu => exact .f fn cs ys h fun i h1 h2 => ih i h1 h2 (hu i h1)
 | b fn cs ys h hr ih => cases hu with | b _ _ hu => exact .b fn cs ys h fun i h1 h2 => ih i h1 h2 (hu i h1)
 | u => cases hu
 | w => cases hu
 | l sz xs b off cap y hcap hb hs hc hr ih => cases hu with | l _ _ hu => exact .l sz xs b off cap y hcap (hz b hb) hs hc fun i hi j hj => ih i hi j hj (hu i hi j hj)
 | l0 sz A cap => exact .l0 sz A cap
 | e cs b off y hb hc hr ih => cases hu with | e _ hu => exact .e cs b off y (hz b hb) hc fun j hj => ih j hj (hu j hj)
 | p id i j n a hk h =>
  cases hu with | p _ _ _ _ hu =>
  refine .p id i j n a hu fun q hq => ?_
  simp only [Env.cut, hu, if_true] at hq
  exact h q hq
 | s id off n A cap hk h =>
  cases hu with | s _ _ _ hu =>
  refine .s id off n A cap hu fun q hq => ?_
  simp only [Env.cut, hu, if_true] at hq
  exact h q hq
theorem Good.cut {w0 : World} {E : Env} {M : Mem} (hg : Good w0 E M) (k : Nat)
 (hu : ∀ id blk, M.get id = some blk → id < k → ∀ i (hi : i < blk.xs.length), ∀ j (hj : j < blk.xs[i].cells.length), Under k blk.xs[i].cells[j]) : Good w0 (E.cut k) (M.cut k) := by
 refine ⟨hg.below, rfl, fun i q hq => ?_, fun i hi => ?_, fun i blk hi => ?_, fun i q hq hcp => ?_, hg.old, fun i i' q1 q2 hne h1 h2 hc1 hc2 => ?_⟩
 · simp only [Env.cut] at hq
   split at hq
   · assumption
   · cases hq
 · simp only [Mem.get, Mem.cut, assoc_below'] at hi
   simp only [Env.cut]
   split
   · rename_i h; rw [if_pos h] at hi; exact hg.gone i hi
   · rfl
 · simp only [Mem.get, Mem.cut, assoc_below'] at hi
   split at hi
   · rename_i h
     obtain ⟨q, h1, h2, h3, h4, h5⟩ := hg.held i blk hi
     refine ⟨q, by simp only [Env.cut, h, if_true]; exact h1, h2, h3, h4, fun hcp => ⟨(h5 hcp).1, ?_⟩⟩
     obtain ⟨a0, arr, a1, a2, a3⟩ := (h5 hcp).2
     refine ⟨a0, arr, a1, a2, fun i' hi' => ⟨(a3 i' hi').1, fun j hj => ?_⟩⟩
     obtain ⟨y, b1, b2, b3⟩ := (a3 i' hi').2 j hj
     exact ⟨y, b1, b2, b3.cut (hu i blk hi h i' hi' j hj)⟩
   · cases hi
 · simp only [Env.cut] at hq
   split at hq
   · exact hg.hid i q hq hcp
   · cases hq
 · simp only [Env.cut] at h1 h2
   split at h1
   · split at h2
     · exact hg.inj i i' q1 q2 hne h1 h2 hc1 hc2
     · cases h2
   · cases h1
end Go.Ab
namespace Go.Ab
open Go Go.RowKit
section types
variable {P : Program} {t : TypeId} {i : TI}
theorem TOk.ex (h : TOk P t i) : ∃ f, P.info? t = some f ∧ f.zero = some i.zero ∧ f.size = i.sz ∧ f.bytes = i.by' := by
 have := h.info
 cases hq : P.info? t with
 | none => simp [hq] at this
 | some f => simp [hq] at this; exact ⟨f, rfl, this.1, this.2.1, this.2.2⟩
theorem TOk.run_size (h : TOk P t i) (w : World) : (sizeOf t).run P w = .ok i.sz w := by
 obtain ⟨f, h1, h2, h3, h4⟩ := h.ex
 simp [sizeOf, typeInfo, h1, h3]
theorem TOk.run_zero (h : TOk P t i) (w : World) : (zeroValue t).run P w = .ok i.zero w := by
 obtain ⟨f, h1, h2, h3, h4⟩ := h.ex
 simp [zeroValue, typeInfo, h1, h2]
theorem TOk.run_agg (h : TOk P t i) (ho : i.k.known = true) (w : World) : (isAgg t).run P w = .ok i.k.agg w := by
 have hk := h.k
 cases hq : i.k <;> rw [hq] at hk <;> simp only [KOk] at hk
 case st => obtain ⟨a, ha, _⟩ := hk; simp [isAgg, run_underlying ha, TK.agg]
 case fn => obtain ⟨a, b, c, ha⟩ := hk; simp [isAgg, run_underlying ha, TK.agg]
 case other => rw [hq] at ho; cases ho
 all_goals simp [isAgg, run_underlying hk, TK.agg]
end types
def Cell : AV → Prop
 | .c _ => True
 | .l _ _ => True
 | .p _ _ _ _ => True
 | .s _ _ _ => True
 | .e _ => True
 | .f _ _ => True
 | .b _ _ => True
 | _ => False
def AllCell : List AV → Prop
 | [] => True
 | a :: r => Cell a ∧ AllCell r
theorem AllCell.get : ∀ {l : List AV}, AllCell l → ∀ i (h : i < l.length), Cell l[i]
 | a :: r, h, 0, _ => h.1
 | a :: r, h, i + 1, hi => h.2.get i (by simpa using hi)
def Cells : AV → Prop
 | .g cs => AllCell cs
 | a => Cell a
theorem Rep.one {E : Env} {a : AV} {v : Value} (h : Rep E a v) (hc : Cell a) : One v := by
 cases h <;> first | assumption | rfl | exact hc.elim
theorem Rep.cells {E : Env} {a : AV} {v : Value} (h : Rep E a v) (hc : Cells a) : v.cells.size = a.cells.length ∧ ∀ j (h1 : j < a.cells.length) (h2 : j < v.cells.size), One v.cells[j] ∧ Rep E a.cells[j] v.cells[j] := by
 cases h with
 | g cs ys h hr => exact ⟨h, fun j h1 h2 => ⟨(hr j h1 h2).one (AllCell.get hc j h1), hr j h1 h2⟩⟩
 | t cs ys h hr => exact hc.elim
 | x => exact hc.elim
 | c v hv =>
  have e : v.cells = #[v] := by cases v <;> first | rfl | (simp [One, Value.oneCell'] at hv)
  refine ⟨by rw [e]; rfl, fun j h1 h2 => ?_⟩
  have h0 : j = 0 := by simp [AV.cells] at h1; omega
  subst h0
  simp only [e]
  exact ⟨hv, .c v hv⟩
 | l sz xs b off cap y hcap hz hs hc' hr =>
  exact ⟨rfl, fun j h1 h2 => by
   have h0 : j = 0 := by simp [AV.cells] at h1; omega
   subst h0
   exact ⟨rfl, .l sz xs b off cap y hcap hz hs hc' hr⟩⟩
 | l0 sz A cap =>
  exact ⟨rfl, fun j h1 h2 => by
   have h0 : j = 0 := by simp [AV.cells] at h1; omega
   subst h0
   exact ⟨rfl, .l0 sz A cap⟩⟩
 | p id i j n a hk h =>
  exact ⟨rfl, fun j' h1 h2 => by
   have h0 : j' = 0 := by simp [AV.cells] at h1; omega
   subst h0
   exact ⟨rfl, .p id i j n a hk h⟩⟩
 | s id off n A cap hk h =>
  exact ⟨rfl, fun j' h1 h2 => by
   have h0 : j' = 0 := by simp [AV.cells] at h1; omega
   subst h0
   exact ⟨rfl, .s id off n A cap hk h⟩⟩
 | e cs b off y hz hc' hr =>
  exact ⟨rfl, fun j' h1 h2 => by
   have h0 : j' = 0 := by simp [AV.cells] at h1; omega
   subst h0
   exact ⟨rfl, .e cs b off y hz hc' hr⟩⟩
 | u sz xs A h =>
  exact ⟨rfl, fun j h1 h2 => by
   have h0 : j = 0 := by simp [AV.cells] at h1; omega
   subst h0
   exact ⟨rfl, .u sz xs A h⟩⟩
 | w id len n A cap hk h =>
  exact ⟨rfl, fun j h1 h2 => by
   have h0 : j = 0 := by simp [AV.cells] at h1; omega
   subst h0
   exact ⟨rfl, .w id len n A cap hk h⟩⟩
 | f fn caps ys h hr =>
  exact ⟨rfl, fun j' h1 h2 => by
   have h0 : j' = 0 := by simp [AV.cells] at h1; omega
   subst h0
   exact ⟨rfl, .f fn caps ys h hr⟩⟩
 | b fn caps ys h hr =>
  exact ⟨rfl, fun j' h1 h2 => by
   have h0 : j' = 0 := by simp [AV.cells] at h1; omega
   subst h0
   exact ⟨rfl, .b fn caps ys h hr⟩⟩
theorem own_cell {w0 : World} {E : Env} {M : Mem} (hg : Good w0 E M) {id : Nat} {blk : Blk} (hM : M.get id = some blk) {i j : Nat} (hi : i < blk.xs.length) (hj : j < blk.sz) :
 ∃ q, E.ad id = some q ∧ q.sz = blk.sz ∧ q.n = blk.xs.length ∧ 0 < q.cp ∧ w0.heap.size ≤ q.b ∧ q.b < E.w.heap.size ∧ ∃ (hc : blk.xs[i].cells.length = blk.sz), ∃ y, E.w.cell? ⟨q.b, i * q.sz + j, none⟩ = some y ∧ One y ∧ Rep E (blk.xs[i].cells[j]'(hc ▸ hj)) y := by
 obtain ⟨q, h1, h2, h3, h4, h5⟩ := hg.held id blk hM
 have hcp : 0 < q.cp := by omega
 have hb := (h5 hcp).2
 have hlt := backed_lt hb
 obtain ⟨_, arr, a1, ⟨a2, a2s⟩, a3⟩ := hb
 obtain ⟨hc, hr⟩ := a3 i hi
 obtain ⟨y, b1, b2, b3⟩ := hr j (hc ▸ hj)
 exact ⟨q, h1, h2, h3, hcp, (h5 hcp).1, hlt, hc, y, by simp only [World.cell?, a1, h2]; simpa using b1, b2, b3⟩
def part (i : TI) (cs : List AV) : AV := bif i.k.agg then .g (cs.take i.sz) else cs.headD .x
theorem load_cells {P : Program} {E : Env} {t : TypeId} {ti : TI} (ht : TOk P t ti) (ho : ti.k.known = true) {b off : Nat} {cs : List AV}
 (hc : ∀ k (hk : k < cs.length), ∃ y, E.w.cell? ⟨b, off + k, none⟩ = some y ∧ Rep E cs[k] y) (hs : ti.sz ≤ cs.length) (h0 : 0 < cs.length) :
 ∃ v, (loadVar t ⟨b, off, none⟩).run P E.w = .ok v E.w ∧ Rep E (part ti cs) v := by
 have hadd : ∀ k, (⟨b, off, none⟩ : Addr).add k = ⟨b, off + k, none⟩ := fun k => by unfold Addr.add; split <;> simp_all
 unfold part
 cases ha : ti.k.agg with
 | true =>
  have hl : (loadCells ⟨b, off, none⟩ ti.sz).run P E.w = .ok ((List.range ti.sz).map fun k => (E.w.cell? ⟨b, off + k, none⟩).getD undef).toArray E.w :=
   run_loadCells (P := P) E.w ⟨b, off, none⟩ ti.sz (fun k => (E.w.cell? ⟨b, off + k, none⟩).getD undef) (fun j hj => by
    obtain ⟨y, hy, _⟩ := hc j (by omega)
    rw [hadd, hy]; rfl)
  refine ⟨_, by simp only [loadVar, Sem.run_bind, ht.run_agg ho, ha, Result.andThen, if_true, ht.run_size, hl]; rfl, ?_⟩
  refine .g _ _ (by simp; omega) (fun k h1 h2 => ?_)
  have hk : k < cs.length := by simp at h1; omega
  obtain ⟨y, hy, hr⟩ := hc k hk
  simp only [List.getElem_take, List.getElem_toArray, List.getElem_map, List.getElem_range, hy, Option.getD_some]
  exact hr
 | false =>
  obtain ⟨y, hy, hr⟩ := hc 0 h0
  simp only [Nat.add_zero] at hy
  refine ⟨y, by simp [loadVar, ht.run_agg ho, ha, Result.andThen, hy], ?_⟩
  cases cs with
  | nil => simp at h0
  | cons a r => simpa using hr
def Elem (xs : List AV) (i : Nat) (K : AV → Prop) : Prop := ∃ h : i < xs.length, K xs[i]
def blkK (M : Mem) (id n : Nat) (K : Blk → Prop) : Prop := ∃ blk, M.get id = some blk ∧ n = blk.xs.length ∧ K blk
def gloadK (ti : TI) (a : Addr) (K : Value → Prop) : Prop := a.spot = none ∧ ti.k.agg = false ∧ ti.sz = 1 ∧ ∃ vs v, (a.block, vs) ∈ GT ∧ vs[a.off]? = some v ∧ One v ∧ K v
theorem gload_cell {w0 : World} {E : Env} {M : Mem} (hg : Good w0 E M) {g i : Nat} {vs : List Value} {v : Value} (hm : (g, vs) ∈ GT) (hv : vs[i]? = some v) : E.w.cell? ⟨g, i, none⟩ = some v := by
 obtain ⟨h1, h2⟩ := hg.below.glob g vs hm
 obtain ⟨hi, rfl⟩ := List.getElem?_eq_some_iff.1 hv
 rw [hg.below.toBelow.cell (p := ⟨g, i, none⟩) h1]
 exact h2 i hi
def loadK (ti : TI) (M : Mem) : AV → (AV → Mem → Prop) → Prop
 | .p id i j n, K => blkK M id n fun blk => j + ti.sz ≤ blk.sz ∧ j < blk.sz ∧ Elem blk.xs i fun el => K (part ti (el.cells.drop j)) M
 | .e cs, K => ti.sz ≤ cs.length ∧ 0 < cs.length ∧ K (part ti cs) M
 | .c (.pointer (some a)), K => gloadK ti a fun v => K (.c v) M
 | _, _ => False
theorem load_out {P : Program} {w0 : World} {E : Env} {M : Mem} {t : TypeId} {ti : TI} {a : AV} {v : Value} {K : AV → Mem → Prop} (hg : Good w0 E M) (ht : TOk P t ti) (ho : ti.k.known = true)
 (hr : Rep E a v) (h : loadK ti M a K) : Out P w0 E (Instr.loadAt t v) K := by
 cases hr <;> try exact h.elim
 case p id i j n a hk hp =>
  obtain ⟨blk, hM, hn, hs, hj, hi, hK⟩ := h
  obtain ⟨q, h1, h2, h3, h4, h5, h6, hcl, y, _⟩ := own_cell hg hM hi hj
  have ha := (hp q h1).2 (by omega)
  subst ha
  obtain ⟨v, hv, hrv⟩ := load_cells (E := E) (b := q.b) (off := i * q.sz + j) (cs := blk.xs[i].cells.drop j) ht ho (fun k hk => by
   simp only [List.length_drop, hcl] at hk
   obtain ⟨q', g1, g2, g3, g4, g5, g6, _, y, g8, g9, g10⟩ := own_cell hg hM hi (j := j + k) (by omega)
   rw [h1] at g1
   cases g1
   refine ⟨y, by rw [Nat.add_assoc]; exact g8, ?_⟩
   simpa using g10) (by simp [hcl]; omega) (by simp [hcl]; omega)
  exact .val hg (by simp only [Instr.loadAt, Instr.sureAddr, Sem.run_bind, Result.andThen]; exact hv) hrv hK
 case c hone =>
  cases v <;> try exact h.elim
  rename_i q
  cases q with
  | none => exact h.elim
  | some a =>
   obtain ⟨b, off, spot⟩ := a
   obtain ⟨rfl, hag, hs1, vs, u, hm, hv, ho1, hK⟩ := h
   dsimp only at hm hv
   obtain ⟨v, hv2, hrv⟩ := load_cells (E := E) (b := b) (off := off) (cs := [.c u]) ht ho (fun k hk => by
    have hk0 : k = 0 := by simpa using hk
    subst hk0
    exact ⟨u, by rw [Nat.add_zero]; exact gload_cell hg hm hv, .c u ho1⟩) (by simp [hs1]) (by simp)
   have hp : part ti [.c u] = .c u := by simp [part, hag]
   rw [hp] at hrv
   exact .val hg (by simp only [Instr.loadAt, Instr.sureAddr, Sem.run_bind, Result.andThen]; exact hv2) hrv hK
 case e cs b off y hz hc hr =>
  obtain ⟨hs, h0, hK⟩ := h
  obtain ⟨v, hv, hrv⟩ := load_cells (E := E) (b := b) (off := off) (cs := cs) ht ho (fun k hk => ⟨y k, (hc k hk).1, hr k hk⟩) hs h0
  exact .val hg (by simp only [Instr.loadAt, Instr.sureAddr, Sem.run_bind, Result.andThen]; exact hv) hrv hK
end Go.Ab
namespace Go.Ab
open Go Go.RowKit
def OutU (P : Program) (w0 : World) (E : Env) (s : Sem Unit) (K : Mem → Prop) : Prop :=
 ∃ E' M', s.run P E.w = .ok () E'.w ∧ Good w0 E' M' ∧ Later E E' ∧ K M'
def splice (cs : List AV) (j : Nat) (vs : List AV) : List AV := cs.take j ++ vs ++ cs.drop (j + vs.length)
def mkEl : AV → List AV → AV
 | .g _, l => .g l
 | _, l => l.headD .x
theorem splice_length {cs : List AV} {j : Nat} {vs : List AV} (h : j + vs.length ≤ cs.length) : (splice cs j vs).length = cs.length := by
 simp [splice]; omega
theorem mkEl_cells {el : AV} {cs : List AV} (hc : ∀ a ∈ cs, Cell a) (h : cs.length = el.cells.length) : (mkEl el cs).cells = cs := by
 cases el <;> simp only [mkEl, AV.cells] at h ⊢
 all_goals
  match cs, h with
  | [a], _ =>
   have := hc a (by simp)
   cases a <;> first | rfl | exact this.elim
def storeK (ti : TI) (M : Mem) : AV → AV → (Mem → Prop) → Prop
 | .p id i j n, v, K => blkK M id n fun blk => Cells v ∧ v.cells.length = ti.sz ∧ j + ti.sz ≤ blk.sz ∧ 0 < ti.sz ∧ Elem blk.xs i fun el => (∀ a ∈ el.cells, Cell a) ∧
  K (M.put id ⟨blk.T, blk.sz, blk.xs.set i (mkEl el (splice el.cells j v.cells))⟩)
 | _, _, _ => False
theorem splice_get {cs vs : List AV} {j k : Nat} (h : j + vs.length ≤ cs.length) (hk : k < (splice cs j vs).length) (hk' : k < cs.length) :
 (splice cs j vs)[k] = if h1 : j ≤ k ∧ k < j + vs.length then vs[k - j]'(by omega) else cs[k] := by
 have hkl : k < cs.length := by rw [splice_length h] at hk; exact hk
 simp only [splice]
 split
 · rename_i h1
   rw [List.getElem_append_left (by simp; omega), List.getElem_append_right (by simp; omega)]
   congr 1
   simp; omega
 · rename_i h1
   by_cases h2 : k < j
   · rw [List.getElem_append_left (by simp; omega), List.getElem_append_left (by simp; omega)]
     simp
   · rw [List.getElem_append_right (by simp; omega)]
     simp only [List.getElem_drop]
     congr 1
     simp; omega
theorem take_drop_get? {α : Type} (cur : List α) (o : Nat) (vs : List α) (h : o + vs.length ≤ cur.length) (k : Nat) :
 (cur.take o ++ vs ++ cur.drop (o + vs.length))[k]? = if o ≤ k ∧ k < o + vs.length then vs[k - o]? else cur[k]? := by
 split
 · rename_i h1
   rw [List.getElem?_append_left (by simp; omega), List.getElem?_append_right (by simp; omega)]
   congr 1
   simp; omega
 · rename_i h1
   by_cases h2 : k < o
   · rw [List.getElem?_append_left (by simp; omega), List.getElem?_append_left (by simp; omega), List.getElem?_take_of_lt h2]
   · rw [List.getElem?_append_right (by simp; omega), List.getElem?_drop]
     congr 1
     simp; omega
theorem store_out {P : Program} {w0 : World} {E : Env} {M : Mem} {t : TypeId} {ti : TI} {a x' : AV} {v y : Value} {K : Mem → Prop} (hg : Good w0 E M) (ht : TOk P t ti)
 (hr : Rep E a v) (hx : Rep E x' y) (h : storeK ti M a x' K) : OutU P w0 E (Instr.storeAt t v y) K := by
 cases hr <;> try exact h.elim
 rename_i id i j n a hk hp
 obtain ⟨blk, hM, hn, hcx, hxl, hjs, hts, hi, hcel, hK⟩ := h
 obtain ⟨q, h1, h2, h3, h4, h5⟩ := hg.held id blk hM
 have hcp : 0 < q.cp := by omega
 obtain ⟨hb0, hb⟩ := h5 hcp
 have hlt := backed_lt hb
 obtain ⟨hmax, arr, a1, ⟨a2, a2s⟩, a3⟩ := hb
 have ha := (hp q h1).2 (by omega)
 subst ha
 obtain ⟨hys, hyr⟩ := hx.cells hcx
 have hcl : blk.xs[i].cells.length = blk.sz := (a3 i hi).1
 have hvl : y.cells.toList.length = ti.sz := by simp [hys, hxl]
 have hle : i * q.sz + j + ti.sz ≤ arr.size := by
  rw [a2, h2]
  have : (i + 1) * blk.sz ≤ q.cp * blk.sz := Nat.mul_le_mul_right _ (by omega)
  rw [Nat.add_mul] at this
  omega
 have hone : ∀ u ∈ y.cells.toList, u.oneCell' = true := fun u hu => by
  obtain ⟨k, hk, rfl⟩ := List.mem_iff_getElem.1 hu
  have hk' : k < y.cells.size := by simpa using hk
  have := (hyr k (by omega) hk').1
  simpa [One] using this
 have hst := run_storeCells_at P q.b (i * q.sz + j) blk.T y.cells.toList 0 arr E.w a1 (by rw [hvl]; simpa using hle) hone
 simp only [Nat.add_zero] at hst
 have hrun : (Instr.storeAt t (.pointer (some ⟨q.b, i * q.sz + j, none⟩)) y).run P E.w = .ok () (E.w.setRow q.b (arr.toList.take (i * q.sz + j) ++ y.cells.toList ++ arr.toList.drop (i * q.sz + j + y.cells.toList.length)).toArray) := by
  simp only [Instr.storeAt, Instr.sureAddr, Sem.run_bind, Result.andThen, storeVar, ht.run_size, Sem.run_pure]
  rw [if_neg (by rw [hys, hxl]; simp)]
  exact hst
 have hA : ∀ k, ((arr.toList.take (i * q.sz + j) ++ y.cells.toList ++ arr.toList.drop (i * q.sz + j + y.cells.toList.length)).toArray)[k]? =
  if i * blk.sz + j ≤ k ∧ k < i * blk.sz + j + ti.sz then y.cells[k - (i * blk.sz + j)]? else arr[k]? := fun k => by
  rw [List.getElem?_toArray, take_drop_get? _ _ _ (by rw [hvl]; simpa using hle), h2, hvl]
  simp
 have hup := Good.upd hg (E.w.setRow q.b (arr.toList.take (i * q.sz + j) ++ y.cells.toList ++ arr.toList.drop (i * q.sz + j + y.cells.toList.length)).toArray) id E.k q
  ⟨blk.T, blk.sz, blk.xs.set i (mkEl blk.xs[i] (splice blk.xs[i].cells j x'.cells))⟩ (Nat.le_refl _) (hg.lt id q h1)
  ⟨⟨hg.below.os, hg.below.tape, hg.below.output, by simpa using hg.below.size, fun k hk => by rw [setRow_other _ _ _ _ (by omega)]; exact hg.below.block k hk⟩, hg.below.glob⟩
  (by simp) (fun b hb hne => setRow_other _ _ _ _ (fun e => hne q h1 hcp e.symm)) h2 (by simpa using h3) h4 (fun _ => ⟨hb0, .inr ⟨q, h1, hcp, rfl⟩⟩)
  (fun q' hq' => by rw [h1] at hq'; cases hq'; exact ⟨Nat.le_refl _, fun _ => rfl, fun _ _ => ⟨rfl, rfl⟩⟩) (fun _ => ⟨q, h1⟩) (fun hl _ => by
   refine ⟨hmax, _, setRow_heap _ _ _ _ _ _ a1, ⟨by rw [← a2]; simp; omega, by
    simp only [List.length_set]
    refine a2s.mono (Nat.le_refl _) fun k hk => ?_
    have h9 : (i + 1) * blk.sz ≤ blk.xs.length * blk.sz := Nat.mul_le_mul_right _ hi
    rw [Nat.add_mul] at h9
    rw [hA, if_neg (by omega)]⟩, fun i' hi' => ?_⟩
   simp only [List.length_set] at hi'
   have hsp : j + x'.cells.length ≤ blk.xs[i].cells.length := by rw [hcl, hxl]; exact hjs
   have hspc : ∀ a ∈ splice blk.xs[i].cells j x'.cells, Cell a := fun a ha => by
    simp only [splice, List.mem_append] at ha
    rcases ha with (ha | ha) | ha
    · exact hcel a (List.mem_of_mem_take ha)
    · obtain ⟨k, hk, rfl⟩ := List.mem_iff_getElem.1 ha
      have hk2 : k < y.cells.size := by rw [hys]; exact hk
      cases x' <;> simp only [AV.cells] at hk ⊢ <;> first | exact AllCell.get hcx k hk | (have h0 : k = 0 := by simpa using hk); (subst h0; exact hcx)
    · exact hcel a (List.mem_of_mem_drop ha)
   by_cases e : i' = i
   · subst e
     have hmc := mkEl_cells (el := blk.xs[i']) hspc (splice_length hsp)
     simp only [List.getElem_set_self]
     refine ⟨by rw [hmc, splice_length hsp, hcl], fun k hk => ?_⟩
     have hk1 : k < (splice blk.xs[i'].cells j x'.cells).length := by rw [← hmc]; exact hk
     have hk2 : k < blk.xs[i'].cells.length := by rw [splice_length hsp] at hk1; exact hk1
     have hget : (mkEl blk.xs[i'] (splice blk.xs[i'].cells j x'.cells)).cells[k] = (splice blk.xs[i'].cells j x'.cells)[k] := by
      simp only [hmc]
     rw [hget, splice_get hsp hk1 hk2]
     simp only [hA]
     by_cases hin : j ≤ k ∧ k < j + ti.sz
     · have hk3 : k - j < y.cells.size := by rw [hys, hxl]; omega
       rw [dif_pos (by rw [hxl]; exact hin), if_pos (by omega)]
       obtain ⟨g1, g2⟩ := hyr (k - j) (by omega) hk3
       refine ⟨y.cells[k - j], ?_, g1, g2.later hl⟩
       have : i' * blk.sz + k - (i' * blk.sz + j) = k - j := by omega
       rw [this]
       simp [hk3]
     · rw [dif_neg (by rw [hxl]; exact hin), if_neg (by omega)]
       obtain ⟨y0, g0, g1, g2⟩ := (a3 i' hi).2 k hk2
       exact ⟨y0, g0, g1, g2.later hl⟩
   · have hi0 : i' < blk.xs.length := hi'
     simp only [List.getElem_set_ne (Ne.symm e)]
     refine ⟨(a3 i' hi0).1, fun k hk => ?_⟩
     obtain ⟨y0, g0, g1, g2⟩ := (a3 i' hi0).2 k hk
     refine ⟨y0, ?_, g1, g2.later hl⟩
     simp only [hA]
     rw [if_neg (by
      have hks : k < blk.sz := by rw [← (a3 i' hi0).1]; exact hk
      rcases Nat.lt_or_gt_of_ne e with h | h
      · have : (i' + 1) * blk.sz ≤ i * blk.sz := Nat.mul_le_mul_right _ h
        rw [Nat.add_mul] at this
        omega
      · have : (i + 1) * blk.sz ≤ i' * blk.sz := Nat.mul_le_mul_right _ h
        rw [Nat.add_mul] at this
        omega)]
     exact g0)
 refine ⟨_, _, hrun, hup.1, hup.2, ?_⟩
 have : (⟨insert M.l id ⟨blk.T, blk.sz, blk.xs.set i (mkEl blk.xs[i] (splice blk.xs[i].cells j x'.cells))⟩, E.k⟩ : Mem) = M.put id ⟨blk.T, blk.sz, blk.xs.set i (mkEl blk.xs[i] (splice blk.xs[i].cells j x'.cells))⟩ := by
  rw [Mem.put, hg.k]
 rw [this]; exact hK
end Go.Ab
namespace Go.Ab
open Go Go.RowKit
theorem Good.new {w0 : World} {E : Env} {M : Mem} (hg : Good w0 E M) (w' : World) (T : TypeId) (sz cp : Nat) (xs : List AV) (arr : Array Value)
 (hh : w'.heap = E.w.heap.push (.cells arr T)) (h1 : w'.os = E.w.os) (h2 : w'.tape = E.w.tape) (h3 : w'.output = E.w.output)
 (hs : arr.size = cp * sz) (hn : xs.length ≤ cp) (hmax : cp ≤ maxLen)
 (hc : ∀ i (hi : i < xs.length), xs[i].cells.length = sz ∧ ∀ j (hj : j < xs[i].cells.length), ∃ y, arr[i * sz + j]? = some y ∧ One y ∧ Rep E xs[i].cells[j] y) (hsp : xs.length = cp ∨ SpareA T arr (xs.length * sz) := by first | exact .inl rfl | (left; simp; done) | (left; simp only [List.length_map, List.length_replicate]; omega)) :
 Good w0 ⟨w', Ab.upd E.ad E.k (some ⟨E.w.heap.size, sz, xs.length, cp⟩), E.k + 1, E.hid⟩ ⟨insert M.l M.k ⟨T, sz, xs⟩, M.k + 1⟩ ∧
 Later E ⟨w', Ab.upd E.ad E.k (some ⟨E.w.heap.size, sz, xs.length, cp⟩), E.k + 1, E.hid⟩ := by
 have hold : ∀ b, b < E.w.heap.size → w'.heap[b]? = E.w.heap[b]? := fun b hb => by
  rw [hh, Array.getElem?_push, if_neg (by omega)]
 have hnone : E.ad E.k = none := by
  cases hq : E.ad E.k with
  | none => rfl
  | some q => exact absurd (hg.lt _ _ hq) (by omega)
 have hsz : E.w.heap.size ≤ w'.heap.size := by rw [hh]; simp
 have := Good.upd hg w' E.k (E.k + 1) ⟨E.w.heap.size, sz, xs.length, cp⟩ ⟨T, sz, xs⟩ (by omega) (by omega)
  (hg.below.trans ⟨h1, h2, h3, hsz, fun b hb => hold b (Nat.lt_of_lt_of_le hb hg.below.size)⟩) hsz (fun b hb _ => hold b hb) rfl rfl hn
  (fun _ => ⟨hg.below.size, .inl (Nat.le_refl _)⟩) (fun q hq => by rw [hnone] at hq; cases hq) (fun h => absurd h (by omega))
  (fun hl _ => by
   refine ⟨hmax, arr, by rw [hh]; simp, ⟨hs, hsp.elim (fun e => SpareA.exact (by rw [hs, ← e]; exact Nat.le_refl _)) id⟩, fun i hi => ⟨(hc i hi).1, fun j hj => ?_⟩⟩
   obtain ⟨y, a, b, c⟩ := (hc i hi).2 j hj
   exact ⟨y, a, b, c.later hl⟩)
 rw [hg.k]
 exact this
def newMem (M : Mem) (b : Blk) : Mem := ⟨insert M.l M.k b, M.k + 1⟩
def boxK (T : TypeId) (M : Mem) (a : AV) (K : AV → Mem → Prop) : Prop := Cells a ∧ K (.p M.k 0 0 1) (newMem M ⟨T, a.cells.length, [a]⟩)
theorem box_out {P : Program} {w0 : World} {E : Env} {M : Mem} {T : TypeId} {a : AV} {v : Value} {K : AV → Mem → Prop} (hg : Good w0 E M) (hr : Rep E a v) (h : boxK T M a K) :
 Out P w0 E (Instr.box T v) K := by
 obtain ⟨hc, hK⟩ := h
 obtain ⟨hs, hcr⟩ := hr.cells hc
 have hn := Good.new hg (E.w.alloc (.cells v.cells T)) T a.cells.length 1 [a] v.cells rfl rfl rfl rfl (by omega) (by simp) (by simp [maxLen]) (fun i hi => by
  have h0 : i = 0 := by simpa using hi
  subst h0
  refine ⟨rfl, fun j hj => ?_⟩
  simp only [List.getElem_cons_zero] at hj ⊢
  have hj2 : j < v.cells.size := by omega
  exact ⟨v.cells[j], by simp [hj2], (hcr j hj hj2).1, (hcr j hj hj2).2⟩)
 refine ⟨.pointer (some ⟨E.w.heap.size, 0, none⟩), _, _, .p M.k 0 0 1, ?_, hn.1, hn.2, ?_, hK⟩
 · simp [Instr.box, newVar, newRow]
 · refine .p _ _ _ _ _ (by rw [hg.k]; show E.k < E.k + 1; omega) (fun q hq => ?_)
   rw [hg.k] at hq
   simp only [upd_self, Option.some.injEq] at hq
   subst hq
   exact ⟨Nat.le_refl _, fun _ => by simp⟩
def zeroAV (i : TI) : AV := bif i.k.agg then .g (i.z.map .c) else .c (i.z.headD undef)
theorem rep_zero {P : Program} {t : TypeId} {i : TI} (h : TOk P t i) (hs : i.k.agg = true ∨ 0 < i.sz) (E : Env) : Rep E (zeroAV i) i.zero := by
 unfold zeroAV TI.zero
 cases ha : i.k.agg with
 | true =>
  refine .g _ _ (by simp) (fun k h1 h2 => ?_)
  simp only [List.getElem_map, List.getElem_toArray]
  exact .c _ (h.one _ (List.getElem_mem _))
 | false =>
  simp only [cond_false]
  have hz := h.z
  cases hq : i.z with
  | nil => rcases hs with hs | hs <;> simp_all
  | cons v r => exact .c v (h.one v (by rw [hq]; simp))
def allocK (T : TypeId) (i : TI) (M : Mem) (K : AV → Mem → Prop) : Prop := (i.k.agg = true ∨ 0 < i.sz) ∧ boxK T M (zeroAV i) K
theorem alloc_out {P : Program} {w0 : World} {E : Env} {M : Mem} {T : TypeId} {i : TI} {K : AV → Mem → Prop} (hg : Good w0 E M) (ht : TOk P T i) (h : allocK T i M K) :
 Out P w0 E (Instr.alloc T true (.tuple #[])) K := by
 obtain ⟨v, E', M', a, hr, h1, h2, h3, h4⟩ := box_out (P := P) hg (rep_zero ht h.1 E) h.2
 refine ⟨v, E', M', a, ?_, h1, h2, h3, h4⟩
 rw [← hr]
 simp [Instr.alloc, Instr.box, ht.run_zero, Result.andThen]
def fieldK (fs : List (Nat × TypeId)) (ti : TI) (f : Nat) (M : Mem) : AV → (AV → Mem → Prop) → Prop
 | .p id i j n, K => 0 < ti.sz ∧ K (.p id i (j + ((fs.getD f (0, 0)).1)) n) M
 | .e cs, K => 0 < ti.sz ∧ (fs.getD f (0, 0)).1 ≤ cs.length ∧ K (.e (cs.drop (fs.getD f (0, 0)).1)) M
 | _, _ => False
theorem addr_add (b o n : Nat) : (⟨b, o, none⟩ : Addr).add n = ⟨b, o + n, none⟩ := by unfold Addr.add; split <;> simp_all
theorem field_out {P : Program} {w0 : World} {E : Env} {M : Mem} {S : TypeId} {fs : List (Nat × TypeId)} {ti : TI} {f : Nat} {a : AV} {v : Value} {K : AV → Mem → Prop} (hg : Good w0 E M)
 (hS : KOk P S (.st fs)) (hf : f < fs.length) (ht : TOk P (fs.getD f (0, 0)).2 ti) (hr : Rep E a v) (h : fieldK fs ti f M a K) : Out P w0 E (Instr.fieldAt S v f) K := by
 obtain ⟨A, hA, hfs⟩ := hS
 have hfl : f < A.size := by rw [← hfs] at hf; simpa using hf
 have hfd : fs.getD f (0, 0) = (A[f].offset, A[f].type) := by
  subst hfs
  simp [List.getD, hfl]
 rw [hfd] at ht
 have hplace : ∀ b o, 0 < ti.sz → (fieldPlace ⟨b, o, none⟩ A[f]).run P E.w = .ok ⟨b, o + A[f].offset, none⟩ E.w := fun b o hsz => by
  simp only [fieldPlace, Sem.run_bind, ht.run_size, Result.andThen]
  rw [if_neg (by omega), addr_add]
  rfl
 have hrun : ∀ b o, 0 < ti.sz → (Instr.fieldAt S (.pointer (some ⟨b, o, none⟩)) f).run P E.w = .ok (.pointer (some ⟨b, o + A[f].offset, none⟩)) E.w := fun b o hsz => by
  simp only [Instr.fieldAt, Sem.run_bind, run_underlying hA, Result.andThen, Array.getElem?_eq_getElem hfl, Instr.sureAddr, Sem.run_pure, hplace b o hsz]
 cases hr <;> try exact h.elim
 case p id i j n a hk hp =>
  obtain ⟨hsz, hK⟩ := h
  rw [hfd] at hK
  obtain ⟨b, o, s⟩ := a
  cases hq : E.ad id with
  | none =>
   -- a pointer of which nothing is known: it need not be one that may be moved
   cases s with
   | none => exact .val hg (hrun b o hsz) (.p _ _ _ _ _ hk (fun q hq' => by rw [hq] at hq'; cases hq')) hK
   | some s =>
    simp only [Instr.fieldAt] at *
    exact ⟨_, E, M, _, by
     simp only [Sem.run_bind, run_underlying hA, Result.andThen, Array.getElem?_eq_getElem hfl, Instr.sureAddr, Sem.run_pure, fieldPlace, ht.run_size]
     rw [if_neg (by omega)]
     rfl, hg, .refl E, .p _ _ _ _ _ hk (fun q hq' => by rw [hq] at hq'; cases hq'), hK⟩
  | some q =>
   obtain ⟨hle, he⟩ := hp q hq
   by_cases hn : n = q.n
   · have := he hn
     cases this
     exact .val hg (hrun _ _ hsz) (.p _ _ _ _ _ hk (fun q' hq' => by
      rw [hq] at hq'; cases hq'
      exact ⟨hle, fun _ => by simp [Nat.add_assoc]⟩)) hK
   · refine ⟨_, E, M, _, ?_, hg, .refl E, .p _ _ _ _ ((⟨b, o, s⟩ : Addr).add A[f].offset) hk (fun q' hq' => ?_), hK⟩
     · simp only [Instr.fieldAt, Sem.run_bind, run_underlying hA, Result.andThen, Array.getElem?_eq_getElem hfl, Instr.sureAddr, Sem.run_pure, fieldPlace, ht.run_size]
       rw [if_neg (by omega)]
       rfl
     · rw [hq] at hq'; cases hq'
       exact ⟨hle, fun h => absurd h hn⟩
 case e cs b off y hz hc hr =>
  obtain ⟨hsz, hle, hK⟩ := h
  rw [hfd] at hK hle
  refine .val hg (hrun _ _ hsz) (.e _ b (off + A[f].offset) (fun j => y (A[f].offset + j)) hz (fun j hj => ?_) (fun j hj => ?_)) hK
  · simp only [List.length_drop] at hj
    rw [Nat.add_assoc]; exact hc _ (by omega)
  · simp only [List.getElem_drop]
    exact hr _ _
def idxK (sz : Nat) (M : Mem) : AV → AV → (AV → Mem → Prop) → Prop
 | .s id off n, .c (.int _ i), K => (0 ≤ i ∧ i < n) ∧ blkK M id (off + n) fun blk => blk.sz = sz ∧ K (.p id (off + i.toNat) 0 (off + n)) M
 | .l sz' xs, .c (.int _ i), K => 0 ≤ i ∧ i < xs.length ∧ sz' = sz ∧ Elem xs i.toNat fun el => K (.e el.cells) M
 | _, _, _ => False
theorem idx_out {P : Program} {w0 : World} {E : Env} {M : Mem} {t e : TypeId} {ti : TI} {a x' : AV} {v y : Value} {K : AV → Mem → Prop} (hg : Good w0 E M)
 (hS : KOk P t (.sl e)) (ht : TOk P e ti) (hr : Rep E a v) (hx : Rep E x' y) (h : idxK ti.sz M a x' K) : Out P w0 E (Instr.indexAt t v y) K := by
 simp only [KOk] at hS
 have hrun : ∀ (b o n c : Nat) (k : IntKind) (i : Int), 0 ≤ i → i < n → (Instr.indexAt t (.slice (some ⟨b, o, none⟩) n c) (.int k i)).run P E.w = .ok (.pointer (some ⟨b, o + i.toNat * ti.sz, none⟩)) E.w := fun b o n c k i h0 h1 => by
  simp only [Instr.indexAt, Sem.run_bind, asIntOf, Sem.run_pure, run_underlying hS, Result.andThen]
  simp only [h0, h1, and_self, if_true, Sem.run_bind, ht.run_size, Result.andThen, addr_add, Sem.run_pure]
 cases hr <;> try exact h.elim
 case l sz xs b off cap y0 hcap hz hs hc hr =>
  cases hx <;> try exact h.elim
  cases y <;> try exact h.elim
  rename_i k i _
  obtain ⟨h0, h1, hsz, hi, hK⟩ := h
  subst hsz
  refine .val hg (hrun _ _ _ _ _ _ h0 h1) (.e _ b (off + i.toNat * ti.sz) (fun j => y0 i.toNat j) hz (fun j hj => ?_) (fun j hj => hr _ hi j hj)) hK
  rw [hs _ hi] at hj
  rw [Nat.add_assoc]; exact hc _ _ hi hj
 case l0 sz A cap =>
  cases hx <;> try exact h.elim
  cases y <;> try exact h.elim
  obtain ⟨h0, h1, _⟩ := h
  simp at h1; omega
 case s id off n A cap hk hs =>
  cases hx <;> try exact h.elim
  cases y <;> try exact h.elim
  rename_i k i _
  obtain ⟨⟨h0, h1⟩, blk, hM, hn, hsz, hK⟩ := h
  obtain ⟨q, a1, a2, a3, a4, a5⟩ := hg.held id blk hM
  obtain ⟨_, b2⟩ := hs q a1
  obtain ⟨c1, c2⟩ := b2 (by omega)
  have hA := c2 (by omega)
  subst hA
  refine .val hg (hrun _ _ _ _ _ _ h0 h1) (.p _ _ _ _ _ hk (fun q' hq' => ?_)) hK
  rw [a1] at hq'; cases hq'
  refine ⟨by omega, fun _ => ?_⟩
  simp [Nat.add_mul, a2, hsz]
end Go.Ab
namespace Go.Ab
open Go Go.RowKit
def Env.without (E : Env) (ids : List Nat) : Env := ⟨E.w, fun i => if i ∈ ids then none else E.ad i, E.k, E.hid⟩
def Mem.without (M : Mem) : List Nat → Mem
 | [] => M
 | id :: r => (M.drop id).without r
theorem without_nil (E : Env) : E.without [] = E := by simp [Env.without]
theorem without_cons (E : Env) (id : Nat) (r : List Nat) : E.without (id :: r) = (Env.without ⟨E.w, upd E.ad id none, E.k, E.hid⟩ r) := by
 simp only [Env.without, Env.mk.injEq, and_true, true_and]
 funext i
 by_cases h : i = id
 · subst h; simp [upd_self]
 · simp [upd_ne _ _ h, h]
theorem Good.without {w0 : World} {E : Env} {M : Mem} (hg : Good w0 E M) (ids : List Nat) : Good w0 (E.without ids) (M.without ids) ∧ Later E (E.without ids) := by
 induction ids generalizing E M with
 | nil => rw [without_nil]; exact ⟨hg, .refl E⟩
 | cons id r ih =>
  rw [without_cons]
  obtain ⟨h1, h2⟩ := hg.drop id
  obtain ⟨h3, h4⟩ := ih h1
  exact ⟨h3, h2.trans h4⟩
def PureL (xs : List AV) : Prop := ∀ i (hi : i < xs.length), ∀ j (hj : j < xs[i].cells.length), Under 0 xs[i].cells[j]
def viewC (M : Mem) : AV → AV
 | .s id off _ => match M.get id with
  | some blk => .l blk.sz (blk.xs.drop off)
  | none => .x
 | a => a
def viewA (M : Mem) : AV → AV
 | .g cs => .g (cs.map (viewC M))
 | a => viewC M a
def idsC : AV → List Nat
 | .s id _ _ => [id]
 | _ => []
def idsA : AV → List Nat
 | .g cs => cs.flatMap idsC
 | a => idsC a
def VOkC (M : Mem) : AV → Prop
 | .s id off n => blkK M id (off + n) fun blk => PureL blk.xs
 | .g _ => False
 | _ => True
def AllV (M : Mem) : List AV → Prop
 | [] => True
 | a :: r => VOkC M a ∧ AllV M r
theorem AllV.get {M : Mem} : ∀ {l : List AV}, AllV M l → ∀ i (h : i < l.length), VOkC M l[i]
 | a :: r, h, 0, _ => h.1
 | a :: r, h, i + 1, hi => h.2.get i (by simpa using hi)
def VOkA (M : Mem) : AV → Prop
 | .g cs => AllV M cs
 | a => VOkC M a
theorem rep_viewC {w0 : World} {E : Env} {M : Mem} (hg : Good w0 E M) {a : AV} {v : Value} (hr : Rep E a v) (hv : VOkC M a) {ids : List Nat} (hi : ∀ id ∈ idsC a, id ∈ ids) :
 Rep (E.without ids) (viewC M a) v := by
 have hl := (hg.without ids).2
 cases hr with
 | s id off n A cap hk h =>
  obtain ⟨blk, hM, hn, hp⟩ := hv
  have hid : id ∈ ids := hi id (by simp [idsC])
  obtain ⟨q, h1, h2, h3, h4, h5⟩ := hg.held id blk hM
  simp only [viewC, hM]
  obtain ⟨g1, g2⟩ := h q h1
  obtain ⟨g3, g4⟩ := g2 (by omega)
  have hlen : (blk.xs.drop off).length = n := by simp; omega
  by_cases hcp : 0 < cap
  · have hqcp : 0 < q.cp := by omega
    obtain ⟨hb0, hb⟩ := h5 hqcp
    have hlt := backed_lt hb
    obtain ⟨_, arr, a1, ⟨a2, a2s⟩, a3⟩ := hb
    have hA := g4 hcp
    subst hA
    rw [← hlen]
    refine .l _ _ _ _ cap (fun i j => (arr[(off + i) * blk.sz + j]?).getD undef) (by omega) ⟨hlt, hg.hid id q h1 hqcp, fun i q' hq' hcp' => ?_⟩ (fun i hi' => ?_) (fun i j hi' hj => ?_) (fun i hi' j hj => ?_)
    · simp only [Env.without] at hq'
      split at hq'
      · cases hq'
      · rename_i hni
        exact hg.inj i id q' q (fun e => hni (e ▸ hid)) hq' h1 hcp' hqcp
    · simp only [List.length_drop] at hi'
      simp only [List.getElem_drop]
      exact (a3 _ _).1
    · simp only [List.length_drop] at hi'
      have hc := (a3 (off + i) (by omega)).1
      obtain ⟨y, b1, b2, b3⟩ := (a3 (off + i) (by omega)).2 j (by rw [hc]; exact hj)
      simp only [Env.without, World.cell?, a1]
      have e : off * q.sz + (i * blk.sz + j) = (off + i) * blk.sz + j := by rw [h2, Nat.add_mul]; omega
      exact ⟨by simp [e, b1], by rw [b1]; exact b2⟩
    · simp only [List.length_drop] at hi'
      simp only [List.getElem_drop] at hj ⊢
      obtain ⟨y, b1, b2, b3⟩ := (a3 (off + i) (by omega)).2 j hj
      rw [b1]
      exact b3.later hl
  · have hn0 : n = 0 := by omega
    subst hn0
    have : blk.xs.drop off = [] := List.eq_nil_of_length_eq_zero hlen
    rw [this]
    exact .l0 _ _ _
 | c v h => exact .c v h
 | x v => exact .x v
 | g => exact hv.elim
 | t cs ys h hr => exact (Rep.t cs ys h hr).later hl
 | f cs ys a h hr => exact (Rep.f cs ys a h hr).later hl
 | b cs ys a h hr => exact (Rep.b cs ys a h hr).later hl
 | u sz xs A h => exact (Rep.u sz xs A h).later hl
 | w id len n A cap hk h => exact (Rep.w id len n A cap hk h).later hl
 | l sz xs b off cap y hcap hz hs hc hr => exact (Rep.l sz xs b off cap y hcap hz hs hc hr).later hl
 | l0 sz A cap => exact .l0 sz A cap
 | e cs b off y hz hc hr => exact (Rep.e cs b off y hz hc hr).later hl
 | p id i j n a hk h => exact (Rep.p id i j n a hk h).later hl
theorem rep_viewA {w0 : World} {E : Env} {M : Mem} (hg : Good w0 E M) {a : AV} {v : Value} (hr : Rep E a v) (hv : VOkA M a) {ids : List Nat} (hi : ∀ id ∈ idsA a, id ∈ ids) :
 Rep (E.without ids) (viewA M a) v := by
 cases a with
 | g cs =>
  cases hr with
  | g _ ys h hr =>
   refine .g _ ys (by simpa using h) (fun i h1 h2 => ?_)
   simp only [List.getElem_map]
   have h1' : i < cs.length := by simpa using h1
   refine rep_viewC hg (hr i h1' h2) (AllV.get hv i h1') (fun id hid => hi id ?_)
   simp only [idsA, List.mem_flatMap]
   exact ⟨_, List.getElem_mem h1', hid⟩
 | _ => exact rep_viewC hg hr hv hi
section append
variable {P : Program} {t t2 e : TypeId} {ti : TI} {d2 : TypeDesc}
theorem run_append_stay (w : World) (ty : TypeId) (ht : P.underlying t = some (.slice e)) (hti : TOk P e ti) (h2 : P.underlying t2 = some d2) (hd2 : d2 = .string ∨ ∃ e2, d2 = .slice e2)
 (A : Option Addr) (n cap m : Nat) (x : Value) (news : List Value) (hlen : (Builtin.lenOf x).run P w = .ok m w) (hf : (Builtin.firstCells ti.sz m x).run P w = .ok news.toArray w)
 (hroom : n + m ≤ cap) (w' : World) (hs : (match A with | some a => (storeCells (a.add (n * ti.sz)) news).run P w | none => .ok () w) = .ok () w') :
 (Builtin.append_ #[t, t2] ty #[.slice A n cap, x]).run P w = .ok (.slice A (n + m) cap) w' := by
 rcases hd2 with rfl | ⟨e2, rfl⟩ <;> cases A <;> simp only at hs
 all_goals first
  | (cases hs; simp [Builtin.append_, run_underlying ht, hti.run_size, run_underlying h2, hlen, hf, hroom, Result.andThen]; done)
  | simp [Builtin.append_, run_underlying ht, hti.run_size, run_underlying h2, hlen, hf, hroom, Result.andThen, hs]
theorem run_append_more (w : World) (ty : TypeId) (ht : P.underlying t = some (.slice e)) (hti : TOk P e ti) (h2 : P.underlying t2 = some d2) (hd2 : d2 = .string ∨ ∃ e2, d2 = .slice e2)
 (A : Option Addr) (n cap m : Nat) (x : Value) (olds news : List Value) (hlen : (Builtin.lenOf x).run P w = .ok m w) (hf : (Builtin.firstCells ti.sz m x).run P w.drew = .ok news.toArray w.drew)
 (ho : (Builtin.firstCells ti.sz n (.slice A n cap)).run P w.drew = .ok olds.toArray w.drew)
 (hroom : ¬ n + m ≤ cap) (hby : (n + m) * ti.by' ≤ 140737488355328) (hby0 : 0 < ti.by') :
 (Builtin.append_ #[t, t2] ty #[.slice A n cap, x]).run P w = .ok (.slice (some ⟨w.heap.size, 0, none⟩) (n + m) (grownCap w (n + m) cap e))
  (w.drew.alloc (.cells (olds.toArray ++ news.toArray ++ Builtin.zeroCells ti.zero.cells (grownCap w (n + m) cap e - (n + m))) e)) := by
 obtain ⟨f, g1, g2, g3, g4⟩ := hti.ex
 have h48 := growslice_fits (by omega) hby (old := cap)
 have hb0 : f.bytes ≠ 0 := by omega
 have h48' : ¬ (281474976710656 < Builtin.nextslicecap (n + m) cap * f.bytes) := by rw [g4]; omega
 rcases hd2 with rfl | ⟨e2, rfl⟩ <;>
  simp [Builtin.append_, run_underlying ht, sizeOf, zeroValue, typeInfo, g1, g2, g3, run_underlying h2, hlen, hroom, hb0, h48', Question.forced, hf, ho, newRow, grownCap, Result.andThen] <;> (congr 2; apply Array.ext'; simp)
end append
end Go.Ab
namespace Go.Ab
open Go Go.RowKit
def encB (b : UInt8) : AV := .c (.int .u8 b.toNat)
def srcK (sz : Nat) (M : Mem) : AV → (List AV → Prop) → Prop
 | .l sz' xs, K => sz' = sz ∧ K xs
 | .s id off n, K => blkK M id (off + n) fun blk => blk.sz = sz ∧ K (blk.xs.drop off)
 | .c (.slice none 0 0), K => K []
 | .c (.string s), K => sz = 1 ∧ K (s.data.toList.map encB)
 | _, _ => False
theorem cells_run {P : Program} {w w' : World} (hw : w'.heap = w.heap) {A : Addr} {sz n : Nat} {ys : Nat → Nat → Value}
 (h : ∀ i j, i < n → j < sz → w.cell? (A.add (i * sz + j)) = some (ys i j)) :
 (loadCells A (n * sz)).run P w' = .ok ((List.range (n * sz)).map fun k => ys (k / sz) (k % sz)).toArray w' := by
 refine run_loadCells (P := P) w' A (n * sz) _ (fun k hk => ?_)
 have hs : 0 < sz := by
  rcases Nat.eq_zero_or_pos sz with h | h
  · subst h; simp at hk
  · exact h
 have hd : k / sz < n := Nat.div_lt_of_lt_mul (by rw [Nat.mul_comm]; exact hk)
 have hm : k % sz < sz := Nat.mod_lt _ hs
 have e : k / sz * sz + k % sz = k := by rw [Nat.mul_comm]; exact Nat.div_add_mod k sz
 have := h (k / sz) (k % sz) hd hm
 rw [e] at this
 have hc : w'.cell? (A.add k) = w.cell? (A.add k) := by simp only [World.cell?, hw]
 rw [hc]; exact this
structure Src (P : Program) (E : Env) (sz : Nat) (v : Value) (xs : List AV) : Prop where
 len : ∀ w, (Builtin.lenOf v).run P w = .ok xs.length w
 first : ∃ news : List Value, news.length = xs.length * sz ∧ (∀ w, w.heap = E.w.heap → (Builtin.firstCells sz xs.length v).run P w = .ok news.toArray w) ∧
  (∀ i (hi : i < xs.length), xs[i].cells.length = sz ∧ ∀ j (hj : j < xs[i].cells.length), ∃ y, news[i * sz + j]? = some y ∧ One y ∧ Rep E xs[i].cells[j] y)
theorem range_get? {sz n i j : Nat} (hi : i < n) (hj : j < sz) (f : Nat → Nat → Value) : ((List.range (n * sz)).map fun k => f (k / sz) (k % sz))[i * sz + j]? = some (f i j) := by
 have h1 : i * sz + j < n * sz := by
  have : (i + 1) * sz ≤ n * sz := Nat.mul_le_mul_right _ hi
  rw [Nat.add_mul] at this; omega
 have h2 : (i * sz + j) / sz = i := by
  rw [Nat.mul_comm, Nat.mul_add_div (by omega)]
  rw [Nat.div_eq_of_lt hj]; rfl
 have h3 : (i * sz + j) % sz = j := by
  rw [Nat.mul_comm, Nat.mul_add_mod]; exact Nat.mod_eq_of_lt hj
 simp [h1, h2, h3]
theorem src_of {P : Program} {w0 : World} {E : Env} {M : Mem} (hg : Good w0 E M) {sz : Nat} {a : AV} {v : Value} {K : List AV → Prop} (hr : Rep E a v) (h : srcK sz M a K) :
 ∃ xs, Src P E sz v xs ∧ K xs := by
 cases hr <;> try exact h.elim
 case c hv =>
  cases v <;> try exact h.elim
  case string s =>
   obtain ⟨rfl, hK⟩ := h
   have hsz : s.data.toList.length = s.size := by simp
   refine ⟨_, ⟨fun w => by simp [Builtin.lenOf], s.data.toList.map (fun b => .int .u8 b.toNat), by simp, fun w _ => ?_, fun i hi => ?_⟩, hK⟩
   · simp only [Builtin.firstCells, List.length_map, hsz, Sem.run_pure]
     congr 2
     apply Array.ext'
     have : (s.extract 0 s.size) = s := by
      apply ByteArray.ext
      rw [ByteArray.data_extract, ← ByteArray.size_data]
      simp
     rw [this]; simp
   · simp only [List.length_map] at hi
     simp only [List.getElem_map, encB, AV.cells]
     refine ⟨rfl, fun j hj => ?_⟩
     have h0 : j = 0 := by simpa using hj
     subst h0
     exact ⟨.int .u8 (s.data.toList[i].toNat), by rw [Nat.mul_one, Nat.add_zero, List.getElem?_map, List.getElem?_eq_getElem hi]; rfl, rfl, .c _ rfl⟩
  case slice A n c =>
   match A, n, c, h with
   | none, 0, 0, h => exact ⟨[], ⟨fun w => rfl, [], by simp, fun w _ => by simp [Builtin.firstCells], fun i hi => by simp at hi⟩, h⟩
 case l sz' xs b off cap y hcap hz hs hc hr =>
  obtain ⟨rfl, hK⟩ := h
  refine ⟨xs, ⟨fun w => rfl, _, by simp, fun w hw => ?_, fun i hi => ⟨hs i hi, fun j hj => ⟨y i j, range_get? hi (by rw [← hs i hi]; exact hj) y, (hc i j hi (by rw [← hs i hi]; exact hj)).2, hr i hi j hj⟩⟩⟩, hK⟩
  simp only [Builtin.firstCells]
  exact cells_run (P := P) hw (fun i j hi hj => by rw [addr_add]; exact (hc i j hi hj).1)
 case l0 sz' A cap =>
  obtain ⟨rfl, hK⟩ := h
  refine ⟨[], ⟨fun w => rfl, [], by simp, fun w _ => ?_, fun i hi => by simp at hi⟩, hK⟩
  cases A <;> simp [Builtin.firstCells, loadCells, loadCellsFrom]
 case s id off n A cap hk h' =>
  obtain ⟨blk, hM, hn, rfl, hK⟩ := h
  obtain ⟨q, h1, h2, h3, h4, h5⟩ := hg.held id blk hM
  obtain ⟨g1, g2⟩ := h' q h1
  obtain ⟨g3, g4⟩ := g2 (by omega)
  have hlen : (blk.xs.drop off).length = n := by simp; omega
  refine ⟨_, ⟨fun w => by rw [hlen]; rfl, ?_⟩, hK⟩
  by_cases hcp : 0 < cap
  · obtain ⟨_, hb⟩ := h5 (by omega)
    obtain ⟨_, arr, a1, ⟨a2, a2s⟩, a3⟩ := hb
    have hA := g4 hcp
    subst hA
    refine ⟨(List.range ((blk.xs.drop off).length * blk.sz)).map fun k => (arr[(off + k / blk.sz) * blk.sz + k % blk.sz]?).getD undef, by simp, fun w hw => ?_, fun i hi => ?_⟩
    · simp only [Builtin.firstCells]
      exact cells_run (P := P) (ys := fun i j => (arr[(off + i) * blk.sz + j]?).getD undef) hw (fun i j hi hj => by
       rw [hlen] at hi
       obtain ⟨y, b1, b2, b3⟩ := (a3 (off + i) (by omega)).2 j (by rw [(a3 (off + i) (by omega)).1]; exact hj)
       have e : off * q.sz + (i * blk.sz + j) = (off + i) * blk.sz + j := by rw [h2, Nat.add_mul]; omega
       rw [addr_add]
       simp [World.cell?, a1, e, b1])
    · simp only [List.length_drop] at hi
      simp only [List.getElem_drop]
      refine ⟨(a3 _ _).1, fun j hj => ?_⟩
      obtain ⟨y, b1, b2, b3⟩ := (a3 (off + i) (by omega)).2 j hj
      refine ⟨y, ?_, b2, b3⟩
      have := range_get? (n := (blk.xs.drop off).length) (sz := blk.sz) (i := i) (j := j) (by simp; omega) (by rw [← (a3 (off + i) (by omega)).1]; exact hj) (fun i j => (arr[(off + i) * blk.sz + j]?).getD undef)
      rw [this, b1]
      rfl
  · have hn0 : n = 0 := by omega
    subst hn0
    have he : blk.xs.drop off = [] := List.eq_nil_of_length_eq_zero hlen
    rw [he]
    refine ⟨[], by simp, fun w _ => ?_, fun i hi => by simp at hi⟩
    cases A <;> simp [Builtin.firstCells, loadCells, loadCellsFrom]
def dstK (e : TypeId) (sz : Nat) (M : Mem) : AV → (List AV → (Blk → Nat × Mem) → Prop) → Prop
 | .s id off n, K => off = 0 ∧ blkK M id n fun blk => blk.sz = sz ∧ blk.T = e ∧ K blk.xs fun b => (id, M.put id b)
 | .c (.slice none 0 0), K => K [] fun b => (M.k, newMem M b)
 | .u sz' xs, K => sz' = sz ∧ K xs fun b => (M.k, newMem M b)
 | .w id len n, K => blkK M id len fun blk => blk.sz = sz ∧ blk.T = e ∧ K blk.xs fun b => (id, M.put id b)
 | _, _ => False
def okA : AV → Nat → Prop
 | .u _ _, k => 0 < k
 | .w _ len n, k => len + k ≤ n
 | _, _ => True
theorem okA_s {id off n k : Nat} : okA (.s id off n) k = True := rfl
theorem okA_c {v : Value} {k : Nat} : okA (.c v) k = True := rfl
theorem okA_u {sz k : Nat} {xs : List AV} : okA (.u sz xs) k = (0 < k) := rfl
theorem okA_w {id len n k : Nat} : okA (.w id len n) k = (len + k ≤ n) := rfl
def appendK (e : TypeId) (ti : TI) (M : Mem) (a b : AV) (K : AV → Mem → Prop) : Prop :=
 dstK e ti.sz M a fun xs f => srcK ti.sz M b fun ys => okA a ys.length ∧ (xs.length + ys.length) * ti.by' ≤ 140737488355328 ∧ 0 < ti.by' ∧ 0 < ti.sz ∧
  K (.s (f ⟨e, ti.sz, xs ++ ys⟩).1 0 (xs.length + ys.length)) (f ⟨e, ti.sz, xs ++ ys⟩).2
theorem spare_zero {P : Program} {e : TypeId} {ti : TI} (hti : TOk P e ti) (h : e = U8T) {n j : Nat} {y : Value} (hy : (Builtin.zeroCells ti.zero.cells n)[j]? = some y) : ∃ v, y = .int .u8 v := by
 have hz := hti.u8 h
 have hc : ti.zero.cells = #[.int .u8 0] := by
  unfold TI.zero
  rw [hz]
  cases ti.k.agg <;> rfl
 rw [hc] at hy
 have hy' := Array.getElem?_eq_some_iff.1 hy
 obtain ⟨h1, h2⟩ := hy'
 refine ⟨0, ?_⟩
 rw [← h2]
 simp only [Builtin.zeroCells, Array.getElem_map, Array.getElem_range]
 simp [Nat.mod_one]
theorem append_out {P : Program} {w0 : World} {E : Env} {M : Mem} {t t2 e ty : TypeId} {ti : TI} {d2 : TypeDesc} {a b : AV} {u v : Value} {K : AV → Mem → Prop} (hg : Good w0 E M)
 (ht : P.underlying t = some (.slice e)) (hti : TOk P e ti) (h2 : P.underlying t2 = some d2) (hd2 : d2 = .string ∨ ∃ e2, d2 = .slice e2)
 (hr : Rep E a u) (hx : Rep E b v) (h : appendK e ti M a b K) : Out P w0 E (Builtin.append_ #[t, t2] ty #[u, v]) K := by
 -- the new block, where it must grow
 have grow : ∀ (id : Nat) (xs ys : List AV) (k' : Nat) (n cap : Nat) (olds news : List Value), n = xs.length →
  (n + ys.length) * ti.by' ≤ 140737488355328 → 0 < ti.by' → ¬ n + ys.length ≤ cap →
  olds.length = xs.length * ti.sz → news.length = ys.length * ti.sz →
  (∀ i (hi : i < xs.length), xs[i].cells.length = ti.sz ∧ ∀ j (hj : j < xs[i].cells.length), ∃ y, olds[i * ti.sz + j]? = some y ∧ One y ∧ Rep E xs[i].cells[j] y) →
  (∀ i (hi : i < ys.length), ys[i].cells.length = ti.sz ∧ ∀ j (hj : j < ys[i].cells.length), ∃ y, news[i * ti.sz + j]? = some y ∧ One y ∧ Rep E ys[i].cells[j] y) →
  E.k ≤ k' → id < k' → (id < E.k → ∃ q, E.ad id = some q) → (∀ q, E.ad id = some q → q.n ≤ n + ys.length ∧ (n + ys.length = q.n → False) ∧ (n + ys.length ≤ q.cp → False)) →
  Good w0 ⟨E.w.drew.alloc (.cells (olds.toArray ++ news.toArray ++ Builtin.zeroCells ti.zero.cells (grownCap E.w (n + ys.length) cap e - (n + ys.length))) e), upd E.ad id (some ⟨E.w.heap.size, ti.sz, n + ys.length, grownCap E.w (n + ys.length) cap e⟩), k', E.hid⟩
   ⟨insert M.l id ⟨e, ti.sz, xs ++ ys⟩, k'⟩ ∧
  Later E ⟨E.w.drew.alloc (.cells (olds.toArray ++ news.toArray ++ Builtin.zeroCells ti.zero.cells (grownCap E.w (n + ys.length) cap e - (n + ys.length))) e), upd E.ad id (some ⟨E.w.heap.size, ti.sz, n + ys.length, grownCap E.w (n + ys.length) cap e⟩), k', E.hid⟩ := by
  intro id xs ys k' n cap olds news hn hby hby0 hroom hol hnl hox hny hk' hid hex hnew
  subst hn
  have hge := grownCap_ge E.w (xs.length + ys.length) cap e
  have hle : xs.length + ys.length ≤ maxLen := by
   have : xs.length + ys.length ≤ (xs.length + ys.length) * ti.by' := Nat.le_mul_of_pos_right _ hby0
   simp only [maxLen]; omega
  have hcm := grownCap_le_maxLen E.w (xs.length + ys.length) cap e hle
  have hzs := hti.zc
  refine Good.upd hg _ id k' ⟨E.w.heap.size, ti.sz, xs.length + ys.length, grownCap E.w (xs.length + ys.length) cap e⟩ ⟨e, ti.sz, xs ++ ys⟩ hk' hid
   (hg.below.trans ⟨rfl, rfl, rfl, by simp, fun b hb => by
    have := hg.below.size
    exact Below.heap_alloc _ _ _ (by simp; omega)⟩) (by simp) (fun b hb _ => Below.heap_alloc E.w.drew _ _ (by simpa using hb)) rfl (by simp) hge
   (fun _ => ⟨hg.below.size, .inl (Nat.le_refl _)⟩) (fun q hq => ⟨(hnew q hq).1, fun h => ((hnew q hq).2.1 h).elim, fun _ h => ((hnew q hq).2.2 h).elim⟩) hex (fun hl _ => ?_)
  refine ⟨hcm, _, heap_alloc_new E.w.drew _, ⟨?_, fun hT j y hj hy => ?_⟩, fun i hi => ?_⟩
  · simp only [Array.size_append, List.size_toArray, size_zeroCells, hzs, hol, hnl, ← Nat.add_mul]
    congr 1
    omega
  · simp only [List.length_append, Nat.add_mul] at hj
    rw [Array.getElem?_append_right (by simp only [Array.size_append, List.size_toArray]; omega)] at hy
    exact spare_zero hti hT hy
  · simp only [List.length_append] at hi
    have hget : ∀ k, k < (olds ++ news).length → (olds.toArray ++ news.toArray ++ Builtin.zeroCells ti.zero.cells (grownCap E.w (xs.length + ys.length) cap e - (xs.length + ys.length)))[k]? = (olds ++ news)[k]? := fun k hk => by
     rw [Array.getElem?_append_left (by simpa using hk)]
     simp
    by_cases hlt : i < xs.length
    · simp only [List.getElem_append_left hlt]
      refine ⟨(hox i hlt).1, fun j hj => ?_⟩
      obtain ⟨y, b1, b2, b3⟩ := (hox i hlt).2 j hj
      have hb : i * ti.sz + j < olds.length := (List.getElem?_eq_some_iff.1 b1).1
      refine ⟨y, ?_, b2, b3.later hl⟩
      rw [hget _ (by simp; omega), List.getElem?_append_left hb]
      exact b1
    · simp only [List.getElem_append_right (Nat.le_of_not_lt hlt)]
      have hi2 : i - xs.length < ys.length := by omega
      refine ⟨(hny _ hi2).1, fun j hj => ?_⟩
      obtain ⟨y, b1, b2, b3⟩ := (hny _ hi2).2 j hj
      have hb : (i - xs.length) * ti.sz + j < news.length := (List.getElem?_eq_some_iff.1 b1).1
      refine ⟨y, ?_, b2, b3.later hl⟩
      have e1 : i * ti.sz + j = olds.length + ((i - xs.length) * ti.sz + j) := by
       rw [hol, ← Nat.add_assoc, ← Nat.add_mul]; congr 2; omega
      rw [hget _ (by simp; omega), e1, List.getElem?_append_right (by omega)]
      simpa using b1
 have hx' := hx
 cases hr <;> try exact h.elim
 case c hv =>
  cases u <;> try exact h.elim
  case slice A n cap =>
   match A, n, cap, h with
   | none, 0, 0, h =>
    obtain ⟨ys, hsrc, hok, hby, hby0, hsz0, hK⟩ := src_of (P := P) hg hx h
    obtain ⟨news, n1, n2, n3⟩ := hsrc.first
    have hnone : E.ad E.k = none := by
     cases hq : E.ad E.k with
     | none => rfl
     | some q => exact absurd (hg.lt _ _ hq) (by omega)
    simp only [List.nil_append, List.length_nil, Nat.zero_add] at hK hby
    by_cases hm : ys.length = 0
    · have hys : ys = [] := List.eq_nil_of_length_eq_zero hm
      subst hys
      have hnews : news = [] := List.eq_nil_of_length_eq_zero (by simpa using n1)
      subst hnews
      have hrun := run_append_stay (P := P) E.w ty ht hti h2 hd2 none 0 0 0 v [] (by simpa using hsrc.len E.w) (by simpa using n2 E.w rfl) (Nat.le_refl _) E.w rfl
      have hup := Good.upd hg E.w E.k (E.k + 1) ⟨0, ti.sz, 0, 0⟩ ⟨e, ti.sz, []⟩ (by omega) (by omega) hg.below (Nat.le_refl _) (fun _ _ _ => rfl) rfl rfl (Nat.le_refl _) (fun h => absurd h (by simp))
       (fun q hq => by rw [hnone] at hq; cases hq) (fun h => absurd h (by omega)) (fun _ h => absurd h (by simp))
      refine ⟨_, ⟨E.w, Ab.upd E.ad E.k (some ⟨0, ti.sz, 0, 0⟩), E.k + 1, E.hid⟩, _, _, hrun, hup.1, hup.2, .s E.k 0 0 none 0 (by show E.k < E.k + 1; omega) (fun q hq => ?_), ?_⟩
      · simp only [upd_self, Option.some.injEq] at hq
        subst hq
        exact ⟨Nat.le_refl _, fun _ => ⟨rfl, fun h => absurd h (by omega)⟩⟩
      · simpa [newMem, hg.k] using hK
    · have hrun := run_append_more (P := P) E.w ty ht hti h2 hd2 none 0 0 ys.length v [] news (hsrc.len E.w) (n2 E.w.drew rfl) (by simp [Builtin.firstCells]) (by omega) (by simpa using hby) hby0
      have hgr := grow E.k [] ys (E.k + 1) 0 0 [] news rfl (by simpa using hby) hby0 (by omega) (by simp) n1 (fun i hi => absurd hi (by simp)) n3 (by omega) (by omega) (fun h => absurd h (by omega)) (fun q hq => by rw [hnone] at hq; cases hq)
      rw [Nat.zero_add] at hrun hgr
      refine ⟨_, _, _, _, hrun, hgr.1, hgr.2, .s E.k 0 ys.length _ _ (by show E.k < E.k + 1; omega) (fun q hq => ?_), ?_⟩
      · simp only [upd_self, Option.some.injEq] at hq
        subst hq
        exact ⟨by simp, fun _ => ⟨by simp, fun _ => by simp⟩⟩
      · simpa [newMem, hg.k] using hK
 case s id off n A cap hk h' =>
  obtain ⟨rfl, blk, hM, hn, rfl', rfl'', h⟩ := h
  obtain ⟨ys, hsrc, hok, hby, hby0, hsz0, hK⟩ := src_of (P := P) hg hx h
  obtain ⟨news, n1, n2, n3⟩ := hsrc.first
  obtain ⟨q, q1, q2, q3, q4, q5⟩ := hg.held id blk hM
  obtain ⟨g1, g2⟩ := h' q q1
  obtain ⟨g3, g4⟩ := g2 (by omega)
  have hput : ∀ b, (⟨insert M.l id b, E.k⟩ : Mem) = M.put id b := fun b => by rw [Mem.put, hg.k]
  obtain ⟨xs', hsrc', hx1⟩ := src_of (P := P) (sz := ti.sz) (K := fun l => l = blk.xs) hg (Rep.s id 0 n A cap hk h') ⟨blk, hM, by omega, rfl', rfl⟩
  subst hx1
  obtain ⟨olds, o1, o2, o3⟩ := hsrc'.first
  have hlenx : blk.xs.length = n := by omega
  by_cases hroom : n + ys.length ≤ cap
  · by_cases hcp : 0 < cap
    · obtain ⟨hb0, hb⟩ := q5 (by omega)
      have hlt := backed_lt hb
      obtain ⟨hmax, arr, a1, ⟨a2, a2s⟩, a3⟩ := hb
      have hA := g4 hcp
      subst hA
      have hfit : n * ti.sz + news.length ≤ arr.size := by
       rw [n1, a2, ← Nat.add_mul, q2, rfl']
       exact Nat.mul_le_mul_right _ (by omega)
      have hone : ∀ u ∈ news, u.oneCell' = true := fun u hu => by
       obtain ⟨k, hk', rfl⟩ := List.mem_iff_getElem.1 hu
       have hd : k / ti.sz < ys.length := Nat.div_lt_of_lt_mul (by rw [Nat.mul_comm, ← n1]; exact hk')
       have hmd : k % ti.sz < ti.sz := Nat.mod_lt _ hsz0
       obtain ⟨c1, c2⟩ := n3 _ hd
       obtain ⟨y, b1, b2, _⟩ := c2 (k % ti.sz) (by rw [c1]; exact hmd)
       have e1 : k / ti.sz * ti.sz + k % ti.sz = k := by rw [Nat.mul_comm]; exact Nat.div_add_mod k ti.sz
       rw [e1, List.getElem?_eq_getElem hk'] at b1
       cases b1
       exact b2
      have hst := run_storeCells_at P q.b (n * ti.sz) blk.T news 0 arr E.w a1 (by simpa using hfit) hone
      simp only [Nat.add_zero] at hst
      have hrun := run_append_stay (P := P) E.w ty ht hti h2 hd2 (some ⟨q.b, 0 * q.sz, none⟩) n cap ys.length v news (hsrc.len E.w) (n2 E.w rfl) hroom _ (by simp only [addr_add, Nat.zero_mul, Nat.zero_add]; exact hst)
      have hA : ∀ k, ((arr.toList.take (n * ti.sz) ++ news ++ arr.toList.drop (n * ti.sz + news.length)).toArray)[k]? =
       if n * ti.sz ≤ k ∧ k < n * ti.sz + news.length then news[k - n * ti.sz]? else arr[k]? := fun k => by
       rw [List.getElem?_toArray, take_drop_get? _ _ _ (by simpa using hfit)]
       simp
      have hup := Good.upd hg (E.w.setRow q.b (arr.toList.take (n * ti.sz) ++ news ++ arr.toList.drop (n * ti.sz + news.length)).toArray) id E.k ⟨q.b, q.sz, q.n + ys.length, q.cp⟩
       ⟨e, ti.sz, blk.xs ++ ys⟩ (Nat.le_refl _) (hg.lt id q q1)
       ⟨⟨hg.below.os, hg.below.tape, hg.below.output, by simpa using hg.below.size, fun k hk => by rw [setRow_other _ _ _ _ (by omega)]; exact hg.below.block k hk⟩, hg.below.glob⟩
       (by simp) (fun b hb hne => setRow_other _ _ _ _ (fun e => hne q q1 (by omega) e.symm)) (by simp [q2, rfl']) (by simp [q3]) (by simp only; omega) (fun _ => ⟨hb0, .inr ⟨q, q1, by omega, rfl⟩⟩)
       (fun q' hq' => by
        rw [q1] at hq'; cases hq'
        refine ⟨by simp, fun hz => ?_, fun _ _ => ⟨rfl, rfl⟩⟩
        simp only at hz
        have : ys.length = 0 := by omega
        simp [this]) (fun _ => ⟨q, q1⟩) (fun hl _ => by
        refine ⟨hmax, _, by rw [← rfl'']; exact setRow_heap _ _ _ _ _ _ a1, ⟨?_, ?_⟩, fun i hi => ?_⟩
        · simp only [List.size_toArray, List.length_append, List.length_take, List.length_drop, Array.length_toList]
          rw [← a2]; omega
        · simp only [← rfl'']
          refine a2s.mono (by rw [List.length_append, Nat.add_mul, rfl']; omega) fun k hk => ?_
          rw [List.length_append, Nat.add_mul, hlenx] at hk
          rw [hA, if_neg (by omega)]
        · simp only [List.length_append] at hi
          by_cases hlt : i < blk.xs.length
          · simp only [List.getElem_append_left hlt]
            refine ⟨by rw [← rfl']; exact (a3 i hlt).1, fun j hj => ?_⟩
            obtain ⟨y, b1, b2, b3⟩ := (a3 i hlt).2 j hj
            rw [(a3 i hlt).1] at hj
            refine ⟨y, ?_, b2, b3.later hl⟩
            have hlt2 : (i + 1) * blk.sz ≤ n * blk.sz := Nat.mul_le_mul_right _ (by omega)
            rw [Nat.add_mul] at hlt2
            rw [hA, ← rfl', if_neg (by omega)]
            exact b1
          · simp only [List.getElem_append_right (Nat.le_of_not_lt hlt)]
            have hi2 : i - blk.xs.length < ys.length := by omega
            refine ⟨(n3 _ hi2).1, fun j hj => ?_⟩
            obtain ⟨y, b1, b2, b3⟩ := (n3 _ hi2).2 j hj
            have hb : (i - blk.xs.length) * ti.sz + j < news.length := (List.getElem?_eq_some_iff.1 b1).1
            refine ⟨y, ?_, b2, b3.later hl⟩
            have e1 : i * ti.sz + j = n * ti.sz + ((i - blk.xs.length) * ti.sz + j) := by
             rw [← Nat.add_assoc, ← Nat.add_mul]; congr 2; omega
            rw [hA, e1, if_pos (by omega)]
            simpa using b1)
      refine ⟨_, _, _, _, hrun, hup.1, hup.2, .s id 0 (n + ys.length) _ _ hk (fun q' hq' => ?_), ?_⟩
      · simp only [upd_self, Option.some.injEq] at hq'
        subst hq'
        exact ⟨by show 0 + (n + ys.length) ≤ q.n + ys.length; omega, fun _ => ⟨by show 0 + cap = q.cp; omega, fun _ => rfl⟩⟩
      · rw [hput, ← hlenx]; exact hK
    · have hy0 : ys = [] := List.eq_nil_of_length_eq_zero (by omega)
      subst hy0
      have hx0 : blk.xs = [] := List.eq_nil_of_length_eq_zero (by omega)
      have hn0 : n = 0 := by omega
      subst hn0
      have hnews : news = [] := List.eq_nil_of_length_eq_zero (by simpa using n1)
      subst hnews
      have hcap0 : cap = 0 := by omega
      subst hcap0
      have hrun := run_append_stay (P := P) E.w ty ht hti h2 hd2 A 0 0 0 v [] (by simpa using hsrc.len E.w) (by simpa using n2 E.w rfl) (Nat.le_refl _) E.w (by cases A <;> rfl)
      have hup := Good.upd hg E.w id E.k q ⟨e, ti.sz, blk.xs⟩ (Nat.le_refl _) hk hg.below (Nat.le_refl _) (fun _ _ _ => rfl) (by rw [q2, rfl']) q3 q4 (fun h => absurd h (by omega))
       (fun q' hq' => by rw [q1] at hq'; cases hq'; exact ⟨Nat.le_refl _, fun _ => rfl, fun _ _ => ⟨rfl, rfl⟩⟩) (fun _ => ⟨q, q1⟩) (fun _ h => absurd h (by omega))
      refine ⟨_, ⟨E.w, Ab.upd E.ad id (some q), E.k, E.hid⟩, _, _, hrun, hup.1, hup.2, .s id 0 0 A 0 hk (fun q' hq' => ?_), ?_⟩
      · simp only [upd_self, Option.some.injEq] at hq'
        subst hq'
        exact ⟨by omega, fun _ => ⟨by omega, fun h => absurd h (by omega)⟩⟩
      · rw [hput]
        simpa [hx0] using hK
  · have hrun := run_append_more (P := P) E.w ty ht hti h2 hd2 A n cap ys.length v olds news (hsrc.len E.w) (n2 E.w.drew rfl) (by have := o2 E.w.drew rfl; rw [hlenx] at this; exact this) hroom (by rw [← hlenx]; exact hby) hby0
    have hgr := grow id blk.xs ys E.k n cap olds news hlenx.symm (by rw [← hlenx]; exact hby) hby0 hroom o1 n1 o3 n3 (Nat.le_refl _) hk (fun _ => ⟨q, q1⟩) (fun q' hq' => by
     rw [q1] at hq'; cases hq'; exact ⟨by omega, fun h => by omega, fun h => by omega⟩)
    refine ⟨_, _, _, _, hrun, hgr.1, hgr.2, .s id 0 (n + ys.length) _ _ hk (fun q' hq' => ?_), ?_⟩
    · simp only [upd_self, Option.some.injEq] at hq'
      subst hq'
      exact ⟨by simp, fun _ => ⟨by simp, fun _ => by simp⟩⟩
    · rw [hput, ← hlenx]; exact hK
 case u sz' xs A hl =>
  obtain ⟨rfl, h⟩ := h
  obtain ⟨ys, hsrc, hok, hby, hby0, hsz0, hK⟩ := src_of (P := P) hg hx h
  have hok : 0 < ys.length := hok
  obtain ⟨news, n1, n2, n3⟩ := hsrc.first
  have hnone : E.ad E.k = none := by
   cases hq : E.ad E.k with
   | none => rfl
   | some q => exact absurd (hg.lt _ _ hq) (by omega)
  obtain ⟨xs', hsrc', hx1⟩ := src_of (P := P) (sz := ti.sz) (K := fun l => l = xs) hg hl ⟨rfl, rfl⟩
  subst hx1
  obtain ⟨olds, o1, o2, o3⟩ := hsrc'.first
  have hrun := run_append_more (P := P) E.w ty ht hti h2 hd2 A xs'.length xs'.length ys.length v olds news (hsrc.len E.w) (n2 E.w.drew rfl) (o2 E.w.drew rfl) (by omega) hby hby0
  have hgr := grow E.k xs' ys (E.k + 1) xs'.length xs'.length olds news rfl hby hby0 (by omega) o1 n1 o3 n3 (by omega) (by omega) (fun h => absurd h (by omega)) (fun q hq => by rw [hnone] at hq; cases hq)
  refine ⟨_, _, _, _, hrun, hgr.1, hgr.2, .s E.k 0 (xs'.length + ys.length) _ _ (by show E.k < E.k + 1; omega) (fun q hq => ?_), ?_⟩
  · simp only [upd_self, Option.some.injEq] at hq
    subst hq
    exact ⟨by simp, fun _ => ⟨by simp, fun _ => by simp⟩⟩
  · simpa [newMem, hg.k] using hK
 case w id len m A cap hk h' =>
  obtain ⟨blk, hM, hn, rfl', rfl'', h⟩ := h
  obtain ⟨ys, hsrc, hok, hby, hby0, hsz0, hK⟩ := src_of (P := P) hg hx h
  have hok : len + ys.length ≤ m := hok
  obtain ⟨news, n1, n2, n3⟩ := hsrc.first
  obtain ⟨q, q1, q2, q3, q4, q5⟩ := hg.held id blk hM
  obtain ⟨g1, g2⟩ := h' q q1
  obtain ⟨g6, g3, g4, g5⟩ := g2 (by omega)
  subst g4 g5
  have hput : ∀ b, (⟨insert M.l id b, E.k⟩ : Mem) = M.put id b := fun b => by rw [Mem.put, hg.k]
  have hlenx : blk.xs.length = len := by omega
  by_cases hcp : 0 < q.cp
  · obtain ⟨hb0, hb⟩ := q5 hcp
    have hlt := backed_lt hb
    obtain ⟨hmax, arr, a1, ⟨a2, a2s⟩, a3⟩ := hb
    have hfit : len * ti.sz + news.length ≤ arr.size := by
     rw [n1, a2, ← Nat.add_mul, q2, rfl']
     exact Nat.mul_le_mul_right _ (by omega)
    have hone : ∀ u ∈ news, u.oneCell' = true := fun u hu => by
     obtain ⟨k, hk', rfl⟩ := List.mem_iff_getElem.1 hu
     have hd : k / ti.sz < ys.length := Nat.div_lt_of_lt_mul (by rw [Nat.mul_comm, ← n1]; exact hk')
     have hmd : k % ti.sz < ti.sz := Nat.mod_lt _ hsz0
     obtain ⟨c1, c2⟩ := n3 _ hd
     obtain ⟨y, b1, b2, _⟩ := c2 (k % ti.sz) (by rw [c1]; exact hmd)
     have e1 : k / ti.sz * ti.sz + k % ti.sz = k := by rw [Nat.mul_comm]; exact Nat.div_add_mod k ti.sz
     rw [e1, List.getElem?_eq_getElem hk'] at b1
     cases b1
     exact b2
    have hst := run_storeCells_at P q.b (len * ti.sz) blk.T news 0 arr E.w a1 (by simpa using hfit) hone
    simp only [Nat.add_zero] at hst
    have hrun := run_append_stay (P := P) E.w ty ht hti h2 hd2 (some ⟨q.b, 0, none⟩) len q.cp ys.length v news (hsrc.len E.w) (n2 E.w rfl) (by omega) _ (by simp only [addr_add, Nat.zero_add]; exact hst)
    have hA : ∀ k, ((arr.toList.take (len * ti.sz) ++ news ++ arr.toList.drop (len * ti.sz + news.length)).toArray)[k]? =
     if len * ti.sz ≤ k ∧ k < len * ti.sz + news.length then news[k - len * ti.sz]? else arr[k]? := fun k => by
     rw [List.getElem?_toArray, take_drop_get? _ _ _ (by simpa using hfit)]
     simp
    have hup := Good.upd hg (E.w.setRow q.b (arr.toList.take (len * ti.sz) ++ news ++ arr.toList.drop (len * ti.sz + news.length)).toArray) id E.k ⟨q.b, q.sz, q.n + ys.length, q.cp⟩
     ⟨e, ti.sz, blk.xs ++ ys⟩ (Nat.le_refl _) (hg.lt id q q1)
     ⟨⟨hg.below.os, hg.below.tape, hg.below.output, by simpa using hg.below.size, fun k hk => by rw [setRow_other _ _ _ _ (by omega)]; exact hg.below.block k hk⟩, hg.below.glob⟩
     (by simp) (fun b hb hne => setRow_other _ _ _ _ (fun e => hne q q1 (by omega) e.symm)) (by simp [q2, rfl']) (by simp [q3]) (by simp only; omega) (fun _ => ⟨hb0, .inr ⟨q, q1, by omega, rfl⟩⟩)
     (fun q' hq' => by
      rw [q1] at hq'; cases hq'
      refine ⟨by simp, fun hz => ?_, fun _ _ => ⟨rfl, rfl⟩⟩
      simp only at hz
      have : ys.length = 0 := by omega
      simp [this]) (fun _ => ⟨q, q1⟩) (fun hl _ => by
      refine ⟨hmax, _, by rw [← rfl'']; exact setRow_heap _ _ _ _ _ _ a1, ⟨?_, ?_⟩, fun i hi => ?_⟩
      · simp only [List.size_toArray, List.length_append, List.length_take, List.length_drop, Array.length_toList]
        rw [← a2]; omega
      · simp only [← rfl'']
        refine a2s.mono (by rw [List.length_append, Nat.add_mul, rfl']; omega) fun k hk => ?_
        rw [List.length_append, Nat.add_mul, hlenx] at hk
        rw [hA, if_neg (by omega)]
      · simp only [List.length_append] at hi
        by_cases hlt : i < blk.xs.length
        · simp only [List.getElem_append_left hlt]
          refine ⟨by rw [← rfl']; exact (a3 i hlt).1, fun j hj => ?_⟩
          obtain ⟨y, b1, b2, b3⟩ := (a3 i hlt).2 j hj
          rw [(a3 i hlt).1] at hj
          refine ⟨y, ?_, b2, b3.later hl⟩
          have hlt2 : (i + 1) * blk.sz ≤ len * blk.sz := Nat.mul_le_mul_right _ (by omega)
          rw [Nat.add_mul] at hlt2
          rw [hA, ← rfl', if_neg (by omega)]
          exact b1
        · simp only [List.getElem_append_right (Nat.le_of_not_lt hlt)]
          have hi2 : i - blk.xs.length < ys.length := by omega
          refine ⟨(n3 _ hi2).1, fun j hj => ?_⟩
          obtain ⟨y, b1, b2, b3⟩ := (n3 _ hi2).2 j hj
          have hb : (i - blk.xs.length) * ti.sz + j < news.length := (List.getElem?_eq_some_iff.1 b1).1
          refine ⟨y, ?_, b2, b3.later hl⟩
          have e1 : i * ti.sz + j = len * ti.sz + ((i - blk.xs.length) * ti.sz + j) := by
           rw [← Nat.add_assoc, ← Nat.add_mul]; congr 2; omega
          rw [hA, e1, if_pos (by omega)]
          simpa using b1)
    refine ⟨_, _, _, _, hrun, hup.1, hup.2, .s id 0 (len + ys.length) _ _ hk (fun q' hq' => ?_), ?_⟩
    · simp only [upd_self, Option.some.injEq] at hq'
      subst hq'
      exact ⟨by show 0 + (len + ys.length) ≤ q.n + ys.length; omega, fun _ => ⟨by show 0 + q.cp = q.cp; omega, fun _ => by simp⟩⟩
    · rw [hput, ← hlenx]; exact hK
  · have hy0 : ys = [] := List.eq_nil_of_length_eq_zero (by omega)
    subst hy0
    have hx0 : blk.xs = [] := List.eq_nil_of_length_eq_zero (by omega)
    have hl0 : len = 0 := by omega
    subst hl0
    have hnews : news = [] := List.eq_nil_of_length_eq_zero (by simpa using n1)
    subst hnews
    have hrun := run_append_stay (P := P) E.w ty ht hti h2 hd2 (some ⟨q.b, 0, none⟩) 0 q.cp 0 v [] (by simpa using hsrc.len E.w) (by simpa using n2 E.w rfl) (Nat.zero_le _) E.w (by rfl)
    have hup := Good.upd hg E.w id E.k q ⟨e, ti.sz, []⟩ (Nat.le_refl _) hk hg.below (Nat.le_refl _) (fun _ _ _ => rfl) (by rw [q2, rfl']) (by simp; omega) q4 (fun h => absurd h (by omega))
     (fun q' hq' => by rw [q1] at hq'; cases hq'; exact ⟨Nat.le_refl _, fun _ => rfl, fun _ _ => ⟨rfl, rfl⟩⟩) (fun _ => ⟨q, q1⟩) (fun _ h => absurd h (by omega))
    refine ⟨_, ⟨E.w, Ab.upd E.ad id (some q), E.k, E.hid⟩, _, _, hrun, hup.1, hup.2, .s id 0 0 _ _ hk (fun q' hq' => ?_), ?_⟩
    · simp only [upd_self, Option.some.injEq] at hq'
      subst hq'
      exact ⟨by omega, fun _ => ⟨by omega, fun h => absurd h (by omega)⟩⟩
    · rw [hput]
      simpa [hx0] using hK
def clearK (ti : TI) (M : Mem) (a : AV) (K : AV → Mem → Prop) : Prop :=
 match a with
 | .s id off n => off = 0 ∧ 0 < n ∧ ti.k.agg = false ∧ ti.sz = 1 ∧ ∃ blk, M.get id = some blk ∧ n = blk.xs.length ∧ blk.sz = 1 ∧ K (.t []) (M.put id ⟨blk.T, 1, List.replicate n (zeroAV ti)⟩)
 | _ => False
theorem clear_out {P : Program} {w0 : World} {E : Env} {M : Mem} {t e ty : TypeId} {ti : TI} {a : AV} {u : Value} {K : AV → Mem → Prop} (hg : Good w0 E M)
 (ht : P.underlying t = some (.slice e)) (hti : TOk P e ti) (hr : Rep E a u) (h : clearK ti M a K) : Out P w0 E (Builtin.clear_ #[t] ty #[u]) K := by
 cases hr <;> try exact h.elim
 rename_i id off n A cap hk hrel
 obtain ⟨rfl, hn0, hag, hs1, blk, hM, hn, hsz, hK⟩ := h
 obtain ⟨q, h1, h2, h3, h4, h5⟩ := hg.held id blk hM
 have hcp : 0 < q.cp := by omega
 obtain ⟨hb0, hb⟩ := h5 hcp
 obtain ⟨hmax, arr, a1, ⟨a2, a2s⟩, a3⟩ := hb
 obtain ⟨hc1, hA⟩ := (hrel q h1).2 (by omega)
 have hA := hA (by omega)
 simp only [Nat.zero_mul] at hA
 subst hA
 -- the zero
 obtain ⟨z, hz⟩ := List.length_eq_one_iff.1 (show ti.z.length = 1 by rw [hti.z, hs1])
 have hz0 : ti.zero = z := by simp [TI.zero, hag, hz]
 have hzA : zeroAV ti = .c z := by simp [zeroAV, hag, hz]
 have hone : One z := hti.one z (by rw [hz]; simp)
 have hzc : z.cells = #[z] := by
  have : z.oneCell' = true := hone
  cases z <;> simp_all [Value.cells, Value.oneCell']
 have hrun : (Builtin.clear_ #[t] ty #[.slice (some ⟨q.b, 0, none⟩) n cap]).run P E.w = .ok (.tuple #[]) (E.w.setRow q.b ((List.replicate n z) ++ arr.toList.drop n).toArray) := by
  have hle : 0 + 0 + (List.replicate n z).length ≤ arr.size := by
   rw [List.length_replicate, a2, h2, hsz]; omega
  have hst := run_storeCells_at P q.b 0 blk.T (List.replicate n z) 0 arr E.w a1 hle (fun v hv => by rw [List.eq_of_mem_replicate hv]; exact hone)
  simp only [Nat.add_zero, Nat.zero_add, List.take_zero, List.nil_append, List.length_replicate] at hst
  have hzc2 : (Builtin.zeroCells z.cells n).toList = List.replicate n z := by
   rw [hzc]
   simp [Builtin.zeroCells]
   apply List.ext_getElem
   · simp
   · intro i h1 h2
     simp [Nat.mod_one]
  have hv := hti.run_zero
  rw [hz0] at hv
  obtain ⟨m, rfl⟩ : ∃ m, n = m + 1 := ⟨n - 1, by omega⟩
  simp [Builtin.clear_, run_underlying ht, hv, hzc2, hst, Result.andThen]
 have hget : ∀ k, ((List.replicate n z) ++ arr.toList.drop n).toArray[k]? = if k < n then some z else arr[k]? := fun k => by
  rw [List.getElem?_toArray]
  by_cases hk : k < n
  · rw [List.getElem?_append_left (by simpa using hk), if_pos hk, List.getElem?_replicate, if_pos hk]
  · rw [List.getElem?_append_right (by simpa using hk), if_neg hk, List.length_replicate, List.getElem?_drop, show n + (k - n) = k by omega]
    simp
 have hup := Good.upd hg (E.w.setRow q.b ((List.replicate n z) ++ arr.toList.drop n).toArray) id E.k q
  ⟨blk.T, 1, List.replicate n (zeroAV ti)⟩ (Nat.le_refl _) (hg.lt id q h1)
  ⟨⟨hg.below.os, hg.below.tape, hg.below.output, by simpa using hg.below.size, fun k hk => by rw [setRow_other _ _ _ _ (by omega)]; exact hg.below.block k hk⟩, hg.below.glob⟩
  (by simp) (fun b hb hne => setRow_other _ _ _ _ (fun e => hne q h1 hcp e.symm)) (by rw [h2, hsz]) (by simp; omega) h4 (fun _ => ⟨hb0, .inr ⟨q, h1, hcp, rfl⟩⟩)
  (fun q' hq' => by rw [h1] at hq'; cases hq'; exact ⟨Nat.le_refl _, fun _ => rfl, fun _ _ => ⟨rfl, rfl⟩⟩) (fun _ => ⟨q, h1⟩) (fun hl _ => by
   refine ⟨hmax, _, setRow_heap _ _ _ _ _ _ a1, ⟨by
    rw [← a2]; simp [a2, h2, hsz]; omega, by
    refine a2s.mono (by rw [hsz, List.length_replicate]; dsimp only; omega) fun k hk => ?_
    rw [List.length_replicate] at hk
    dsimp only at hk
    rw [hget, if_neg (by omega)]⟩, fun i' hi' => ?_⟩
   simp only [List.length_replicate] at hi'
   simp only [List.getElem_replicate, hzA, AV.cells, List.length_singleton, true_and]
   intro j hj
   have hj0 : j = 0 := by omega
   subst hj0
   refine ⟨z, ?_, hone, .c z hone⟩
   rw [hget, if_pos (by omega)])
 have hm : (⟨insert M.l id ⟨blk.T, 1, List.replicate n (zeroAV ti)⟩, E.k⟩ : Mem) = M.put id ⟨blk.T, 1, List.replicate n (zeroAV ti)⟩ := by
  rw [Mem.put, hg.k]
 exact ⟨.tuple #[], _, _, .t [], hrun, hup.1, hup.2, .t [] #[] rfl (fun i h1 h2 => absurd h1 (by simp)), by rw [hm]; exact hK⟩
end Go.Ab
