/- Abstract values and how they stand for the machine's values: whole numbers, texts, rows and structs as data; memory of the call's own by names. -/
import Derived.WalkKit
import Derived.WalkSpells
import Derived.WalkLawsBesides
import Derived.Deep.Draws
import Derived.OrdersIn
import Derived.RangeFuncCalls
import Derived.Sort.LoopGhostIn
set_option linter.unusedVariables false
set_option linter.unusedSimpArgs false
set_option linter.constructorNameAsVariable false
namespace Go.Ab
open Go Go.RowKit

/-- An abstract value. c: a value without memory. l: a slice that nobody writes any more (its elements). o: a slice that is new and nobody else's (in results alone). g: a struct's cells. t: several results. p: a pointer into a block of the call's own (block, element, cell, how many elements it had). e: a pointer to cells that nobody writes any more. s: a slice of a block of the call's own, to its end (block, first element, how many). f: a function and what it captured. x: nothing is known. -/
inductive AV where
  | c (v : Value)
  | l (sz : Nat) (xs : List AV)
  | o (T sz : Nat) (xs : List AV)
  | g (cs : List AV)
  | t (vs : List AV)
  | p (id i j n : Nat)
  | e (cs : List AV)
  | s (id off n : Nat)
  | f (fn : FuncId) (caps : List AV)
  | x
  deriving Inhabited

def AV.cells : AV → List AV
  | .g cs => cs
  | v => [v]

/-- What is known of a block of the call's own: where it lies, how many cells an element has, how many elements are in use, how many it has room for. -/
structure At where
  b : Nat
  sz : Nat
  n : Nat
  cp : Nat
/-- hid: blocks of whoever called, which are neither read nor written here. -/
structure Env where
  w : World
  ad : Nat → Option At
  k : Nat
  hid : Nat → Prop
/-- A block that nobody writes any more. -/
def Env.Z (E : Env) (b : Nat) : Prop := b < E.w.heap.size ∧ ¬ E.hid b ∧ ∀ id q, E.ad id = some q → 0 < q.cp → q.b ≠ b

/-- A value that takes one cell. -/
def One (v : Value) : Prop := v.oneCell' = true

inductive Rep (E : Env) : AV → Value → Prop where
  | c (v : Value) (h : One v) : Rep E (.c v) v
  | x (v : Value) : Rep E .x v
  | g (cs : List AV) (ys : Array Value) (h : ys.size = cs.length) (hr : ∀ i (h1 : i < cs.length) (h2 : i < ys.size), Rep E cs[i] ys[i]) : Rep E (.g cs) (.agg ys)
  | t (cs : List AV) (ys : Array Value) (h : ys.size = cs.length) (hr : ∀ i (h1 : i < cs.length) (h2 : i < ys.size), Rep E cs[i] ys[i]) : Rep E (.t cs) (.tuple ys)
  | l (sz : Nat) (xs : List AV) (b off cap : Nat) (y : Nat → Nat → Value) (hcap : xs.length ≤ cap) (hz : E.Z b)
      (hs : ∀ i (h : i < xs.length), xs[i].cells.length = sz)
      (hc : ∀ i j, i < xs.length → j < sz → E.w.cell? ⟨b, off + (i * sz + j), none⟩ = some (y i j) ∧ One (y i j))
      (hr : ∀ i (hi : i < xs.length) j (hj : j < xs[i].cells.length), Rep E xs[i].cells[j] (y i j)) : Rep E (.l sz xs) (.slice (some ⟨b, off, none⟩) xs.length cap)
  | l0 (sz : Nat) (A : Option Addr) (cap : Nat) : Rep E (.l sz []) (.slice A 0 cap)
  | p (id i j n : Nat) (a : Addr) (hk : id < E.k) (h : ∀ q, E.ad id = some q → n ≤ q.n ∧ (n = q.n → a = ⟨q.b, i * q.sz + j, none⟩)) : Rep E (.p id i j n) (.pointer (some a))
  | s (id off n : Nat) (A : Option Addr) (cap : Nat) (hk : id < E.k)
      (h : ∀ q, E.ad id = some q → off + n ≤ q.n ∧ (off + n = q.n → off + cap = q.cp ∧ (0 < cap → A = some ⟨q.b, off * q.sz, none⟩))) : Rep E (.s id off n) (.slice A n cap)
  | e (cs : List AV) (b off : Nat) (y : Nat → Value) (hz : E.Z b) (hc : ∀ j, j < cs.length → E.w.cell? ⟨b, off + j, none⟩ = some (y j) ∧ One (y j))
      (hr : ∀ j (hj : j < cs.length), Rep E cs[j] (y j)) : Rep E (.e cs) (.pointer (some ⟨b, off, none⟩))
  | f (fn : FuncId) (caps : List AV) (ys : Array Value) (h : ys.size = caps.length) (hr : ∀ i (h1 : i < caps.length) (h2 : i < ys.size), Rep E caps[i] ys[i]) : Rep E (.f fn caps) (.func (.func fn) #[] ys)

/-- From one moment to a later one: what nobody writes stays; what is known of the call's own blocks changes in one way alone: they grow (then what was known falls away), or are given up. -/
structure Later (E E' : Env) : Prop where
  z : ∀ b, E.Z b → E'.Z b ∧ E'.w.heap[b]? = E.w.heap[b]?
  k : E.k ≤ E'.k
  ad : ∀ id, id < E.k → ∀ q', E'.ad id = some q' → ∃ q, E.ad id = some q ∧ q.n ≤ q'.n ∧ (q'.n = q.n → q = q')
  hid : E'.hid = E.hid
theorem Later.refl (E : Env) : Later E E := ⟨fun _ h => ⟨h, rfl⟩, Nat.le_refl _, fun _ _ q h => ⟨q, h, Nat.le_refl _, fun _ => rfl⟩, rfl⟩
theorem Later.trans {E E' E'' : Env} (h : Later E E') (k : Later E' E'') : Later E E'' := by
  refine ⟨fun b hb => ?_, Nat.le_trans h.k k.k, fun id hid q'' hq => ?_, k.hid.trans h.hid⟩
  · have h1 := h.z b hb
    have h2 := k.z b h1.1
    exact ⟨h2.1, h2.2.trans h1.2⟩
  · obtain ⟨q', h1, h2, h3⟩ := k.ad id (Nat.lt_of_lt_of_le hid h.k) q'' hq
    obtain ⟨q, h4, h5, h6⟩ := h.ad id hid q' h1
    refine ⟨q, h4, Nat.le_trans h5 h2, fun he => ?_⟩
    have e1 : q''.n = q'.n := by omega
    have e2 := h3 e1
    subst e2
    exact h6 he

theorem cell_same {w w' : World} {b : Nat} (h : w'.heap[b]? = w.heap[b]?) (o : Nat) (s : Option Nat) : w'.cell? ⟨b, o, s⟩ = w.cell? ⟨b, o, s⟩ := by
  simp only [World.cell?, h]

theorem Rep.later {E E' : Env} (hl : Later E E') {a : AV} {v : Value} (h : Rep E a v) : Rep E' a v := by
  induction h with
  | c v h => exact .c v h
  | x v => exact .x v
  | g cs ys h hr ih => exact .g cs ys h ih
  | t cs ys h hr ih => exact .t cs ys h ih
  | l sz xs b off cap y hcap hz hs hc hr ih =>
    refine .l sz xs b off cap y hcap (hl.z b hz).1 hs (fun i j hi hj => ?_) ih
    rw [cell_same (hl.z b hz).2]; exact hc i j hi hj
  | l0 sz A cap => exact .l0 sz A cap
  | p id i j n a hk h =>
    refine .p id i j n a (Nat.lt_of_lt_of_le hk hl.k) fun q' hq' => ?_
    obtain ⟨q, h1, h2, h3⟩ := hl.ad id hk q' hq'
    have h4 := h q h1
    refine ⟨Nat.le_trans h4.1 h2, fun he => ?_⟩
    have : q = q' := h3 (by omega)
    subst this
    exact h4.2 he
  | s id off n A cap hk h =>
    refine .s id off n A cap (Nat.lt_of_lt_of_le hk hl.k) fun q' hq' => ?_
    obtain ⟨q, h1, h2, h3⟩ := hl.ad id hk q' hq'
    have h4 := h q h1
    refine ⟨Nat.le_trans h4.1 h2, fun he => ?_⟩
    have : q = q' := h3 (by omega)
    subst this
    exact h4.2 he
  | e cs b off y hz hc hr ih =>
    refine .e cs b off y (hl.z b hz).1 (fun j hj => ?_) ih
    rw [cell_same (hl.z b hz).2]; exact hc j hj
  | f fn caps ys h hr ih => exact .f fn caps ys h ih

/-- A block of the call's own: its elements' type, how many cells one has, the elements. -/
structure Blk where
  T : TypeId
  sz : Nat
  xs : List AV
  deriving Inhabited
structure Mem where
  l : List (Nat × Blk)
  k : Nat
def assoc {α : Type} : List (Nat × α) → Nat → Option α
  | [], _ => none
  | (k, v) :: r, n => bif Nat.beq k n then some v else assoc r n
def insert {α : Type} : List (Nat × α) → Nat → α → List (Nat × α)
  | [], n, x => [(n, x)]
  | (k, v) :: r, n, x => bif Nat.beq k n then (n, x) :: r else bif Nat.ble n k then (n, x) :: (k, v) :: r else (k, v) :: insert r n x
theorem beq_ne {a b : Nat} (h : a ≠ b) : Nat.beq a b = false := by
  cases e : Nat.beq a b with
  | false => rfl
  | true => exact absurd (Nat.eq_of_beq_eq_true e) h
theorem assoc_insert {α : Type} (l : List (Nat × α)) (n : Nat) (x : α) (m : Nat) : assoc (insert l n x) m = if n = m then some x else assoc l m := by
  induction l with
  | nil =>
    by_cases h : n = m
    · subst h; simp [insert, assoc]
    · simp [insert, assoc, beq_ne h, h]
  | cons a r ih =>
    obtain ⟨k, v⟩ := a
    by_cases h1 : k = n
    · subst h1
      by_cases h : k = m
      · subst h; simp [insert, assoc]
      · simp [insert, assoc, beq_ne h, h]
    · cases h2 : Nat.ble n k with
      | true =>
        by_cases h : n = m
        · subst h; simp [insert, assoc, beq_ne h1, h2]
        · simp [insert, assoc, beq_ne h1, beq_ne h, h2, h]
      | false =>
        by_cases h : k = m
        · subst h; simp [insert, assoc, beq_ne h1, h2, Ne.symm h1]
        · simp [insert, assoc, beq_ne h1, beq_ne h, h2, ih]
def remove {α : Type} : List (Nat × α) → Nat → List (Nat × α)
  | [], _ => []
  | (k, v) :: r, n => bif Nat.beq k n then remove r n else (k, v) :: remove r n
theorem assoc_remove {α : Type} (l : List (Nat × α)) (n m : Nat) : assoc (remove l n) m = if n = m then none else assoc l m := by
  induction l with
  | nil => simp [remove, assoc]
  | cons a r ih =>
    obtain ⟨k, v⟩ := a
    by_cases h1 : k = n
    · subst h1
      by_cases h : k = m
      · subst h; simpa [remove] using ih
      · simpa [remove, assoc, beq_ne h, h] using ih
    · by_cases h : k = m
      · subst h; simp [remove, assoc, beq_ne h1, Ne.symm h1]
      · simpa [remove, assoc, beq_ne h1, beq_ne h] using ih
def Mem.get (M : Mem) (id : Nat) : Option Blk := assoc M.l id
def Mem.put (M : Mem) (id : Nat) (b : Blk) : Mem := ⟨insert M.l id b, M.k⟩
def Mem.drop (M : Mem) (id : Nat) : Mem := ⟨remove M.l id, M.k⟩

/-- The machine's block behind a block of the call's own. -/
def Backed (E : Env) (q : At) (blk : Blk) : Prop :=
  q.cp ≤ maxLen ∧ ∃ arr, E.w.heap[q.b]? = some (.cells arr blk.T (0, 0)) ∧ arr.size = q.cp * q.sz ∧
    ∀ i (hi : i < blk.xs.length), blk.xs[i].cells.length = blk.sz ∧ ∀ j (hj : j < blk.xs[i].cells.length), ∃ y, arr[i * blk.sz + j]? = some y ∧ One y ∧ Rep E blk.xs[i].cells[j] y

/-- All is as the abstract memory says; what was there when the call began (w0) is as it was. -/
structure Good (w0 : World) (E : Env) (M : Mem) : Prop where
  below : Below w0.heap.size w0 E.w
  k : M.k = E.k
  lt : ∀ id q, E.ad id = some q → id < E.k
  gone : ∀ id, M.get id = none → E.ad id = none
  held : ∀ id blk, M.get id = some blk → ∃ q, E.ad id = some q ∧ q.sz = blk.sz ∧ q.n = blk.xs.length ∧ q.n ≤ q.cp ∧ (0 < q.cp → w0.heap.size ≤ q.b ∧ Backed E q blk)
  hid : ∀ id q, E.ad id = some q → 0 < q.cp → ¬ E.hid q.b
  old : ∀ b, E.hid b → b < w0.heap.size
  inj : ∀ id id' q q', id ≠ id' → E.ad id = some q → E.ad id' = some q' → 0 < q.cp → 0 < q'.cp → q.b ≠ q'.b

/-- Slots: what is known of each. -/
abbrev Slots := List (Nat × AV)
def Slots.get (s : Slots) (t : Nat) : AV := (assoc s t).getD .x
def RepS (E : Env) (s : Slots) (tmps : Array Value) : Prop := ∀ t, Rep E (Slots.get s t) (tmps.getD t undef)
theorem RepS.later {E E' : Env} (hl : Later E E') {s : Slots} {tmps : Array Value} (h : RepS E s tmps) : RepS E' s tmps := fun t => (h t).later hl
theorem RepS.put {E : Env} {s : Slots} {tmps : Array Value} (h : RepS E s tmps) {d : Nat} {a : AV} {v : Value} (hd : d < tmps.size) (hr : Rep E a v) :
    RepS E (insert s d a) (tmps.setIfInBounds d v) := by
  intro t
  unfold Slots.get
  rw [assoc_insert]
  by_cases e : d = t
  · subst e
    have : (tmps.setIfInBounds d v).getD d undef = v := by simp [Array.getD, hd]
    rw [this]; simpa using hr
  · have : (tmps.setIfInBounds d v).getD t undef = tmps.getD t undef := by
      simp only [Array.getD_eq_getD_getElem?, Array.getElem?_setIfInBounds, e, if_false]
    rw [this, if_neg e]; exact h t
end Go.Ab
