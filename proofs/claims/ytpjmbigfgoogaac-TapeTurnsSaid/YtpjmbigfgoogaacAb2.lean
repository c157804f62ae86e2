/- What the operations do to abstract values and abstract memory. -/
import Derived.Test.YtpjmbigfgoogaacAb1
set_option linter.unusedVariables false
set_option linter.unusedSimpArgs false
set_option linter.constructorNameAsVariable false
namespace Go.Ab
open Go Go.RowKit

inductive TK where
  | int (k : IntKind)
  | bool
  | str
  | sl (e : TypeId)
  | ptr (e : TypeId)
  | st (fs : List (Nat × TypeId))
  | ar (n : Nat) (e : TypeId)
  | fn
  | other
structure TI where
  k : TK
  sz : Nat
  by' : Nat
  z : List Value
def TK.agg : TK → Bool
  | .st _ => true
  | .ar _ _ => true
  | _ => false
def TK.known : TK → Bool
  | .other => false
  | _ => true
def TI.zero (t : TI) : Value := bif t.k.agg then .agg t.z.toArray else t.z.headD undef
def KOk (P : Program) (t : TypeId) : TK → Prop
  | .int k => P.underlying t = some (.int k)
  | .bool => P.underlying t = some .bool
  | .str => P.underlying t = some .string
  | .sl e => P.underlying t = some (.slice e)
  | .ptr e => P.underlying t = some (.pointer e)
  | .st fs => ∃ a, P.underlying t = some (.struct a) ∧ (a.toList.map fun f => (f.offset, f.type)) = fs
  | .ar n e => P.underlying t = some (.array n e)
  | .fn => ∃ a b c, P.underlying t = some (.func a b c)
  | .other => True
structure TOk (P : Program) (t : TypeId) (i : TI) : Prop where
  info : (P.info? t).map (fun i => (i.zero, i.size, i.bytes)) = some (some i.zero, i.sz, i.by')
  k : KOk P t i.k
  z : i.z.length = i.sz
  one : ∀ v ∈ i.z, One v
  zc : i.zero.cells.size = i.sz
abbrev Tab := List (Nat × TI)
def TabOk (P : Program) (tab : Tab) : Prop := ∀ t i, assoc tab t = some i → TOk P t i

/-- What an operation hands back: a value, a later moment, what is then known. -/
def Out (P : Program) (w0 : World) (E : Env) (s : Sem Value) (K : AV → Mem → Prop) : Prop :=
  ∃ v E' M' a, s.run P E.w = .ok v E'.w ∧ Good w0 E' M' ∧ Later E E' ∧ Rep E' a v ∧ K a M'

theorem Out.val {P : Program} {w0 : World} {E : Env} {M : Mem} {s : Sem Value} {K : AV → Mem → Prop} {v : Value} {a : AV} (hg : Good w0 E M)
    (hr : s.run P E.w = .ok v E.w) (ha : Rep E a v) (hk : K a M) : Out P w0 E s K := ⟨v, E, M, a, hr, hg, .refl E, ha, hk⟩

/-- Whole numbers. -/
def ibin : BinOp → IntKind → Int → Int → Value
  | .add, k, a, b => .int k (k.wrap (a + b))
  | .sub, k, a, b => .int k (k.wrap (a - b))
  | .mul, k, a, b => .int k (k.wrap (a * b))
  | .quo, k, a, b => .int k (k.wrap (a.tdiv b))
  | .rem, k, a, b => .int k (a.tmod b)
  | .and, k, a, b => .int k (k.wrap (BitVec.ofInt k.bits a &&& BitVec.ofInt k.bits b).toNat)
  | .or, k, a, b => .int k (k.wrap (BitVec.ofInt k.bits a ||| BitVec.ofInt k.bits b).toNat)
  | .xor, k, a, b => .int k (k.wrap (BitVec.ofInt k.bits a ^^^ BitVec.ofInt k.bits b).toNat)
  | .andNot, k, a, b => .int k (k.wrap (BitVec.ofInt k.bits a &&& ~~~ BitVec.ofInt k.bits b).toNat)
  | .shl, k, a, b => .int k (k.wrap (a * 2 ^ min b.toNat k.bits))
  | .shr, k, a, b => .int k (a.fdiv (2 ^ min b.toNat k.bits))
  | .eql, _, a, b => .bool (a == b)
  | .neq, _, a, b => .bool (a != b)
  | .lss, _, a, b => .bool (a < b)
  | .leq, _, a, b => .bool (a ≤ b)
  | .gtr, _, a, b => .bool (a > b)
  | .geq, _, a, b => .bool (a ≥ b)
/-- What an operation on whole numbers wants. -/
def ipre : BinOp → IntKind → IntKind → Int → Prop
  | .quo, k, k', b => k = k' ∧ b ≠ 0
  | .rem, k, k', b => k = k' ∧ b ≠ 0
  | .shl, _, _, b => 0 ≤ b
  | .shr, _, _, b => 0 ≤ b
  | _, k, k', _ => k = k'
theorem run_ibin {P : Program} (w : World) (op : BinOp) (t : TypeId) (x y : Operand) (k k' : IntKind) (a b : Int) (h : ipre op k k' b) :
    (do eqGuard op t x y (.int k a) (.int k' b); binOp op t (.int k a) (.int k' b)).run P w = .ok (ibin op k a b) w := by
  cases op <;> simp only [ipre] at h
  case shl => simp [binOp_shl, Op.shift, Int.not_lt.2 h, go_sem, ibin]
  case shr => simp [binOp_shr, Op.shift, Int.not_lt.2 h, go_sem, ibin]
  case quo => obtain ⟨rfl, h⟩ := h; simp [Op.intDiv, h, go_sem, ibin]
  case rem => obtain ⟨rfl, h⟩ := h; simp [Op.intDiv, h, go_sem, ibin]
  all_goals
    subst h
    simp [Op.intArith, Op.intBits, go_sem, ibin]
theorem one_int (k : IntKind) (n : Int) : One (.int k n) := rfl
theorem one_bool (b : Bool) : One (.bool b) := rfl
theorem one_ibin (op : BinOp) (k : IntKind) (a b : Int) : One (ibin op k a b) := by cases op <;> rfl
end Go.Ab
