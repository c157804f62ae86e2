/- Operations on values: conversions, tests of texts, bools and nil. The abstract walk: one operation, a region, code. Loops: what is kept at a loop's head. Calls by contract: arguments and results are data. Calls by contract: the caller's side. Calls by contract: the rules. -/
import Derived.Test.YtcikejikpnjilaaAbG2
import Derived.Laws.BytesArg
import Derived.Lib.SlBytesConst
import Derived.Deep.LoopGhost
set_option linter.unusedVariables false
set_option linter.unusedSimpArgs false
set_option linter.constructorNameAsVariable false
namespace Go.Ab
open Go Go.RowKit

def byteOf : AV → UInt8
  | .c (.int _ n) => UInt8.ofNat n.toNat
  | _ => 0
def IsB : AV → Prop
  | .c (.int .u8 _) => True
  | _ => False
def strOf (xs : List AV) : ByteArray := ⟨(xs.map byteOf).toArray⟩
theorem isB_encB (b : UInt8) : IsB (encB b) := trivial
def IsU8 (tab : Tab) (e : TypeId) : Prop := ∃ ti, assoc tab e = some ti ∧ (match ti.k with | .int .u8 => True | _ => False)
def bytesStrK (tab : Tab) (M : Mem) (a : AV) (K : AV → Mem → Prop) : TK → TK → Prop
  | .sl e, .str => IsU8 tab e ∧ srcK 1 M a fun xs => (∀ z ∈ xs, IsB z) ∧ K (.c (.string (strOf xs))) M
  | _, _ => False
def strConvK (tab : Tab) (M : Mem) (s : ByteArray) (K : AV → Mem → Prop) : TK → TK → Prop
  | .str, .str => K (.c (.string s)) M
  | .str, .sl e => IsU8 tab e ∧ K (.l 1 (s.data.toList.map encB)) M
  | _, _ => False
def intConvK (M : Mem) (n : Int) (K : AV → Mem → Prop) : TK → Prop
  | .int k' => K (.c (.int k' (k'.wrap n))) M
  | _ => False
/-- Conversions. -/
def convK (ks kd : TK) (tab : Tab) (M : Mem) : AV → (AV → Mem → Prop) → Prop
  | .c (.int _ n), K => intConvK M n K kd
  | .c (.string s), K => strConvK tab M s K ks kd
  | a, K => bytesStrK tab M a K ks kd
theorem und_some {P : Program} {t : TypeId} {k : TK} (h : KOk P t k) (ho : k.known = true) : ∃ d, P.underlying t = some d := by
  cases k <;> simp only [KOk] at h
  case st => obtain ⟨a, h, _⟩ := h; exact ⟨_, h⟩
  case fn => obtain ⟨a, b, c, h⟩ := h; exact ⟨_, h⟩
  case other => cases ho
  all_goals exact ⟨_, h⟩
theorem isB_int {a : AV} (h : IsB a) : ∃ n, a = .c (.int .u8 n) := by
  cases a <;> try exact h.elim
  rename_i v
  cases v <;> try exact h.elim
  rename_i k n
  cases k <;> first | exact h.elim | exact ⟨n, rfl⟩
theorem bytes_conv {P : Program} {E : Env} {src dst e : TypeId} {v : Value} {xs : List AV} (hS : P.underlying src = some (.slice e)) (he : P.underlying e = some (.int .u8)) (hD : P.underlying dst = some .string)
    (hs : Src P E 1 v xs) (hb : ∀ z ∈ xs, IsB z) (hv : ∃ A n c, v = .slice A n c) : (convert src dst v).run P E.w = .ok (.string (strOf xs)) E.w := by
  obtain ⟨A, n, c, rfl⟩ := hv
  have hn : n = xs.length := by
    have := hs.len E.w
    simp [Builtin.lenOf] at this
    exact this
  subst hn
  rw [run_convert_bytes_string E.w src dst e A xs.length c hS he hD]
  obtain ⟨news, n1, n2, n3⟩ := hs.first
  have hnews : news = (xs.map fun z => match z with | .c (.int _ n) => n | _ => 0).map (Value.int .u8) := by
    apply List.ext_getElem?
    intro i
    by_cases hi : i < xs.length
    · obtain ⟨k, hk⟩ := isB_int (hb _ (List.getElem_mem hi))
      obtain ⟨c1, c2⟩ := n3 i hi
      obtain ⟨y, b1, _, b3⟩ := c2 0 (by rw [c1]; omega)
      simp only [hk, AV.cells, List.getElem_cons_zero] at b3
      cases b3
      rw [Nat.mul_one, Nat.add_zero] at b1
      rw [b1]
      simp [hi, hk]
    · rw [List.getElem?_eq_none (by omega), List.getElem?_eq_none (by simp; omega)]
  cases A with
  | none =>
    have h0 := n2 E.w rfl
    simp [Builtin.firstCells] at h0
    have : xs = [] := List.eq_nil_of_length_eq_zero (by rw [h0] at n1; simpa using n1.symm)
    subst this
    simp [Conv.bytesToString, strOf, ByteArray.empty, ByteArray.emptyWithCapacity]
    rfl
  | some a =>
    have h0 := n2 E.w rfl
    simp only [Builtin.firstCells, Nat.mul_one] at h0
    rw [hnews] at h0
    rw [run_bytesToString E.w a xs.length c _ h0]
    have hfold : ∀ (l : List Int) (r : ByteArray), l.foldl (fun r n => r.push (UInt8.ofNat n.toNat)) r = ⟨r.data ++ (l.map fun n => UInt8.ofNat n.toNat).toArray⟩ := by
      intro l
      induction l with
      | nil => intro r; simp
      | cons n l ih =>
        intro r
        rw [List.foldl_cons, ih]
        show (⟨r.data.push _ ++ _⟩ : ByteArray) = _
        simp
    have hkey : (xs.map fun z => match z with | .c (.int _ n) => n | _ => 0).foldl (fun r n => r.push (UInt8.ofNat n.toNat)) ByteArray.empty = strOf xs := by
      rw [hfold]
      unfold strOf
      have : byteOf = (fun n : Int => UInt8.ofNat n.toNat) ∘ (fun z : AV => match z with | .c (.int _ n) => n | _ => 0) := by
        funext z
        simp only [Function.comp]
        cases z <;> try rfl
        rename_i v; cases v <;> rfl
      rw [this, ← List.map_map]
      simp only [ByteArray.empty, ByteArray.emptyWithCapacity]
      congr 1
      exact Array.empty_append
    rw [hkey]
theorem conv_out {P : Program} {w0 : World} {E : Env} {M : Mem} {src dst : TypeId} {ks kd : TK} {tab : Tab} {a : AV} {v : Value} {K : AV → Mem → Prop} (hg : Good w0 E M) (hT : TabOk P tab)
    (hs : KOk P src ks) (hso : ks.known = true) (hd : KOk P dst kd) (hr : Rep E a v) (h : convK ks kd tab M a K) : Out P w0 E (convert src dst v) K := by
  have hu8 : ∀ e, IsU8 tab e → P.underlying e = some (.int .u8) := fun e ⟨ti, h1, h2⟩ => by
    have := (hT _ _ h1).k
    cases hk : ti.k <;> rw [hk] at h2 <;> try exact h2.elim
    rename_i k
    rw [hk] at this
    cases k <;> first | exact h2.elim | exact this
  have hbytes : ∀ a, Rep E a v → bytesStrK tab M a K ks kd → (∃ A n c, v = .slice A n c) → Out P w0 E (convert src dst v) K := fun a hr h hv => by
    cases ks <;> try exact h.elim
    cases kd <;> try exact h.elim
    obtain ⟨h1, h2⟩ := h
    obtain ⟨xs, x1, x2, x3⟩ := src_of (P := P) hg hr h2
    exact .val hg (bytes_conv hs (hu8 _ h1) hd x1 x2 hv) (.c (.string _) rfl) x3
  have hnot : ∀ a, bytesStrK tab M a K ks kd → (∀ K', srcK 1 M a K' → False) → False := fun a h hn => by
    cases ks <;> try exact h.elim
    cases kd <;> try exact h.elim
    exact hn _ h.2
  cases hr with
  | c v hv =>
    cases v with
    | int k n =>
      cases kd <;> try exact h.elim
      obtain ⟨d, hd'⟩ := und_some hs hso
      simp only [KOk] at hd
      exact .val hg (by simp [convert, run_underlying hd', run_underlying hd, Conv.intToInt, Result.andThen]) (.c (.int _ _) rfl) h
    | string s =>
      cases ks <;> try exact h.elim
      cases kd <;> try exact h.elim
      · simp only [KOk] at hs hd
        exact .val hg (by simp [convert, run_underlying hs, run_underlying hd, Result.andThen]) (.c (.string s) rfl) h
      · rename_i e
        obtain ⟨h1, hK⟩ := h
        have he := hu8 _ h1
        simp only [KOk] at hs hd
        have hrun := Lib.run_convert_string_bytes (P := P) E.w src dst e s hs hd he
        have hsz := Lib.bytesWorld_size E.w e s
        have hl : Later E ⟨Lib.bytesWorld E.w e s, E.ad, E.k, E.hid⟩ := ⟨fun b hb => ⟨⟨by simp only; rw [hsz]; have := hb.1; omega, hb.2⟩, Lib.bytesWorld_at_old _ _ _ _ hb.1⟩, Nat.le_refl _, fun i _ q hq => ⟨q, hq, Nat.le_refl _, fun _ => rfl, fun _ _ => ⟨rfl, rfl⟩⟩, rfl, fun b hb => Lib.bytesWorld_at_old _ _ _ _ (hg.old b hb)⟩
        have hg' : Good w0 ⟨Lib.bytesWorld E.w e s, E.ad, E.k, E.hid⟩ M := by
          refine ⟨hg.below.trans ⟨?_, ?_, ?_, by simp only; rw [hsz]; omega, fun k hk => Lib.bytesWorld_at_old _ _ _ _ (Nat.lt_of_lt_of_le hk hg.below.size)⟩, hg.k, hg.lt, hg.gone, fun i blk hi => ?_, hg.hid, fun b hb => by have := hg.old b hb; simp only; rw [hsz]; omega, hg.inj⟩
          · unfold Lib.bytesWorld World.freeze; split <;> rfl
          · unfold Lib.bytesWorld World.freeze; split <;> rfl
          · unfold Lib.bytesWorld World.freeze; split <;> rfl
          · obtain ⟨q, a1, a2, a3, a4, a5⟩ := hg.held i blk hi
            exact ⟨q, a1, a2, a3, a4, fun hcp => ⟨(a5 hcp).1, ((a5 hcp).2).later hl (Lib.bytesWorld_at_old _ _ _ _ (backed_lt (a5 hcp).2))⟩⟩
        have hlen : (s.data.toList.map encB).length = s.size := by simp
        refine ⟨_, ⟨Lib.bytesWorld E.w e s, E.ad, E.k, E.hid⟩, M, .l 1 (s.data.toList.map encB), hrun, hg', hl, ?_, hK⟩
        rw [← hlen]
        refine .l 1 _ _ 0 _ (fun i _ => .int .u8 (s.data.toList.getD i 0).toNat) ?_ ⟨by simp only; rw [hsz]; omega, fun hh => ?_, fun i q hq hcp => ?_⟩ (fun i hi => ?_) (fun i j hi hj => ?_) (fun i hi j hj => ?_)
        · rw [hlen]; exact grownCap_ge _ _ _ _
        · have h1 := hg.old _ hh
          have h2 := hg.below.size
          omega
        · cases hM : M.get i with
          | none => simp only at hq; rw [hg.gone i hM] at hq; cases hq
          | some blk =>
            obtain ⟨q1, b1, _, _, _, b5⟩ := hg.held i blk hM
            simp only at hq
            rw [hq] at b1; cases b1
            have := backed_lt (b5 hcp).2
            omega
        · simp [encB, AV.cells]
        · have hj0 : j = 0 := by omega
          subst hj0
          have := Lib.bytesWorld_cell E.w e s i (by rw [← hlen]; exact hi)
          simp only [Nat.mul_one, Nat.add_zero, Nat.zero_add]
          exact ⟨this, rfl⟩
        · simp only [List.getElem_map, encB, AV.cells] at hj ⊢
          have hj0 : j = 0 := by simpa using hj
          subst hj0
          have hi' : i < s.data.toList.length := by simpa using hi
          simp only [List.getElem_cons_zero]
          have : s.data.toList.getD i 0 = s.data.toList[i] := by rw [List.getD_eq_getElem?_getD, List.getElem?_eq_getElem hi']; rfl
          rw [this]
          exact .c (.int _ _) rfl
    | slice A n c => exact hbytes _ (.c _ hv) h ⟨_, _, _, rfl⟩
    | _ => exact (hnot _ h (fun _ hh => hh)).elim
  | l sz xs b off cap y hcap hz hs' hc hr => exact hbytes _ (.l sz xs b off cap y hcap hz hs' hc hr) h ⟨_, _, _, rfl⟩
  | l0 sz A cap => exact hbytes _ (.l0 sz A cap) h ⟨_, _, _, rfl⟩
  | s id off n A cap hk hh => exact hbytes _ (.s id off n A cap hk hh) h ⟨_, _, _, rfl⟩
  | _ => exact (hnot _ h (fun _ hh => hh)).elim

/-- Two structs' values of a type are compared so. -/
def AggEq (P : Program) (t : TypeId) (cs ds : List AV) (b : Bool) : Prop :=
  ∀ E ys zs, Rep E (.g cs) (.agg ys) → Rep E (.g ds) (.agg zs) → ∀ x y,
    (do eqGuard .eql t x y (.agg ys) (.agg zs); binOp .eql t (.agg ys) (.agg zs)).run P E.w = .ok (.bool b) E.w ∧
    (do eqGuard .neq t x y (.agg ys) (.agg zs); binOp .neq t (.agg ys) (.agg zs)).run P E.w = .ok (.bool (!b)) E.w
def strBinK (M : Mem) (a b : ByteArray) (K : AV → Mem → Prop) : BinOp → Prop
  | .eql => K (.c (.bool (a.toList == b.toList))) M
  | .neq => K (.c (.bool (!(a.toList == b.toList)))) M
  | .lss => K (.c (.bool (Op.bytesLess a.toList b.toList))) M
  | .add => a.size + b.size ≤ 9223372036854775807 ∧ K (.c (.string (a ++ b))) M
  | _ => False
def boolBinK (M : Mem) (a b : Bool) (K : AV → Mem → Prop) : BinOp → TK → Prop
  | .eql, .bool => K (.c (.bool (a == b))) M
  | .neq, .bool => K (.c (.bool (!(a == b)))) M
  | _, _ => False
def nilBinK (M : Mem) (N : Bool → Prop) (K : AV → Mem → Prop) : BinOp → TK → Prop
  | .eql, .sl _ => ∀ b : Bool, N b → K (.c (.bool b)) M
  | .neq, .sl _ => ∀ b : Bool, N b → K (.c (.bool (!b))) M
  | _, _ => False
def aggBinK (P : Program) (t : TypeId) (M : Mem) (cs ds : List AV) (K : AV → Mem → Prop) : BinOp → Prop
  | .eql => ∃ b, AggEq P t cs ds b ∧ K (.c (.bool b)) M
  | .neq => ∃ b, AggEq P t cs ds b ∧ K (.c (.bool (!b))) M
  | _ => False
/-- An operation on two values. -/
def binK (P : Program) (op : BinOp) (t : TypeId) (k : TK) (M : Mem) : AV → AV → (AV → Mem → Prop) → Prop
  | .c (.int k a), .c (.int k' b), K => ipre op k k' b ∧ K (.c (ibin op k a b)) M
  | .c (.string a), .c (.string b), K => strBinK M a b K op
  | .c (.bool a), .c (.bool b), K => boolBinK M a b K op k
  | .l _ xs, .c (.slice none _ _), K => nilBinK M (fun b => b = true → xs = []) K op k
  | .s id off n, .c (.slice none _ _), K => (0 < n ∧ blkK M id (off + n) fun _ => True) ∧ nilBinK M (fun b => b = false) K op k
  | .c (.slice none _ _), .c (.slice none _ _), K => nilBinK M (fun b => b = true) K op k
  | .g cs, .g ds, K => aggBinK P t M cs ds K op
  | _, _, _ => False
theorem nil_out {P : Program} {w0 : World} {E : Env} {M : Mem} {op : BinOp} {t : TypeId} {k : TK} {x y : Operand} {N : Bool → Prop} {K : AV → Mem → Prop} (hg : Good w0 E M) (hk : KOk P t k)
    (A : Option Addr) (n c n' c' : Nat) (hN : N A.isNone) (h : nilBinK M N K op k) : Out P w0 E (do eqGuard op t x y (.slice A n c) (.slice none n' c'); binOp op t (.slice A n c) (.slice none n' c')) K := by
  cases op <;> try exact h.elim
  · cases k <;> try exact h.elim
    simp only [KOk] at hk
    have := Lib.run_eql_slice_nil (P := P) E.w t _ A n c n' c' hk
    exact .val hg (by simp only [Sem.run_bind, eqGuard_at_slice, Sem.run_pure, Result.andThen]; exact this) (.c (.bool _) rfl) (h _ hN)
  · cases k <;> try exact h.elim
    simp only [KOk] at hk
    have := run_neq_slice_nil_any (P := P) E.w t _ A n c n' c' hk
    exact .val hg (by simp only [Sem.run_bind, eqGuard_at_slice, Sem.run_pure, Result.andThen]; exact this) (.c (.bool _) rfl) (h _ hN)
theorem bin_out {P : Program} {w0 : World} {E : Env} {M : Mem} {op : BinOp} {t : TypeId} {k : TK} {x y : Operand} {a b : AV} {u v : Value} {K : AV → Mem → Prop} (hg : Good w0 E M) (hk : KOk P t k)
    (hr : Rep E a u) (hx : Rep E b v) (h : binK P op t k M a b K) : Out P w0 E (do eqGuard op t x y u v; binOp op t u v) K := by
  cases hr <;> try exact h.elim
  case c hu =>
    cases u
    case slice A n c =>
      cases A <;> (cases hx <;> try exact h.elim)
      rename_i hv
      cases v <;> try exact h.elim
      rename_i A' n' c'
      cases A' <;> try exact h.elim
      exact nil_out (N := fun b => b = true) hg hk none n c n' c' rfl h
    all_goals
      cases hx <;> try exact h.elim
    all_goals
      rename_i hv
      cases v <;> try exact h.elim
    case bool.c.bool =>
      rename_i a b
      cases op <;> try exact h.elim
      all_goals
        cases k <;> try exact h.elim
        simp only [KOk] at hk
      · exact .val hg (by simp only [Sem.run_bind, eqGuard_at_bool, Sem.run_pure, Result.andThen]; exact run_eql_bool E.w t a b hk) (.c (.bool _) rfl) h
      · exact .val hg (by simp only [Sem.run_bind, eqGuard_at_bool, Sem.run_pure, Result.andThen]; exact run_neq_bool E.w t a b hk) (.c (.bool _) rfl) h
    case int.c.int => exact .val hg (run_ibin _ _ _ _ _ _ _ _ _ h.1) (.c _ (one_ibin _ _ _ _)) h.2
    case string.c.string =>
      rename_i a b
      cases op <;> try exact h.elim
      case add =>
        obtain ⟨h1, hK⟩ := h
        refine .val hg ?_ (.c (.string _) rfl) hK
        simp only [Sem.run_bind, eqGuard_at_string, Sem.run_pure, Result.andThen, binOp_string_add, Op.stringOp]
        rw [if_neg (by simp; omega)]
        rfl
      all_goals exact .val hg (by simp [eqGuard_at_string, go_sem]) (.c (.bool _) rfl) h
  case g cs ys hl hr =>
    cases hx <;> try exact h.elim
    rename_i ds zs hl' hr'
    cases op <;> try exact h.elim
    all_goals
      obtain ⟨b, hb, hK⟩ := h
      obtain ⟨h1, h2⟩ := hb E ys zs (.g cs ys hl hr) (.g ds zs hl' hr') x y
    · exact .val hg h1 (.c (.bool _) rfl) hK
    · exact .val hg h2 (.c (.bool _) rfl) hK
  case l sz xs b off cap y hcap hz hs hc hr =>
    cases hx <;> try exact h.elim
    cases v <;> try exact h.elim
    rename_i A n c _
    cases A <;> try exact h.elim
    exact nil_out hg hk _ _ _ _ _ (by simp) h
  case l0 sz A cap =>
    cases hx <;> try exact h.elim
    cases v <;> try exact h.elim
    rename_i A' n c _
    cases A' <;> try exact h.elim
    exact nil_out hg hk _ _ _ _ _ (fun _ => rfl) h
  case s id off n A cap hk' hs =>
    cases hx <;> try exact h.elim
    cases v <;> try exact h.elim
    rename_i A' n' c' _
    cases A' <;> try exact h.elim
    obtain ⟨⟨hn, blk, hM, hlen, _⟩, h⟩ := h
    obtain ⟨q, q1, q2, q3, q4, q5⟩ := hg.held id blk hM
    obtain ⟨g1, g2⟩ := hs q q1
    obtain ⟨g3, g4⟩ := g2 (by omega)
    have hA := g4 (by omega)
    subst hA
    exact nil_out (N := fun b => b = false) hg hk _ _ _ _ _ rfl h

/-- Not, minus, the other bits. -/
def unK (op : UnOp) : AV → (AV → Prop) → Prop
  | .c (.bool b), K => match op with
    | .not => K (.c (.bool (!b)))
    | _ => False
  | .c (.int k n), K => match op with
    | .neg => K (.c (ibin .sub k 0 n))
    | .xor => K (.c (ibin .xor k (if k.signed then -1 else k.max) n))
    | _ => False
  | _, _ => False
theorem un_out {P : Program} {w0 : World} {E : Env} {M : Mem} {op : UnOp} {a : AV} {v : Value} {K : AV → Mem → Prop} (hg : Good w0 E M) (hr : Rep E a v) (h : unK op a fun a => K a M) :
    Out P w0 E (Op.unary op v) K := by
  cases hr <;> try exact h.elim
  cases v <;> try exact h.elim
  · cases op <;> try exact h.elim
    exact .val hg rfl (.c (.bool _) rfl) h
  · cases op <;> try exact h.elim
    · exact .val hg rfl (.c (ibin .sub _ 0 _) rfl) h
    · exact .val hg rfl (.c (ibin .xor _ _ _) rfl) h

/-- Of two numbers the greater one, the lesser one. -/
def maxK : AV → AV → (AV → Prop) → Prop
  | .c (.int k a), .c (.int _ b), K => K (.c (.int k (if b > a then b else a)))
  | _, _, _ => False
def minK : AV → AV → (AV → Prop) → Prop
  | .c (.int k a), .c (.int _ b), K => K (.c (.int k (if b < a then b else a)))
  | _, _, _ => False
theorem max_out {P : Program} {w0 : World} {E : Env} {M : Mem} {ts : Array TypeId} {t : TypeId} {a b : AV} {u v : Value} {K : AV → Mem → Prop} (hg : Good w0 E M) (hr : Rep E a u) (hx : Rep E b v) (h : maxK a b fun a => K a M) :
    Out P w0 E (Builtin.max_ ts t #[u, v]) K := by
  cases hr <;> try exact h.elim
  cases u <;> (cases hx <;> try exact h.elim)
  cases v <;> try exact h.elim
  exact .val hg (run_max_int2 E.w ts t _ _ _ _) (.c (.int _ _) rfl) h
theorem min_out {P : Program} {w0 : World} {E : Env} {M : Mem} {ts : Array TypeId} {t : TypeId} {a b : AV} {u v : Value} {K : AV → Mem → Prop} (hg : Good w0 E M) (hr : Rep E a u) (hx : Rep E b v) (h : minK a b fun a => K a M) :
    Out P w0 E (Builtin.min_ ts t #[u, v]) K := by
  cases hr <;> try exact h.elim
  cases u <;> (cases hx <;> try exact h.elim)
  cases v <;> try exact h.elim
  exact .val hg (run_min_int2 E.w ts t _ _ _ _) (.c (.int _ _) rfl) h
/-- A constant text's bytes: the literal row, marked. -/
def litC (same : Bool) : TK → AV → Bool
  | .sl _, .s _ _ _ => same
  | _, _ => false
def constK (tab : Tab) (M : Mem) (K : AV → Mem → Prop) : TK → AV → Prop
  | .sl e, .s id off n => IsU8 tab e ∧ off = 0 ∧ 0 < n ∧ blkK M id n fun blk => PureL blk.xs ∧ K (.l blk.sz blk.xs) (M.drop id)
  | _, _ => False
def cvK (same : Bool) (ks kd : TK) (tab : Tab) (M : Mem) (a : AV) (K : AV → Mem → Prop) : Prop := bif litC same ks a then constK tab M K ks a else convK ks kd tab M a K
theorem Rep.cells_same {E E' : Env} (had : E'.ad = E.ad) (hk : E'.k = E.k) (hz : ∀ b, E.Z b → E'.Z b) (hc : ∀ b o, E.Z b → E'.w.cell? ⟨b, o, none⟩ = E.w.cell? ⟨b, o, none⟩) {a : AV} {v : Value} (h : Rep E a v) : Rep E' a v := by
  induction h with
  | c v h => exact .c v h
  | x v => exact .x v
  | g cs ys h hr ih => exact .g cs ys h ih
  | t cs ys h hr ih => exact .t cs ys h ih
  | l sz xs b off cap y hcap hz0 hs hcc hr ih => exact .l sz xs b off cap y hcap (hz b hz0) hs (fun i j hi hj => by rw [hc b _ hz0]; exact hcc i j hi hj) ih
  | l0 sz A cap => exact .l0 sz A cap
  | p id i j n a hk0 h => exact .p id i j n a (by rw [hk]; exact hk0) fun q hq => h q (by rw [← had]; exact hq)
  | s id off n A cap hk0 h => exact .s id off n A cap (by rw [hk]; exact hk0) fun q hq => h q (by rw [← had]; exact hq)
  | e cs b off y hz0 hcc hr ih => exact .e cs b off y (hz b hz0) (fun j hj => by rw [hc b _ hz0]; exact hcc j hj) ih
  | f fn caps ys h hr ih => exact .f fn caps ys h ih
  | b fn caps ys h hr ih => exact .b fn caps ys h ih
  | u sz xs A h ih => exact .u sz xs A ih
  | w id len n A cap hk0 h => exact .w id len n A cap (by rw [hk]; exact hk0) fun q hq => h q (by rw [← had]; exact hq)
theorem const_out {P : Program} {w0 : World} {E : Env} {M : Mem} {t e : TypeId} {id n : Nat} {v : Value} {K : AV → Mem → Prop} {blk : Blk} (hg : Good w0 E M) (ht : P.underlying t = some (.slice e)) (he : P.underlying e = some (.int .u8))
    (hr : Rep E (.s id 0 n) v) (hM : M.get id = some blk) (hn : n = blk.xs.length) (h0 : 0 < n) (hp : PureL blk.xs) (hK : K (.l blk.sz blk.xs) (M.drop id)) : Out P w0 E (convert t t v) K := by
  obtain ⟨q, h1, h2, h3, h4, h5⟩ := hg.held id blk hM
  have hcp : 0 < q.cp := by omega
  obtain ⟨h6, h7, arr, h8, h9, h10⟩ := h5 hcp
  have hl := (hg.without [id]).2
  have hrl := rep_viewC hg (ids := [id]) hr ⟨blk, hM, by simpa using hn, hp⟩ (fun i hi => by simpa [idsC] using hi)
  simp only [viewC, hM, List.drop_zero] at hrl
  have hE : E.without [id] = ⟨E.w, Ab.upd E.ad id none, E.k, E.hid⟩ := by
    rw [without_cons, without_nil]
  rw [hE] at hrl
  have hzb : (⟨E.w, Ab.upd E.ad id none, E.k, E.hid⟩ : Env).Z q.b := by
    have hlt := backed_lt (E := E) (q := q) (blk := blk) ⟨h7, arr, h8, h9, h10⟩
    refine ⟨hlt, hg.hid id q h1 hcp, fun i q' hq' hcp' => ?_⟩
    by_cases e : i = id
    · subst e; simp [upd_self] at hq'
    · simp only [upd_ne _ _ e] at hq'
      exact hg.inj i id q' q e hq' h1 hcp' hcp
  have hlt := hzb.1
  cases hr with
  | s _ _ _ A cap hk h =>
    obtain ⟨_, g2⟩ := h q h1
    obtain ⟨g3, g4⟩ := g2 (by omega)
    have hA := g4 (by omega)
    subst hA
    simp only [Nat.zero_mul] at *
    have hsh : E.w.shape? q.b = some (blk.T, arr.size) := by unfold World.shape?; rw [h8]
    let w' := E.w.freeze ⟨q.b, arr.size, none⟩ 1
    have hrun : (convert t t (.slice (some ⟨q.b, 0, none⟩) n cap)).run P E.w = .ok (.slice (some ⟨q.b, 0, none⟩) n cap) w' := by
      simp [convert, run_underlying ht, run_underlying he, markStringish, hsh, w']
    have hw' : w' = { E.w with heap := E.w.heap.modify q.b fun
      | .cells c elem (lo, hi) => .cells c elem (if lo == hi then (arr.size, arr.size + 1) else (min lo arr.size, max hi (arr.size + 1)))
      | o => o } := by
      simp only [w', World.freeze]
      rw [if_neg (by decide)]
      rfl
    have hsz : w'.heap.size = E.w.heap.size := by rw [hw']; simp
    have hsame : ∀ b, b ≠ q.b → w'.heap[b]? = E.w.heap[b]? := fun b hb => by
      rw [hw']
      show (E.w.heap.modify q.b _)[b]? = _
      rw [Array.getElem?_modify, if_neg (Ne.symm hb)]
    have hcell : ∀ b o, w'.cell? ⟨b, o, none⟩ = E.w.cell? ⟨b, o, none⟩ := fun b o => by
      by_cases hb : b = q.b
      · subst hb
        have : w'.heap[q.b]? = some (.cells arr blk.T (arr.size, arr.size + 1)) := by
          rw [hw']
          show (E.w.heap.modify q.b _)[q.b]? = _
          rw [Array.getElem?_modify, if_pos rfl, h8]
          rfl
        simp only [World.cell?, this, h8]
      · simp only [World.cell?, hsame b hb]
    have hbel : Below w0.heap.size E.w w' := ⟨by rw [hw'], by rw [hw'], by rw [hw'], by rw [hsz]; exact Nat.le_refl _, fun b hb => hsame b (by omega)⟩
    have hlat : Later E ⟨w', Ab.upd E.ad id none, E.k, E.hid⟩ := by
      refine ⟨fun b hb => ⟨⟨by rw [hsz]; exact hb.1, hb.2.1, fun i q' hq' hcp' => ?_⟩, hsame b (fun e => hb.2.2 id q h1 hcp e.symm)⟩, Nat.le_refl _, fun i _ q' hq' => ?_, rfl, fun b hb => hsame b fun e => hg.hid id q h1 hcp (e ▸ hb)⟩
      · by_cases e : i = id
        · subst e; simp [upd_self] at hq'
        · simp only [upd_ne _ _ e] at hq'
          exact hb.2.2 i q' hq' hcp'
      · by_cases e : i = id
        · subst e; simp [upd_self] at hq'
        · simp only [upd_ne _ _ e] at hq'
          exact ⟨q', hq', Nat.le_refl _, fun _ => rfl, fun _ _ => ⟨rfl, rfl⟩⟩
    obtain ⟨gd, _⟩ := hg.drop id
    refine ⟨_, ⟨w', Ab.upd E.ad id none, E.k, E.hid⟩, M.drop id, _, hrun, ⟨hg.below.trans hbel, gd.k, gd.lt, gd.gone, fun i b hi => ?_, gd.hid, fun b hb => by have := gd.old b hb; simp only; rw [hsz]; exact this, gd.inj⟩, hlat, ?_, hK⟩
    · obtain ⟨q', a1, a2, a3, a4, a5⟩ := gd.held i b hi
      refine ⟨q', a1, a2, a3, a4, fun hc => ⟨(a5 hc).1, ?_⟩⟩
      have hne : q'.b ≠ q.b := hzb.2.2 i q' a1 hc
      obtain ⟨c0, arr', c1, c2, c3⟩ := (a5 hc).2
      refine ⟨c0, arr', by rw [hsame _ hne]; exact c1, c2, fun k hk' => ⟨(c3 k hk').1, fun j hj => ?_⟩⟩
      obtain ⟨y, d1, d2, d3⟩ := (c3 k hk').2 j hj
      exact ⟨y, d1, d2, Rep.cells_same (E := ⟨E.w, Ab.upd E.ad id none, E.k, E.hid⟩) (E' := ⟨w', Ab.upd E.ad id none, E.k, E.hid⟩) rfl rfl (fun b hb => ⟨Nat.lt_of_lt_of_eq hb.1 hsz.symm, hb.2⟩) (fun b o _ => hcell b o) d3⟩
    · exact Rep.cells_same (E := ⟨E.w, Ab.upd E.ad id none, E.k, E.hid⟩) (E' := ⟨w', Ab.upd E.ad id none, E.k, E.hid⟩) rfl rfl (fun b hb => ⟨Nat.lt_of_lt_of_eq hb.1 hsz.symm, hb.2⟩) (fun b o _ => hcell b o) hrl
theorem cv_out {P : Program} {w0 : World} {E : Env} {M : Mem} {src dst : TypeId} {ks kd : TK} {tab : Tab} {a : AV} {v : Value} {K : AV → Mem → Prop} (hg : Good w0 E M) (hT : TabOk P tab)
    (hs : KOk P src ks) (hso : ks.known = true) (hd : KOk P dst kd) (hr : Rep E a v) (h : cvK (Nat.beq src dst) ks kd tab M a K) : Out P w0 E (convert src dst v) K := by
  unfold cvK at h
  cases hl : litC (Nat.beq src dst) ks a with
  | false => rw [hl] at h; exact conv_out hg hT hs hso hd hr h
  | true =>
    rw [hl] at h
    simp only [cond_true] at h
    unfold litC at hl
    split at hl
    · rename_i e id off n
      have he := Nat.eq_of_beq_eq_true hl
      subst he
      obtain ⟨⟨ti, k1, k2⟩, rfl, k4, blk, k5, k6, k7, k8⟩ := h
      have hu : P.underlying e = some (.int .u8) := by
        have := (hT _ _ k1).k
        cases hk : ti.k <;> rw [hk] at k2 <;> try exact k2.elim
        rename_i k
        rw [hk] at this
        cases k <;> first | exact k2.elim | exact this
      simp only [KOk] at hs
      exact const_out hg hs hu hr k5 k6 k4 k7 k8
    · cases hl
end Go.Ab

set_option linter.unusedVariables false
set_option linter.unusedSimpArgs false
set_option linter.constructorNameAsVariable false
namespace Go.Ab
open Go Go.RowKit

structure ASt where
  sl : Slots
  m : Mem
  N : Nat

def constAV : Value → AV
  | .agg _ => .x
  | .tuple _ => .x
  | v => .c v
def ev (s : Slots) : Operand → AV
  | .tmp t => Slots.get s t
  | .const v => constAV v
  | .global g => .c (.pointer (some ⟨g, 0, none⟩))
  | .func f => .f f []
theorem rep_ev {E : Env} {s : Slots} {a : Act} (h : RepS E s a.tmps) (x' : Operand) : Rep E (ev s x') (a.eval x') := by
  cases x' with
  | tmp t => exact h t
  | const v => cases v <;> first | exact .x _ | exact .c _ rfl
  | global g => exact .c _ rfl
  | func f => exact .f _ _ _ rfl (fun i h => absurd h (by simp))

/-- The state of the walk stands for the machine's. -/
structure St (w0 : World) (E : Env) (D : List Deferred) (s : ASt) (a : Act) : Prop where
  g : Good w0 E s.m
  r : RepS E s.sl a.tmps
  n : a.tmps.size = s.N
  d : a.defers = D
def setK (s : ASt) (K : ASt → Prop) : Option Tmp → AV → Mem → Prop
  | none, _, M => K ⟨s.sl, M, s.N⟩
  | some d, a, M => d < s.N ∧ K ⟨insert s.sl d a, M, s.N⟩
theorem St.put {w0 : World} {D : List Deferred} {E E' : Env} {s : ASt} {a : Act} {K : ASt → Prop} {dst : Option Tmp} {x' : AV} {v : Value} {M : Mem} (h : St w0 E D s a) (hg : Good w0 E' M) (hl : Later E E') (hx : Rep E' x' v) (hk : setK s K dst x' M) :
    ∃ s', St w0 E' D s' (a.put dst v) ∧ K s' := by
  cases dst with
  | none => exact ⟨⟨s.sl, M, s.N⟩, ⟨hg, h.r.later hl, h.n, h.d⟩, hk⟩
  | some d =>
    obtain ⟨hd, hK⟩ := hk
    exact ⟨⟨insert s.sl d x', M, s.N⟩, ⟨hg, (h.r.later hl).put (by rw [h.n]; exact hd) hx, by simp [Act.put, h.n], h.d⟩, hK⟩

/-- A call, by what it comes to. -/
def ICall (P : Program) (f : FuncId) (args : List AV) (M : Mem) (K : AV → Mem → Prop) : Prop :=
  (∃ fn, P.funcs[f]? = some fn ∧ fn.body.isNone = false ∧ (fn.name == "runtime.NumGoroutine") = false) ∧
  ∀ w0 E vs, Good w0 E M → vs.size = args.length → (∀ i (h1 : i < args.length) (h2 : i < vs.size), Rep E args[i] vs[i]) →
    Calls P f vs E.w fun e w' => ∃ v E' M' a, e = .returned v ∧ E'.w = w' ∧ Good w0 E' M' ∧ Later E E' ∧ Rep E' a v ∧ K a M'

def pickK : AV → AV → AV → (AV → Prop) → Prop
  | .c (.bool b), x', y, K => if b = true then K x' else K y
  | _, _, _, _ => False
def nilCheckK : AV → (AV → Prop) → Prop
  | .p id i j n, K => K (.p id i j n)
  | .e cs, K => K (.e cs)
  | .f fn caps, K => K (.f fn caps)
  | .b fn caps, K => K (.b fn caps)
  | _, _ => False
/-- A function value is made: of what it captures, or of what it is bound to. -/
def mkfK (f : FuncId) : List AV → List AV → (AV → Prop) → Prop
  | [], caps, K => K (.f f caps)
  | first, [], K => K (.b f first)
  | _, _, _ => False
def tiK (tab : Tab) (t : TypeId) (K : TI → Prop) : Prop := ∃ ti, assoc tab t = some ti ∧ K ti
def arK (k : TK) (K : Nat → TypeId → Prop) : Prop := ∃ n e, k = .ar n e ∧ K n e
/-- An element of a slice; one of an array that is a package variable. -/
def idx2K (tab : Tab) (T : TypeId) (M : Mem) : AV → AV → (AV → Mem → Prop) → Prop
  | .c (.pointer (some a)), .c (.int _ i), K => tiK tab T fun tt => arK tt.k fun n e => tiK tab e fun ti => a.spot = none ∧ 0 ≤ i ∧ i < n ∧ K (.c (.pointer (some ⟨a.block, a.off + i.toNat * ti.sz, none⟩))) M
  | x, i, K => tiK tab T fun tt => (∃ e, tt.k = .sl e ∧ tiK tab e fun ti => idxK ti.sz M x i K)
/-- A struct is made, or an array. -/
def bldK (tab : Tab) (ti : TI) (M : Mem) (ps : List (Nat × AV)) (K : AV → Mem → Prop) : TK → Prop
  | .st fs => buildK tab ti fs M ps K
  | .ar n e => ti.sz = n ∧ tiK tab e fun te => arrK n te M ps K
  | _ => False
/-- A slice's beginning, as an array. -/
def sapK (n sz : Nat) (M : Mem) : AV → (AV → Mem → Prop) → Prop
  | .l s xs, K => s = sz ∧ sz = 1 ∧ 0 < n ∧ n ≤ xs.length ∧ AllCell xs ∧ K (.e (xs.take n)) M
  | _, _ => False
def stK (k : TK) (K : List (Nat × TypeId) → Prop) : Prop := ∃ fs, k = .st fs ∧ K fs
def slK (k : TK) (K : TypeId → Prop) : Prop := ∃ e, k = .sl e ∧ K e
def callValK (P : Program) (M : Mem) (args : List AV) (K : AV → Mem → Prop) : AV → Prop
  | .f fn caps => ICall P fn (args ++ caps) M K
  | .b fn caps => ICall P fn (caps ++ args) M K
  | _ => False
def builtinK (tab : Tab) (M : Mem) (K : AV → Mem → Prop) : Builtin → List TypeId → List AV → Prop
  | .len, [t], [a] => tiK tab t fun ti => lenK ti.k a fun a => K a M
  | .append, [t, t2], [a, b] => tiK tab t fun tt => slK tt.k fun e => tiK tab e fun ti => (tiK tab t2 fun t2i => t2i.k = .str ∨ ∃ e2, t2i.k = .sl e2) ∧ appendK e ti M a b K
  | .max, _, [a, b] => maxK a b fun a => K a M
  | .min, _, [a, b] => minK a b fun a => K a M
  | .clear, [t], [a] => tiK tab t fun tt => slK tt.k fun e => tiK tab e fun ti => clearK ti M a K
  | _, _, _ => False

/-- One operation that hands back a value. -/
def opK (P : Program) (tab : Tab) (s : ASt) (K : AV → Mem → Prop) : Op → Prop
  | .move x' => K (ev s.sl x') s.m
  | .assign x' => K (ev s.sl x') s.m
  | .pick c a b => pickK (ev s.sl c) (ev s.sl a) (ev s.sl b) fun a => K a s.m
  | .alloc T => tiK tab T fun ti => allocK T ti s.m K
  | .box T x' => boxK T s.m (ev s.sl x') K
  | .build T parts => tiK tab T fun ti => bldK tab ti s.m (parts.toList.map fun p => (p.1, ev s.sl p.2)) K ti.k
  | .buildSlice T n parts => tiK tab T fun tt => slK tt.k fun e => tiK tab e fun ti =>
      n = parts.toList.length ∧ (parts.toList.map fun p => p.1) = List.range' 0 n ∧ sliceK e ti s.m (parts.toList.map fun p => (p.1, ev s.sl p.2)) K
  | .load T x' => tiK tab T fun ti => ti.k.known = true ∧ loadK ti s.m (ev s.sl x') K
  | .nilCheck x' => nilCheckK (ev s.sl x') fun a => K a s.m
  | .binOp op T x' y _ => tiK tab T fun ti => binK P op T ti.k s.m (ev s.sl x') (ev s.sl y) K
  | .unOp op _ x' => unK op (ev s.sl x') fun a => K a s.m
  | .convert a b x' => tiK tab a fun ta => tiK tab b fun tb => ta.k.known = true ∧ cvK (Nat.beq a b) ta.k tb.k tab s.m (ev s.sl x') K
  | .makeFunc (.func f) first caps => mkfK f (first.toList.map fun c => ev s.sl c) (caps.toList.map fun c => ev s.sl c) fun a => K a s.m
  | .makeSlice T l c => tiK tab T fun tt => slK tt.k fun e => tiK tab e fun ti => makeK e ti s.m (ev s.sl l) (ev s.sl c) K
  | .slice T x' lo hi mx => tiK tab T fun tt => cutK tt.k tab s.m (lo.map fun o => ev s.sl o) (hi.map fun o => ev s.sl o) (mx.map fun o => ev s.sl o) (ev s.sl x') K
  | .fieldAddr S x' f => tiK tab S fun tS => stK tS.k fun fs => f < fs.length ∧ tiK tab (fs.getD f (0, 0)).2 fun ti => fieldK fs ti f s.m (ev s.sl x') K
  | .field S x' f => tiK tab S fun tS => stK tS.k fun fs => f < fs.length ∧ tiK tab (fs.getD f (0, 0)).2 fun ti => ti.k.known = true ∧ fieldVK fs ti f (ev s.sl x') fun a => K a s.m
  | .indexAddr T x' i => idx2K tab T s.m (ev s.sl x') (ev s.sl i) K
  | .sliceToArrayPointer T x' => tiK tab T fun tt => arK tt.k fun n e => tiK tab e fun ti => sapK n ti.sz s.m (ev s.sl x') K
  | .extract x' i => extractK i (ev s.sl x') fun a => K a s.m
  | .call c => match c.callee with
    | .value f => callValK P s.m (c.args.toList.map fun o => ev s.sl o) K (ev s.sl f)
    | .builtin b => builtinK tab s.m K b c.argTypes.toList (c.args.toList.map fun o => ev s.sl o)
    | _ => False
  | _ => False

theorem Calls.mono' {P : Program} {f : FuncId} {args : Array Value} {w : World} {R R' : Ending → World → Prop} (h : Calls P f args w R) (hr : ∀ e w', R e w' → R' e w') : Calls P f args w R' :=
  fun cs => let ⟨e, w', fr, h1, h2⟩ := h cs; ⟨e, w', fr, hr _ _ h1, h2⟩

theorem repP_ev {E : Env} {s : Slots} {a : Act} (h : RepS E s a.tmps) : ∀ (ps : List (Nat × Operand)), RepP E (ps.map fun p => (p.1, ev s p.2)) (ps.map fun p => (p.1, a.eval p.2))
  | [] => trivial
  | (i, x') :: r => ⟨rfl, rep_ev h x', repP_ev h r⟩
theorem repO_ev {E : Env} {s : Slots} {a : Act} (h : RepS E s a.tmps) (o : Option Operand) : RepO E (o.map fun o => ev s o) (o.map a.eval) := by
  cases o with
  | none => exact .none
  | some x' => exact .some _ _ (rep_ev h x')

/-- What the machine does next, behind an operation that hands back a value. -/
theorem op_upon {P : Program} {tab : Tab} (hT : TabOk P tab) {w0 : World} {D : List Deferred} {E : Env} {s : ASt} {a : Act} {o : Oper} {K : AV → Mem → Prop} {next : Act → World → Prop} {Q : Exit → Act → World → Prop}
    (h : St w0 E D s a) (hop : opK P tab s K o.op) (hn : ∀ v E' M' x', Good w0 E' M' → Later E E' → Rep E' x' v → K x' M' → next (a.put o.dst v) E'.w) : o.wp P a E.w next Q := by
  have hval : ∀ {sm : Sem Value}, execOp a.eval o = (do pure (.value (← sm))) → Out P w0 E sm K → o.wp P a E.w next Q := fun {sm} he ⟨v, E', M', x', h1, h2, h3, h4, h5⟩ => by
    unfold Oper.wp
    rw [he]
    simp only [Sem.run_bind, h1, Result.andThen, Sem.run_pure, Oper.upon]
    exact hn v E' M' x' h2 h3 h4 h5
  have hpure : ∀ (x' : AV) (v : Value), execOp a.eval o = pure (.value v) → Rep E x' v → K x' s.m → o.wp P a E.w next Q := fun x' v he hr hK => by
    unfold Oper.wp
    rw [he]
    simp only [Sem.run_pure, Oper.upon]
    exact hn v E s.m x' h.g (.refl E) hr hK
  have hr := fun x' => rep_ev h.r x'
  obtain ⟨dst, op, type, pos, after, guard⟩ := o
  cases op <;> try exact hop.elim
  case move x' => exact hpure _ _ rfl (hr x') hop
  case assign x' => exact hpure _ _ rfl (hr x') hop
  case pick c x' y =>
    have hc := hr c
    have hx := hr x'
    have hy := hr y
    simp only [opK] at hop
    generalize he : ev s.sl c = ac at hop hc
    generalize hv : a.eval c = vc at hc
    cases hc <;> try exact hop.elim
    rename_i hone
    cases vc <;> try exact hop.elim
    rename_i b
    refine hval (sm := do pure (if ← asBool (a.eval c) then a.eval x' else a.eval y)) (by simp [execOp]) ?_
    simp only [pickK] at hop
    cases b with
    | true =>
      simp only [if_true] at hop
      exact .val h.g (by simp [hv, asBool]) hx hop
    | false =>
      simp only [Bool.false_eq_true, if_false] at hop
      exact .val h.g (by simp [hv, asBool]) hy hop
  case alloc T =>
    obtain ⟨ti, h1, h2⟩ := hop
    exact hval rfl (alloc_out h.g (hT _ _ h1) h2)
  case box T x' => exact hval rfl (box_out h.g (hr x') hop)
  case build T parts =>
    obtain ⟨ti, h1, h3⟩ := hop
    cases hk : ti.k <;> rw [hk] at h3 <;> try exact h3.elim
    case st fs => exact hval rfl (build_out h.g hT (hT _ _ h1) hk (by simpa using repP_ev h.r parts.toList) h3)
    case ar n e =>
      obtain ⟨h4, te, h5, h6⟩ := h3
      exact hval rfl (buildA_out h.g (hT _ _ h1) hk (hT _ _ h5) h4 (by simpa using repP_ev h.r parts.toList) h6)
  case buildSlice T n parts =>
    obtain ⟨tt, h1, e, h2, ti, h3, h4, h5, h6⟩ := hop
    have hk := (hT _ _ h1).k
    rw [h2] at hk
    exact hval rfl (bslice_out h.g hk (hT _ _ h3) (by simpa using repP_ev h.r parts.toList) (by simpa using h4) (by rw [List.map_map]; rw [h4] at h5; simp only [Function.comp_def, List.length_map]; exact h5) h6)
  case load T x' =>
    obtain ⟨ti, h1, h2, h3⟩ := hop
    exact hval rfl (load_out h.g (hT _ _ h1) h2 (hr x') h3)
  case nilCheck x' =>
    have hx := hr x'
    simp only [opK] at hop
    generalize he : ev s.sl x' = ac at hop hx
    generalize hv : a.eval x' = vx at hx
    cases hx <;> try exact hop.elim
    case p id i j n ad hk hp => exact hpure _ _ (by simp only [execOp, hv]) (.p id i j n ad hk hp) hop
    case e cs b off y hz hc hr' => exact hpure _ _ (by simp only [execOp, hv]) (.e cs b off y hz hc hr') hop
    case f fn caps ys hl hr' => exact hpure _ _ (by simp only [execOp, hv]) (.f fn caps ys hl hr') hop
    case b fn caps ys hl hr' => exact hpure _ _ (by simp only [execOp, hv]) (.b fn caps ys hl hr') hop
  case binOp op T x' y yT =>
    obtain ⟨ti, h1, h2⟩ := hop
    exact hval rfl (bin_out h.g (hT _ _ h1).k (hr x') (hr y) h2)
  case unOp op T x' => exact hval rfl (un_out h.g (hr x') hop)
  case convert sa sb x' =>
    obtain ⟨ta, h1, tb, h2, h3, h4⟩ := hop
    exact hval rfl (cv_out h.g hT (hT _ _ h1).k h3 (hT _ _ h2).k (hr x') h4)
  case makeFunc fn first caps =>
    cases fn <;> try exact hop.elim
    rename_i ff
    simp only [opK] at hop
    by_cases hfi : first = #[]
    · subst hfi
      have h2 : K (.f ff (caps.toList.map fun c => ev s.sl c)) s.m := hop
      refine hval rfl (.val (a := .f _ _) h.g (v := .func (.func _) #[] (caps.map a.eval)) (by simp [Instr.makeFunc]) (.f _ _ _ (by simp) (fun i g1 g2 => ?_)) h2)
      simp only [List.getElem_map, Array.getElem_toList, Array.getElem_map]
      exact hr _
    · obtain ⟨x0, xr, hx⟩ : ∃ x r, first.toList = x :: r := by
        cases hh : first.toList with
        | nil => exact absurd (Array.toList_eq_nil_iff.1 hh) hfi
        | cons x r => exact ⟨x, r, rfl⟩
      by_cases hca : caps = #[]
      · subst hca
        have h2 : K (.b ff (first.toList.map fun c => ev s.sl c)) s.m := by
          rw [hx] at hop
          rw [hx]
          exact hop
        refine hval rfl (.val (a := .b _ _) h.g (v := .func (.func _) (first.map a.eval) #[]) (by simp [Instr.makeFunc]) (.b _ _ _ (by simp) (fun i g1 g2 => ?_)) h2)
        simp only [List.getElem_map, Array.getElem_toList, Array.getElem_map]
        exact hr _
      · obtain ⟨y0, yr, hy⟩ : ∃ x r, caps.toList = x :: r := by
          cases hh : caps.toList with
          | nil => exact absurd (Array.toList_eq_nil_iff.1 hh) hca
          | cons x r => exact ⟨x, r, rfl⟩
        rw [hx, hy] at hop
        exact hop.elim
  case makeSlice T l c =>
    obtain ⟨tt, h1, e, h2, ti, h3, h4⟩ := hop
    have hk := (hT _ _ h1).k
    rw [h2] at hk
    exact hval rfl (make_out h.g hk (hT _ _ h3) (hr l) (hr c) h4)
  case slice T x' lo hi mx =>
    obtain ⟨tt, h1, h2⟩ := hop
    exact hval rfl (cut_out h.g hT (hT _ _ h1).k (hr x') (repO_ev h.r lo) (repO_ev h.r hi) (repO_ev h.r mx) h2)
  case fieldAddr S x' f =>
    obtain ⟨tS, h1, fs, h2, h3, ti, h4, h5⟩ := hop
    have hk := (hT _ _ h1).k
    rw [h2] at hk
    exact hval rfl (field_out h.g hk h3 (hT _ _ h4) (hr x') h5)
  case field S x' f =>
    obtain ⟨tS, h1, fs, h2, h3, ti, h4, h5, h6⟩ := hop
    have hk := (hT _ _ h1).k
    rw [h2] at hk
    exact hval rfl (fieldV_out h.g hk h3 (hT _ _ h4) h5 (hr x') h6)
  case indexAddr T x' i =>
    simp only [opK] at hop
    have hx := hr x'
    have hi := hr i
    generalize ev s.sl x' = ax at hop hx
    generalize ev s.sl i = ai at hop hi
    unfold idx2K at hop
    split at hop
    · rename_i a kk j
      obtain ⟨tt, h1, n, e, h2, ti, h3, h4, h5, h6, h7⟩ := hop
      have hk := (hT _ _ h1).k
      rw [h2] at hk
      simp only [KOk] at hk
      obtain ⟨b, off, spot⟩ := a
      dsimp only at h4
      subst h4
      have ex : a.eval x' = .pointer (some ⟨b, off, none⟩) := by generalize a.eval x' = v at hx; cases hx; rfl
      have ei : a.eval i = .int kk j := by generalize a.eval i = v at hi; cases hi; rfl
      refine hval rfl ?_
      simp only [ex, ei]
      refine .val h.g (a := .c (.pointer (some ⟨b, off + j.toNat * ti.sz, none⟩))) ?_ (.c _ rfl) h7
      simp only [Instr.indexAt, Sem.run_bind, asIntOf, Sem.run_pure, run_underlying hk, Result.andThen, Instr.sureAddr, h5, h6, and_self, if_true, (hT _ _ h3).run_size]
      simp [Addr.add]
    · obtain ⟨tt, h1, e, h2, ti, h3, h4⟩ := hop
      have hk := (hT _ _ h1).k
      rw [h2] at hk
      exact hval rfl (idx_out h.g hk (hT _ _ h3) hx hi h4)
  case sliceToArrayPointer T x' =>
    obtain ⟨tt, h1, n, e, h2, ti, h3, h4⟩ := hop
    have hk := (hT _ _ h1).k
    rw [h2] at hk
    simp only [KOk] at hk
    have hx := hr x'
    generalize ev s.sl x' = ax at h4 hx
    refine hval rfl ?_
    generalize a.eval x' = vx at hx ⊢
    cases hx <;> try exact h4.elim
    case l sz xs b off cap y hcap hz hs hc hr' =>
      obtain ⟨rfl, h5, h6, h7, h8, h9⟩ := h4
      have hce : ∀ i (hi : i < xs.length), xs[i].cells = [xs[i]] := fun i hi => by
        have := h8.get i hi
        generalize xs[i] = c at this
        cases c <;> first | rfl | exact this.elim
      refine .val h.g (v := .pointer (some ⟨b, off, none⟩)) (by
        simp only [Instr.arrayAt, Sem.run_bind, run_underlying hk, Result.andThen]
        rw [if_neg (by omega)]; rfl) (.e _ b off (fun j => y j 0) hz (fun j hj => ?_) (fun j hj => ?_)) h9
      · have hj2 : j < xs.length := by simp at hj; omega
        have := hc j 0 hj2 (by omega)
        rw [h5] at this
        simpa using this
      · have hj2 : j < xs.length := by simp at hj; omega
        have := hr' j hj2 0 (by rw [hce j hj2]; simp)
        simp only [hce j hj2, List.getElem_cons_zero] at this
        rw [List.getElem_take]; exact this
    case l0 sz A cap =>
      obtain ⟨_, _, h6, h7, _⟩ := h4
      simp at h7; omega
  case extract x' i => exact hval rfl (extract_out h.g (hr x') hop)
  case call c =>
    obtain ⟨callee, args, ats⟩ := c
    cases callee <;> try exact hop.elim
    case value f =>
      simp only [opK] at hop
      have hf := hr f
      generalize he : ev s.sl f = af at hop hf
      generalize hv : a.eval f = vf at hf
      cases hf <;> try exact hop.elim
      case f fn caps ys hl hcaps =>
        simp only [callValK] at hop
        obtain ⟨⟨g, g1, g2, g3⟩, hc⟩ := hop
        have g2' : ¬ g.body = none := fun e => by simp [e] at g2
        have g3' : ¬ g.name = "runtime.NumGoroutine" := by simpa using g3
        have hrun : (execOp a.eval ⟨dst, .call ⟨.value f, args, ats⟩, type, pos, after, guard⟩).run P E.w = .ok (.enter fn (args.map a.eval ++ ys)) E.w := by
          simp [execOp, resolve, hv, Deferred.ofValue, invoke, callFunc, g1, g2', g3', Result.andThen]
        unfold Oper.wp
        rw [hrun]
        simp only [Oper.upon]
        refine Calls.mono' (hc w0 E (args.map a.eval ++ ys) h.g (by simp [hl]) (fun i h1 h2 => ?_)) ?_
        · by_cases hi : i < args.size
          · rw [List.getElem_append_left (by simpa using hi), Array.getElem_append_left (by simpa using hi)]
            simp only [List.getElem_map, Array.getElem_toList, Array.getElem_map]
            exact hr _
          · rw [List.getElem_append_right (by simpa using hi), Array.getElem_append_right (by simpa using hi)]
            simp only [List.length_map, Array.length_toList, Array.size_map]
            exact hcaps _ _ _
        · rintro e w' ⟨v, E', M', x', rfl, rfl, h1, h2, h3, h4⟩
          exact hn v E' M' x' h1 h2 h3 h4
      case b fn caps ys hl hcaps =>
        simp only [callValK] at hop
        obtain ⟨⟨g, g1, g2, g3⟩, hc⟩ := hop
        have g2' : ¬ g.body = none := fun e => by simp [e] at g2
        have g3' : ¬ g.name = "runtime.NumGoroutine" := by simpa using g3
        have hrun : (execOp a.eval ⟨dst, .call ⟨.value f, args, ats⟩, type, pos, after, guard⟩).run P E.w = .ok (.enter fn (ys ++ args.map a.eval)) E.w := by
          simp [execOp, resolve, hv, Deferred.ofValue, invoke, callFunc, g1, g2', g3', Result.andThen]
        unfold Oper.wp
        rw [hrun]
        simp only [Oper.upon]
        refine Calls.mono' (hc w0 E (ys ++ args.map a.eval) h.g (by simp [hl]) (fun i h1 h2 => ?_)) ?_
        · by_cases hi : i < caps.length
          · rw [List.getElem_append_left hi, Array.getElem_append_left (by omega)]
            exact hcaps _ _ _
          · rw [List.getElem_append_right (by omega), Array.getElem_append_right (by omega)]
            simp only [List.getElem_map, Array.getElem_toList, Array.getElem_map, hl]
            exact hr _
        · rintro e w' ⟨v, E', M', x', rfl, rfl, h1, h2, h3, h4⟩
          exact hn v E' M' x' h1 h2 h3 h4
    case builtin b =>
      simp only [opK] at hop
      have hbuilt : ∀ {sm : Sem Value}, execOp a.eval ⟨dst, .call ⟨.builtin b, args, ats⟩, type, pos, after, guard⟩ = (do let d ← resolve a.eval ⟨.builtin b, args, ats⟩ type; invoke d.target d.args) := rfl
      obtain ⟨args⟩ := args
      obtain ⟨ats⟩ := ats
      simp only at hop
      cases b <;> try (simp only [builtinK] at hop)
      case len =>
        match ats, args, hop with
        | [t], [x'], hop =>
          obtain ⟨ti, h1, h2⟩ := hop
          obtain ⟨v, E', M', y, k1, k2, k3, k4, k5⟩ := len_out (P := P) (ty := type) h.g (hT _ _ h1).k (hr x') h2
          unfold Oper.wp
          have hrun : (execOp a.eval ⟨dst, .call ⟨.builtin .len, #[x'], #[t]⟩, type, pos, after, guard⟩).run P E.w = .ok (.value v) E'.w := by
            simp [execOp, resolve, invoke, builtin, k1, Result.andThen]
          rw [hrun]
          exact hn v E' M' y k2 k3 k4 k5
      case append =>
        match ats, args, hop with
        | [t, t2], [x', y], hop =>
          obtain ⟨tt, h1, e, h2, ti, h3, ⟨t2i, h4, h5⟩, h6⟩ := hop
          have hk := (hT _ _ h1).k
          rw [h2] at hk
          have hk2 := (hT _ _ h4).k
          have hd : ∃ d2, P.underlying t2 = some d2 ∧ (d2 = .string ∨ ∃ e2, d2 = .slice e2) := by
            rcases h5 with h5 | ⟨e2, h5⟩ <;> rw [h5] at hk2
            · exact ⟨_, hk2, .inl rfl⟩
            · exact ⟨_, hk2, .inr ⟨_, rfl⟩⟩
          obtain ⟨d2, d3, d4⟩ := hd
          obtain ⟨v, E', M', z, k1, k2, k3, k4, k5⟩ := append_out (P := P) (ty := type) h.g hk (hT _ _ h3) d3 d4 (hr x') (hr y) h6
          unfold Oper.wp
          have hrun : (execOp a.eval ⟨dst, .call ⟨.builtin .append, #[x', y], #[t, t2]⟩, type, pos, after, guard⟩).run P E.w = .ok (.value v) E'.w := by
            simp [execOp, resolve, invoke, builtin, k1, Result.andThen]
          rw [hrun]
          exact hn v E' M' z k2 k3 k4 k5
      case clear =>
        match ats, args, hop with
        | [t], [x'], hop =>
          obtain ⟨tt, h1, e, h2, ti, h3, h6⟩ := hop
          have hk := (hT _ _ h1).k
          rw [h2] at hk
          obtain ⟨v, E', M', z, k1, k2, k3, k4, k5⟩ := clear_out (P := P) (ty := type) h.g hk (hT _ _ h3) (hr x') h6
          unfold Oper.wp
          have hrun : (execOp a.eval ⟨dst, .call ⟨.builtin .clear, #[x'], #[t]⟩, type, pos, after, guard⟩).run P E.w = .ok (.value v) E'.w := by
            simp [execOp, resolve, invoke, builtin, k1, Result.andThen]
          rw [hrun]
          exact hn v E' M' z k2 k3 k4 k5
      case max =>
        match ats, args, hop with
        | ats, [x', y], hop =>
          obtain ⟨v, E', M', z, k1, k2, k3, k4, k5⟩ := max_out (P := P) (ts := ats.toArray) (t := type) h.g (hr x') (hr y) hop
          unfold Oper.wp
          have hrun : (execOp a.eval ⟨dst, .call ⟨.builtin .max, #[x', y], ats.toArray⟩, type, pos, after, guard⟩).run P E.w = .ok (.value v) E'.w := by
            simp [execOp, resolve, invoke, builtin, k1, Result.andThen]
          rw [hrun]
          exact hn v E' M' z k2 k3 k4 k5
      case min =>
        match ats, args, hop with
        | ats, [x', y], hop =>
          obtain ⟨v, E', M', z, k1, k2, k3, k4, k5⟩ := min_out (P := P) (ts := ats.toArray) (t := type) h.g (hr x') (hr y) hop
          unfold Oper.wp
          have hrun : (execOp a.eval ⟨dst, .call ⟨.builtin .min, #[x', y], ats.toArray⟩, type, pos, after, guard⟩).run P E.w = .ok (.value v) E'.w := by
            simp [execOp, resolve, invoke, builtin, k1, Result.andThen]
          rw [hrun]
          exact hn v E' M' z k2 k3 k4 k5

/-- One operation. -/
def aop (P : Program) (tab : Tab) (s : ASt) (K : ASt → Prop) (o : Oper) : Prop :=
  match o.op with
  | .store T x' y => tiK tab T fun ti => storeK ti s.m (ev s.sl x') (ev s.sl y) fun M => setK s K o.dst .x M
  | op => opK P tab s (fun a M => setK s K o.dst a M) op
theorem aop_sound {P : Program} {tab : Tab} (hT : TabOk P tab) {w0 : World} {D : List Deferred} {E : Env} {s : ASt} {a : Act} {o : Oper} {K : ASt → Prop} {next : Act → World → Prop} {Q : Exit → Act → World → Prop}
    (h : St w0 E D s a) (hop : aop P tab s K o) (hn : ∀ E' s' a', St w0 E' D s' a' → Later E E' → K s' → next a' E'.w) : o.wp P a E.w next Q := by
  unfold aop at hop
  split at hop
  · rename_i T x' y he
    obtain ⟨ti, h1, h2⟩ := hop
    obtain ⟨E', M', k1, k2, k3, k4⟩ := store_out (P := P) h.g (hT _ _ h1) (rep_ev h.r x') (rep_ev h.r y) h2
    unfold Oper.wp
    have hrun : (execOp a.eval o).run P E.w = .ok .skip E'.w := by
      obtain ⟨dst, op, type, pos, after, guard⟩ := o
      simp only at he
      subst he
      simp only [execOp, Sem.run_bind, k1, Result.andThen, Sem.run_pure]
    rw [hrun]
    simp only [Oper.upon]
    obtain ⟨s', h3, h4⟩ := h.put (v := undef) k2 k3 (.x _) k4
    exact hn E' s' _ h3 k3 h4
  · refine op_upon hT h hop (fun v E' M' x' k1 k2 k3 k4 => ?_)
    obtain ⟨s', h3, h4⟩ := h.put k1 k2 k3 k4
    exact hn E' s' _ h3 k2 h4

/-- Anywhere: in a function's own frame, or in a round of a range over a function. -/
def FF (ro : Option Nat) : Fence := { Fence.wide with round := ro }
theorem callsFF {ro : Option Nat} {n : Nat} {P : Program} {f : FuncId} {args : Array Value} {w : World} {R : Ending → World → Prop} (h : Calls P f args w R) : CallsIn (FF ro) n P f args w R := by
  cases ro with
  | none => exact callsIn_wide.2 h
  | some l => exact CallsIn.inRound l (callsIn_wide.2 h)
theorem rowsFF {ro : Option Nat} {n : Nat} {P : Program} {row : String} {args : Array Value} {w : World} {R : Value → World → Prop} (h : Rows P row args w R) : RowsIn (FF ro) n P row args w R := by
  intro c cs _
  obtain ⟨v, w', h1, h2⟩ := h c cs
  exact ⟨v, w', h1, stepsIn_wide.2 h2⟩
theorem wpIn_of_wp {ro : Option Nat} {n : Nat} {P : Program} {o : Oper} {a : Act} {w : World} {next : Act → World → Prop} {Q : Exit → Act → World → Prop} (hnd : ∀ c, o.op ≠ .defer c) (h : o.wp P a w next Q) : o.wpIn (FF ro) n P a w next Q := by
  refine ⟨fun _ _ => trivial, ?_⟩
  rw [Oper.semAt_eq _ _ _ hnd]
  unfold Oper.wp at h
  generalize (execOp a.eval o).run P w = r at h
  cases r with
  | ok v w' =>
    cases v <;> first | exact h | exact False.elim h | exact ⟨(fun h => by cases h), callsFF h⟩ | exact ⟨(fun h => by cases h), rowsFF h⟩
  | halt v w' => cases v <;> first | exact h | exact False.elim h

/-- Is an operation carried out? What was not carried out itself has handed back nothing: what waits for it is not either. -/
def gv : AV → Bool → Option Bool
  | .c (.bool c), w => some (c == w)
  | .t [], _ => some false
  | _, _ => none
def gw : Value → Option Bool
  | .bool c => some c
  | _ => none
theorem gv_wanted {E : Env} {a : AV} {v : Value} {w b : Bool} (hr : Rep E a v) (h : gv a w = some b) : (gw v == some w) = b := by
  cases hr <;> try (cases h; done)
  case c h1 =>
    cases v <;> simp only [gv] at h <;> first | (cases h; done) | (injection h)
  case t cs ys h2 h3 =>
    cases cs with
    | nil => simp only [gv] at h; injection h
    | cons _ _ => cases h
def guardK (ops : Array Oper) (s : ASt) : Option (Nat × Bool) → Prop → Prop → Prop
  | none, yes, _ => yes
  | some (j, want), yes, no => ∃ d b, ((ops[j]?).bind (·.dst)) = some d ∧ d < s.N ∧ gv (Slots.get s.sl d) want = some b ∧ if b = true then yes else no
theorem rep_undef {E : Env} : Rep E (.t []) undef := .t [] #[] rfl (fun i h => absurd h (by simp))
def aops (P : Program) (tab : Tab) (ops : Array Oper) (K : ASt → Prop) : List Oper → ASt → Prop
  | [], s => K s
  | o :: r, s => guardK ops s o.guard (aop P tab s (fun s => aops P tab ops K r s) o) (setK s (fun s => aops P tab ops K r s) o.dst (.t []) s.m)
theorem aops_sound {P : Program} {tab : Tab} (hT : TabOk P tab) {ops : Array Oper} {K : ASt → Prop} {Q : Exit → Act → World → Prop} {w0 : World} {D : List Deferred} {ro : Option Nat} :
    ∀ (l : List Oper) (E : Env) (s : ASt) (a : Act), St w0 E D s a → aops P tab ops K l s → (∀ E' s' a', St w0 E' D s' a' → Later E E' → K s' → Q .normal a' E'.w) → wpListIn (FF ro) 0 P ops Q l a E.w
  | [], E, s, a, h, hk, hn => hn E s a h (.refl E) hk
  | o :: r, E, s, a, h, hk, hn => by
    unfold wpListIn
    have hyes : aop P tab s (fun s => aops P tab ops K r s) o → o.wpIn (FF ro) 0 P a E.w (wpListIn (FF ro) 0 P ops Q r) Q := fun hk =>
      wpIn_of_wp (fun c e => by unfold aop at hk; rw [e] at hk; exact hk) (aop_sound hT h hk fun E' s' a' h1 h2 h3 => aops_sound hT r E' s' a' h1 h3 fun E2 s2 a2 g1 g2 g3 => hn E2 s2 a2 g1 (h2.trans g2) g3)
    have hno : setK s (fun s => aops P tab ops K r s) o.dst (.t []) s.m → (∀ f, o.about P E.w a.eval = some f → (FF ro).fn f) ∧ wpListIn (FF ro) 0 P ops Q r (a.put o.dst undef) E.w := fun hk => by
      obtain ⟨s', h3, h4⟩ := h.put (v := undef) h.g (.refl E) rep_undef hk
      exact ⟨fun _ _ => trivial, aops_sound hT r E s' _ h3 h4 hn⟩
    have hk' := hk
    unfold aops at hk'
    cases hgd : o.guard with
    | none =>
      rw [hgd] at hk'
      rw [if_pos (by simp [Region.wanted, hgd])]
      exact hyes hk'
    | some p =>
      obtain ⟨j, want⟩ := p
      rw [hgd] at hk'
      obtain ⟨d, b, h1, h2, h3, h4⟩ := hk'
      have hv := h.r d
      have hy : (yielded ops a.tmps j == some want) = b := by
        unfold yielded
        rw [h1]
        have hd : d < a.tmps.size := by rw [h.n]; exact h2
        have : a.tmps.getD d undef = a.tmps[d] := by simp [Array.getD, hd]
        rw [this] at hv
        simp only [Option.bind_some, Array.getElem?_eq_getElem hd]
        have := gv_wanted hv h3
        generalize a.tmps[d] = v at this ⊢
        cases v <;> exact this
      have hw : Region.wanted o (yielded ops a.tmps) = b := by simp only [Region.wanted, hgd]; exact hy
      cases b with
      | true =>
        simp only [if_true] at h4
        rw [if_pos hw]
        exact hyes h4
      | false =>
        simp only [Bool.false_eq_true, if_false] at h4
        rw [if_neg (by simp [hw])]
        exact hno h4

/-- A piece of code, by what it comes to. -/
def ACode (P : Program) (c : Code) (K : Exit → ASt → Prop) (s : ASt) : Prop :=
  ∀ ro w0 E D a, St w0 E D s a → c.wpIn (FF ro) 0 P (fun ex a' w' => ∃ E' s', E'.w = w' ∧ St w0 E' D s' a' ∧ Later E E' ∧ K ex s') a E.w

def thenK (next : ASt → Prop) (K : Exit → ASt → Prop) : Exit → ASt → Prop
  | .normal, s => next s
  | e, s => K e s
def blockK (id : Nat) (K : Exit → ASt → Prop) : Exit → ASt → Prop
  | .exit j, s => if j = id then K .normal s else K (.exit j) s
  | e, s => K e s
def condK : AV → Prop → Prop → Prop
  | .c (.bool b), yes, no => if b = true then yes else no
  | _, _, _ => False
/-- Code, walked. -/
def aw (P : Program) (tab : Tab) : Code → (Exit → ASt → Prop) → ASt → Prop
  | .skip, K, s => K .normal s
  | .label _, K, s => K .normal s
  | .ret, K, s => K .ret s
  | .exit id, K, s => K (.exit id) s
  | .goto l, K, s => K (.goto l) s
  | .region id ops draw, K, s => bif draw then ACode P (.region id ops true) K s else aops P tab ops (fun s => K .normal s) ops.toList s
  | .seq x' y, K, s => aw P tab x' (thenK (fun s => aw P tab y K s) K) s
  | .cond c x' y, K, s => condK (ev s.sl c) (aw P tab x' K s) (aw P tab y K s)
  | .block id c, K, s => aw P tab c (blockK id K) s
  | .loop c, K, s => ACode P (.loop c) K s
  | .rangeFunc f p x' y, K, s => ACode P (.rangeFunc f p x' y) K s
  | .scope c, K, s => ACode P (.scope c) K s
  | .refuse _, _, _ => False

theorem ACode.mono {P : Program} {c : Code} {K K' : Exit → ASt → Prop} {s : ASt} (h : ACode P c K s) (hk : ∀ e s, K e s → K' e s) : ACode P c K' s :=
  fun ro w0 E D a hs => Code.wpIn_mono (fun _ _ _ ⟨E', s', h1, h2, h3, h4⟩ => ⟨E', s', h1, h2, h3, hk _ _ h4⟩) (h ro w0 E D a hs)

theorem aw_sound {P : Program} {tab : Tab} (hT : TabOk P tab) : ∀ (c : Code) (K : Exit → ASt → Prop) (s : ASt), aw P tab c K s → ACode P c K s
  | .skip, K, s, h => fun ro w0 E D a hs => wpIn_skip ⟨E, s, rfl, hs, .refl E, h⟩
  | .label _, K, s, h => fun ro w0 E D a hs => wpIn_label ⟨E, s, rfl, hs, .refl E, h⟩
  | .ret, K, s, h => fun ro w0 E D a hs => wpIn_ret ⟨E, s, rfl, hs, .refl E, h⟩
  | .exit id, K, s, h => fun ro w0 E D a hs => wpIn_exit ⟨E, s, rfl, hs, .refl E, h⟩
  | .goto l, K, s, h => fun ro w0 E D a hs => wpIn_goto ⟨E, s, rfl, hs, .refl E, h⟩
  | .region id ops true, K, s, h => h
  | .region id ops false, K, s, h => fun ro w0 E D a hs => wpIn_region_list (aops_sound hT _ E s a hs h fun E' s' a' h1 h2 h3 => ⟨E', s', rfl, h1, h2, h3⟩)
  | .seq x' y, K, s, h => fun ro w0 E D a hs => by
    refine wpIn_seq (Code.wpIn_mono ?_ (aw_sound hT x' _ s h ro w0 E D a hs))
    rintro e a' w' ⟨E', s', rfl, h1, h2, h3⟩
    cases e with
    | normal => exact Code.wpIn_mono (fun _ _ _ ⟨E2, s2, g1, g2, g3, g4⟩ => ⟨E2, s2, g1, g2, h2.trans g3, g4⟩) (aw_sound hT y K s' h3 ro w0 E' D a' h1)
    | _ => exact ⟨E', s', rfl, h1, h2, h3⟩
  | .cond c x' y, K, s, h => fun ro w0 E D a hs => by
    have hc := rep_ev hs.r c
    simp only [aw] at h
    generalize ev s.sl c = ac at h hc
    generalize hv : a.eval c = v at hc
    cases hc <;> try exact h.elim
    cases v <;> try exact h.elim
    rename_i b
    refine wpIn_cond_split hv (fun hb => ?_) (fun hb => ?_)
    · subst hb
      exact aw_sound hT x' K s h ro w0 E D a hs
    · subst hb
      simp only [condK, Bool.false_eq_true, if_false] at h
      exact aw_sound hT y K s h ro w0 E D a hs
  | .block id c, K, s, h => fun ro w0 E D a hs => by
    refine wpIn_block (Code.wpIn_mono ?_ (aw_sound hT c _ s h ro w0 E D a hs))
    rintro e a' w' ⟨E', s', rfl, h1, h2, h3⟩
    cases e with
    | exit j =>
      simp only [Exit.inBlock]
      simp only [blockK] at h3
      split <;> rename_i hj
      · rw [if_pos hj] at h3; exact ⟨E', s', rfl, h1, h2, h3⟩
      · rw [if_neg hj] at h3; exact ⟨E', s', rfl, h1, h2, h3⟩
    | _ => exact ⟨E', s', rfl, h1, h2, h3⟩
  | .loop c, K, s, h => h
  | .rangeFunc f p x' y, K, s, h => h
  | .scope c, K, s, h => h
  | .refuse _, _, _, h => h.elim
end Go.Ab

set_option linter.unusedVariables false
set_option linter.unusedSimpArgs false
set_option linter.constructorNameAsVariable false
namespace Go.Ab
open Go Go.RowKit

/-- Of the blocks some are kept. -/
def Env.keep (E : Env) (R : Nat → Bool) (k : Nat) : Env := ⟨E.w, fun i => if R i = true then E.ad i else none, k, E.hid⟩
theorem Rep.keep {E : Env} {R : Nat → Bool} {k : Nat} {a : AV} {v : Value} (hr : Rep E a v) (hu : Under k a) : Rep (E.keep R k) a v := by
  have hz : ∀ b, E.Z b → (E.keep R k).Z b := fun b h => ⟨h.1, h.2.1, fun i q hq hcp => by
    simp only [Env.keep] at hq
    split at hq
    · exact h.2.2 i q hq hcp
    · cases hq⟩
  have had : ∀ i q, (E.keep R k).ad i = some q → E.ad i = some q := fun i q hq => by
    simp only [Env.keep] at hq
    split at hq
    · exact hq
    · cases hq
  induction hr with
  | c v h => exact .c v h
  | x v => exact .x v
  | g cs ys h hr ih => cases hu with | g _ hu => exact .g cs ys h fun i h1 h2 => ih i h1 h2 (hu i h1)
  | t cs ys h hr ih => cases hu with | t _ hu => exact .t cs ys h fun i h1 h2 => ih i h1 h2 (hu i h1)
  | f fn cs ys h hr ih => cases hu with | f _ _ hu => exact .f fn cs ys h fun i h1 h2 => ih i h1 h2 (hu i h1)
  | b fn cs ys h hr ih => cases hu with | b _ _ hu => exact .b fn cs ys h fun i h1 h2 => ih i h1 h2 (hu i h1)
  | u => cases hu
  | w => cases hu
  | l sz xs b off cap y hcap hb hs hc hr ih => cases hu with | l _ _ hu => exact .l sz xs b off cap y hcap (hz b hb) hs hc fun i hi j hj => ih i hi j hj (hu i hi j hj)
  | l0 sz A cap => exact .l0 sz A cap
  | e cs b off y hb hc hr ih => cases hu with | e _ hu => exact .e cs b off y (hz b hb) hc fun j hj => ih j hj (hu j hj)
  | p id i j n a hk h =>
    cases hu with | p _ _ _ _ hu => exact .p id i j n a hu fun q hq => h q (had _ _ hq)
  | s id off n A cap hk h =>
    cases hu with | s _ _ _ hu => exact .s id off n A cap hu fun q hq => h q (had _ _ hq)

def UnderL (k : Nat) (xs : List AV) : Prop := ∀ i (hi : i < xs.length), ∀ j (hj : j < xs[i].cells.length), Under k xs[i].cells[j]
/-- Slots, and blocks, of which as much as is told is so. -/
def slFit (s : Slots) (k : Nat) : Slots → Prop
  | [] => True
  | (t, a) :: r => (Slots.get s t = a ∧ Under k a) ∧ slFit s k r
def memFit (M : Mem) (k : Nat) : List (Nat × Blk) → Prop
  | [] => True
  | (id, b) :: r => (id < k ∧ M.get id = some b ∧ UnderL k b.xs) ∧ memFit M k r
def Fits (s s' : ASt) : Prop := s'.N = s.N ∧ slFit s.sl s'.m.k s'.sl ∧ memFit s.m s'.m.k s'.m.l
theorem slFit.get {s : Slots} {k : Nat} : ∀ {l : Slots}, slFit s k l → ∀ t, Slots.get l t = .x ∨ (Slots.get l t = Slots.get s t ∧ Under k (Slots.get s t))
  | [], _, t => .inl rfl
  | (t0, a) :: r, h, t => by
    by_cases e : t0 = t
    · subst e
      right
      have : Slots.get ((t0, a) :: r) t0 = a := by simp [Slots.get, assoc]
      rw [this, h.1.1]
      exact ⟨rfl, h.1.2⟩
    · have : Slots.get ((t0, a) :: r) t = Slots.get r t := by simp [Slots.get, assoc, beq_ne e]
      rw [this]
      exact slFit.get h.2 t
theorem memFit.get {M : Mem} {k : Nat} : ∀ {l : List (Nat × Blk)}, memFit M k l → ∀ id b, assoc l id = some b → id < k ∧ M.get id = some b ∧ UnderL k b.xs
  | [], _, id, b, h => by cases h
  | (i0, b0) :: r, h, id, b, he => by
    by_cases e : i0 = id
    · subst e
      simp only [assoc, Nat.beq_refl, cond_true, Option.some.injEq] at he
      subst he
      exact h.1
    · simp only [assoc, beq_ne e, cond_false] at he
      exact memFit.get h.2 id b he

theorem Good.keep {w0 : World} {E : Env} {M M' : Mem} (hg : Good w0 E M) (h : memFit M M'.k M'.l) : Good w0 (E.keep (fun i => (M'.get i).isSome) M'.k) M' := by
  have had : ∀ i q, (E.keep (fun i => (M'.get i).isSome) M'.k).ad i = some q → E.ad i = some q ∧ ∃ b, M'.get i = some b := fun i q hq => by
    simp only [Env.keep] at hq
    split at hq
    · rename_i h; exact ⟨hq, Option.isSome_iff_exists.1 h⟩
    · cases hq
  refine ⟨hg.below, rfl, fun i q hq => ?_, fun i hi => ?_, fun i blk hi => ?_, fun i q hq hcp => hg.hid i q (had i q hq).1 hcp, hg.old, fun i i' q1 q2 hne h1 h2 hc1 hc2 => hg.inj i i' q1 q2 hne (had _ _ h1).1 (had _ _ h2).1 hc1 hc2⟩
  · obtain ⟨_, b, hb⟩ := had i q hq
    exact (h.get i b hb).1
  · simp only [Env.keep, hi]; rfl
  · obtain ⟨g1, g2, g3⟩ := h.get i blk hi
    obtain ⟨q, h1, h2, h3, h4, h5⟩ := hg.held i blk g2
    refine ⟨q, by simp only [Env.keep, hi]; exact h1, h2, h3, h4, fun hcp => ⟨(h5 hcp).1, ?_⟩⟩
    obtain ⟨a0, arr, a1, a2, a3⟩ := (h5 hcp).2
    refine ⟨a0, arr, a1, a2, fun i' hi' => ⟨(a3 i' hi').1, fun j hj => ?_⟩⟩
    obtain ⟨y, b1, b2, b3⟩ := (a3 i' hi').2 j hj
    exact ⟨y, b1, b2, b3.keep (g3 i' hi' j hj)⟩
theorem Later.keep' {E0 E : Env} (h : Later E0 E) (R : Nat → Bool) {k : Nat} (hk : E0.k ≤ k) : Later E0 (E.keep R k) := by
  refine ⟨fun b hb => ⟨⟨(h.z b hb).1.1, (h.z b hb).1.2.1, fun i q hq hcp => ?_⟩, (h.z b hb).2⟩, hk, fun i hi q hq => ?_, h.hid, h.hs⟩
  · simp only [Env.keep] at hq
    split at hq
    · exact (h.z b hb).1.2.2 i q hq hcp
    · cases hq
  · simp only [Env.keep] at hq
    split at hq
    · exact h.ad i hi q hq
    · cases hq
theorem St.fit {w0 : World} {D : List Deferred} {E0 E : Env} {s s' : ASt} {a : Act} (h : St w0 E D s a) (hf : Fits s s') (hl : Later E0 E) (hk : E0.k ≤ s'.m.k) : ∃ E', E'.w = E.w ∧ St w0 E' D s' a ∧ Later E0 E' := by
  obtain ⟨h1, h2, h3⟩ := hf
  refine ⟨E.keep (fun i => (s'.m.get i).isSome) s'.m.k, rfl, ⟨h.g.keep h3, fun t => ?_, by rw [h1]; exact h.n, h.d⟩, hl.keep' _ hk⟩
  rcases h2.get t with e | ⟨e1, e2⟩
  · rw [e]; exact .x _
  · rw [e1]; exact (h.r t).keep e2

/-- A loop, by what holds at its head. -/
theorem loop_rule' {P : Program} {tab : Tab} (hT : TabOk P tab) {c : Code} {K : Exit → ASt → Prop} {s : ASt} {α : Type} (I : α → ASt) (G : α → Prop) (μ : α → Nat) (x0 : α) (h0 : G x0)
    (hs : Fits s (I x0)) (hk : ∀ y, s.m.k ≤ (I y).m.k)
    (round : ∀ y, G y → aw P tab c (thenK (fun s' => ∃ y', G y' ∧ μ y' < μ y ∧ Fits s' (I y')) K) (I y)) : ACode P (.loop c) K s := by
  intro ro w0 E D a hst
  obtain ⟨E1, e1, hs1, hl1⟩ := hst.fit hs (.refl E) (by rw [← hst.g.k]; exact hk _)
  rw [← e1]
  refine wpIn_loop_ghost (fun n a w => ∃ E' y, E'.w = w ∧ St w0 E' D (I y) a ∧ Later E E' ∧ G y ∧ μ y = n) (μ x0) ⟨E1, x0, rfl, hs1, hl1, h0, rfl⟩ ?_
  rintro n a w ⟨E2, y, rfl, hs2, hl2, hG, rfl⟩
  refine Code.wpIn_mono ?_ (aw_sound hT c _ _ (round y hG) ro w0 E2 D a hs2)
  rintro e a' w' ⟨E3, s3, rfl, hs3, hl3, hK⟩
  cases e with
  | normal =>
    obtain ⟨y', h1, h2, h3⟩ := hK
    obtain ⟨E4, e4, hs4, hl4⟩ := hs3.fit h3 (hl2.trans hl3) (by rw [← hst.g.k]; exact hk _)
    exact ⟨μ y', h2, E4, y', e4, hs4, hl4, h1, rfl⟩
  | _ => exact ⟨E3, s3, rfl, hs3, hl2.trans hl3, hK⟩

theorem loop_rule {P : Program} {tab : Tab} (hT : TabOk P tab) {c : Code} {K : Exit → ASt → Prop} {s : ASt} {α : Type} (I : α → ASt) (G : α → Prop) (μ : α → Nat) (x0 : α) (h0 : G x0)
    (hs : Fits s (I x0)) (hk : ∀ y, (I y).m.k = s.m.k)
    (round : ∀ y, G y → aw P tab c (thenK (fun s' => ∃ y', G y' ∧ μ y' < μ y ∧ Fits s' (I y')) K) (I y)) : ACode P (.loop c) K s :=
  loop_rule' hT I G μ x0 h0 hs (fun y => by rw [hk]; exact Nat.le_refl _) round

/-- What a function hands back. -/
def resK (tab : Tab) (sl : Slots) (M : Mem) (K : List AV → Prop) : List ResultVar → Prop
  | [] => K []
  | .tmp t :: r => resK tab sl M (fun vs => K (Slots.get sl t :: vs)) r
  | .cell d T :: r => tiK tab T fun ti => ti.k.known = true ∧ loadK ti M (Slots.get sl d) fun a _ => resK tab sl M (fun vs => K (a :: vs)) r
def oneK (K : AV → Prop) : List AV → Prop
  | [a] => K a
  | vs => K (.t vs)
def retK (tab : Tab) (fn : Func) (K : AV → Mem → Prop) : Exit → ASt → Prop
  | .normal, s => resK tab s.sl s.m (oneK fun a => K a s.m) fn.results.toList
  | .ret, s => resK tab s.sl s.m (oneK fun a => K a s.m) fn.results.toList
  | _, _ => False
def mkSlots : Nat → List AV → Slots
  | _, [] => []
  | n, a :: r => (n, a) :: mkSlots (n + 1) r
theorem mkSlots_get : ∀ (l : List AV) (n t : Nat), Slots.get (mkSlots n l) t = if n ≤ t then (l[t - n]?).getD .x else .x
  | [], n, t => by simp [mkSlots, Slots.get, assoc]
  | a :: r, n, t => by
    by_cases e : n = t
    · subst e; simp [mkSlots, Slots.get, assoc]
    · have : Slots.get (mkSlots n (a :: r)) t = Slots.get (mkSlots (n + 1) r) t := by simp [mkSlots, Slots.get, assoc, beq_ne e]
      rw [this, mkSlots_get r (n + 1) t]
      by_cases h : n ≤ t
      · rw [if_pos (by omega), if_pos h]
        have : t - n = (t - (n + 1)) + 1 := by omega
        rw [this, List.getElem?_cons_succ]
      · rw [if_neg (by omega), if_neg h]

theorem load_run {P : Program} {w0 : World} {E : Env} {M : Mem} {t : TypeId} {ti : TI} {a : AV} {v : Value} {K : AV → Mem → Prop} (hg : Good w0 E M) (ht : TOk P t ti) (ho : ti.k.known = true)
    (hr : Rep E a v) (h : loadK ti M a K) : ∃ ad u x', v = .pointer (some ad) ∧ (loadVar t ad).run P E.w = .ok u E.w ∧ Rep E x' u ∧ K x' M := by
  cases hr <;> try exact h.elim
  case p id i j n a hk hp =>
    obtain ⟨blk, hM, hn, hs, hj, hi, hK⟩ := h
    obtain ⟨q, h1, h2, h3, h4, h5, h6, hcl, y, _⟩ := own_cell hg hM hi hj
    have ha := (hp q h1).2 (by omega)
    subst ha
    obtain ⟨v, hv, hrv⟩ := load_cells (E := E) (b := q.b) (off := i * q.sz + j) (cs := blk.xs[i].cells.drop j) ht ho (fun k hk => by
      simp only [List.length_drop, hcl] at hk
      obtain ⟨q', g1, g2, g3, g4, g5, g6, _, y, g8, g9, g10⟩ := own_cell hg hM hi (j := j + k) (by omega)
      rw [h1] at g1
      cases g1
      refine ⟨y, by rw [Nat.add_assoc]; exact g8, ?_⟩
      simpa using g10) (by simp [hcl]; omega) (by simp [hcl]; omega)
    exact ⟨_, v, _, rfl, hv, hrv, hK⟩
  case c hone =>
    cases v <;> try exact h.elim
    rename_i q
    cases q with
    | none => exact h.elim
    | some a =>
      obtain ⟨b, off, spot⟩ := a
      obtain ⟨rfl, hag, hs1, vs, u, hm, hv, ho1, hK⟩ := h
      dsimp only at hm hv
      obtain ⟨v, hv2, hrv⟩ := load_cells (P := P) (E := E) (b := b) (off := off) (cs := [.c u]) ht ho (fun k hk => by
        have hk0 : k = 0 := by simpa using hk
        subst hk0
        exact ⟨u, by rw [Nat.add_zero]; exact gload_cell hg hm hv, .c u ho1⟩) (by simp [hs1]) (by simp)
      have hp : part ti [.c u] = .c u := by simp [part, hag]
      rw [hp] at hrv
      exact ⟨_, v, _, rfl, hv2, hrv, hK⟩
  case e cs b off y hz hc hr =>
    obtain ⟨hs, h0, hK⟩ := h
    obtain ⟨v, hv, hrv⟩ := load_cells (E := E) (b := b) (off := off) (cs := cs) ht ho (fun k hk => ⟨y k, (hc k hk).1, hr k hk⟩) hs h0
    exact ⟨_, v, _, rfl, hv, hrv, hK⟩

def resOne (tmps : Array Value) : ResultVar → Sem Value
  | .tmp t => pure (tmps.getD t undef)
  | .cell d t => do loadVar t (← asAddr (tmps.getD d undef))
theorem res_run {P : Program} {tab : Tab} (hT : TabOk P tab) {w0 : World} {D : List Deferred} {E : Env} {s : ASt} {a : Act} (h : St w0 E D s a) : ∀ (l : List ResultVar) (K : List AV → Prop), resK tab s.sl s.m K l →
    ∃ vs xs, (l.mapM (resOne a.tmps)).run P E.w = .ok vs E.w ∧ vs.length = xs.length ∧ (∀ i (h1 : i < xs.length) (h2 : i < vs.length), Rep E xs[i] vs[i]) ∧ K xs
  | [], K, hk => ⟨[], [], rfl, rfl, fun i h => absurd h (by simp), hk⟩
  | .tmp t :: r, K, hk => by
    obtain ⟨vs, xs, h1, h2, h3, h4⟩ := res_run hT h r _ hk
    refine ⟨a.tmps.getD t undef :: vs, Slots.get s.sl t :: xs, by simp [List.mapM_cons, resOne, h1, Result.andThen], by simp [h2], fun i g1 g2 => ?_, h4⟩
    cases i with
    | zero => exact h.r t
    | succ i => exact h3 i (by simpa using g1) (by simpa using g2)
  | .cell d T :: r, K, hk => by
    obtain ⟨ti, k1, k2, k3⟩ := hk
    obtain ⟨ad, u, x', e1, e2, e3, e4⟩ := load_run (P := P) h.g (hT _ _ k1) k2 (h.r d) k3
    obtain ⟨vs, xs, h1, h2, h3, h4⟩ := res_run hT h r _ e4
    have hone : (resOne a.tmps (.cell d T)).run P E.w = .ok u E.w := by
      simp only [resOne, Sem.run_bind, e1, asAddr, Sem.run_pure, Result.andThen, e2]
    refine ⟨u :: vs, x' :: xs, by rw [List.mapM_cons]; simp only [Sem.run_bind, hone, Result.andThen, h1, Sem.run_pure], by simp [h2], fun i g1 g2 => ?_, h4⟩
    cases i with
    | zero => exact e3
    | succ i => exact h3 i (by simpa using g1) (by simpa using g2)
theorem results_eq (fn : Func) (tmps : Array Value) : results fn tmps = (do let vs ← fn.results.mapM (resOne tmps); pure (if h : vs.size = 1 then vs[0] else .tuple vs)) := by
  unfold results
  refine congrArg (fun m : Sem (Array Value) => (do let vs ← m; pure (if h : vs.size = 1 then vs[0] else .tuple vs))) ?_
  refine congrArg (fun g : ResultVar → Sem Value => fn.results.mapM g) ?_
  funext z
  cases z <;> rfl
theorem results_run {P : Program} {tab : Tab} (hT : TabOk P tab) {w0 : World} {D : List Deferred} {E : Env} {s : ASt} {a : Act} (h : St w0 E D s a) {fn : Func} {K : AV → Prop} (hk : resK tab s.sl s.m (oneK K) fn.results.toList) :
    ∃ v x', (results fn a.tmps).run P E.w = .ok v E.w ∧ Rep E x' v ∧ K x' := by
  obtain ⟨vs, xs, h1, h2, h3, h4⟩ := res_run hT h fn.results.toList _ hk
  have hm : (fn.results.mapM (resOne a.tmps)).run P E.w = .ok vs.toArray E.w := by
    rw [Array.mapM_eq_mapM_toList]
    simp [h1, Result.andThen]
  have hrun : (results fn a.tmps).run P E.w = .ok (if h : vs.toArray.size = 1 then vs.toArray[0] else .tuple vs.toArray) E.w := by
    rw [results_eq]
    simp only [Sem.run_bind, hm, Result.andThen, Sem.run_pure]
  clear h1 hm
  match xs, vs, h2, h3, h4, hrun with
  | [x'], [v], _, h3, h4, hrun => exact ⟨v, x', by rw [hrun]; rfl, h3 0 (by simp) (by simp), h4⟩
  | [], [], _, h3, h4, hrun => exact ⟨.tuple #[], .t [], by rw [hrun]; rfl, .t [] #[] rfl (fun i h => absurd h (by simp)), h4⟩
  | x' :: y :: xs, v :: u :: vs, h2, h3, h4, hrun =>
    exact ⟨.tuple (v :: u :: vs).toArray, .t (x' :: y :: xs), by rw [hrun]; simp, .t _ _ (by simpa using h2) (fun i g1 g2 => by simpa using h3 i g1 (by simpa using g2)), h4⟩

/-- A call, by its function's body. -/
theorem icall_body {P : Program} {tab : Tab} (hT : TabOk P tab) {f : FuncId} {fn : Func} {c : Code} {args : List AV} {M : Mem} {K : AV → Mem → Prop} (hf : P.funcs[f]? = some fn) (hb : fn.body = some c)
    (hn : (fn.name == "runtime.NumGoroutine") = false) (hl : args.length ≤ fn.ntmps) (h : ACode P c (retK tab fn K) ⟨mkSlots 0 args, M, fn.ntmps⟩) : ICall P f args M K := by
  refine ⟨⟨fn, hf, by rw [hb]; rfl, hn⟩, fun w0 E vs hg hs hr => calls_of_wp hf hb ?_⟩
  have hst : St w0 E [] ⟨mkSlots 0 args, M, fn.ntmps⟩ { tmps := vs ++ Array.replicate (fn.ntmps - vs.size) undef, defers := [] } := by
    refine ⟨hg, fun t => ?_, by simp; omega, rfl⟩
    simp only [mkSlots_get, Nat.zero_le, if_true, Nat.sub_zero]
    by_cases ht : t < args.length
    · rw [List.getElem?_eq_getElem ht]
      have ht2 : t < vs.size := by omega
      have : (vs ++ Array.replicate (fn.ntmps - vs.size) undef).getD t undef = vs[t] := by
        simp only [Array.getD_eq_getD_getElem?]
        rw [Array.getElem?_append_left ht2]
        simp [ht2]
      rw [this]
      exact hr t ht ht2
    · rw [List.getElem?_eq_none (by omega)]
      exact .x _
  refine Code.wp_mono ?_ (wpIn_wide.1 (h none w0 E [] _ hst))
  rintro e a' w' ⟨E', s', rfl, h1, h2, h3⟩
  cases e <;> try exact h3.elim
  all_goals
    obtain ⟨v, x', g1, g2, g3⟩ := results_run hT h1 h3
    exact ⟨h1.d, v, g1, v, E', s'.m, x', rfl, rfl, h1.g, h2, g2, g3⟩
end Go.Ab

set_option linter.unusedVariables false
set_option linter.unusedSimpArgs false
set_option linter.constructorNameAsVariable false
namespace Go.Ab
open Go Go.RowKit

/-- No slice may be told as one of no elements. -/
def Weak1 : AV → AV → Prop
  | .c (.slice none 0 0), .l _ [] => True
  | a, b => a = b
theorem Weak1.rep {E : Env} {a b : AV} {v : Value} (h : Weak1 a b) (hr : Rep E a v) : Rep E b v := by
  unfold Weak1 at h
  split at h
  · cases hr; exact .l0 _ _ _
  · subst h; exact hr
theorem Weak1.g {cs : List AV} {b : AV} (h : Weak1 (.g cs) b) : AV.g cs = b := by
  rwa [Weak1.eq_2 _ _ (by intro sz h1 h2; cases h1)] at h
theorem Weak1.t {cs : List AV} {b : AV} (h : Weak1 (.t cs) b) : AV.t cs = b := by
  rwa [Weak1.eq_2 _ _ (by intro sz h1 h2; cases h1)] at h
theorem Weak1.toG {cs : List AV} {a : AV} (h : Weak1 a (.g cs)) : a = .g cs := by
  rwa [Weak1.eq_2 _ _ (by intro sz h1 h2; cases h2)] at h
theorem Weak1.toT {cs : List AV} {a : AV} (h : Weak1 a (.t cs)) : a = .t cs := by
  rwa [Weak1.eq_2 _ _ (by intro sz h1 h2; cases h2)] at h
theorem Weak1.toO {T : TypeId} {sz : Nat} {xs : List AV} {a : AV} (h : Weak1 a (.o T sz xs)) : a = .o T sz xs := by
  rwa [Weak1.eq_2 _ _ (by intro sz h1 h2; cases h2)] at h
theorem Weak1.refl (a : AV) : Weak1 a a := by
  rw [Weak1.eq_2 _ _ (by intro sz h1 h2; rw [h1] at h2; cases h2)]
def WeakL : List AV → List AV → Prop
  | [], [] => True
  | a :: r, b :: s => Weak1 a b ∧ WeakL r s
  | _, _ => False
theorem WeakL.len : ∀ {l m : List AV}, WeakL l m → l.length = m.length
  | [], [], _ => rfl
  | a :: r, b :: s, h => by simp [h.2.len]
  | [], _ :: _, h => h.elim
  | _ :: _, [], h => h.elim
theorem WeakL.get : ∀ {l m : List AV}, WeakL l m → ∀ i (h1 : i < l.length) (h2 : i < m.length), Weak1 l[i] m[i]
  | a :: r, b :: s, h, 0, _, _ => h.1
  | a :: r, b :: s, h, i + 1, h1, h2 => h.2.get i (by simpa using h1) (by simpa using h2)
  | [], [], _, i, h1, _ => absurd h1 (by simp)
  | [], _ :: _, h, _, _, _ => h.elim
  | _ :: _, [], h, _, _, _ => h.elim
theorem WeakL.refl : ∀ l, WeakL l l
  | [] => trivial
  | a :: r => ⟨.refl a, .refl r⟩
def Weak : AV → AV → Prop
  | .g cs, .g ds => WeakL cs ds
  | a, b => Weak1 a b
theorem Weak.rep {E : Env} {a b : AV} {v : Value} (h : Weak a b) (hr : Rep E a v) : Rep E b v := by
  unfold Weak at h
  split at h
  · cases hr with
    | g _ ys hl hr => exact .g _ ys (by rw [← h.len]; exact hl) fun i h1 h2 => (h.get i (by rw [h.len]; exact h1) h1).rep (hr i _ h2)
  · exact h.rep hr

/-- What a function hands back, as data: a block of its own that goes to the caller (o), one that nobody writes any more (l). -/
def ExpC (M : Mem) : AV → AV → List Nat → List Nat → Prop
  | .s id off n, .o T sz xs, ids, fz => off = 0 ∧ ids = [id] ∧ fz = [] ∧ M.get id = some ⟨T, sz, xs⟩ ∧ n = xs.length ∧ PureL xs
  | .s id off n, .l sz xs, ids, fz => ids = [] ∧ fz = [id] ∧ blkK M id (off + n) fun blk => blk.sz = sz ∧ blk.xs.drop off = xs ∧ PureL blk.xs
  | a, b, ids, fz => Weak1 a b ∧ Under 0 b ∧ ids = [] ∧ fz = []
def ExpL (M : Mem) : List AV → List AV → List Nat → List Nat → Prop
  | [], [], ids, fz => ids = [] ∧ fz = []
  | a :: r, b :: s, ids, fz => ∃ i1 i2 f1 f2, ids = i1 ++ i2 ∧ fz = f1 ++ f2 ∧ ExpC M a b i1 f1 ∧ ExpL M r s i2 f2
  | _, _, _, _ => False
def ExpA (M : Mem) : AV → AV → List Nat → List Nat → Prop
  | .g cs, .g ds, ids, fz => ExpL M cs ds ids fz
  | a, b, ids, fz => ExpC M a b ids fz
def ExpLA (M : Mem) : List AV → List AV → List Nat → List Nat → Prop
  | [], [], ids, fz => ids = [] ∧ fz = []
  | a :: r, b :: s, ids, fz => ∃ i1 i2 f1 f2, ids = i1 ++ i2 ∧ fz = f1 ++ f2 ∧ ExpA M a b i1 f1 ∧ ExpLA M r s i2 f2
  | _, _, _, _ => False
def ExpR (M : Mem) : AV → AV → List Nat → List Nat → Prop
  | .t cs, .t ds, ids, fz => ExpLA M cs ds ids fz
  | a, b, ids, fz => ExpA M a b ids fz
def Exp (M : Mem) (a b : AV) : Prop := ∃ ids fz, ExpR M a b ids fz ∧ ids.Nodup ∧ ∀ i ∈ ids, i ∉ fz

/-- The contract of a function on data. -/
def PCall (P : Program) (f : FuncId) (args : List AV) (res : AV) : Prop := ICall P f args ⟨[], 0⟩ fun a M => Exp M a res

def thawC (k : Nat) : AV → AV
  | .o _ _ xs => .s k 0 xs.length
  | a => a
def blksC : AV → List Blk
  | .o T sz xs => [⟨T, sz, xs⟩]
  | _ => []
def thawL : Nat → List AV → List AV
  | _, [] => []
  | k, a :: r => thawC k a :: thawL (k + (blksC a).length) r
def blksL : List AV → List Blk
  | [] => []
  | a :: r => blksC a ++ blksL r
def thawA (k : Nat) : AV → AV
  | .g cs => .g (thawL k cs)
  | a => thawC k a
def blksA : AV → List Blk
  | .g cs => blksL cs
  | a => blksC a
def thawLA : Nat → List AV → List AV
  | _, [] => []
  | k, a :: r => thawA k a :: thawLA (k + (blksA a).length) r
def blksLA : List AV → List Blk
  | [] => []
  | a :: r => blksA a ++ blksLA r
def thaw (k : Nat) : AV → AV
  | .t vs => .t (thawLA k vs)
  | a => thawA k a
def blks : AV → List Blk
  | .t vs => blksLA vs
  | a => blksA a
def Mem.adds (M : Mem) : List Blk → Mem
  | [] => M
  | b :: r => (newMem M b).adds r
theorem adds_k (M : Mem) : ∀ bs, (M.adds bs).k = M.k + bs.length
  | [] => rfl
  | b :: r => by
    have := adds_k (newMem M b) r
    simp only [Mem.adds, this, List.length_cons]
    simp only [newMem]; omega
theorem adds_get (M : Mem) : ∀ bs i, (M.adds bs).get i = if i < M.k then M.get i else (if i - M.k < bs.length then bs[i - M.k]? else M.get i)
  | [], i => by simp [Mem.adds]
  | b :: r, i => by
    have := adds_get (newMem M b) r i
    simp only [Mem.adds, this]
    have hk : (newMem M b).k = M.k + 1 := rfl
    have hg : (newMem M b).get i = if M.k = i then some b else M.get i := by simp [newMem, Mem.get, assoc_insert]
    rw [hk, hg]
    by_cases h1 : i < M.k
    · rw [if_pos (by omega), if_neg (by omega), if_pos h1]
    · by_cases h2 : M.k = i
      · subst h2
        simp
      · rw [if_neg (by omega), if_neg h1]
        simp only [h2, if_false, List.length_cons]
        have : i - M.k = (i - (M.k + 1)) + 1 := by omega
        by_cases h3 : i - (M.k + 1) < r.length
        · rw [if_pos h3, if_pos (by omega), this, List.getElem?_cons_succ]
        · rw [if_neg h3, if_neg (by omega)]

/-- Data without memory. -/
inductive Flat : AV → Prop where
  | c (v : Value) : Flat (.c v)
  | g (cs : List AV) (h : ∀ i (hi : i < cs.length), Flat cs[i]) : Flat (.g cs)
  | t (cs : List AV) (h : ∀ i (hi : i < cs.length), Flat cs[i]) : Flat (.t cs)
theorem Rep.flat {E E' : Env} {a : AV} {v : Value} (h : Rep E a v) (hf : Flat a) : Rep E' a v := by
  induction h with
  | c v h => exact .c v h
  | g cs ys h hr ih => cases hf with | g _ hf => exact .g cs ys h fun i h1 h2 => ih i h1 h2 (hf i h1)
  | t cs ys h hr ih => cases hf with | t _ hf => exact .t cs ys h fun i h1 h2 => ih i h1 h2 (hf i h1)
  | _ => cases hf
theorem Rep.pure {E E' : Env} (hz : ∀ b, E.Z b → E'.Z b ∧ E'.w.heap[b]? = E.w.heap[b]?) {a : AV} {v : Value} (hr : Rep E a v) (hu : Under 0 a) : Rep E' a v := by
  induction hr with
  | c v h => exact .c v h
  | x v => exact .x v
  | g cs ys h hr ih => cases hu with | g _ hu => exact .g cs ys h fun i h1 h2 => ih i h1 h2 (hu i h1)
  | t cs ys h hr ih => cases hu with | t _ hu => exact .t cs ys h fun i h1 h2 => ih i h1 h2 (hu i h1)
  | f fn cs ys h hr ih => cases hu with | f _ _ hu => exact .f fn cs ys h fun i h1 h2 => ih i h1 h2 (hu i h1)
  | b fn cs ys h hr ih => cases hu with | b _ _ hu => exact .b fn cs ys h fun i h1 h2 => ih i h1 h2 (hu i h1)
  | u => cases hu
  | w => cases hu
  | l sz xs b off cap y hcap hb hs hc hr ih =>
    cases hu with | l _ _ hu =>
    refine .l sz xs b off cap y hcap (hz b hb).1 hs (fun i j hi hj => ?_) fun i hi j hj => ih i hi j hj (hu i hi j hj)
    rw [cell_same (hz b hb).2]; exact hc i j hi hj
  | l0 sz A cap => exact .l0 sz A cap
  | e cs b off y hb hc hr ih =>
    cases hu with | e _ hu =>
    refine .e cs b off y (hz b hb).1 (fun j hj => ?_) fun j hj => ih j hj (hu j hj)
    rw [cell_same (hz b hb).2]; exact hc j hj
  | p id i j n a hk h => cases hu; omega
  | s id off n A cap hk h => cases hu; omega

/-- Blocks of a callee's come to the caller. E1: the caller's moment ahead of the call (what it gives up is given up); E': the callee's end. -/
def Env.import (E1 E' : Env) (ids : List Nat) : Env := ⟨E'.w, fun i => if i < E1.k then E1.ad i else (ids[i - E1.k]?).bind E'.ad, E1.k + ids.length, E1.hid⟩
theorem Good.lt_b {w0 : World} {E : Env} {M : Mem} (hg : Good w0 E M) {i : Nat} {q : At} (hq : E.ad i = some q) (hcp : 0 < q.cp) : w0.heap.size ≤ q.b ∧ q.b < E.w.heap.size := by
  cases hM : M.get i with
  | none => rw [hg.gone i hM] at hq; cases hq
  | some blk =>
    obtain ⟨q1, b1, _, _, _, b5⟩ := hg.held i blk hM
    rw [hq] at b1; cases b1
    exact ⟨(b5 hcp).1, backed_lt (b5 hcp).2⟩
theorem Good.import {w0 : World} {E1 E' : Env} {M1 M' : Mem} (hg : Good w0 E1 M1) (hc : Good E1.w E' M') (ids : List Nat) (bs : List Blk) (hn : ids.Nodup) (hlen : ids.length = bs.length)
    (hb : ∀ j (h1 : j < ids.length) (h2 : j < bs.length), M'.get ids[j] = some bs[j])
    (hmove : ∀ b ∈ bs, ∀ i (hi : i < b.xs.length), ∀ j (hj : j < b.xs[i].cells.length), ∀ v, Rep E' b.xs[i].cells[j] v → Rep (E1.import E' ids) b.xs[i].cells[j] v) :
    Good w0 (E1.import E' ids) (M1.adds bs) ∧ Later E1 (E1.import E' ids) := by
  have hw := hc.below
  have hnew : ∀ i q, E1.k ≤ i → (E1.import E' ids).ad i = some q → ∃ h : i - E1.k < ids.length, E'.ad ids[i - E1.k] = some q := fun i q hi hq => by
    simp only [Env.import, if_neg (Nat.not_lt.2 hi)] at hq
    cases h : ids[i - E1.k]? with
    | none => rw [h] at hq; cases hq
    | some id =>
      rw [h] at hq
      obtain ⟨h1, h2⟩ := List.getElem?_eq_some_iff.1 h
      exact ⟨h1, by rw [h2]; exact hq⟩
  have hold : ∀ i, i < E1.k → (E1.import E' ids).ad i = E1.ad i := fun i hi => by simp only [Env.import, if_pos hi]
  have hl : Later E1 (E1.import E' ids) := by
    refine ⟨fun b hb => ⟨⟨Nat.lt_of_lt_of_le hb.1 hw.size, hb.2.1, fun i q hq hcp => ?_⟩, hw.block b hb.1⟩, by show E1.k ≤ E1.k + ids.length; omega, fun i hi q hq => ?_, rfl, fun b hb => hw.block b (hg.old b hb)⟩
    · by_cases hi : i < E1.k
      · rw [hold i hi] at hq; exact hb.2.2 i q hq hcp
      · obtain ⟨_, h2⟩ := hnew i q (by omega) hq
        have := (hc.lt_b h2 hcp).1
        have := hb.1
        omega
    · rw [hold i hi] at hq; exact ⟨q, hq, Nat.le_refl _, fun _ => rfl, fun _ _ => ⟨rfl, rfl⟩⟩
  refine ⟨⟨hg.below.trans (hw.mono hg.below.size), by rw [adds_k, hg.k, ← hlen]; rfl, fun i q hq => ?_, fun i hi => ?_, fun i blk hi => ?_, fun i q hq hcp => ?_, fun b hb => Nat.lt_of_lt_of_le (hg.old b hb) hw.size, fun i i' q1 q2 hne h1 h2 hc1 hc2 => ?_⟩, hl⟩
  · show i < E1.k + ids.length
    by_cases hi : i < E1.k
    · omega
    · obtain ⟨h1, _⟩ := hnew i q (by omega) hq; omega
  · rw [adds_get] at hi
    by_cases h : i < M1.k
    · rw [if_pos h] at hi
      rw [hold i (by rw [← hg.k]; exact h)]
      exact hg.gone i hi
    · rw [if_neg h] at hi
      by_cases h2 : i - M1.k < bs.length
      · rw [if_pos h2, List.getElem?_eq_getElem h2] at hi; cases hi
      · cases hq : (E1.import E' ids).ad i with
        | none => rfl
        | some q =>
          obtain ⟨h3, _⟩ := hnew i q (by rw [← hg.k]; omega) hq
          rw [← hg.k] at h3; omega
  · rw [adds_get] at hi
    by_cases h : i < M1.k
    · rw [if_pos h] at hi
      obtain ⟨q, h1, h2, h3, h4, h5⟩ := hg.held i blk hi
      exact ⟨q, by rw [hold i (by rw [← hg.k]; exact h)]; exact h1, h2, h3, h4, fun hcp => ⟨(h5 hcp).1, ((h5 hcp).2).later hl (hw.block _ (backed_lt (h5 hcp).2))⟩⟩
    · rw [if_neg h] at hi
      by_cases h2 : i - M1.k < bs.length
      · rw [if_pos h2, List.getElem?_eq_getElem h2] at hi
        injection hi with hi
        have h3 : i - E1.k < ids.length := by rw [← hg.k, hlen]; exact h2
        have hke : i - E1.k = i - M1.k := by rw [hg.k]
        have hget := hb (i - E1.k) h3 (by rw [← hlen]; exact h3)
        simp only [hke] at hget h3
        rw [hi] at hget
        obtain ⟨q, a1, a2, a3, a4, a5⟩ := hc.held _ _ hget
        refine ⟨q, ?_, a2, a3, a4, fun hcp => ⟨Nat.le_trans hg.below.size (a5 hcp).1, ?_⟩⟩
        · simp only [Env.import]
          rw [if_neg (by rw [← hg.k]; exact h), hke, List.getElem?_eq_getElem h3]
          exact a1
        · obtain ⟨c0, arr, c1, c2, c3⟩ := (a5 hcp).2
          refine ⟨c0, arr, c1, c2, fun i' hi' => ⟨(c3 i' hi').1, fun j hj => ?_⟩⟩
          obtain ⟨y, d1, d2, d3⟩ := (c3 i' hi').2 j hj
          exact ⟨y, d1, d2, hmove blk (by rw [← hi]; exact List.getElem_mem _) i' hi' j hj y d3⟩
      · rw [if_neg h2] at hi
        obtain ⟨q, h1, _⟩ := hg.held i blk hi
        have := hg.lt _ _ h1
        rw [hg.k] at h; omega
  · by_cases hi : i < E1.k
    · rw [hold i hi] at hq; exact hg.hid i q hq hcp
    · obtain ⟨_, h2⟩ := hnew i q (by omega) hq
      intro hh
      have h3 := hg.old _ hh
      have h4 := (hc.lt_b h2 hcp).1
      have := hg.below.size
      omega
  · by_cases hi : i < E1.k
    · rw [hold i hi] at h1
      by_cases hi' : i' < E1.k
      · rw [hold i' hi'] at h2
        exact hg.inj i i' q1 q2 hne h1 h2 hc1 hc2
      · obtain ⟨_, g2⟩ := hnew i' q2 (by omega) h2
        have := (hg.lt_b h1 hc1).2
        have := (hc.lt_b g2 hc2).1
        omega
    · obtain ⟨e1, g1⟩ := hnew i q1 (by omega) h1
      by_cases hi' : i' < E1.k
      · rw [hold i' hi'] at h2
        have := (hg.lt_b h2 hc2).2
        have := (hc.lt_b g1 hc1).1
        omega
      · obtain ⟨e2, g2⟩ := hnew i' q2 (by omega) h2
        refine hc.inj _ _ q1 q2 (fun e => ?_) g1 g2 hc1 hc2
        have := (List.getElem_inj hn).1 e
        omega

/-- Behind a call: the result, as it comes to the caller. -/
structure Comes2 (E' : Env) (M' : Mem) (ids : List Nat) (bs : List Blk) : Prop where
  len : ids.length = bs.length
  get : ∀ j (h1 : j < ids.length) (h2 : j < bs.length), M'.get ids[j] = some bs[j]
theorem Comes2.append {E' : Env} {M' : Mem} {i1 i2 : List Nat} {b1 b2 : List Blk} (h1 : Comes2 E' M' i1 b1) (h2 : Comes2 E' M' i2 b2) : Comes2 E' M' (i1 ++ i2) (b1 ++ b2) := by
  refine ⟨by simp [h1.len, h2.len], fun j g1 g2 => ?_⟩
  have hl := h1.len
  by_cases h : j < i1.length
  · rw [List.getElem_append_left h, List.getElem_append_left (by omega)]; exact h1.get _ _ _
  · rw [List.getElem_append_right (by omega), List.getElem_append_right (by omega)]
    have := h2.get (j - i1.length) (by simp at g1; omega) (by rw [← h2.len]; simp at g1; omega)
    simp only [hl] at this ⊢
    exact this
end Go.Ab

set_option linter.unusedVariables false
set_option linter.unusedSimpArgs false
set_option linter.constructorNameAsVariable false
namespace Go.Ab
open Go Go.RowKit

theorem without_get (M : Mem) : ∀ (ids : List Nat) (i : Nat), (M.without ids).get i = if i ∈ ids then none else M.get i
  | [], i => by simp [Mem.without]
  | id :: r, i => by
    simp only [Mem.without]
    rw [without_get (M.drop id) r i]
    simp only [Mem.get, Mem.drop, assoc_remove, List.mem_cons]
    by_cases h : i = id
    · subst h; simp
    · simp [h, Ne.symm h]

def OkC (Ok : AV → Prop) : AV → Prop
  | .o _ _ xs => ∀ i (hi : i < xs.length), ∀ j (hj : j < xs[i].cells.length), Ok xs[i].cells[j]
  | a => Ok a
def OkL (Ok : AV → Prop) : List AV → Prop
  | [] => True
  | a :: r => OkC Ok a ∧ OkL Ok r
def OkA (Ok : AV → Prop) : AV → Prop
  | .g cs => OkL Ok cs
  | a => OkC Ok a
def OkLA (Ok : AV → Prop) : List AV → Prop
  | [] => True
  | a :: r => OkA Ok a ∧ OkLA Ok r
def OkR (Ok : AV → Prop) : AV → Prop
  | .t cs => OkLA Ok cs
  | a => OkA Ok a

section
variable {w0 : World} {E1 E' : Env} {M' : Mem} {FZ IDS : List Nat} {Ok : AV → Prop}
theorem expC_thaw (hg : Good w0 E' M') (hOk : ∀ a v, Ok a → Rep (E'.without FZ) a v → Rep (E1.import (E'.without FZ) IDS) a v)
    {a b : AV} {ids fz : List Nat} {v : Value} {pos : Nat} (h : ExpC M' a b ids fz) (hr : Rep E' a v) (hfz : ∀ i ∈ fz, i ∈ FZ) (hids : ∀ i ∈ ids, i ∉ FZ) (hpos : ∀ j, j < ids.length → IDS[pos + j]? = ids[j]?) (ho : OkC Ok b) :
    (ids.length = (blksC b).length ∧ ∀ j (h1 : j < ids.length) (h2 : j < (blksC b).length), (M'.without FZ).get ids[j] = some (blksC b)[j]) ∧ Rep (E1.import (E'.without FZ) IDS) (thawC (E1.k + pos) b) v := by
  have hpure : ∀ a b, Weak1 a b ∧ Under 0 b ∧ ids = [] ∧ fz = [] → Rep E' a v → OkC Ok b → (∀ T sz xs, b ≠ .o T sz xs) →
      (ids.length = (blksC b).length ∧ ∀ j (h1 : j < ids.length) (h2 : j < (blksC b).length), (M'.without FZ).get ids[j] = some (blksC b)[j]) ∧ Rep (E1.import (E'.without FZ) IDS) (thawC (E1.k + pos) b) v := by
    rintro a0 a ⟨hw, hu, rfl, rfl⟩ hr ho hne
    replace hr := hw.rep hr
    have hb : blksC a = [] := by cases a <;> first | rfl | (exact absurd rfl (hne _ _ _))
    have ht : thawC (E1.k + pos) a = a := by cases a <;> first | rfl | (exact absurd rfl (hne _ _ _))
    have hok : Ok a := by cases a <;> first | exact ho | (exact absurd rfl (hne _ _ _))
    rw [hb, ht]
    exact ⟨⟨rfl, fun j h1 => absurd h1 (by simp)⟩, hOk a v hok (hr.later (hg.without FZ).2)⟩
  cases a with
  | s id off n =>
    cases b with
    | o T sz xs =>
      obtain ⟨rfl, rfl, rfl, hM, rfl, hp⟩ := h
      have hnf : id ∉ FZ := hids id (by simp)
      refine ⟨⟨rfl, fun j h1 h2 => ?_⟩, ?_⟩
      · have h0 : j = 0 := by simpa using h1
        subst h0
        simp only [List.getElem_cons_zero, blksC]
        rw [without_get, if_neg hnf]; exact hM
      · cases hr with
        | s _ _ _ A cap hk hh =>
          have hp0 := hpos 0 (by simp)
          simp only [Nat.add_zero, List.getElem?_cons_zero] at hp0
          obtain ⟨hpl, _⟩ := List.getElem?_eq_some_iff.1 hp0
          refine .s _ _ _ A cap (by show E1.k + pos < E1.k + IDS.length; omega) (fun q hq => ?_)
          simp only [Env.import] at hq
          rw [if_neg (by omega)] at hq
          have e : E1.k + pos - E1.k = pos := by omega
          rw [e, hp0] at hq
          simp only [Option.bind_some, Env.without, if_neg hnf] at hq
          exact hh q hq
    | l sz xs =>
      obtain ⟨rfl, rfl, blk, hM, hn, rfl, rfl, hp⟩ := h
      refine ⟨⟨rfl, fun j h1 => absurd h1 (by simp)⟩, ?_⟩
      have := rep_viewC (ids := FZ) hg hr ⟨blk, hM, hn, hp⟩ (fun i hi => hfz i (by simpa [idsC] using hi))
      simp only [viewC, hM] at this
      exact hOk _ _ ho this
    | _ => exact hpure _ _ h hr ho (fun _ _ _ e => by cases e)
  | _ =>
    cases b with
    | o T sz xs =>
      have := h
      simp only [ExpC] at this
      obtain ⟨t1, t2, _⟩ := this
      first | (cases t1.toO; done) | (cases t1.toO; cases t2; done)
    | _ => exact hpure _ _ h hr ho (fun _ _ _ e => by cases e)

theorem expL_thaw (hg : Good w0 E' M') (hOk : ∀ a v, Ok a → Rep (E'.without FZ) a v → Rep (E1.import (E'.without FZ) IDS) a v) :
    ∀ (cs ds : List AV) (ids fz : List Nat) (vs : List Value) (pos : Nat), ExpL M' cs ds ids fz → vs.length = cs.length → (∀ i (h1 : i < cs.length) (h2 : i < vs.length), Rep E' cs[i] vs[i]) →
      (∀ i ∈ fz, i ∈ FZ) → (∀ i ∈ ids, i ∉ FZ) → (∀ j, j < ids.length → IDS[pos + j]? = ids[j]?) → OkL Ok ds →
      (ids.length = (blksL ds).length ∧ ∀ j (h1 : j < ids.length) (h2 : j < (blksL ds).length), (M'.without FZ).get ids[j] = some (blksL ds)[j]) ∧
      (thawL (E1.k + pos) ds).length = cs.length ∧ ∀ i (h1 : i < (thawL (E1.k + pos) ds).length) (h2 : i < vs.length), Rep (E1.import (E'.without FZ) IDS) (thawL (E1.k + pos) ds)[i] vs[i]
  | [], [], ids, fz, vs, pos, h, hl, hr, hfz, hids, hpos, ho => by
    obtain ⟨rfl, rfl⟩ := h
    exact ⟨⟨rfl, fun j h1 => absurd h1 (by simp)⟩, rfl, fun i h1 => absurd h1 (by simp [thawL])⟩
  | a :: r, b :: s, ids, fz, vs, pos, h, hl, hr, hfz, hids, hpos, ho => by
    obtain ⟨i1, i2, f1, f2, rfl, rfl, h1, h2⟩ := h
    match vs, hl, hr with
    | v :: vs, hl, hr =>
      have k1 := expC_thaw (pos := pos) hg hOk h1 (hr 0 (by simp) (by simp)) (fun i hi => hfz i (by simp [hi])) (fun i hi => hids i (by simp [hi])) (fun j hj => by
        rw [hpos j (by simp; omega), List.getElem?_append_left hj]) ho.1
      have k2 := expL_thaw hg hOk r s i2 f2 vs (pos + i1.length) h2 (by simpa using hl) (fun i g1 g2 => hr (i + 1) (by simpa using g1) (by simpa using g2)) (fun i hi => hfz i (by simp [hi])) (fun i hi => hids i (by simp [hi])) (fun j hj => by
        rw [Nat.add_assoc, hpos (i1.length + j) (by simp; omega), List.getElem?_append_right (by omega)]
        congr 1; omega) ho.2
      have e : E1.k + (pos + i1.length) = E1.k + pos + (blksC b).length := by rw [k1.1.1]; omega
      rw [e] at k2
      refine ⟨⟨by simp [blksL, k1.1.1, k2.1.1], fun j g1 g2 => ?_⟩, by simp [thawL, k2.2.1], fun i g1 g2 => ?_⟩
      · have hl1 := k1.1.1
        by_cases hj : j < i1.length
        · simp only [blksL]
          rw [List.getElem_append_left hj, List.getElem_append_left (by omega)]
          exact k1.1.2 j hj (by omega)
        · simp only [blksL] at g2 ⊢
          simp only [List.length_append] at g1 g2
          rw [List.getElem_append_right (by omega), List.getElem_append_right (by omega)]
          have := k2.1.2 (j - i1.length) (by omega) (by rw [← k2.1.1]; omega)
          simp only [hl1] at this ⊢
          exact this
      · cases i with
        | zero => exact k1.2
        | succ i => exact k2.2.2 i (by simpa [thawL] using g1) (by simpa using g2)
    | [], hl, _ => simp at hl
  | [], _ :: _, _, _, _, _, h, _, _, _, _, _, _ => h.elim
  | _ :: _, [], _, _, _, _, h, _, _, _, _, _, _ => h.elim

theorem expA_thaw (hg : Good w0 E' M') (hOk : ∀ a v, Ok a → Rep (E'.without FZ) a v → Rep (E1.import (E'.without FZ) IDS) a v)
    {a b : AV} {ids fz : List Nat} {v : Value} {pos : Nat} (h : ExpA M' a b ids fz) (hr : Rep E' a v) (hfz : ∀ i ∈ fz, i ∈ FZ) (hids : ∀ i ∈ ids, i ∉ FZ) (hpos : ∀ j, j < ids.length → IDS[pos + j]? = ids[j]?) (ho : OkA Ok b) :
    (ids.length = (blksA b).length ∧ ∀ j (h1 : j < ids.length) (h2 : j < (blksA b).length), (M'.without FZ).get ids[j] = some (blksA b)[j]) ∧ Rep (E1.import (E'.without FZ) IDS) (thawA (E1.k + pos) b) v := by
  cases a with
  | g cs =>
    cases b with
    | g ds =>
      cases hr with
      | g _ ys hl hr =>
        have := expL_thaw (pos := pos) hg hOk cs ds ids fz ys.toList h (by simpa using hl) (fun i h1 h2 => by simpa using hr i h1 (by simpa using h2)) hfz hids hpos ho
        refine ⟨this.1, .g _ ys (by rw [this.2.1]; exact hl) (fun i h1 h2 => by have := this.2.2 i h1 (by simpa using h2); rw [Array.getElem_toList] at this; exact this)⟩
    | _ => 
      have := h
      simp only [ExpA, ExpC] at this
      obtain ⟨t1, _⟩ := this
      first | (cases t1.g; done) | (cases t1.t; done) | (cases t1.toG; done) | (cases t1.toT; done)
  | _ =>
    cases b with
    | g ds =>
      have := h
      simp only [ExpA, ExpC] at this
      obtain ⟨t1, _⟩ := this
      first | (cases t1.g; done) | (cases t1.t; done) | (cases t1.toG; done) | (cases t1.toT; done)
    | _ =>
      have h' := h
      simp only [ExpA] at h'
      exact expC_thaw hg hOk h' hr hfz hids hpos ho

theorem expLA_thaw (hg : Good w0 E' M') (hOk : ∀ a v, Ok a → Rep (E'.without FZ) a v → Rep (E1.import (E'.without FZ) IDS) a v) :
    ∀ (cs ds : List AV) (ids fz : List Nat) (vs : List Value) (pos : Nat), ExpLA M' cs ds ids fz → vs.length = cs.length → (∀ i (h1 : i < cs.length) (h2 : i < vs.length), Rep E' cs[i] vs[i]) →
      (∀ i ∈ fz, i ∈ FZ) → (∀ i ∈ ids, i ∉ FZ) → (∀ j, j < ids.length → IDS[pos + j]? = ids[j]?) → OkLA Ok ds →
      (ids.length = (blksLA ds).length ∧ ∀ j (h1 : j < ids.length) (h2 : j < (blksLA ds).length), (M'.without FZ).get ids[j] = some (blksLA ds)[j]) ∧
      (thawLA (E1.k + pos) ds).length = cs.length ∧ ∀ i (h1 : i < (thawLA (E1.k + pos) ds).length) (h2 : i < vs.length), Rep (E1.import (E'.without FZ) IDS) (thawLA (E1.k + pos) ds)[i] vs[i]
  | [], [], ids, fz, vs, pos, h, hl, hr, hfz, hids, hpos, ho => by
    obtain ⟨rfl, rfl⟩ := h
    exact ⟨⟨rfl, fun j h1 => absurd h1 (by simp)⟩, rfl, fun i h1 => absurd h1 (by simp [thawLA])⟩
  | a :: r, b :: s, ids, fz, vs, pos, h, hl, hr, hfz, hids, hpos, ho => by
    obtain ⟨i1, i2, f1, f2, rfl, rfl, h1, h2⟩ := h
    match vs, hl, hr with
    | v :: vs, hl, hr =>
      have k1 := expA_thaw (pos := pos) hg hOk h1 (hr 0 (by simp) (by simp)) (fun i hi => hfz i (by simp [hi])) (fun i hi => hids i (by simp [hi])) (fun j hj => by
        rw [hpos j (by simp; omega), List.getElem?_append_left hj]) ho.1
      have k2 := expLA_thaw hg hOk r s i2 f2 vs (pos + i1.length) h2 (by simpa using hl) (fun i g1 g2 => hr (i + 1) (by simpa using g1) (by simpa using g2)) (fun i hi => hfz i (by simp [hi])) (fun i hi => hids i (by simp [hi])) (fun j hj => by
        rw [Nat.add_assoc, hpos (i1.length + j) (by simp; omega), List.getElem?_append_right (by omega)]
        congr 1; omega) ho.2
      have e : E1.k + (pos + i1.length) = E1.k + pos + (blksA b).length := by rw [k1.1.1]; omega
      rw [e] at k2
      refine ⟨⟨by simp [blksLA, k1.1.1, k2.1.1], fun j g1 g2 => ?_⟩, by simp [thawLA, k2.2.1], fun i g1 g2 => ?_⟩
      · have hl1 := k1.1.1
        by_cases hj : j < i1.length
        · simp only [blksLA]
          rw [List.getElem_append_left hj, List.getElem_append_left (by omega)]
          exact k1.1.2 j hj (by omega)
        · simp only [blksLA] at g2 ⊢
          simp only [List.length_append] at g1 g2
          rw [List.getElem_append_right (by omega), List.getElem_append_right (by omega)]
          have := k2.1.2 (j - i1.length) (by omega) (by rw [← k2.1.1]; omega)
          simp only [hl1] at this ⊢
          exact this
      · cases i with
        | zero => exact k1.2
        | succ i => exact k2.2.2 i (by simpa [thawLA] using g1) (by simpa using g2)
    | [], hl, _ => simp at hl
  | [], _ :: _, _, _, _, _, h, _, _, _, _, _, _ => h.elim
  | _ :: _, [], _, _, _, _, h, _, _, _, _, _, _ => h.elim

theorem expR_thaw (hg : Good w0 E' M') (hOk : ∀ a v, Ok a → Rep (E'.without FZ) a v → Rep (E1.import (E'.without FZ) IDS) a v)
    {a b : AV} {ids fz : List Nat} {v : Value} (h : ExpR M' a b ids fz) (hr : Rep E' a v) (hfz : ∀ i ∈ fz, i ∈ FZ) (hids : ∀ i ∈ ids, i ∉ FZ) (hpos : ∀ j, j < ids.length → IDS[0 + j]? = ids[j]?) (ho : OkR Ok b) :
    (ids.length = (blks b).length ∧ ∀ j (h1 : j < ids.length) (h2 : j < (blks b).length), (M'.without FZ).get ids[j] = some (blks b)[j]) ∧ Rep (E1.import (E'.without FZ) IDS) (thaw (E1.k + 0) b) v := by
  cases a with
  | t cs =>
    cases b with
    | t ds =>
      cases hr with
      | t _ ys hl hr =>
        have := expLA_thaw (pos := 0) hg hOk cs ds ids fz ys.toList h (by simpa using hl) (fun i h1 h2 => by simpa using hr i h1 (by simpa using h2)) hfz hids hpos ho
        refine ⟨this.1, .t _ ys (by rw [this.2.1]; exact hl) (fun i h1 h2 => by have := this.2.2 i h1 (by simpa using h2); rw [Array.getElem_toList] at this; exact this)⟩
    | _ =>
      have := h
      simp only [ExpR, ExpA, ExpC] at this
      obtain ⟨t1, _⟩ := this
      first | (cases t1.g; done) | (cases t1.t; done) | (cases t1.toG; done) | (cases t1.toT; done)
  | _ =>
    cases b with
    | t ds =>
      have := h
      simp only [ExpR, ExpA, ExpC] at this
      obtain ⟨t1, _⟩ := this
      first | (cases t1.g; done) | (cases t1.t; done) | (cases t1.toG; done) | (cases t1.toT; done)
    | _ =>
      have h' := h
      simp only [ExpR] at h'
      exact expA_thaw hg hOk h' hr hfz hids hpos ho
end
end Go.Ab

set_option linter.unusedVariables false
set_option linter.unusedSimpArgs false
set_option linter.constructorNameAsVariable false
namespace Go.Ab
open Go Go.RowKit

theorem ICall.mono {P : Program} {f : FuncId} {args : List AV} {M : Mem} {K K' : AV → Mem → Prop} (h : ICall P f args M K) (hk : ∀ a M, K a M → K' a M) : ICall P f args M K' :=
  ⟨h.1, fun w0 E vs h1 h2 h3 => Calls.mono' (h.2 w0 E vs h1 h2 h3) fun _ _ ⟨v, E', M', a, e1, e2, e3, e4, e5, e6⟩ => ⟨v, E', M', a, e1, e2, e3, e4, e5, hk _ _ e6⟩⟩

/-- The callee's moment: nothing is its own; what is the caller's (E1) it does not look at. -/
def Env.callee (E1 : Env) : Env := ⟨E1.w, fun _ => none, 0, fun b => E1.hid b ∨ ∃ i q, E1.ad i = some q ∧ 0 < q.cp ∧ q.b = b⟩
theorem callee_good {w0 : World} {E1 : Env} {M1 : Mem} (hg : Good w0 E1 M1) : Good E1.w E1.callee ⟨[], 0⟩ := by
  refine { below := hg.below.next hg.below.size, k := rfl, lt := ?_, gone := fun _ _ => rfl, held := ?_, hid := ?_, old := fun b h => ?_, inj := ?_ }
  · intro _ _ h; cases h
  · intro _ _ h; cases h
  · intro _ _ h; cases h
  rotate_left
  · intro _ _ _ _ _ h; cases h
  rcases h with h | ⟨i, q, h1, h2, rfl⟩
  · exact hg.old b h
  · exact (hg.lt_b h1 h2).2
theorem callee_z {E1 : Env} {b : Nat} (h : E1.Z b) : E1.callee.Z b :=
  ⟨h.1, fun h2 => h2.elim h.2.1 fun ⟨i, q, h1, h2, h3⟩ => h.2.2 i q h1 h2 h3, fun _ _ h => by cases h⟩
theorem callee_rep {E1 : Env} {a : AV} {v : Value} (hr : Rep E1 a v) (hu : Under 0 a) : Rep E1.callee a v := hr.pure (fun _ h => ⟨callee_z h, rfl⟩) hu

/-- How the caller names the arguments, and how they are handed on. -/
def Args (M : Mem) (ids : List Nat) : List AV → List AV → Prop
  | [], [] => True
  | a :: r, b :: s => (VOkA M a ∧ (∀ i ∈ idsA a, i ∈ ids) ∧ Weak (viewA M a) b ∧ Under 0 b) ∧ Args M ids r s
  | _, _ => False
theorem Args.len {M : Mem} {ids : List Nat} : ∀ {l m : List AV}, Args M ids l m → l.length = m.length
  | [], [], _ => rfl
  | a :: r, b :: s, h => by simp [h.2.len]
  | [], _ :: _, h => h.elim
  | _ :: _, [], h => h.elim
theorem Args.get {M : Mem} {ids : List Nat} : ∀ {l m : List AV}, Args M ids l m → ∀ i (h1 : i < l.length) (h2 : i < m.length), VOkA M l[i] ∧ (∀ j ∈ idsA l[i], j ∈ ids) ∧ Weak (viewA M l[i]) m[i] ∧ Under 0 m[i]
  | a :: r, b :: s, h, 0, _, _ => h.1
  | a :: r, b :: s, h, i + 1, h1, h2 => h.2.get i (by simpa using h1) (by simpa using h2)
  | [], [], _, i, h1, _ => absurd h1 (by simp)
  | [], _ :: _, h, _, _, _ => h.elim
  | _ :: _, [], h, _, _, _ => h.elim

section
variable {P : Program} {f : FuncId} {args args' : List AV} {M : Mem} {res : AV} {K : AV → Mem → Prop}

theorem callee_args {w0 : World} {E : Env} (hg : Good w0 E M) {ids : List Nat} (ha : Args M ids args args') {vs : Array Value} (hr : ∀ i (h1 : i < args.length) (h2 : i < vs.size), Rep E args[i] vs[i]) :
    ∀ i (h1 : i < args'.length) (h2 : i < vs.size), Rep (E.without ids).callee args'[i] vs[i] := fun i h1 h2 => by
  have h3 : i < args.length := by rw [ha.len]; exact h1
  obtain ⟨g1, g2, g3, g4⟩ := ha.get i h3 h1
  have := rep_viewA hg (hr i h3 h2) g1 g2
  exact callee_rep (g3.rep this) g4

theorem OkA.cells {Ok : AV → Prop} : ∀ {ds : List AV}, OkL Ok ds → ∀ b ∈ blksL ds, ∀ i (hi : i < b.xs.length), ∀ j (hj : j < b.xs[i].cells.length), Ok b.xs[i].cells[j]
  | [], _, b, hb => by simp [blksL] at hb
  | a :: r, h, b, hb => by
    simp only [blksL, List.mem_append] at hb
    rcases hb with hb | hb
    · cases a <;> simp only [blksC, List.not_mem_nil, List.mem_singleton] at hb
      subst hb
      exact h.1
    · exact OkA.cells h.2 b hb
theorem OkA.cellsA {Ok : AV → Prop} {a : AV} (h : OkA Ok a) : ∀ b ∈ blksA a, ∀ i (hi : i < b.xs.length), ∀ j (hj : j < b.xs[i].cells.length), Ok b.xs[i].cells[j] := by
  intro b hb
  cases a with
  | g cs => exact OkA.cells (ds := cs) h b hb
  | o T sz xs =>
    simp only [blksA, blksC, List.mem_singleton] at hb
    subst hb
    exact h
  | _ => simp [blksA, blksC] at hb
theorem OkLA.cells {Ok : AV → Prop} : ∀ {ds : List AV}, OkLA Ok ds → ∀ b ∈ blksLA ds, ∀ i (hi : i < b.xs.length), ∀ j (hj : j < b.xs[i].cells.length), Ok b.xs[i].cells[j]
  | [], _, b, hb => by simp [blksLA] at hb
  | a :: r, h, b, hb => by
    simp only [blksLA, List.mem_append] at hb
    rcases hb with hb | hb
    · exact OkA.cellsA h.1 b hb
    · exact OkLA.cells h.2 b hb
theorem OkR.cells {Ok : AV → Prop} {a : AV} (h : OkR Ok a) : ∀ b ∈ blks a, ∀ i (hi : i < b.xs.length), ∀ j (hj : j < b.xs[i].cells.length), Ok b.xs[i].cells[j] := by
  intro b hb
  cases a with
  | t cs => exact OkLA.cells (ds := cs) h b hb
  | _ =>
    have h' := h
    simp only [OkR] at h'
    exact OkA.cellsA h' b hb

theorem come_back {w0 : World} {E2 E' : Env} {M2 M' : Mem} {Ok : AV → Prop} {FZ IDS : List Nat} {a : AV} {v : Value} (hg2 : Good w0 E2 M2) (hg : Good E2.w E' M') (hr : Rep E' a v) (he : ExpR M' a res IDS FZ) (hn : IDS.Nodup) (hd : ∀ i ∈ IDS, i ∉ FZ)
    (hOk : ∀ a v, Ok a → Rep (E'.without FZ) a v → Rep (E2.import (E'.without FZ) IDS) a v) (hres : OkR Ok res) :
    Good w0 (E2.import (E'.without FZ) IDS) (M2.adds (blks res)) ∧ Later E2 (E2.import (E'.without FZ) IDS) ∧ Rep (E2.import (E'.without FZ) IDS) (thaw M2.k res) v := by
  obtain ⟨⟨h1, h2⟩, h3⟩ := expR_thaw (E1 := E2) (IDS := IDS) hg hOk he hr (fun _ h => h) hd (fun j _ => by rw [Nat.zero_add]) hres
  obtain ⟨g1, g2⟩ := Good.import hg2 (hg.without FZ).1 IDS (blks res) hn h1 (fun j g1 g2 => h2 j g1 g2) (fun b hb i hi j hj v hv => hOk _ v (OkR.cells hres b hb i hi j hj) hv)
  exact ⟨g1, g2, by rw [hg2.k]; exact h3⟩

/-- The arguments are given up. -/
theorem icall_drop (ids : List Nat) (h : PCall P f args' res) (ha : Args M ids args args') (hres : OkR (Under 0) res) (hK : K (thaw M.k res) ((M.without ids).adds (blks res))) : ICall P f args M K := by
  refine ⟨h.1, fun w0 E vs hg hs hr => ?_⟩
  obtain ⟨hg1, hl1⟩ := hg.without ids
  refine Calls.mono' (h.2 E.w (E.without ids).callee vs (callee_good hg1) (by rw [hs, ha.len]) (callee_args hg ha hr)) ?_
  rintro e w' ⟨v, E', M', a, rfl, rfl, k1, k2, k3, IDS, FZ, k4, k5, k6⟩
  have hz : ∀ b, (E'.without FZ).Z b → ((E.without ids).import (E'.without FZ) IDS).Z b ∧ ((E.without ids).import (E'.without FZ) IDS).w.heap[b]? = (E'.without FZ).w.heap[b]? := fun b hb => by
    have hh : E'.hid = (E.without ids).callee.hid := k2.hid
    have hb2 : ¬ E'.hid b := hb.2.1
    rw [hh] at hb2
    refine ⟨⟨hb.1, fun h => hb2 (.inl h), fun i q hq hcp => ?_⟩, rfl⟩
    simp only [Env.import] at hq
    split at hq
    · intro e; exact hb2 (.inr ⟨i, q, hq, hcp, e⟩)
    · cases hi : IDS[i - (E.without ids).k]? with
      | none => rw [hi] at hq; cases hq
      | some j => rw [hi] at hq; exact hb.2.2 j q hq hcp
  have hkk : (M.without ids).k = M.k := by rw [hg1.k, hg.k]; rfl
  obtain ⟨g1, g2, g3⟩ := come_back (Ok := Under 0) hg1 k1 k3 k4 k5 k6 (fun a v hu hv => hv.pure hz hu) hres
  rw [hkk] at g3
  exact ⟨v, (E.without ids).import (E'.without FZ) IDS, _, _, rfl, rfl, g1, hl1.trans g2, g3, hK⟩

/-- The arguments are kept; nothing of what comes back is of them. -/
theorem icall_keep (ids : List Nat) (h : PCall P f args' res) (ha : Args M ids args args') (hres : OkR Flat res) (hK : K (thaw M.k res) (M.adds (blks res))) : ICall P f args M K := by
  refine ⟨h.1, fun w0 E vs hg hs hr => ?_⟩
  obtain ⟨hg1, hl1⟩ := hg.without ids
  refine Calls.mono' (h.2 E.w (E.without ids).callee vs (callee_good hg1) (by rw [hs, ha.len]) (callee_args hg ha hr)) ?_
  rintro e w' ⟨v, E', M', a, rfl, rfl, k1, k2, k3, IDS, FZ, k4, k5, k6⟩
  obtain ⟨g1, g2, g3⟩ := come_back (Ok := Flat) hg k1 k3 k4 k5 k6 (fun a v hu hv => hv.flat hu) hres
  exact ⟨v, E.import (E'.without FZ) IDS, _, _, rfl, rfl, g1, g2, g3, hK⟩
end

/-- A function's body, walked: its contract. -/
theorem pcall_body {P : Program} {tab : Tab} (hT : TabOk P tab) {f : FuncId} {fn : Func} {c : Code} {args : List AV} {res : AV} (hf : P.funcs[f]? = some fn) (hb : fn.body = some c)
    (hn : (fn.name == "runtime.NumGoroutine") = false) (hl : args.length ≤ fn.ntmps) (h : aw P tab c (retK tab fn fun a M => Exp M a res) ⟨mkSlots 0 args, ⟨[], 0⟩, fn.ntmps⟩) : PCall P f args res :=
  icall_body hT hf hb hn hl (aw_sound hT c _ _ h)
end Go.Ab
