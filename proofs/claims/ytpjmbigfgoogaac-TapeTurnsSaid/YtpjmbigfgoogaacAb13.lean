/- Operations on values: conversions, tests of texts, bools and nil. -/
import Derived.Test.YtpjmbigfgoogaacAb12
import Derived.Laws.BytesArg
import Derived.Lib.SlBytesConst
set_option linter.unusedVariables false
set_option linter.unusedSimpArgs false
set_option linter.constructorNameAsVariable false
namespace Go.Ab
open Go Go.RowKit

def byteOf : AV → UInt8
  | .c (.int _ n) => UInt8.ofNat n.toNat
  | _ => 0
def IsB : AV → Prop
  | .c (.int .u8 _) => True
  | _ => False
def strOf (xs : List AV) : ByteArray := ⟨(xs.map byteOf).toArray⟩
theorem isB_encB (b : UInt8) : IsB (encB b) := trivial
theorem byteOf_encB (b : UInt8) : byteOf (encB b) = b := by simp [byteOf, encB]
theorem strOf_enc (bs : List UInt8) : strOf (bs.map encB) = ⟨bs.toArray⟩ := by
  unfold strOf
  rw [List.map_map]
  have : byteOf ∘ encB = id := funext byteOf_encB
  rw [this]; simp

def IsU8 (tab : Tab) (e : TypeId) : Prop := ∃ ti, assoc tab e = some ti ∧ (match ti.k with | .int .u8 => True | _ => False)
def bytesStrK (tab : Tab) (M : Mem) (a : AV) (K : AV → Mem → Prop) : TK → TK → Prop
  | .sl e, .str => IsU8 tab e ∧ srcK 1 M a fun xs => (∀ z ∈ xs, IsB z) ∧ K (.c (.string (strOf xs))) M
  | _, _ => False
def strConvK (tab : Tab) (M : Mem) (s : ByteArray) (K : AV → Mem → Prop) : TK → TK → Prop
  | .str, .str => K (.c (.string s)) M
  | .str, .sl e => IsU8 tab e ∧ K (.l 1 (s.data.toList.map encB)) M
  | _, _ => False
def intConvK (M : Mem) (n : Int) (K : AV → Mem → Prop) : TK → Prop
  | .int k' => K (.c (.int k' (k'.wrap n))) M
  | _ => False
/-- Conversions. -/
def convK (ks kd : TK) (tab : Tab) (M : Mem) : AV → (AV → Mem → Prop) → Prop
  | .c (.int _ n), K => intConvK M n K kd
  | .c (.string s), K => strConvK tab M s K ks kd
  | a, K => bytesStrK tab M a K ks kd
theorem und_some {P : Program} {t : TypeId} {k : TK} (h : KOk P t k) (ho : k.known = true) : ∃ d, P.underlying t = some d := by
  cases k <;> simp only [KOk] at h
  case st => obtain ⟨a, h, _⟩ := h; exact ⟨_, h⟩
  case fn => obtain ⟨a, b, c, h⟩ := h; exact ⟨_, h⟩
  case other => cases ho
  all_goals exact ⟨_, h⟩
theorem isB_int {a : AV} (h : IsB a) : ∃ n, a = .c (.int .u8 n) := by
  cases a <;> try exact h.elim
  rename_i v
  cases v <;> try exact h.elim
  rename_i k n
  cases k <;> first | exact h.elim | exact ⟨n, rfl⟩
theorem bytes_conv {P : Program} {E : Env} {src dst e : TypeId} {v : Value} {xs : List AV} (hS : P.underlying src = some (.slice e)) (he : P.underlying e = some (.int .u8)) (hD : P.underlying dst = some .string)
    (hs : Src P E 1 v xs) (hb : ∀ z ∈ xs, IsB z) (hv : ∃ A n c, v = .slice A n c) : (convert src dst v).run P E.w = .ok (.string (strOf xs)) E.w := by
  obtain ⟨A, n, c, rfl⟩ := hv
  have hn : n = xs.length := by
    have := hs.len E.w
    simp [Builtin.lenOf] at this
    exact this
  subst hn
  rw [run_convert_bytes_string E.w src dst e A xs.length c hS he hD]
  obtain ⟨news, n1, n2, n3⟩ := hs.first
  have hnews : news = (xs.map fun z => match z with | .c (.int _ n) => n | _ => 0).map (Value.int .u8) := by
    apply List.ext_getElem?
    intro i
    by_cases hi : i < xs.length
    · obtain ⟨k, hk⟩ := isB_int (hb _ (List.getElem_mem hi))
      obtain ⟨c1, c2⟩ := n3 i hi
      obtain ⟨y, b1, _, b3⟩ := c2 0 (by rw [c1]; omega)
      simp only [hk, AV.cells, List.getElem_cons_zero] at b3
      cases b3
      rw [Nat.mul_one, Nat.add_zero] at b1
      rw [b1]
      simp [hi, hk]
    · rw [List.getElem?_eq_none (by omega), List.getElem?_eq_none (by simp; omega)]
  cases A with
  | none =>
    have h0 := n2 E.w rfl
    simp [Builtin.firstCells] at h0
    have : xs = [] := List.eq_nil_of_length_eq_zero (by rw [h0] at n1; simpa using n1.symm)
    subst this
    simp [Conv.bytesToString, strOf, ByteArray.empty, ByteArray.emptyWithCapacity]
    rfl
  | some a =>
    have h0 := n2 E.w rfl
    simp only [Builtin.firstCells, Nat.mul_one] at h0
    rw [hnews] at h0
    rw [run_bytesToString E.w a xs.length c _ h0]
    have hfold : ∀ (l : List Int) (r : ByteArray), l.foldl (fun r n => r.push (UInt8.ofNat n.toNat)) r = ⟨r.data ++ (l.map fun n => UInt8.ofNat n.toNat).toArray⟩ := by
      intro l
      induction l with
      | nil => intro r; simp
      | cons n l ih =>
        intro r
        rw [List.foldl_cons, ih]
        show (⟨r.data.push _ ++ _⟩ : ByteArray) = _
        simp
    have hkey : (xs.map fun z => match z with | .c (.int _ n) => n | _ => 0).foldl (fun r n => r.push (UInt8.ofNat n.toNat)) ByteArray.empty = strOf xs := by
      rw [hfold]
      unfold strOf
      have : byteOf = (fun n : Int => UInt8.ofNat n.toNat) ∘ (fun z : AV => match z with | .c (.int _ n) => n | _ => 0) := by
        funext z
        simp only [Function.comp]
        cases z <;> try rfl
        rename_i v; cases v <;> rfl
      rw [this, ← List.map_map]
      simp only [ByteArray.empty, ByteArray.emptyWithCapacity]
      congr 1
      exact Array.empty_append
    rw [hkey]
theorem conv_out {P : Program} {w0 : World} {E : Env} {M : Mem} {src dst : TypeId} {ks kd : TK} {tab : Tab} {a : AV} {v : Value} {K : AV → Mem → Prop} (hg : Good w0 E M) (hT : TabOk P tab)
    (hs : KOk P src ks) (hso : ks.known = true) (hd : KOk P dst kd) (hr : Rep E a v) (h : convK ks kd tab M a K) : Out P w0 E (convert src dst v) K := by
  have hu8 : ∀ e, IsU8 tab e → P.underlying e = some (.int .u8) := fun e ⟨ti, h1, h2⟩ => by
    have := (hT _ _ h1).k
    cases hk : ti.k <;> rw [hk] at h2 <;> try exact h2.elim
    rename_i k
    rw [hk] at this
    cases k <;> first | exact h2.elim | exact this
  have hbytes : ∀ a, Rep E a v → bytesStrK tab M a K ks kd → (∃ A n c, v = .slice A n c) → Out P w0 E (convert src dst v) K := fun a hr h hv => by
    cases ks <;> try exact h.elim
    cases kd <;> try exact h.elim
    obtain ⟨h1, h2⟩ := h
    obtain ⟨xs, x1, x2, x3⟩ := src_of (P := P) hg hr h2
    exact .val hg (bytes_conv hs (hu8 _ h1) hd x1 x2 hv) (.c (.string _) rfl) x3
  have hnot : ∀ a, bytesStrK tab M a K ks kd → (∀ K', srcK 1 M a K' → False) → False := fun a h hn => by
    cases ks <;> try exact h.elim
    cases kd <;> try exact h.elim
    exact hn _ h.2
  cases hr with
  | c v hv =>
    cases v with
    | int k n =>
      cases kd <;> try exact h.elim
      obtain ⟨d, hd'⟩ := und_some hs hso
      simp only [KOk] at hd
      exact .val hg (by simp [convert, run_underlying hd', run_underlying hd, Conv.intToInt, Result.andThen]) (.c (.int _ _) rfl) h
    | string s =>
      cases ks <;> try exact h.elim
      cases kd <;> try exact h.elim
      · simp only [KOk] at hs hd
        exact .val hg (by simp [convert, run_underlying hs, run_underlying hd, Result.andThen]) (.c (.string s) rfl) h
      · rename_i e
        obtain ⟨h1, hK⟩ := h
        have he := hu8 _ h1
        simp only [KOk] at hs hd
        have hrun := Lib.run_convert_string_bytes (P := P) E.w src dst e s hs hd he
        have hsz := Lib.bytesWorld_size E.w e s
        have hl : Later E ⟨Lib.bytesWorld E.w e s, E.ad, E.k, E.hid⟩ := ⟨fun b hb => ⟨⟨by simp only; rw [hsz]; have := hb.1; omega, hb.2⟩, Lib.bytesWorld_at_old _ _ _ _ hb.1⟩, Nat.le_refl _, fun i _ q hq => ⟨q, hq, Nat.le_refl _, fun _ => rfl⟩, rfl⟩
        have hg' : Good w0 ⟨Lib.bytesWorld E.w e s, E.ad, E.k, E.hid⟩ M := by
          refine ⟨hg.below.trans ⟨?_, ?_, ?_, by simp only; rw [hsz]; omega, fun k hk => Lib.bytesWorld_at_old _ _ _ _ (Nat.lt_of_lt_of_le hk hg.below.size)⟩, hg.k, hg.lt, hg.gone, fun i blk hi => ?_, hg.hid, hg.old, hg.inj⟩
          · unfold Lib.bytesWorld World.freeze; split <;> rfl
          · unfold Lib.bytesWorld World.freeze; split <;> rfl
          · unfold Lib.bytesWorld World.freeze; split <;> rfl
          · obtain ⟨q, a1, a2, a3, a4, a5⟩ := hg.held i blk hi
            exact ⟨q, a1, a2, a3, a4, fun hcp => ⟨(a5 hcp).1, ((a5 hcp).2).later hl (Lib.bytesWorld_at_old _ _ _ _ (backed_lt (a5 hcp).2))⟩⟩
        have hlen : (s.data.toList.map encB).length = s.size := by simp
        refine ⟨_, ⟨Lib.bytesWorld E.w e s, E.ad, E.k, E.hid⟩, M, .l 1 (s.data.toList.map encB), hrun, hg', hl, ?_, hK⟩
        rw [← hlen]
        refine .l 1 _ _ 0 _ (fun i _ => .int .u8 (s.data.toList.getD i 0).toNat) ?_ ⟨by simp only; rw [hsz]; omega, fun hh => ?_, fun i q hq hcp => ?_⟩ (fun i hi => ?_) (fun i j hi hj => ?_) (fun i hi j hj => ?_)
        · rw [hlen]; exact grownCap_ge _ _ _ _
        · have h1 := hg.old _ hh
          have h2 := hg.below.size
          omega
        · cases hM : M.get i with
          | none => simp only at hq; rw [hg.gone i hM] at hq; cases hq
          | some blk =>
            obtain ⟨q1, b1, _, _, _, b5⟩ := hg.held i blk hM
            simp only at hq
            rw [hq] at b1; cases b1
            have := backed_lt (b5 hcp).2
            omega
        · simp [encB, AV.cells]
        · have hj0 : j = 0 := by omega
          subst hj0
          have := Lib.bytesWorld_cell E.w e s i (by rw [← hlen]; exact hi)
          simp only [Nat.mul_one, Nat.add_zero, Nat.zero_add]
          exact ⟨this, rfl⟩
        · simp only [List.getElem_map, encB, AV.cells] at hj ⊢
          have hj0 : j = 0 := by simpa using hj
          subst hj0
          have hi' : i < s.data.toList.length := by simpa using hi
          simp only [List.getElem_cons_zero]
          have : s.data.toList.getD i 0 = s.data.toList[i] := by rw [List.getD_eq_getElem?_getD, List.getElem?_eq_getElem hi']; rfl
          rw [this]
          exact .c (.int _ _) rfl
    | slice A n c => exact hbytes _ (.c _ hv) h ⟨_, _, _, rfl⟩
    | _ => exact (hnot _ h (fun _ hh => hh)).elim
  | l sz xs b off cap y hcap hz hs' hc hr => exact hbytes _ (.l sz xs b off cap y hcap hz hs' hc hr) h ⟨_, _, _, rfl⟩
  | l0 sz A cap => exact hbytes _ (.l0 sz A cap) h ⟨_, _, _, rfl⟩
  | s id off n A cap hk hh => exact hbytes _ (.s id off n A cap hk hh) h ⟨_, _, _, rfl⟩
  | _ => exact (hnot _ h (fun _ hh => hh)).elim

/-- Two structs' values of a type are compared so. -/
def AggEq (P : Program) (t : TypeId) (cs ds : List AV) (b : Bool) : Prop :=
  ∀ E ys zs, Rep E (.g cs) (.agg ys) → Rep E (.g ds) (.agg zs) → ∀ x y,
    (do eqGuard .eql t x y (.agg ys) (.agg zs); binOp .eql t (.agg ys) (.agg zs)).run P E.w = .ok (.bool b) E.w ∧
    (do eqGuard .neq t x y (.agg ys) (.agg zs); binOp .neq t (.agg ys) (.agg zs)).run P E.w = .ok (.bool (!b)) E.w
def strBinK (M : Mem) (a b : ByteArray) (K : AV → Mem → Prop) : BinOp → Prop
  | .eql => K (.c (.bool (a.toList == b.toList))) M
  | .neq => K (.c (.bool (!(a.toList == b.toList)))) M
  | .lss => K (.c (.bool (Op.bytesLess a.toList b.toList))) M
  | .add => a.size + b.size ≤ 9223372036854775807 ∧ K (.c (.string (a ++ b))) M
  | _ => False
def boolBinK (M : Mem) (a b : Bool) (K : AV → Mem → Prop) : BinOp → TK → Prop
  | .eql, .bool => K (.c (.bool (a == b))) M
  | .neq, .bool => K (.c (.bool (!(a == b)))) M
  | _, _ => False
def nilBinK (M : Mem) (N : Bool → Prop) (K : AV → Mem → Prop) : BinOp → TK → Prop
  | .eql, .sl _ => ∀ b : Bool, N b → K (.c (.bool b)) M
  | .neq, .sl _ => ∀ b : Bool, N b → K (.c (.bool (!b))) M
  | _, _ => False
def aggBinK (P : Program) (t : TypeId) (M : Mem) (cs ds : List AV) (K : AV → Mem → Prop) : BinOp → Prop
  | .eql => ∃ b, AggEq P t cs ds b ∧ K (.c (.bool b)) M
  | .neq => ∃ b, AggEq P t cs ds b ∧ K (.c (.bool (!b))) M
  | _ => False
/-- An operation on two values. -/
def binK (P : Program) (op : BinOp) (t : TypeId) (k : TK) (M : Mem) : AV → AV → (AV → Mem → Prop) → Prop
  | .c (.int k a), .c (.int k' b), K => ipre op k k' b ∧ K (.c (ibin op k a b)) M
  | .c (.string a), .c (.string b), K => strBinK M a b K op
  | .c (.bool a), .c (.bool b), K => boolBinK M a b K op k
  | .l _ xs, .c (.slice none _ _), K => nilBinK M (fun b => b = true → xs = []) K op k
  | .s id off n, .c (.slice none _ _), K => (0 < n ∧ blkK M id (off + n) fun _ => True) ∧ nilBinK M (fun b => b = false) K op k
  | .c (.slice none _ _), .c (.slice none _ _), K => nilBinK M (fun b => b = true) K op k
  | .g cs, .g ds, K => aggBinK P t M cs ds K op
  | _, _, _ => False
theorem nil_out {P : Program} {w0 : World} {E : Env} {M : Mem} {op : BinOp} {t : TypeId} {k : TK} {x y : Operand} {N : Bool → Prop} {K : AV → Mem → Prop} (hg : Good w0 E M) (hk : KOk P t k)
    (A : Option Addr) (n c n' c' : Nat) (hN : N A.isNone) (h : nilBinK M N K op k) : Out P w0 E (do eqGuard op t x y (.slice A n c) (.slice none n' c'); binOp op t (.slice A n c) (.slice none n' c')) K := by
  cases op <;> try exact h.elim
  · cases k <;> try exact h.elim
    simp only [KOk] at hk
    have := Lib.run_eql_slice_nil (P := P) E.w t _ A n c n' c' hk
    exact .val hg (by simp only [Sem.run_bind, eqGuard_at_slice, Sem.run_pure, Result.andThen]; exact this) (.c (.bool _) rfl) (h _ hN)
  · cases k <;> try exact h.elim
    simp only [KOk] at hk
    have := run_neq_slice_nil_any (P := P) E.w t _ A n c n' c' hk
    exact .val hg (by simp only [Sem.run_bind, eqGuard_at_slice, Sem.run_pure, Result.andThen]; exact this) (.c (.bool _) rfl) (h _ hN)
theorem bin_out {P : Program} {w0 : World} {E : Env} {M : Mem} {op : BinOp} {t : TypeId} {k : TK} {x y : Operand} {a b : AV} {u v : Value} {K : AV → Mem → Prop} (hg : Good w0 E M) (hk : KOk P t k)
    (hr : Rep E a u) (hx : Rep E b v) (h : binK P op t k M a b K) : Out P w0 E (do eqGuard op t x y u v; binOp op t u v) K := by
  cases hr <;> try exact h.elim
  case c hu =>
    cases u
    case slice A n c =>
      cases A <;> (cases hx <;> try exact h.elim)
      rename_i hv
      cases v <;> try exact h.elim
      rename_i A' n' c'
      cases A' <;> try exact h.elim
      exact nil_out (N := fun b => b = true) hg hk none n c n' c' rfl h
    all_goals
      cases hx <;> try exact h.elim
    all_goals
      rename_i hv
      cases v <;> try exact h.elim
    case bool.c.bool =>
      rename_i a b
      cases op <;> try exact h.elim
      all_goals
        cases k <;> try exact h.elim
        simp only [KOk] at hk
      · exact .val hg (by simp only [Sem.run_bind, eqGuard_at_bool, Sem.run_pure, Result.andThen]; exact run_eql_bool E.w t a b hk) (.c (.bool _) rfl) h
      · exact .val hg (by simp only [Sem.run_bind, eqGuard_at_bool, Sem.run_pure, Result.andThen]; exact run_neq_bool E.w t a b hk) (.c (.bool _) rfl) h
    case int.c.int => exact .val hg (run_ibin _ _ _ _ _ _ _ _ _ h.1) (.c _ (one_ibin _ _ _ _)) h.2
    case string.c.string =>
      rename_i a b
      cases op <;> try exact h.elim
      case add =>
        obtain ⟨h1, hK⟩ := h
        refine .val hg ?_ (.c (.string _) rfl) hK
        simp only [Sem.run_bind, eqGuard_at_string, Sem.run_pure, Result.andThen, binOp_string_add, Op.stringOp]
        rw [if_neg (by simp; omega)]
        rfl
      all_goals exact .val hg (by simp [eqGuard_at_string, go_sem]) (.c (.bool _) rfl) h
  case g cs ys hl hr =>
    cases hx <;> try exact h.elim
    rename_i ds zs hl' hr'
    cases op <;> try exact h.elim
    all_goals
      obtain ⟨b, hb, hK⟩ := h
      obtain ⟨h1, h2⟩ := hb E ys zs (.g cs ys hl hr) (.g ds zs hl' hr') x y
    · exact .val hg h1 (.c (.bool _) rfl) hK
    · exact .val hg h2 (.c (.bool _) rfl) hK
  case l sz xs b off cap y hcap hz hs hc hr =>
    cases hx <;> try exact h.elim
    cases v <;> try exact h.elim
    rename_i A n c _
    cases A <;> try exact h.elim
    exact nil_out hg hk _ _ _ _ _ (by simp) h
  case l0 sz A cap =>
    cases hx <;> try exact h.elim
    cases v <;> try exact h.elim
    rename_i A' n c _
    cases A' <;> try exact h.elim
    exact nil_out hg hk _ _ _ _ _ (fun _ => rfl) h
  case s id off n A cap hk' hs =>
    cases hx <;> try exact h.elim
    cases v <;> try exact h.elim
    rename_i A' n' c' _
    cases A' <;> try exact h.elim
    obtain ⟨⟨hn, blk, hM, hlen, _⟩, h⟩ := h
    obtain ⟨q, q1, q2, q3, q4, q5⟩ := hg.held id blk hM
    obtain ⟨g1, g2⟩ := hs q q1
    obtain ⟨g3, g4⟩ := g2 (by omega)
    have hA := g4 (by omega)
    subst hA
    exact nil_out (N := fun b => b = false) hg hk _ _ _ _ _ rfl h

/-- Not, minus, the other bits. -/
def unK (op : UnOp) : AV → (AV → Prop) → Prop
  | .c (.bool b), K => match op with
    | .not => K (.c (.bool (!b)))
    | _ => False
  | .c (.int k n), K => match op with
    | .neg => K (.c (ibin .sub k 0 n))
    | .xor => K (.c (ibin .xor k (if k.signed then -1 else k.max) n))
    | _ => False
  | _, _ => False
theorem un_out {P : Program} {w0 : World} {E : Env} {M : Mem} {op : UnOp} {a : AV} {v : Value} {K : AV → Mem → Prop} (hg : Good w0 E M) (hr : Rep E a v) (h : unK op a fun a => K a M) :
    Out P w0 E (Op.unary op v) K := by
  cases hr <;> try exact h.elim
  cases v <;> try exact h.elim
  · cases op <;> try exact h.elim
    exact .val hg rfl (.c (.bool _) rfl) h
  · cases op <;> try exact h.elim
    · exact .val hg rfl (.c (ibin .sub _ 0 _) rfl) h
    · exact .val hg rfl (.c (ibin .xor _ _ _) rfl) h

/-- Of two numbers the greater one, the lesser one. -/
def maxK : AV → AV → (AV → Prop) → Prop
  | .c (.int k a), .c (.int _ b), K => K (.c (.int k (if b > a then b else a)))
  | _, _, _ => False
def minK : AV → AV → (AV → Prop) → Prop
  | .c (.int k a), .c (.int _ b), K => K (.c (.int k (if b < a then b else a)))
  | _, _, _ => False
theorem max_out {P : Program} {w0 : World} {E : Env} {M : Mem} {ts : Array TypeId} {t : TypeId} {a b : AV} {u v : Value} {K : AV → Mem → Prop} (hg : Good w0 E M) (hr : Rep E a u) (hx : Rep E b v) (h : maxK a b fun a => K a M) :
    Out P w0 E (Builtin.max_ ts t #[u, v]) K := by
  cases hr <;> try exact h.elim
  cases u <;> (cases hx <;> try exact h.elim)
  cases v <;> try exact h.elim
  exact .val hg (run_max_int2 E.w ts t _ _ _ _) (.c (.int _ _) rfl) h
theorem min_out {P : Program} {w0 : World} {E : Env} {M : Mem} {ts : Array TypeId} {t : TypeId} {a b : AV} {u v : Value} {K : AV → Mem → Prop} (hg : Good w0 E M) (hr : Rep E a u) (hx : Rep E b v) (h : minK a b fun a => K a M) :
    Out P w0 E (Builtin.min_ ts t #[u, v]) K := by
  cases hr <;> try exact h.elim
  cases u <;> (cases hx <;> try exact h.elim)
  cases v <;> try exact h.elim
  exact .val hg (run_min_int2 E.w ts t _ _ _ _) (.c (.int _ _) rfl) h
/-- A constant text's bytes: the literal row, marked. -/
def litC (same : Bool) : TK → AV → Bool
  | .sl _, .s _ _ _ => same
  | _, _ => false
def constK (tab : Tab) (M : Mem) (K : AV → Mem → Prop) : TK → AV → Prop
  | .sl e, .s id off n => IsU8 tab e ∧ off = 0 ∧ 0 < n ∧ blkK M id n fun blk => PureL blk.xs ∧ K (.l blk.sz blk.xs) (M.drop id)
  | _, _ => False
def cvK (same : Bool) (ks kd : TK) (tab : Tab) (M : Mem) (a : AV) (K : AV → Mem → Prop) : Prop := bif litC same ks a then constK tab M K ks a else convK ks kd tab M a K
theorem Rep.cells_same {E E' : Env} (had : E'.ad = E.ad) (hk : E'.k = E.k) (hz : ∀ b, E.Z b → E'.Z b) (hc : ∀ b o, E.Z b → E'.w.cell? ⟨b, o, none⟩ = E.w.cell? ⟨b, o, none⟩) {a : AV} {v : Value} (h : Rep E a v) : Rep E' a v := by
  induction h with
  | c v h => exact .c v h
  | x v => exact .x v
  | g cs ys h hr ih => exact .g cs ys h ih
  | t cs ys h hr ih => exact .t cs ys h ih
  | l sz xs b off cap y hcap hz0 hs hcc hr ih => exact .l sz xs b off cap y hcap (hz b hz0) hs (fun i j hi hj => by rw [hc b _ hz0]; exact hcc i j hi hj) ih
  | l0 sz A cap => exact .l0 sz A cap
  | p id i j n a hk0 h => exact .p id i j n a (by rw [hk]; exact hk0) fun q hq => h q (by rw [← had]; exact hq)
  | s id off n A cap hk0 h => exact .s id off n A cap (by rw [hk]; exact hk0) fun q hq => h q (by rw [← had]; exact hq)
  | e cs b off y hz0 hcc hr ih => exact .e cs b off y (hz b hz0) (fun j hj => by rw [hc b _ hz0]; exact hcc j hj) ih
  | f fn caps ys h hr ih => exact .f fn caps ys h ih
theorem const_out {P : Program} {w0 : World} {E : Env} {M : Mem} {t e : TypeId} {id n : Nat} {v : Value} {K : AV → Mem → Prop} {blk : Blk} (hg : Good w0 E M) (ht : P.underlying t = some (.slice e)) (he : P.underlying e = some (.int .u8))
    (hr : Rep E (.s id 0 n) v) (hM : M.get id = some blk) (hn : n = blk.xs.length) (h0 : 0 < n) (hp : PureL blk.xs) (hK : K (.l blk.sz blk.xs) (M.drop id)) : Out P w0 E (convert t t v) K := by
  obtain ⟨q, h1, h2, h3, h4, h5⟩ := hg.held id blk hM
  have hcp : 0 < q.cp := by omega
  obtain ⟨h6, h7, arr, h8, h9, h10⟩ := h5 hcp
  have hl := (hg.without [id]).2
  have hrl := rep_viewC hg (ids := [id]) hr ⟨blk, hM, by simpa using hn, hp⟩ (fun i hi => by simpa [idsC] using hi)
  simp only [viewC, hM, List.drop_zero] at hrl
  have hE : E.without [id] = ⟨E.w, Ab.upd E.ad id none, E.k, E.hid⟩ := by
    rw [without_cons, without_nil]
  rw [hE] at hrl
  have hzb : (⟨E.w, Ab.upd E.ad id none, E.k, E.hid⟩ : Env).Z q.b := by
    have hlt := backed_lt (E := E) (q := q) (blk := blk) ⟨h7, arr, h8, h9, h10⟩
    refine ⟨hlt, hg.hid id q h1 hcp, fun i q' hq' hcp' => ?_⟩
    by_cases e : i = id
    · subst e; simp [upd_self] at hq'
    · simp only [upd_ne _ _ e] at hq'
      exact hg.inj i id q' q e hq' h1 hcp' hcp
  have hlt := hzb.1
  cases hr with
  | s _ _ _ A cap hk h =>
    obtain ⟨_, g2⟩ := h q h1
    obtain ⟨g3, g4⟩ := g2 (by omega)
    have hA := g4 (by omega)
    subst hA
    simp only [Nat.zero_mul] at *
    have hsh : E.w.shape? q.b = some (blk.T, arr.size) := by unfold World.shape?; rw [h8]
    let w' := E.w.freeze ⟨q.b, arr.size, none⟩ 1
    have hrun : (convert t t (.slice (some ⟨q.b, 0, none⟩) n cap)).run P E.w = .ok (.slice (some ⟨q.b, 0, none⟩) n cap) w' := by
      simp [convert, run_underlying ht, run_underlying he, markStringish, hsh, w']
    have hw' : w' = { E.w with heap := E.w.heap.modify q.b fun
      | .cells c elem (lo, hi) => .cells c elem (if lo == hi then (arr.size, arr.size + 1) else (min lo arr.size, max hi (arr.size + 1)))
      | o => o } := by
      simp only [w', World.freeze]
      rw [if_neg (by decide)]
      rfl
    have hsz : w'.heap.size = E.w.heap.size := by rw [hw']; simp
    have hsame : ∀ b, b ≠ q.b → w'.heap[b]? = E.w.heap[b]? := fun b hb => by
      rw [hw']
      show (E.w.heap.modify q.b _)[b]? = _
      rw [Array.getElem?_modify, if_neg (Ne.symm hb)]
    have hcell : ∀ b o, w'.cell? ⟨b, o, none⟩ = E.w.cell? ⟨b, o, none⟩ := fun b o => by
      by_cases hb : b = q.b
      · subst hb
        have : w'.heap[q.b]? = some (.cells arr blk.T (arr.size, arr.size + 1)) := by
          rw [hw']
          show (E.w.heap.modify q.b _)[q.b]? = _
          rw [Array.getElem?_modify, if_pos rfl, h8]
          rfl
        simp only [World.cell?, this, h8]
      · simp only [World.cell?, hsame b hb]
    have hbel : Below w0.heap.size E.w w' := ⟨by rw [hw'], by rw [hw'], by rw [hw'], by rw [hsz]; exact Nat.le_refl _, fun b hb => hsame b (by omega)⟩
    have hlat : Later E ⟨w', Ab.upd E.ad id none, E.k, E.hid⟩ := by
      refine ⟨fun b hb => ⟨⟨by rw [hsz]; exact hb.1, hb.2.1, fun i q' hq' hcp' => ?_⟩, hsame b (fun e => hb.2.2 id q h1 hcp e.symm)⟩, Nat.le_refl _, fun i _ q' hq' => ?_, rfl⟩
      · by_cases e : i = id
        · subst e; simp [upd_self] at hq'
        · simp only [upd_ne _ _ e] at hq'
          exact hb.2.2 i q' hq' hcp'
      · by_cases e : i = id
        · subst e; simp [upd_self] at hq'
        · simp only [upd_ne _ _ e] at hq'
          exact ⟨q', hq', Nat.le_refl _, fun _ => rfl⟩
    obtain ⟨gd, _⟩ := hg.drop id
    refine ⟨_, ⟨w', Ab.upd E.ad id none, E.k, E.hid⟩, M.drop id, _, hrun, ⟨hg.below.trans hbel, gd.k, gd.lt, gd.gone, fun i b hi => ?_, gd.hid, gd.old, gd.inj⟩, hlat, ?_, hK⟩
    · obtain ⟨q', a1, a2, a3, a4, a5⟩ := gd.held i b hi
      refine ⟨q', a1, a2, a3, a4, fun hc => ⟨(a5 hc).1, ?_⟩⟩
      have hne : q'.b ≠ q.b := hzb.2.2 i q' a1 hc
      obtain ⟨c0, arr', c1, c2, c3⟩ := (a5 hc).2
      refine ⟨c0, arr', by rw [hsame _ hne]; exact c1, c2, fun k hk' => ⟨(c3 k hk').1, fun j hj => ?_⟩⟩
      obtain ⟨y, d1, d2, d3⟩ := (c3 k hk').2 j hj
      exact ⟨y, d1, d2, Rep.cells_same (E := ⟨E.w, Ab.upd E.ad id none, E.k, E.hid⟩) (E' := ⟨w', Ab.upd E.ad id none, E.k, E.hid⟩) rfl rfl (fun b hb => ⟨Nat.lt_of_lt_of_eq hb.1 hsz.symm, hb.2⟩) (fun b o _ => hcell b o) d3⟩
    · exact Rep.cells_same (E := ⟨E.w, Ab.upd E.ad id none, E.k, E.hid⟩) (E' := ⟨w', Ab.upd E.ad id none, E.k, E.hid⟩) rfl rfl (fun b hb => ⟨Nat.lt_of_lt_of_eq hb.1 hsz.symm, hb.2⟩) (fun b o _ => hcell b o) hrl
theorem cv_out {P : Program} {w0 : World} {E : Env} {M : Mem} {src dst : TypeId} {ks kd : TK} {tab : Tab} {a : AV} {v : Value} {K : AV → Mem → Prop} (hg : Good w0 E M) (hT : TabOk P tab)
    (hs : KOk P src ks) (hso : ks.known = true) (hd : KOk P dst kd) (hr : Rep E a v) (h : cvK (Nat.beq src dst) ks kd tab M a K) : Out P w0 E (convert src dst v) K := by
  unfold cvK at h
  cases hl : litC (Nat.beq src dst) ks a with
  | false => rw [hl] at h; exact conv_out hg hT hs hso hd hr h
  | true =>
    rw [hl] at h
    simp only [cond_true] at h
    unfold litC at hl
    split at hl
    · rename_i e id off n
      have he := Nat.eq_of_beq_eq_true hl
      subst he
      obtain ⟨⟨ti, k1, k2⟩, rfl, k4, blk, k5, k6, k7, k8⟩ := h
      have hu : P.underlying e = some (.int .u8) := by
        have := (hT _ _ k1).k
        cases hk : ti.k <;> rw [hk] at k2 <;> try exact k2.elim
        rename_i k
        rw [hk] at this
        cases k <;> first | exact k2.elim | exact this
      simp only [KOk] at hs
      exact const_out hg hs hu hr k5 k6 k4 k7 k8
    · cases hl
end Go.Ab
