/- Whole numbers: more. From a call that hands back true to the row. What comes .. -/
import Derived.Test.YtkikaagieknpdaaGreatAbG3
import Derived.ProofKit
import Derived.Carry
import Derived.RangeFuncWrites
import Derived.RangeFuncLeaves
import Derived.RangeFuncBound
set_option linter.constructorNameAsVariable false
set_option linter.unusedVariables false
namespace Go.Ab
open Go Go.RowKit
section
variable {p : Prop} [Decidable p] {y n : ASt → Prop} {s : ASt} {w : Bool}
theorem r_casesP (h1 : p → y s) (h2 : ¬ p → n s) : condS (.c (.bool (decide p))) y n s := r_cases (fun h => h1 (of_decide_eq_true h)) fun h => h2 (of_decide_eq_false h)
end
theorem expC_pure {M : Mem} {a b : AV} (h : Weak1 a b) (hu : Under 0 b) : ExpC M a b [] [] := by
 unfold ExpC
 split
 · cases hu
 · rw [Weak1.eq_2 _ _ (by intro sz h1 h2; cases h1)] at h
   cases h
 · exact ⟨h, hu, rfl, rfl⟩
theorem expL_pure {M : Mem} : ∀ {l m : List AV}, WeakL l m → (∀ i (hi : i < m.length), Under 0 m[i]) → ExpL M l m [] []
 | [], [], _, _ => ⟨rfl, rfl⟩
 | a :: r, b :: s, h, hu => ⟨[], [], [], [], rfl, rfl, expC_pure h.1 (hu 0 (by simp)), expL_pure h.2 fun i hi => hu (i + 1) (by simpa using hi)⟩
 | [], _ :: _, h, _ => h.elim
 | _ :: _, [], h, _ => h.elim
theorem expA_pure {M : Mem} {a b : AV} (h : Weak a b) (hu : Under 0 b) : ExpA M a b [] [] := by
 unfold Weak at h
 split at h
 · cases hu with | g _ hu => exact expL_pure h hu
 · rename_i hn
   unfold ExpA
   split
   · exact absurd rfl (hn _ _ rfl)
   · exact expC_pure h hu
def PureLL : List AV → List AV → Prop
 | [], [] => True
 | a :: r, b :: s => (Weak a b ∧ Under 0 b) ∧ PureLL r s
 | _, _ => False
theorem expLA_pure {M : Mem} : ∀ {l m : List AV}, PureLL l m → ExpLA M l m [] []
 | [], [], _ => ⟨rfl, rfl⟩
 | a :: r, b :: s, h => ⟨[], [], [], [], rfl, rfl, expA_pure h.1.1 h.1.2, expLA_pure h.2⟩
 | [], _ :: _, h => h.elim
 | _ :: _, [], h => h.elim
theorem exp_t {M : Mem} {l m : List AV} (h : PureLL l m) : Exp M (.t l) (.t m) := ⟨[], [], expLA_pure h, by simp, by simp⟩
theorem exp_g {M : Mem} {l m : List AV} (h : Weak (.g l) (.g m)) (hu : Under 0 (.g m)) : Exp M (.g l) (.g m) := ⟨[], [], (expA_pure h hu : ExpA M (.g l) (.g m) [] []), by simp, by simp⟩
theorem exp_l {M : Mem} {sz : Nat} {xs : List AV} {a : AV} (h : Weak1 a (.l sz xs)) (hu : Under 0 (.l sz xs)) : Exp M a (.l sz xs) := by
 refine ⟨[], [], ?_, by simp, by simp⟩
 have h1 := expC_pure (M := M) h hu
 cases a with
 | t => cases h.t
 | g => cases h.g
 | _ => exact h1
theorem weak_c {v : Value} : Weak (.c v) (.c v) := by unfold Weak; exact .refl _
theorem weak_l {sz : Nat} {xs : List AV} : Weak (.l sz xs) (.l sz xs) := by unfold Weak; exact .refl _
theorem weak_nil {sz : Nat} : Weak (.c (.slice none 0 0)) (.l sz []) := by unfold Weak Weak1; trivial
theorem under_B {k : Nat} {l : List UInt8} : Under k (.l 1 (l.map encB)) := by rw [under_l, underL_B]; trivial
theorem bne_int {a b : Int} : (a != b) = !(decide (a = b)) := rfl
theorem beq_int {a b : Int} : (a == b) = decide (a = b) := rfl
theorem ofInt_nat {w : Nat} {n : Nat} (h : n < 2 ^ w) : (BitVec.ofInt w (n : Int)).toNat = n := by
 rw [BitVec.toNat_ofInt]
 have : ((n : Int) % ((2 ^ w : Nat) : Int)) = n := Int.emod_eq_of_lt (by omega) (by exact_mod_cast h)
 rw [this]; rfl
theorem or_u64 {a b : Nat} (ha : a < 18446744073709551616) (hb : b < 18446744073709551616) :
 IntKind.u64.wrap ((BitVec.ofInt IntKind.u64.bits (a : Int) ||| BitVec.ofInt IntKind.u64.bits (b : Int)).toNat : Nat) = ((a ||| b : Nat) : Int) := by
 rw [BitVec.toNat_or, ofInt_nat (w := IntKind.u64.bits) ha, ofInt_nat (w := IntKind.u64.bits) hb]
 exact wrap_u64 (Nat.or_lt_two_pow (n := 64) ha hb)
theorem and_u8 {a b : Nat} (ha : a < 256) (hb : b < 256) :
 IntKind.u8.wrap ((BitVec.ofInt IntKind.u8.bits (a : Int) &&& BitVec.ofInt IntKind.u8.bits (b : Int)).toNat : Nat) = ((a &&& b : Nat) : Int) := by
 rw [BitVec.toNat_and, ofInt_nat (w := IntKind.u8.bits) ha, ofInt_nat (w := IntKind.u8.bits) hb, wrap_u8]
 have : a &&& b < 256 := Nat.and_lt_two_pow (n := 8) a hb
 omega
theorem and127 {a : Nat} (ha : a < 256) : IntKind.u8.wrap ((BitVec.ofInt IntKind.u8.bits (a : Int) &&& BitVec.ofInt IntKind.u8.bits 127).toNat : Nat) = ((a % 128 : Nat) : Int) := by
 have := and_u8 (b := 127) ha (by decide)
 rw [show ((127 : Nat) : Int) = 127 from rfl] at this
 rw [this, show (127 : Nat) = 2 ^ 7 - 1 from rfl, Nat.and_two_pow_sub_one_eq_mod]
theorem wrap_i64 {n : Int} (h : -9223372036854775808 ≤ n) (h2 : n < 9223372036854775808) : IntKind.i64.wrap n = n := by rw [IntKind.wrap_i64]; omega
theorem or_add {a b k : Nat} (h : a < 2 ^ k) : a ||| (b * 2 ^ k) = a + b * 2 ^ k := by
 have := Nat.two_pow_add_eq_or_of_lt h b
 rw [Nat.mul_comm b, Nat.or_comm, ← this, Nat.add_comm]
theorem u8_lt (c : UInt8) : c.toNat < 256 := c.toNat_lt
theorem arg_own {M : Mem} {ids : List Nat} {id n sz : Nat} {T : TypeId} {xs : List AV} (hi : id ∈ ids) (h : M.get id = some ⟨T, sz, xs⟩) (hn : n = xs.length) (hp : PureL xs) :
 VOkA M (.s id 0 n) ∧ (∀ i ∈ idsA (.s id 0 n), i ∈ ids) ∧ Weak (viewA M (.s id 0 n)) (.l sz xs) ∧ Under 0 (.l sz xs) := by
 refine ⟨⟨_, h, by simpa using hn, hp⟩, fun i h => ?_, ?_, .l _ _ hp⟩
 · simp only [idsA, idsC, List.mem_singleton] at h; exact h ▸ hi
 · simp only [viewA, viewC, h, List.drop_zero]; exact weak_l
theorem arg_c {M : Mem} {ids : List Nat} {v : Value} : VOkA M (.c v) ∧ (∀ i ∈ idsA (.c v), i ∈ ids) ∧ Weak (viewA M (.c v)) (.c v) ∧ Under 0 (.c v) :=
 ⟨trivial, (fun i h => by simp [idsA, idsC] at h), weak_c, .c _⟩
theorem arg_l {M : Mem} {ids : List Nat} {sz : Nat} {xs : List AV} (h : PureL xs) : VOkA M (.l sz xs) ∧ (∀ i ∈ idsA (.l sz xs), i ∈ ids) ∧ Weak (viewA M (.l sz xs)) (.l sz xs) ∧ Under 0 (.l sz xs) :=
 ⟨trivial, (fun i h => by simp [idsA, idsC] at h), weak_l, .l _ _ h⟩
theorem arg_nil {M : Mem} {ids : List Nat} {sz : Nat} : VOkA M (.c (.slice none 0 0)) ∧ (∀ i ∈ idsA (.c (.slice none 0 0)), i ∈ ids) ∧ Weak (viewA M (.c (.slice none 0 0))) (.l sz []) ∧ Under 0 (.l sz []) :=
 ⟨trivial, (fun i h => by simp [idsA, idsC] at h), weak_nil, .l _ _ fun i h => absurd h (by simp)⟩
theorem str_size (l : List UInt8) : (⟨l.toArray⟩ : ByteArray).size = l.length := by simp [ByteArray.size]
theorem str_append (l m : List UInt8) : (⟨l.toArray⟩ : ByteArray) ++ ⟨m.toArray⟩ = ⟨(l ++ m).toArray⟩ := by
 apply ByteArray.ext; simp
theorem str_extract (l : List UInt8) (i j : Nat) : (⟨l.toArray⟩ : ByteArray).extract i j = ⟨((l.take j).drop i).toArray⟩ := by
 apply ByteArray.ext; simp [ByteArray.data_extract, List.drop_take]
theorem strOf_B (l : List UInt8) : strOf (l.map encB) = ⟨l.toArray⟩ := by
 simp only [strOf, List.map_map]
 congr 2
 refine (List.map_congr_left (g := id) fun b _ => ?_).trans (List.map_id _)
 simp [byteOf, encB]
theorem isB_B (l : List UInt8) : (∀ z ∈ l.map encB, IsB z) = True := eq_true fun z hz => by
 obtain ⟨b, _, rfl⟩ := List.mem_map.1 hz
 exact isB_encB b
theorem str_toList (l : List UInt8) : (⟨l.toArray⟩ : ByteArray).toList = l := by simp
theorem mapB_take {l : List UInt8} {n : Nat} : (l.map encB).take n = (l.take n).map encB := by rw [List.map_take]
theorem mapB_drop {l : List UInt8} {n : Nat} : (l.map encB).drop n = (l.drop n).map encB := by rw [List.map_drop]
theorem take_drop' {α : Type} {l : List α} {n : Nat} : List.take (l.length - n) (List.drop n l) = List.drop n l := List.take_of_length_le (by simp)
theorem str_data (l : List UInt8) : (⟨l.toArray⟩ : ByteArray).data.toList = l := rfl
theorem isU8_of {tab : Tab} {e : TypeId} {ti : TI} (h : assoc tab e = some ti) (hk : ti.k = .int .u8) : IsU8 tab e := ⟨ti, h, by rw [hk]; trivial⟩
theorem tab_ex {tab : Tab} {t : TypeId} {ti : TI} {K : TI → Prop} (h : assoc tab t = some ti) : (∃ i, assoc tab t = some i ∧ K i) = K ti := by
 simp only [h, Option.some.injEq, exists_eq_left']
end Go.Ab
set_option linter.unusedSimpArgs false
namespace Go.Ab
open Go Go.RowKit Go.ChangeShapes Go.WideShapes Go.ChangeAt
section
variable {H : Type} {enc : TypeId × Value → H} {P : Program}
theorem below_trodAll (hl : laidOutB P = true) {W W' : World} (hb : Below W.heap.size W W') (sp : Nat → Bool) : ∀ {ts : List TypeId} {vs : List Value} {ds : List (DataW H)} {ps : List MemPlace},
 (∀ t ∈ ts, P.readableRec t = true ∧ t < P.types.size) → DataW.TrodAll enc P W 0 (fun _ => true) true ts vs ds ps → (∀ x ∈ ps, x.block < W.heap.size) → (∀ x ∈ ps, sp x.block = true) → DataW.TrodAll enc P W' 0 sp true ts vs ds ps
 | [], vs, ds, ps, _, h, _, _ => by
  obtain ⟨rfl, rfl, rfl⟩ := trodAll_nil h
  exact h
 | t :: ts, vs, ds, ps, ht, h, hlt, hs => by
  obtain ⟨v, vs', d, ds', p, q, rfl, rfl, rfl, h1, h2⟩ := trodAll_cons h
  obtain ⟨g1, g2⟩ := ht t (by simp)
  exact ⟨p, q, WideElems.Trod_stays hl g1 g2 h1 (fun x hx => hb.same (hlt x (by simp [hx]))) (fun x hx => hs x (by simp [hx])),
   below_trodAll hl hb sp (fun u hu => ht u (by simp [hu])) h2 (fun x hx => hlt x (by simp [hx])) (fun x hx => hs x (by simp [hx])), rfl⟩
theorem post_true {f : Func} {s : ChangeSpec} {apart fresh handsOn again : Bool} {W W' : World} {args : Array Value} {ds gs : List (DataW H)} {before : List MemPlace} {tb : TypeId} (hl : laidOutB P = true)
 (hvars : s.vars = []) (hfn : ∀ ds : List (DataW H), ds.length = f.params.toList.length → s.fn H ds = { results := [.lit (.bool true)], args := ds })
 (hp : ∀ t ∈ f.params.toList, P.readableRec t = true ∧ t < P.types.size) (hr : f.resultTypes = #[tb]) (hbool : P.underlying tb = some .bool)
 (hW : DataW.Whole enc P f.params.toList s.vars apart W args.toList ds gs before) (hb : Below W.heap.size W W') : s.post enc P f apart fresh handsOn again W args (.bool true) W' := by
 have hlt : ∀ p ∈ before, p.block < W.heap.size := fun p hp => hW.lt p hp
 have hW0 := hW
 obtain ⟨pa, pv, hA, hV, rfl, hz, hn⟩ := hW
 rw [hvars] at hV
 obtain ⟨rfl, rfl⟩ := trodVars_none hV
 have hlen : ∀ {ts : List TypeId} {vs : List Value} {ds : List (DataW H)} {ps : List MemPlace}, DataW.TrodAll enc P W 0 (fun _ => true) true ts vs ds ps → ds.length = ts.length := by
  intro ts
  induction ts with
  | nil => intro vs ds ps h; obtain ⟨_, rfl, _⟩ := trodAll_nil h; rfl
  | cons t ts ih =>
   intro vs ds ps h
   obtain ⟨v, vs', d, ds', p, q, rfl, rfl, rfl, h1, h2⟩ := trodAll_cons h
   simp [ih h2]
 have hfn' := hfn (ds ++ []) (by rw [List.append_nil]; exact hlen hA)
 have hargs : ∀ sp : Nat → Bool, (∀ p ∈ pa, sp p.block = true) → DataW.TrodAll enc P W' 0 sp true f.params.toList args.toList (s.fn H (ds ++ [])).args pa := fun sp hs => by
  rw [hfn', List.append_nil]
  exact below_trodAll hl hb sp hp hA (fun x hx => hlt x (by simp [hx])) hs
 have hvs : ∀ sp : Nat → Bool, DataW.TrodVars enc P W' sp s.vars (s.fn H (ds ++ [])).vars [] := fun sp => by
  rw [hfn', hvars]; rfl
 have hrl : (Value.bool true).resultList f.resultTypes.size = [.bool true] := by rw [hr]; rfl
 have hres : ∀ (b : Nat) (sp : Nat → Bool) (hd : Bool), DataW.TrodAll enc P W' b sp hd f.resultTypes.toList ((Value.bool true).resultList f.resultTypes.size) (s.fn H (ds ++ [])).results [] := fun b sp hd => by
  rw [hfn', hrl, hr]
  exact trodAll_mk1 (shut_bool hbool true)
 refine ⟨ds, [], pa ++ [], [], pa, [], hW0, hres _ _ _, hargs _ (fun p hp => by simpa using hlt p (by simp [hp])), hvs _, hb.frame _, fun _ => ?_⟩
 refine ⟨?_, _, _, ([] ++ pa) ++ [], ⟨[] ++ pa, [], trodAll_append (hargs _ (fun _ _ => rfl)) (hres _ _ _), hvs _, rfl, ?_, ?_⟩, ?_⟩
 · intro j t r hj hv
   rw [hrl] at hv
   rw [hr] at hj
   match j, hj, hv with
   | 0, hj, hv =>
    simp at hj hv
    subst hj; subst hv
    simp [Value.okWide, hbool, Cell.okWide, Cell.ok]
 · intro b off hp
   have hlb : b < W.heap.size := hlt (.cell b off) (by simpa using hp)
   rw [hb.frozen (p := ⟨b, off, none⟩) hlb]
   exact hz b off (by simpa using hp)
 · intro ha
   have := hn ha
   simpa using this
 · intro p hp _
   simpa using hp
end
def E0 (W : World) : Env := ⟨W, fun _ => none, 0, fun _ => False⟩
def GlobOk (W : World) : Prop := ∀ g vs, (g, vs) ∈ GT → g < W.heap.size ∧ ∀ i (h : i < vs.length), W.cell? ⟨g, i, none⟩ = some vs[i]
theorem e0_good (W : World) (hG : GlobOk W) : Good W (E0 W) ⟨[], 0⟩ := by
 refine { below := ⟨.refl _ _, hG⟩, k := rfl, lt := ?_, gone := fun _ _ => rfl, held := ?_, hid := ?_, old := fun b h => h.elim, inj := ?_ }
 · intro _ _ h; cases h
 · intro _ _ h; cases h
 · intro _ _ h; cases h
 · intro _ _ _ _ _ h; cases h
theorem e0_z {W : World} {b : Nat} (h : b < W.heap.size) : (E0 W).Z b := ⟨h, fun h => h, fun _ _ h => by cases h⟩
theorem exp_true {M : Mem} {a : AV} {E : Env} {v : Value} (h : Exp M a (.c (.bool true))) (hr : Rep E a v) : v = .bool true := by
 obtain ⟨ids, fz, h, _⟩ := h
 have hw : Weak1 a (.c (.bool true)) := by
  cases a <;> exact h.1
 rw [Weak1.eq_2 _ _ (by intro sz h1 h2; cases h2)] at hw
 subst hw
 cases hr; rfl
theorem calls_true {P : Program} {f : FuncId} {W : World} {args : Array Value} {avs : List AV} (h : PCallG NoP P f avs (.c (.bool true))) (hl : args.size = avs.length)
 (hr : ∀ i (h1 : i < avs.length) (h2 : i < args.size), Rep (E0 W) avs[i] args[i]) (hG : GlobOk W := by first | assumption | (intro g vs hm; simp [GT] at hm)) : Calls P f args W fun e W' => e = .returned (.bool true) ∧ Below W.heap.size W W' :=
 Calls.mono' (h.2 W (E0 W) args (e0_good W hG) hl hr) fun e w' hp => by
  obtain ⟨v, E', M', a, h1, h2, h3, h4, h5, h6⟩ | ⟨_, _, _, _, hx, _⟩ := hp
  rotate_left
  · exact hx.elim
  obtain rfl := exp_true h6 h5
  exact ⟨h1, h2 ▸ h3.below.toBelow⟩
theorem rep3 {E : Env} {a b c : AV} {v u w : Value} (h : Rep E a v) (h' : Rep E b u) (h'' : Rep E c w) : ∀ i (h1 : i < [a, b, c].length) (h2 : i < #[v, u, w].size), Rep E [a, b, c][i] #[v, u, w][i]
 | 0, _, _ => h
 | 1, _, _ => h'
 | 2, _, _ => h''
theorem rep_str {W : World} (s : ByteArray) : ∃ l : List UInt8, l.length = s.size ∧ Rep (E0 W) (.c (.string ⟨l.toArray⟩)) (.string s) := by
 have e : (⟨s.data.toList.toArray⟩ : ByteArray) = s := by cases s; simp
 refine ⟨s.data.toList, Array.length_toList, ?_⟩
 rw [e]
 exact .c _ rfl
theorem wf_u8 {n : Int} (h : (Lit.int .u8 n).wf = true) : ∃ m : Nat, n = m ∧ m < 256 := by
 simp only [Lit.wf, Bool.and_eq_true, decide_eq_true_eq, IntKind.min, IntKind.max, IntKind.signed, IntKind.bits] at h
 refine ⟨n.toNat, ?_, ?_⟩ <;> simp at h <;> omega
end Go.Ab
namespace Go.Ab
open Go Go.RowKit
theorem exp_o_inv {M : Mem} {a : AV} {T : TypeId} {sz : Nat} {xs : List AV} (h : Exp M a (.o T sz xs)) : ∃ id, a = .s id 0 xs.length ∧ M.get id = some ⟨T, sz, xs⟩ ∧ PureL xs := by
 obtain ⟨ids, fz, h, _⟩ := h
 cases a with
 | s id off n =>
  have hc : off = 0 ∧ ids = [id] ∧ fz = [] ∧ M.get id = some ⟨T, sz, xs⟩ ∧ n = xs.length ∧ PureL xs := h
  obtain ⟨rfl, _, _, h1, rfl, h2⟩ := hc
  exact ⟨_, rfl, h1, h2⟩
 | _ =>
  have hc := h
  simp only [ExpR, ExpA, ExpC] at hc
  exact absurd hc.2.1 (fun h => by cases h)
theorem PCall.frz {P : Program} {f : FuncId} {args : List AV} {T : TypeId} {sz : Nat} {xs : List AV} (h : PCall P f args (.o T sz xs)) : PCall P f args (.l sz xs) :=
 ICall.mono h fun a M h => by
  obtain ⟨id, rfl, h1, h2⟩ := exp_o_inv h
  exact ⟨[], [id], ⟨rfl, rfl, _, h1, by simp, rfl, by simp, h2⟩, by simp, by simp⟩
theorem tmod_nat {a b : Nat} : (a : Int).tmod b = ((a % b : Nat) : Int) := by rw [Int.ofNat_tmod]
end Go.Ab
namespace Go.Ab
open Go Go.RowKit Go.ChangeShapes Go.WideShapes Go.ChangeAt
end Go.Ab
namespace Go.Ab
open Go Go.RowKit
variable {pf : Value → Mem → Prop}
def encI (n : Int) : AV := .c (.int .i64 n)
theorem encI_eq {n : Int} : encI n = .c (.int .i64 n) := rfl
theorem elem_I {l : List Int} {i : Nat} {K : AV → Prop} : Elem (l.map encI) i K = (i < l.length ∧ K (encI (l.getD i 0))) := by
 simp only [Elem, List.length_map, List.getElem_map, eq_iff_iff]
 constructor
 · rintro ⟨h, k⟩
   refine ⟨h, ?_⟩
   rw [List.getD_eq_getElem?_getD, List.getElem?_eq_getElem h]; exact k
 · rintro ⟨h, k⟩
   refine ⟨h, ?_⟩
   rw [List.getD_eq_getElem?_getD, List.getElem?_eq_getElem h] at k; exact k
theorem underL_I {k : Nat} {l : List Int} : UnderL k (l.map encI) = True := by
 induction l with
 | nil => simp [underL_nil]
 | cons a l ih => simp only [List.map_cons, underL_cons, ih, encI, AV.cells, List.mem_singleton, forall_eq, under_c, and_self]
theorem pureI (l : List Int) : PureL (l.map encI) := by rw [pureL_eq, underL_I]; trivial
theorem mapI_take {l : List Int} {n : Nat} : (l.map encI).take n = (l.take n).map encI := by rw [List.map_take]
theorem mapI_drop {l : List Int} {n : Nat} : (l.map encI).drop n = (l.drop n).map encI := by rw [List.map_drop]
theorem under_g {k : Nat} {cs : List AV} : Under k (.g cs) = ∀ a ∈ cs, Under k a := propext ⟨fun h => by
 cases h with | g _ h =>
 intro a ha
 obtain ⟨i, hi, rfl⟩ := List.getElem_of_mem ha
 exact h i hi, fun h => .g _ fun i hi => h _ (List.getElem_mem hi)⟩
theorem under_t {k : Nat} {cs : List AV} : Under k (.t cs) = ∀ a ∈ cs, Under k a := propext ⟨fun h => by
 cases h with | t _ h =>
 intro a ha
 obtain ⟨i, hi, rfl⟩ := List.getElem_of_mem ha
 exact h i hi, fun h => .t _ fun i hi => h _ (List.getElem_mem hi)⟩
theorem take_snoc_eq {α : Type} {o p : List α} {k : Nat} {d : α} (h : k < o.length) (h' : k < p.length) : o.take (k + 1) = p.take (k + 1) ↔ o.take k = p.take k ∧ o.getD k d = p.getD k d := by
 rw [List.take_add_one, List.take_add_one, List.getElem?_eq_getElem h, List.getElem?_eq_getElem h', List.getD_eq_getElem?_getD, List.getD_eq_getElem?_getD, List.getElem?_eq_getElem h, List.getElem?_eq_getElem h']
 simp only [Option.toList_some, Option.getD_some]
 constructor
 · intro e
   have hl : (o.take k).length = (p.take k).length := by simp; omega
   have := List.append_inj e hl
   exact ⟨this.1, by simpa using this.2⟩
 · rintro ⟨e1, e2⟩; rw [e1, e2]
def pinK (r : AV) (M' : Mem) (a : AV) (M : Mem) : Prop := a = r ∧ M = M'
theorem r_pin {r a : AV} {M M' : Mem} : pinK r M' a M = (a = r ∧ M = M') := rfl
section
variable {P : Program} {tab : Tab} {K : ASt → Prop} {dst : Option Tmp} {op : Op} {sl : Slots} {m M' : Mem} {N : Nat} {r : AV} {KX : AV → Mem → Prop} {x' y : Operand} {T : TypeId}
theorem d_heavyX (h1 : opX pf P tab ⟨sl, m, N⟩ (pinK r M') op) (h2 : setT sl N K dst r M') : stepS pf P tab 1 K dst op ⟨sl, m, N⟩ := d_heavy h1 h2
theorem d_pureX (h1 : ∀ M0, opZ pf P tab ⟨sl, M0, N⟩ (pinK r M0) op) (h2 : setT sl N K dst r m) : stepS pf P tab 3 K dst op ⟨sl, m, N⟩ := ⟨r, h1, by rw [setT_eq]; exact h2⟩
theorem zx_make {l c : Operand} : opZ pf P tab ⟨sl, m, N⟩ KX (.makeSlice T l c) = tiK tab T fun tt => slK tt.k fun e => tiK tab e fun ti => mkZK ti m (ev sl l) (ev sl c) KX := rfl
theorem x_alloc : opX pf P tab ⟨sl, m, N⟩ KX (.alloc T) = tiK tab T fun ti => allocK T ti m KX := rfl
theorem x_box : opX pf P tab ⟨sl, m, N⟩ KX (.box T x') = boxK T m (ev sl x') KX := rfl
theorem x_build {ps : Array (Nat × Operand)} : opX pf P tab ⟨sl, m, N⟩ KX (.build T ps) = tiK tab T fun ti => bldK tab ti m (ps.toList.map fun p => (p.1, ev sl p.2)) KX ti.k := rfl
theorem x_buildSlice {n : Nat} {ps : Array (Nat × Operand)} : opX pf P tab ⟨sl, m, N⟩ KX (.buildSlice T n ps) = tiK tab T fun tt => slK tt.k fun e => tiK tab e fun ti =>
 n = ps.toList.length ∧ (ps.toList.map fun p => p.1) = List.range' 0 n ∧ sliceK e ti m (ps.toList.map fun p => (p.1, ev sl p.2)) KX := rfl
theorem x_load : opX pf P tab ⟨sl, m, N⟩ KX (.load T x') = tiK tab T fun ti => ti.k.known = true ∧ loadK ti m (ev sl x') KX := rfl
theorem x_conv {S : TypeId} : opX pf P tab ⟨sl, m, N⟩ KX (.convert S T x') = tiK tab S fun ta => tiK tab T fun tb => ta.k.known = true ∧ cvK (Nat.beq S T) ta.k tb.k tab m (ev sl x') KX := rfl
theorem x_makeSlice {l c : Operand} : opX pf P tab ⟨sl, m, N⟩ KX (.makeSlice T l c) = tiK tab T fun tt => slK tt.k fun e => tiK tab e fun ti => makeK e ti m (ev sl l) (ev sl c) KX := rfl
theorem x_slice {lo hi mx : Option Operand} : opX pf P tab ⟨sl, m, N⟩ KX (.slice T x' lo hi mx) = tiK tab T fun tt => cutK tt.k tab m (lo.map (ev sl)) (hi.map (ev sl)) (mx.map (ev sl)) (ev sl x') KX := rfl
theorem x_indexAddr : opX pf P tab ⟨sl, m, N⟩ KX (.indexAddr T x' y) = idx2K tab T m (ev sl x') (ev sl y) KX := rfl
theorem x_sap : opX pf P tab ⟨sl, m, N⟩ KX (.sliceToArrayPointer T x') = tiK tab T fun tt => arK tt.k fun n e => tiK tab e fun ti => sapK n ti.sz m (ev sl x') KX := rfl
theorem x_append {t t2 : TypeId} : opX pf P tab ⟨sl, m, N⟩ KX (.call ⟨.builtin .append, #[x', y], #[t, t2]⟩) = tiK tab t fun tt => slK tt.k fun e => tiK tab e fun ti => (tiK tab t2 fun t2i => t2i.k = .str ∨ ∃ e2, t2i.k = .sl e2) ∧ appendK e ti m (ev sl x') (ev sl y) KX := rfl
theorem x_store : opX pf P tab ⟨sl, m, N⟩ KX (.store T x' y) = tiK tab T fun ti => storeK ti m (ev sl x') (ev sl y) (KX .x) := rfl
theorem x_callF {f : FuncId} {as : Array Operand} {ts : Array TypeId} : opX pf P tab ⟨sl, m, N⟩ KX (.call ⟨.value (.func f), as, ts⟩) = ICallG pf P f (as.toList.map (ev sl)) m KX := by
 show ICallG pf P f (as.toList.map (fun o => ev sl o) ++ []) m _ = _
 rw [List.append_nil]
end
end Go.Ab
namespace Go.Ab
open Go Go.RowKit
def Env.at (E : Env) (W : World) : Env := ⟨W, E.ad, E.k, E.hid⟩
section
variable {w0 : World} {E E0 : Env} {W : World} {row : Option Nat} {M : Mem}
theorem Z.at {b : Nat} (hg : E.w.grownBy W row) (h : E.Z b) : (E.at W).Z b := ⟨Nat.lt_of_lt_of_le h.1 hg.size, h.2.1, h.2.2⟩
end
def Marks (w0 : World) (Ee E : Env) : List Deferred → Prop
 | [] => True
 | d :: ds => (∃ r, d = { target := .collected r, args := #[] } ∧ w0.heap.size ≤ r ∧ ¬ Ee.Z r ∧ E.Z r ∧ E.w.heap[r]? = some (.deferred (some [])) ∧ ∀ d' ∈ ds, d'.target ≠ .collected r) ∧ Marks w0 Ee E ds
theorem Marks.later {w0 : World} {Ee E E' : Env} (hl : Later E E') : ∀ {ds : List Deferred}, Marks w0 Ee E ds → Marks w0 Ee E' ds
 | [], _ => trivial
 | d :: ds, ⟨⟨r, h1, h2, h0, h3, h4, h5⟩, h6⟩ => ⟨⟨r, h1, h2, h0, (hl.z r h3).1, (hl.z r h3).2.trans h4, h5⟩, h6.later hl⟩
def ACode1 (P : Program) (c : Code) (K : Exit → ASt → Prop) (s : ASt) : Prop :=
 ∀ w0 Ee E D a, Later Ee E → St w0 E D s a → Marks w0 Ee E D →
  c.wpIn (FF none) 0 P (fun ex a' w' => ∃ E' D' s', E'.w = w' ∧ St w0 E' D' s' a' ∧ Marks w0 Ee E' D' ∧ Later E E' ∧ K ex s') a E.w
theorem ACode1.of {P : Program} {c : Code} {K : Exit → ASt → Prop} {s : ASt} (h : ACodeG NoP P c K s) : ACode1 P c K s := fun w0 Ee E D a _ hs hm =>
 Code.wpIn_mono (fun ex a' w' ⟨E', s', h1, h2, h3, h4⟩ => ⟨E', D, s', h1, h2, hm.later h3, h3, h4⟩) (h acc_no none w0 E D a hs)
def aw1 (P : Program) (tab : Tab) : Code → (Exit → ASt → Prop) → ASt → Prop
 | .seq x' y, K, s => aw1 P tab x' (thenK (fun s => aw1 P tab y K s) K) s
 | .cond c x' y, K, s => condK (ev s.sl c) (aw1 P tab x' K s) (aw1 P tab y K s)
 | .block id c, K, s => aw1 P tab c (blockK id K) s
 | .rangeFunc f p x' y, K, s => ACode1 P (.rangeFunc f p x' y) K s
 | c, K, s => awG NoP P tab c K s
section
variable {P : Program} {tab : Tab} {KE : Exit → ASt → Prop} {s : ASt}
theorem r1_skip : aw1 P tab .skip KE s = KE .normal s := rfl
theorem r1_ret : aw1 P tab .ret KE s = KE .ret s := rfl
theorem r1_exit {id : Nat} : aw1 P tab (.exit id) KE s = KE (.exit id) s := rfl
theorem r1_region {id : Nat} {ops : Array Oper} {d : Bool} : aw1 P tab (.region id ops d) KE s = awG NoP P tab (.region id ops d) KE s := rfl
theorem r1_loop {c : Code} : aw1 P tab (.loop c) KE s = awG NoP P tab (.loop c) KE s := rfl
theorem r1_scope {c : Code} : aw1 P tab (.scope c) KE s = awG NoP P tab (.scope c) KE s := rfl
theorem r1_seq {x' y : Code} : aw1 P tab (.seq x' y) KE s = aw1 P tab x' (thenK (aw1 P tab y KE) KE) s := rfl
theorem r1_cond {c : Operand} {x' y : Code} : aw1 P tab (.cond c x' y) KE s = condS (ev s.sl c) (aw1 P tab x' KE) (aw1 P tab y KE) s := rfl
theorem r1_block {id : Nat} {c : Code} : aw1 P tab (.block id c) KE s = aw1 P tab c (blockK id KE) s := rfl
theorem r1_range {f : Operand} {p : Array Tmp} {x' y : Code} : aw1 P tab (.rangeFunc f p x' y) KE s = ACode1 P (.rangeFunc f p x' y) KE s := rfl
end
end Go.Ab
namespace Go.Ab
open Go Go.RowKit
structure KZ (Z : Nat → Prop) (A B : World) : Prop where
 same : ∀ b, Z b → B.heap[b]? = A.heap[b]?
theorem KZ.refl (Z : Nat → Prop) (W : World) : KZ Z W W := ⟨fun _ _ => rfl⟩
theorem KZ.trans {Z : Nat → Prop} {A B C : World} (h : KZ Z A B) (k : KZ Z B C) : KZ Z A C := ⟨fun b hb => (k.same b hb).trans (h.same b hb)⟩
theorem KZ.cell {Z : Nat → Prop} {A B : World} (h : KZ Z A B) {b : Nat} (hb : Z b) (o : Nat) : B.cell? ⟨b, o, none⟩ = A.cell? ⟨b, o, none⟩ := cell_same (h.same b hb) o none
end Go.Ab
namespace Go.Ab
open Go Go.RowKit
variable {pf : Value → Mem → Prop}
theorem pureLL_self : ∀ {l : List AV}, (∀ i (hi : i < l.length), Under 0 l[i]) → PureLL l l
 | [], _ => trivial
 | a :: r, h => ⟨⟨by
  unfold Weak
  split
  · exact .refl _
  · exact .refl _, h 0 (by simp)⟩, pureLL_self fun i hi => h (i + 1) (by simpa using hi)⟩
theorem exp_self {M : Mem} {a : AV} (hu : Under 0 a) : Exp M a a := by
 cases hu with
 | t cs h => exact exp_t (pureLL_self h)
 | g cs h => exact exp_g (by unfold Weak; exact .refl _) (.g cs h)
 | p id i j n h => omega
 | s id off n h => omega
 | c v => exact exp_c
 | x => exact ⟨[], [], expC_pure (M := M) (.refl _) .x, by simp, by simp⟩
 | l sz xs h => exact ⟨[], [], expC_pure (M := M) (.refl _) (.l sz xs h), by simp, by simp⟩
 | e cs h => exact ⟨[], [], expC_pure (M := M) (.refl _) (.e cs h), by simp, by simp⟩
 | f fn cs h => exact ⟨[], [], expC_pure (M := M) (.refl _) (.f fn cs h), by simp, by simp⟩
 | b fn cs h => exact ⟨[], [], expC_pure (M := M) (.refl _) (.b fn cs h), by simp, by simp⟩
theorem r_callV {P : Program} {M : Mem} {l caps : List AV} {K : AV → Mem → Prop} {fn : FuncId} : callValK pf P M l K (.f fn caps) = ICallG pf P fn (l ++ caps) M K := rfl
theorem r_callB {P : Program} {M : Mem} {l caps : List AV} {K : AV → Mem → Prop} {fn : FuncId} : callValK pf P M l K (.b fn caps) = ICallG pf P fn (caps ++ l) M K := rfl
theorem r_mkf1 {f : FuncId} {caps : List AV} {K : AV → Prop} : mkfK f [] caps K = K (.f f caps) := rfl
theorem r_mkf2 {f : FuncId} {a : AV} {r : List AV} {K : AV → Prop} : mkfK f (a :: r) [] K = K (.b f (a :: r)) := rfl
theorem under_f0 {k : Nat} {fn : FuncId} : Under k (.f fn []) = True := eq_true (.f _ _ fun i hi => absurd hi (by simp))
theorem exp_b {M : Mem} {b : Bool} {p : Prop} [Decidable p] (h : b = decide p) : Exp M (.c (.bool b)) (.c (.bool (decide p))) := h ▸ exp_c
theorem arg_f {M : Mem} {ids : List Nat} {fn : FuncId} : VOkA M (.f fn []) ∧ (∀ i ∈ idsA (.f fn []), i ∈ ids) ∧ Weak (viewA M (.f fn [])) (.f fn []) ∧ Under 0 (.f fn []) :=
 ⟨trivial, (fun i h => by simp [idsA, idsC] at h), by unfold Weak; exact .refl _, .f _ _ fun i hi => absurd hi (by simp)⟩
end Go.Ab
