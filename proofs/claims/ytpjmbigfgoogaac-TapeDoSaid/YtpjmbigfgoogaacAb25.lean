/- From a call that hands back true to the row. -/
import Derived.Test.YtpjmbigfgoogaacAb24
import Derived.ProofKit
import Derived.Carry
set_option linter.constructorNameAsVariable false
set_option linter.unusedVariables false
set_option linter.unusedSimpArgs false
namespace Go.Ab
open Go Go.RowKit Go.ChangeShapes Go.WideShapes Go.ChangeAt

section
variable {H : Type} {enc : TypeId × Value → H} {P : Program}
theorem below_trodAll (hl : laidOutB P = true) {W W' : World} (hb : Below W.heap.size W W') (sp : Nat → Bool) : ∀ {ts : List TypeId} {vs : List Value} {ds : List (DataW H)} {ps : List MemPlace},
    (∀ t ∈ ts, P.readableRec t = true ∧ t < P.types.size) → DataW.TrodAll enc P W 0 (fun _ => true) true ts vs ds ps → (∀ x ∈ ps, x.block < W.heap.size) → (∀ x ∈ ps, sp x.block = true) → DataW.TrodAll enc P W' 0 sp true ts vs ds ps
  | [], vs, ds, ps, _, h, _, _ => by
    obtain ⟨rfl, rfl, rfl⟩ := trodAll_nil h
    exact h
  | t :: ts, vs, ds, ps, ht, h, hlt, hs => by
    obtain ⟨v, vs', d, ds', p, q, rfl, rfl, rfl, h1, h2⟩ := trodAll_cons h
    obtain ⟨g1, g2⟩ := ht t (by simp)
    exact ⟨p, q, WideElems.Trod_stays hl g1 g2 h1 (fun x hx => hb.same (hlt x (by simp [hx]))) (fun x hx => hs x (by simp [hx])),
      below_trodAll hl hb sp (fun u hu => ht u (by simp [hu])) h2 (fun x hx => hlt x (by simp [hx])) (fun x hx => hs x (by simp [hx])), rfl⟩

theorem post_true {f : Func} {s : ChangeSpec} {apart fresh handsOn again : Bool} {W W' : World} {args : Array Value} {ds gs : List (DataW H)} {before : List MemPlace} {tb : TypeId} (hl : laidOutB P = true)
    (hvars : s.vars = []) (hfn : ∀ ds : List (DataW H), ds.length = f.params.toList.length → s.fn H ds = { results := [.lit (.bool true)], args := ds })
    (hp : ∀ t ∈ f.params.toList, P.readableRec t = true ∧ t < P.types.size) (hr : f.resultTypes = #[tb]) (hbool : P.underlying tb = some .bool)
    (hW : DataW.Whole enc P f.params.toList s.vars apart W args.toList ds gs before) (hb : Below W.heap.size W W') : s.post enc P f apart fresh handsOn again W args (.bool true) W' := by
  have hlt : ∀ p ∈ before, p.block < W.heap.size := fun p hp => hW.lt p hp
  have hW0 := hW
  obtain ⟨pa, pv, hA, hV, rfl, hz, hn⟩ := hW
  rw [hvars] at hV
  obtain ⟨rfl, rfl⟩ := trodVars_none hV
  have hlen : ∀ {ts : List TypeId} {vs : List Value} {ds : List (DataW H)} {ps : List MemPlace}, DataW.TrodAll enc P W 0 (fun _ => true) true ts vs ds ps → ds.length = ts.length := by
    intro ts
    induction ts with
    | nil => intro vs ds ps h; obtain ⟨_, rfl, _⟩ := trodAll_nil h; rfl
    | cons t ts ih =>
      intro vs ds ps h
      obtain ⟨v, vs', d, ds', p, q, rfl, rfl, rfl, h1, h2⟩ := trodAll_cons h
      simp [ih h2]
  have hfn' := hfn (ds ++ []) (by rw [List.append_nil]; exact hlen hA)
  have hargs : ∀ sp : Nat → Bool, (∀ p ∈ pa, sp p.block = true) → DataW.TrodAll enc P W' 0 sp true f.params.toList args.toList (s.fn H (ds ++ [])).args pa := fun sp hs => by
    rw [hfn', List.append_nil]
    exact below_trodAll hl hb sp hp hA (fun x hx => hlt x (by simp [hx])) hs
  have hvs : ∀ sp : Nat → Bool, DataW.TrodVars enc P W' sp s.vars (s.fn H (ds ++ [])).vars [] := fun sp => by
    rw [hfn', hvars]; rfl
  have hrl : (Value.bool true).resultList f.resultTypes.size = [.bool true] := by rw [hr]; rfl
  have hres : ∀ (b : Nat) (sp : Nat → Bool) (hd : Bool), DataW.TrodAll enc P W' b sp hd f.resultTypes.toList ((Value.bool true).resultList f.resultTypes.size) (s.fn H (ds ++ [])).results [] := fun b sp hd => by
    rw [hfn', hrl, hr]
    exact trodAll_mk1 (shut_bool hbool true)
  refine ⟨ds, [], pa ++ [], [], pa, [], hW0, hres _ _ _, hargs _ (fun p hp => by simpa using hlt p (by simp [hp])), hvs _, hb.frame _, fun _ => ?_⟩
  refine ⟨?_, _, _, ([] ++ pa) ++ [], ⟨[] ++ pa, [], trodAll_append (hargs _ (fun _ _ => rfl)) (hres _ _ _), hvs _, rfl, ?_, ?_⟩, ?_⟩
  · intro j t r hj hv
    rw [hrl] at hv
    rw [hr] at hj
    match j, hj, hv with
    | 0, hj, hv =>
      simp at hj hv
      subst hj; subst hv
      simp [Value.okWide, hbool, Cell.okWide, Cell.ok]
  · intro b off hp
    have hlb : b < W.heap.size := hlt (.cell b off) (by simpa using hp)
    rw [hb.frozen (p := ⟨b, off, none⟩) hlb]
    exact hz b off (by simpa using hp)
  · intro ha
    have := hn ha
    simpa using this
  · intro p hp _
    simpa using hp
end

/-- The moment when the law is called. -/
def E0 (W : World) : Env := ⟨W, fun _ => none, 0, fun _ => False⟩
theorem e0_good (W : World) : Good W (E0 W) ⟨[], 0⟩ := by
  refine { below := .refl _ _, k := rfl, lt := ?_, gone := fun _ _ => rfl, held := ?_, hid := ?_, old := fun b h => h.elim, inj := ?_ }
  · intro _ _ h; cases h
  · intro _ _ h; cases h
  · intro _ _ h; cases h
  · intro _ _ _ _ _ h; cases h
theorem e0_z {W : World} {b : Nat} (h : b < W.heap.size) : (E0 W).Z b := ⟨h, fun h => h, fun _ _ h => by cases h⟩
theorem exp_true {M : Mem} {a : AV} {E : Env} {v : Value} (h : Exp M a (.c (.bool true))) (hr : Rep E a v) : v = .bool true := by
  obtain ⟨ids, fz, h, _⟩ := h
  have hw : Weak1 a (.c (.bool true)) := by
    cases a <;> exact h.1
  rw [Weak1.eq_2 _ _ (by intro sz h1 h2; cases h2)] at hw
  subst hw
  cases hr; rfl
theorem calls_true {P : Program} {f : FuncId} {W : World} {args : Array Value} {avs : List AV} (h : PCall P f avs (.c (.bool true))) (hl : args.size = avs.length)
    (hr : ∀ i (h1 : i < avs.length) (h2 : i < args.size), Rep (E0 W) avs[i] args[i]) : Calls P f args W fun e W' => e = .returned (.bool true) ∧ Below W.heap.size W W' :=
  Calls.mono' (h.2 W (E0 W) args (e0_good W) hl hr) fun e w' ⟨v, E', M', a, h1, h2, h3, h4, h5, h6⟩ => by
    obtain rfl := exp_true h6 h5
    exact ⟨h1, h2 ▸ h3.below⟩
theorem rep_none {E : Env} : ∀ i (h1 : i < ([] : List AV).length) (h2 : i < (#[] : Array Value).size), Rep E ([] : List AV)[i] (#[] : Array Value)[i] := fun i h1 => absurd h1 (by simp)
theorem rep1 {E : Env} {a : AV} {v : Value} (h : Rep E a v) : ∀ i (h1 : i < [a].length) (h2 : i < #[v].size), Rep E [a][i] #[v][i]
  | 0, _, _ => h
theorem rep2 {E : Env} {a b : AV} {v u : Value} (h : Rep E a v) (h' : Rep E b u) : ∀ i (h1 : i < [a, b].length) (h2 : i < #[v, u].size), Rep E [a, b][i] #[v, u][i]
  | 0, _, _ => h
  | 1, _, _ => h'
theorem rep3 {E : Env} {a b c : AV} {v u w : Value} (h : Rep E a v) (h' : Rep E b u) (h'' : Rep E c w) : ∀ i (h1 : i < [a, b, c].length) (h2 : i < #[v, u, w].size), Rep E [a, b, c][i] #[v, u, w][i]
  | 0, _, _ => h
  | 1, _, _ => h'
  | 2, _, _ => h''
/-- Bytes that came in. -/
theorem rep_bytes {W : World} {a : Addr} {len cap : Nat} {zs : List Int} (hl : len ≤ cap) (hz : zs.length = cap) (hc : ∀ i, i < zs.length → W.cell? (a.add i) = some (.int .u8 (zs.getD i 0))) (hw : ∀ n ∈ zs, (Lit.int .u8 n).wf = true) :
    ∃ l : List UInt8, l.length = len ∧ Rep (E0 W) (.l 1 (l.map encB)) (.slice (some a) len cap) := by
  by_cases h0 : len = 0
  · subst h0
    exact ⟨[], rfl, .l0 _ _ _⟩
  · refine ⟨(zs.take len).map fun n => UInt8.ofNat n.toNat, by simp [hz]; omega, ?_⟩
    have hll : (((zs.take len).map fun n => UInt8.ofNat n.toNat).map encB).length = len := by simp [hz]; omega
    obtain ⟨b, off, spot⟩ := a
    have hc0 := hc 0 (by omega)
    have hsp : spot = none ∧ b < W.heap.size := by
      simp only [World.cell?, Addr.add] at hc0
      split at hc0
      · rename_i h1
        refine ⟨?_, (Array.getElem?_eq_some_iff.1 h1).1⟩
        cases spot with
        | none => rfl
        | some _ => simp at hc0
      · cases hc0
    obtain ⟨rfl, hb⟩ := hsp
    have key : ∀ i, i < len → ∃ n : Nat, n < 256 ∧ zs.getD i 0 = n := fun i hi => by
      have hi' : i < zs.length := by omega
      have hm : zs.getD i 0 ∈ zs := by
        rw [List.getD_eq_getElem?_getD, List.getElem?_eq_getElem hi']; exact List.getElem_mem _
      have := hw _ hm
      generalize zs.getD i 0 = z at this ⊢
      simp only [Lit.wf, Bool.and_eq_true, decide_eq_true_eq, IntKind.min, IntKind.max, IntKind.signed, IntKind.bits] at this
      refine ⟨z.toNat, ?_, ?_⟩ <;> simp at this <;> omega
    have := Rep.l (E := E0 W) 1 (((zs.take len).map fun n => UInt8.ofNat n.toNat).map encB) b off cap (fun i _ => .int .u8 (zs.getD i 0)) (by rw [hll]; exact hl) (e0_z hb)
      (fun i hi => by simp [encB, AV.cells]) (fun i j hi hj => by
        rw [hll] at hi
        have hj0 : j = 0 := by omega
        subst hj0
        have := hc i (by omega)
        simp only [Addr.add] at this
        refine ⟨?_, rfl⟩
        by_cases h0 : i = 0
        · subst h0; simpa [E0] using this
        · simpa [E0, h0] using this) (fun i hi j hj => by
        have hi2 : i < len := by rw [← hll]; exact hi
        obtain ⟨n, hn, he⟩ := key i hi2
        have hj0 : j = 0 := by simp [encB, AV.cells] at hj; omega
        subst hj0
        have hg : zs[i]'(by omega) = (n : Int) := by
          rw [← he, List.getD_eq_getElem?_getD, List.getElem?_eq_getElem (by omega)]; rfl
        simp only [List.getElem_map, List.getElem_take, encB, AV.cells, List.getElem_cons_zero, hg, he, Int.toNat_natCast, UInt8.toNat_ofNat', Nat.mod_eq_of_lt (show n < 2 ^ 8 from hn)]
        exact .c _ rfl)
    rw [hll] at this
    exact this
theorem rep_nil {W : World} : Rep (E0 W) (.l 1 (([] : List UInt8).map encB)) (.slice none 0 0) := .l0 _ _ _
theorem rep_str {W : World} (s : ByteArray) : ∃ l : List UInt8, l.length = s.size ∧ Rep (E0 W) (.c (.string ⟨l.toArray⟩)) (.string s) := by
  have e : (⟨s.data.toList.toArray⟩ : ByteArray) = s := by cases s; simp
  refine ⟨s.data.toList, Array.length_toList, ?_⟩
  rw [e]
  exact .c _ rfl
theorem wf_u64 {n : Int} (h : (Lit.int .u64 n).wf = true) : ∃ m : Nat, n = m ∧ m < 18446744073709551616 := by
  simp only [Lit.wf, Bool.and_eq_true, decide_eq_true_eq, IntKind.min, IntKind.max, IntKind.signed, IntKind.bits] at h
  refine ⟨n.toNat, ?_, ?_⟩ <;> simp at h <;> omega
theorem wf_u8 {n : Int} (h : (Lit.int .u8 n).wf = true) : ∃ m : Nat, n = m ∧ m < 256 := by
  simp only [Lit.wf, Bool.and_eq_true, decide_eq_true_eq, IntKind.min, IntKind.max, IntKind.signed, IntKind.bits] at h
  refine ⟨n.toNat, ?_, ?_⟩ <;> simp at h <;> omega
theorem rep_int {W : World} {k : IntKind} {n : Int} : Rep (E0 W) (.c (.int k n)) (.int k n) := .c _ rfl
end Go.Ab
