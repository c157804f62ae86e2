/- Regions whose order is drawn: any order comes to the same. -/
import Derived.Test.YtpjmbigfgoogaacAb21
import Derived.Test.YtpjmbigfgoogaacAb29
set_option linter.unusedVariables false
set_option linter.constructorNameAsVariable false
set_option linter.unusedSimpArgs false
namespace Go.Ab
open Go Go.RowKit

/-- What the last one of those that are done wrote. -/
def lastW {β : Type} : β → List (Bool × β) → Nat → (Nat → Bool) → β
  | z, [], _, _ => z
  | z, p :: l, i, S => lastW (bif p.1 && S i then p.2 else z) l (i + 1) S
theorem lastW_congr {β : Type} : ∀ (l : List (Bool × β)) (z : β) (i : Nat) (S S' : Nat → Bool), (∀ j (h : j < l.length), l[j].1 = true → S (i + j) = S' (i + j)) → lastW z l i S = lastW z l i S'
  | [], _, _, _, _, _ => rfl
  | p :: l, z, i, S, S', h => by
    simp only [lastW]
    have h0 : (p.1 && S i) = (p.1 && S' i) := by
      cases hp : p.1 with
      | false => rfl
      | true => have := h 0 (by simp) hp; simpa using this
    rw [h0]
    exact lastW_congr l _ (i + 1) S S' fun j hj hl => by
      have := h (j + 1) (by simpa using hj) (by simpa using hl)
      rw [Nat.add_assoc, Nat.add_comm 1 j]; exact this
theorem lastW_none {β : Type} : ∀ (l : List (Bool × β)) (z : β) (i : Nat) (S : Nat → Bool), (∀ j (h : j < l.length), l[j].1 = true → S (i + j) = false) → lastW z l i S = z
  | [], _, _, _, _ => rfl
  | p :: l, z, i, S, h => by
    simp only [lastW]
    have h0 : (p.1 && S i) = false := by
      cases hp : p.1 with
      | false => rfl
      | true => have := h 0 (by simp) hp; simpa using this
    rw [h0]
    exact lastW_none l _ (i + 1) S fun j hj hl => by
      have := h (j + 1) (by simpa using hj) (by simpa using hl)
      rw [Nat.add_assoc, Nat.add_comm 1 j]; exact this
theorem lastW_all {β : Type} {Q : β → Prop} : ∀ (l : List (Bool × β)) (z : β) (i : Nat) (S : Nat → Bool), Q z → (∀ j (h : j < l.length), Q l[j].2) → Q (lastW z l i S)
  | [], _, _, _, h, _ => h
  | p :: l, z, i, S, h, hl => by
    simp only [lastW]
    refine lastW_all l _ (i + 1) S ?_ fun j hj => hl (j + 1) (by simpa using hj)
    cases p.1 && S i with
    | true => exact hl 0 (by simp)
    | false => exact h
theorem lastW_is {β : Type} : ∀ (l : List (Bool × β)) (z : β) (i : Nat) (S : Nat → Bool) (k : Nat) (hk : k < l.length), l[k].1 = true → S (i + k) = true →
    (∀ j (h : j < l.length), k < j → l[j].1 = true → S (i + j) = false) → lastW z l i S = l[k].2
  | p :: l, z, i, S, 0, hk, h1, h2, h3 => by
    simp only [lastW]
    simp only [List.getElem_cons_zero, Nat.add_zero] at h1 h2 ⊢
    rw [h1, h2]
    exact lastW_none l _ (i + 1) S fun j hj hl => by
      have := h3 (j + 1) (by simpa using hj) (by omega) (by simpa using hl)
      rw [Nat.add_assoc, Nat.add_comm 1 j]; exact this
  | p :: l, z, i, S, k + 1, hk, h1, h2, h3 => by
    simp only [lastW, List.getElem_cons_succ]
    exact lastW_is l _ (i + 1) S k (by simpa using hk) (by simpa using h1) (by rw [Nat.add_assoc, Nat.add_comm 1 k]; exact h2) fun j hj hkj hl => by
      have := h3 (j + 1) (by simpa using hj) (by omega) (by simpa using hl)
      rw [Nat.add_assoc, Nat.add_comm 1 j]; exact this

def putO (sl : Slots) : Option Tmp → AV → Slots
  | none, _ => sl
  | some d, a => insert sl d a
theorem get_putO (sl : Slots) (o : Option Tmp) (a : AV) (t : Nat) : Slots.get (putO sl o a) t = if o = some t then a else Slots.get sl t := by
  cases o with
  | none => simp [putO]
  | some d =>
    simp only [putO, Slots.get, assoc_insert, Option.some.injEq]
    split <;> simp
def lkL (f : Nat → AV) (ts : List Nat) : Slots := ts.map fun t => (t, f t)
theorem get_lkL (f : Nat → AV) : ∀ (ts : List Nat) (t : Nat), Slots.get (lkL f ts) t = if t ∈ ts then f t else .x
  | [], t => by simp [lkL, Slots.get, assoc]
  | u :: ts, t => by
    by_cases e : u = t
    · subst e; simp [lkL, Slots.get, assoc]
    · have := get_lkL f ts t
      simp only [lkL, Slots.get, List.map_cons, assoc, beq_ne e, cond_false, List.mem_cons, Ne.symm e, false_or] at this ⊢
      exact this

/-- An operation, a store among them. -/
def opX (P : Program) (tab : Tab) (s : ASt) (K : AV → Mem → Prop) : Op → Prop
  | .store T x' y => tiK tab T fun ti => storeK ti s.m (ev s.sl x') (ev s.sl y) fun M => K .x M
  | op => opK P tab s K op
theorem opX_ev {P : Program} {tab : Tab} {sl sl' : Slots} {M : Mem} {N N' : Nat} {K : AV → Mem → Prop} {op : Op} (h : ∀ x ∈ op.operands, ev sl x = ev sl' x) :
    opX P tab ⟨sl, M, N⟩ K op = opX P tab ⟨sl', M, N'⟩ K op := by
  cases op
  case store T a v =>
    have h1 := h a (by simp [Op.operands])
    have h2 := h v (by simp [Op.operands])
    simp only [opX, h1, h2]
  all_goals exact opK_ev (P := P) (tab := tab) (M := M) (N := N) (N' := N') (K := K) h
theorem opX_upon {P : Program} {tab : Tab} (hT : TabOk P tab) {w0 : World} {D : List Deferred} {E : Env} {s : ASt} {a : Act} {o : Oper} {K : AV → Mem → Prop} {next : Act → World → Prop} {Q : Exit → Act → World → Prop}
    (h : St w0 E D s a) (hop : opX P tab s K o.op) (hn : ∀ v E' M' x', Good w0 E' M' → Later E E' → Rep E' x' v → K x' M' → next (a.put o.dst v) E'.w) : o.wp P a E.w next Q := by
  obtain ⟨dst, op, type, pos, after, guard⟩ := o
  cases op
  case store T x' y =>
    obtain ⟨ti, h1, h2⟩ := hop
    obtain ⟨E', M', k1, k2, k3, k4⟩ := store_out (P := P) h.g (hT _ _ h1) (rep_ev h.r x') (rep_ev h.r y) h2
    unfold Oper.wp
    have hrun : (execOp a.eval ⟨dst, .store T x' y, type, pos, after, guard⟩).run P E.w = .ok .skip E'.w := by
      simp only [execOp, Sem.run_bind, k1, Result.andThen, Sem.run_pure]
    rw [hrun]
    simp only [Oper.upon]
    exact hn undef E' M' .x k2 k3 (.x _) k4
  all_goals exact op_upon hT h hop hn

/-- An operation that does not touch the memory; a literal slice comes out as one that nobody writes any more. -/
def opZ (P : Program) (tab : Tab) (s : ASt) (K : AV → Mem → Prop) : Op → Prop
  | .buildSlice T n parts => tiK tab T fun tt => slK tt.k fun e => tiK tab e fun ti =>
      n = parts.toList.length ∧ (parts.toList.map fun p => p.1) = List.range' 0 n ∧ litK ti s.m (parts.toList.map fun p => (p.1, ev s.sl p.2)) K
  | op => opX P tab s K op
theorem opZ_ev {P : Program} {tab : Tab} {sl sl' : Slots} {M : Mem} {N N' : Nat} {K : AV → Mem → Prop} {op : Op} (h : ∀ x ∈ op.operands, ev sl x = ev sl' x) :
    opZ P tab ⟨sl, M, N⟩ K op = opZ P tab ⟨sl', M, N'⟩ K op := by
  cases op
  case buildSlice T n ps =>
    have hm : (ps.toList.map fun p => (p.1, ev sl p.2)) = ps.toList.map fun p => (p.1, ev sl' p.2) :=
      List.map_congr_left fun p hp => by rw [h p.2 (by simp only [Op.operands, List.mem_toArray]; exact List.mem_map.2 ⟨p, hp, rfl⟩)]
    simp only [opZ, hm]
  all_goals exact opX_ev (P := P) (tab := tab) (M := M) (N := N) (N' := N') (K := K) h
theorem opZ_upon {P : Program} {tab : Tab} (hT : TabOk P tab) {w0 : World} {D : List Deferred} {E : Env} {s : ASt} {a : Act} {o : Oper} {K : AV → Mem → Prop} {next : Act → World → Prop} {Q : Exit → Act → World → Prop}
    (h : St w0 E D s a) (hop : opZ P tab s K o.op) (hn : ∀ v E' M' x', Good w0 E' M' → Later E E' → Rep E' x' v → K x' M' → next (a.put o.dst v) E'.w) : o.wp P a E.w next Q := by
  obtain ⟨dst, op, type, pos, after, guard⟩ := o
  cases op
  case buildSlice T n parts =>
    obtain ⟨tt, h1, e, h2, ti, h3, h4, h5, h6⟩ := hop
    have hk := (hT _ _ h1).k
    rw [h2] at hk
    obtain ⟨v, E', M', x', k1, k2, k3, k4, k5⟩ := lit_out h.g hk (hT _ _ h3) (vs := parts.map fun (i, x) => (i, a.eval x)) (by simpa using repP_ev h.r parts.toList) (by simpa using h4) (by rw [List.map_map]; rw [h4] at h5; simp only [Function.comp_def, List.length_map]; exact h5) h6
    unfold Oper.wp
    have hrun : (execOp a.eval ⟨dst, .buildSlice T n parts, type, pos, after, guard⟩).run P E.w = .ok (.value v) E'.w := by
      simp only [execOp, Sem.run_bind, k1, Result.andThen, Sem.run_pure]
    rw [hrun]
    exact hn v E' M' x' k2 k3 k4 k5
  all_goals exact opX_upon hT h hop hn

def Gd (ops : Array Oper) (N : Nat) (sl : Slots) : Option (Nat × Bool) → Bool → Prop
  | none, b => b = true
  | some (j, w), b => ∃ d c, ((ops[j]?).bind (·.dst)) = some d ∧ d < N ∧ gv (Slots.get sl d) w = some c ∧ b = c
/-- A step, by its class: 1 looks at the memory and may change it; 2 looks at it; else it does neither. -/
structure StepOk (P : Program) (tab : Tab) (ops : Array Oper) (N : Nat) (c : Nat) (o : Oper) (sl : Slots) (M : Mem) (r : AV) (M' : Mem) : Prop where
  dst : ∀ d, o.dst = some d → d < N
  go : ∃ b, Gd ops N sl o.guard b ∧ (b = true → c = 1 → opX P tab ⟨sl, M, N⟩ (fun a M2 => a = r ∧ M2 = M') o.op) ∧
    (b = true → c = 2 → M' = M ∧ opX P tab ⟨sl, M, N⟩ (fun a M2 => a = r ∧ M2 = M) o.op) ∧
    (b = true → c ≠ 1 → c ≠ 2 → M' = M ∧ ∀ M0, opZ P tab ⟨sl, M0, N⟩ (fun a M2 => a = r ∧ M2 = M0) o.op) ∧ (b = false → r = .t [] ∧ M' = M)
def TraceL (P : Program) (tab : Tab) (ops : Array Oper) (N : Nat) (l : List Oper) (hv : List Nat) (sl : Slots) (M : Mem) (K : ASt → Prop) : Prop :=
  ∃ (slA : Nat → Slots) (mA : Nat → Mem) (rA : Nat → AV), slA 0 = sl ∧ mA 0 = M ∧
    (∀ i (h : i < l.length), StepOk P tab ops N (hv.getD i 0) l[i] (slA i) (mA i) (rA i) (mA (i + 1)) ∧ slA (i + 1) = putO (slA i) l[i].dst (rA i)) ∧ K ⟨slA l.length, mA l.length, N⟩
theorem TraceL.cons {P : Program} {tab : Tab} {ops : Array Oper} {N : Nat} {o : Oper} {l : List Oper} {h : Nat} {hv : List Nat} {sl : Slots} {M M' : Mem} {r : AV} {K : ASt → Prop}
    (h1 : StepOk P tab ops N h o sl M r M') (h2 : TraceL P tab ops N l hv (putO sl o.dst r) M' K) : TraceL P tab ops N (o :: l) (h :: hv) sl M K := by
  obtain ⟨slA, mA, rA, e1, e2, e3, e4⟩ := h2
  refine ⟨fun i => i.casesOn sl slA, fun i => i.casesOn M mA, fun i => i.casesOn r rA, rfl, rfl, fun i hi => ?_, e4⟩
  cases i with
  | zero =>
    simp only [List.getD_cons_zero, List.getElem_cons_zero]
    exact ⟨by rw [e2]; exact h1, e1⟩
  | succ i => exact e3 i (by simpa using hi)

/-- Order checks: a certificate of what is ahead of what. -/
def ancOk (ops : Array Oper) (anc : List (List Nat)) : Bool :=
  (List.range ops.size).all fun j => match ops[j]? with
    | none => false
    | some o => o.after.all (fun e => !Region.binds .any e || Nat.blt e.on j) && (anc.getD j []).all fun a => o.after.any fun e => Region.binds .any e && (e.on == a || (anc.getD e.on []).contains a)
/-- Two steps that may not change places for the memory's sake. -/
def mclash (c d : Nat) : Bool := (c == 1 && (d == 1 || d == 2)) || (d == 1 && (c == 1 || c == 2))
def confOk (ops : Array Oper) (hv : List Nat) (anc : List (List Nat)) : Bool :=
  (List.range ops.size).all fun j => (List.range j).all fun i => (anc.getD j []).contains i || match ops[i]?, ops[j]? with
    | some x, some y => x.apart ops y && !(mclash (hv.getD i 0) (hv.getD j 0))
    | _, _ => false
def drawOk (ops : Array Oper) (hv : List Nat) (anc : List (List Nat)) : Bool := ancOk ops anc && confOk ops hv anc

theorem filter_lt {α : Type} {p q : α → Bool} : ∀ (l : List α), (∀ z ∈ l, q z = true → p z = true) → ∀ i ∈ l, p i = true → q i = false → (l.filter q).length < (l.filter p).length
  | z :: l, h, i, hi, hp, hq => by
    have hle : ∀ l : List α, (∀ z ∈ l, q z = true → p z = true) → (l.filter q).length ≤ (l.filter p).length := by
      intro l
      induction l with
      | nil => intro _; simp
      | cons z l ih =>
        intro h
        have := ih fun y hy => h y (List.mem_cons_of_mem _ hy)
        cases hqz : q z with
        | true => simp [List.filter_cons, hqz, h z (by simp) hqz]; exact this
        | false => cases hpz : p z <;> simp [List.filter_cons, hqz, hpz] <;> omega
    have h' : ∀ y ∈ l, q y = true → p y = true := fun y hy => h y (List.mem_cons_of_mem _ hy)
    rcases List.mem_cons.1 hi with e | e
    · subst e
      have := hle l h'
      simp [List.filter_cons, hp, hq]; omega
    · have := filter_lt l h' i e hp hq
      cases hqz : q z with
      | true => simp [List.filter_cons, hqz, h z (by simp) hqz]; exact this
      | false => cases hpz : p z <;> simp [List.filter_cons, hqz, hpz] <;> omega

section
variable {P : Program} {tab : Tab} {ops : Array Oper} {hv : List Nat} {anc : List (List Nat)}
theorem anc_edges (h : ancOk ops anc = true) {j : Nat} {o : Oper} (ho : ops[j]? = some o) : (∀ e ∈ o.after, Region.binds .any e = true → e.on < j) ∧
    ∀ a ∈ anc.getD j [], ∃ e ∈ o.after, Region.binds .any e = true ∧ (e.on = a ∨ a ∈ anc.getD e.on []) := by
  have hj : j < ops.size := (Array.getElem?_eq_some_iff.1 ho).1
  have := List.all_eq_true.1 h j (List.mem_range.2 hj)
  simp only [ho, Bool.and_eq_true] at this
  refine ⟨fun e he hb => ?_, fun a ha => ?_⟩
  · have := Array.all_eq_true_iff_forall_mem.1 this.1 e he
    simp only [hb, Bool.not_true, Bool.false_or, Nat.blt_eq] at this
    exact this
  · have := List.all_eq_true.1 this.2 a ha
    obtain ⟨e, he, hb⟩ := Array.any_eq_true'.1 this
    simp only [Bool.and_eq_true, Bool.or_eq_true, beq_iff_eq, List.contains_iff_mem] at hb
    exact ⟨e, he, hb.1, hb.2⟩
def Closed (ops : Array Oper) (S : Nat → Bool) : Prop := ∀ j o, ops[j]? = some o → S j = true → ∀ e ∈ o.after, Region.binds .any e = true → S e.on = true
theorem anc_closed (h : ancOk ops anc = true) {S : Nat → Bool} (hc : Closed ops S) : ∀ (j : Nat) {o : Oper}, ops[j]? = some o → (∀ e ∈ o.after, Region.binds .any e = true → S e.on = true) → ∀ a ∈ anc.getD j [], S a = true := by
  intro j
  induction j using Nat.strongRecOn with
  | _ j ih =>
    intro o ho he a ha
    obtain ⟨e, h1, h2, h3⟩ := (anc_edges h ho).2 a ha
    have hlt := (anc_edges h ho).1 e h1 h2
    rcases h3 with h3 | h3
    · rw [← h3]; exact he e h1 h2
    · have hj : j < ops.size := (Array.getElem?_eq_some_iff.1 ho).1
      have ho' : ops[e.on]? = some ops[e.on] := Array.getElem?_eq_getElem (by omega)
      exact ih e.on hlt ho' (hc e.on _ ho' (he e h1 h2)) a h3
theorem conf_spec (h : confOk ops hv anc = true) {i j : Nat} {x y : Oper} (hij : i < j) (hx : ops[i]? = some x) (hy : ops[j]? = some y) : i ∈ anc.getD j [] ∨ (x.apart ops y = true ∧ mclash (hv.getD i 0) (hv.getD j 0) = false) := by
  have hj : j < ops.size := (Array.getElem?_eq_some_iff.1 hy).1
  have := List.all_eq_true.1 (List.all_eq_true.1 h j (List.mem_range.2 hj)) i (List.mem_range.2 hij)
  simp only [hx, hy, Bool.or_eq_true, Bool.and_eq_true, List.contains_iff_mem, Bool.not_eq_true'] at this
  rcases this with h | ⟨h1, h2⟩
  · exact .inl h
  · exact .inr ⟨h1, h2⟩

theorem draw_sound (hm : P.follows .mixedOrders = true) (hT : TabOk P tab) (hd : drawOk ops hv anc = true) {id : Nat} {KE : Exit → ASt → Prop} {s : ASt}
    (h : TraceL P tab ops s.N ops.toList hv s.sl s.m (KE .normal)) : ACode P (.region id ops true) KE s := by
  intro ro w0 E0 D a0 hs
  obtain ⟨slA, mA, rA, e1, e2, e3, e4⟩ := h
  simp only [drawOk, Bool.and_eq_true] at hd
  obtain ⟨ha, hcf⟩ := hd
  have hlen : ops.toList.length = ops.size := by simp
  have hstep : ∀ i o, ops[i]? = some o → StepOk P tab ops s.N (hv.getD i 0) o (slA i) (mA i) (rA i) (mA (i + 1)) ∧ slA (i + 1) = putO (slA i) o.dst (rA i) := fun i o ho => by
    obtain ⟨hi, rfl⟩ := Array.getElem?_eq_some_iff.1 ho
    have := e3 i (by rw [hlen]; exact hi)
    simpa using this
  -- what is written, by temporaries; what the memory is
  let dstA : Nat → Option Tmp := fun i => (ops[i]?).bind (·.dst)
  let wl : Nat → List (Bool × AV) := fun t => (List.range ops.size).map fun i => (dstA i == some t, rA i)
  let ml : List (Bool × Mem) := (List.range ops.size).map fun i => (hv.getD i 0 == 1, mA (i + 1))
  let val : (Nat → Bool) → Nat → AV := fun S t => lastW (Slots.get s.sl t) (wl t) 0 S
  let mem : (Nat → Bool) → Mem := fun S => lastW s.m ml 0 S
  have wlen : ∀ t, (wl t).length = ops.size := fun t => by simp [wl]
  have mlen : ml.length = ops.size := by simp [ml]
  have wget : ∀ t j (hj : j < (wl t).length), (wl t)[j] = (dstA j == some t, rA j) := fun t j hj => by simp [wl]
  have mget : ∀ j (hj : j < ml.length), ml[j] = (hv.getD j 0 == 1, mA (j + 1)) := fun j hj => by simp [ml]
  have vcong : ∀ S S' t, (∀ j, j < ops.size → dstA j = some t → S j = S' j) → val S t = val S' t := fun S S' t hh =>
    lastW_congr _ _ 0 S S' fun j hj hf => by
      rw [wget] at hf
      rw [Nat.zero_add]
      exact hh j (by rw [← wlen t]; exact hj) (by simpa using hf)
  have mcong : ∀ S S', (∀ j, j < ops.size → hv.getD j 0 = 1 → S j = S' j) → mem S = mem S' := fun S S' hh =>
    lastW_congr _ _ 0 S S' fun j hj hf => by
      rw [mget] at hf
      rw [Nat.zero_add]
      exact hh j (by rw [← mlen]; exact hj) (by simpa using hf)
  have vis : ∀ S t i, i < ops.size → dstA i = some t → S i = true → (∀ j, j < ops.size → i < j → dstA j = some t → S j = false) → val S t = rA i := fun S t i hi hdi hS hh => by
    have := lastW_is (wl t) (Slots.get s.sl t) 0 S i (by rw [wlen]; exact hi) (by rw [wget]; simpa using hdi) (by rw [Nat.zero_add]; exact hS) fun j hj hij hf => by
      rw [wget] at hf
      rw [Nat.zero_add]
      exact hh j (by rw [← wlen t]; exact hj) hij (by simpa using hf)
    rw [wget] at this
    exact this
  have mis : ∀ S i, i < ops.size → hv.getD i 0 = 1 → S i = true → (∀ j, j < ops.size → i < j → hv.getD j 0 = 1 → S j = false) → mem S = mA (i + 1) := fun S i hi hdi hS hh => by
    have := lastW_is ml s.m 0 S i (by rw [mlen]; exact hi) (by rw [mget]; simpa using hdi) (by rw [Nat.zero_add]; exact hS) fun j hj hij hf => by
      rw [mget] at hf
      rw [Nat.zero_add]
      exact hh j (by rw [← mlen]; exact hj) hij (by simpa using hf)
    rw [mget] at this
    exact this
  have canon : ∀ i, i ≤ ops.size → (∀ t, Slots.get (slA i) t = val (fun j => decide (j < i)) t) ∧ mA i = mem (fun j => decide (j < i)) := by
    intro i
    induction i with
    | zero =>
      intro _
      refine ⟨fun t => ?_, ?_⟩
      · rw [e1]; exact (lastW_none _ _ 0 _ fun j _ _ => by simp).symm
      · rw [e2]; exact (lastW_none _ _ 0 _ fun j _ _ => by simp).symm
    | succ i ih =>
      intro hi
      obtain ⟨ih1, ih2⟩ := ih (by omega)
      have ho : ops[i]? = some ops[i] := Array.getElem?_eq_getElem (by omega)
      have hda : dstA i = ops[i].dst := by simp [dstA, ho]
      obtain ⟨k1, k2⟩ := hstep i _ ho
      refine ⟨fun t => ?_, ?_⟩
      · rw [k2, get_putO]
        by_cases hdt : ops[i].dst = some t
        · rw [if_pos hdt]
          exact (vis _ t i (by omega) (by rw [hda]; exact hdt) (by simp) fun j hj hij _ => by simp; omega).symm
        · rw [if_neg hdt, ih1]
          refine vcong _ _ t fun j hj hdj => ?_
          have : j ≠ i := fun e => hdt (by rw [← hda, ← e]; exact hdj)
          exact decide_eq_decide.2 (by omega)
      · by_cases hvi : hv.getD i 0 = 1
        · exact (mis _ i (by omega) hvi (by simp) fun j hj hij _ => by simp; omega).symm
        · have hm1 : mA (i + 1) = mA i := by
            obtain ⟨b, _, _, g2, g3, g4⟩ := k1.go
            cases b with
            | true =>
              by_cases h2 : hv.getD i 0 = 2
              · exact (g2 rfl h2).1
              · exact (g3 rfl hvi h2).1
            | false => exact (g4 rfl).2
          rw [hm1, ih2]
          refine mcong _ _ fun j hj hvj => ?_
          have : j ≠ i := fun e => hvi (by rw [← e]; exact hvj)
          exact decide_eq_decide.2 (by omega)
  -- the orders
  let Q : Exit → Act → World → Prop := fun ex a' w' => ∃ E' s', E'.w = w' ∧ St w0 E' D s' a' ∧ Later E0 E' ∧ KE ex s'
  let Inv : (Nat → Bool) → Act → World → Prop := fun S a w => ∃ E, E.w = w ∧ Good w0 E (mem S) ∧ (∀ t, Rep E (val S t) (a.tmps.getD t undef)) ∧ a.tmps.size = s.N ∧ a.defers = D ∧ Later E0 E
  have hready : ∀ (listed : Array Bool), listed.size = ops.size → Region.ready .any ops listed = [] → ∀ i, i < ops.size → listed.getD i false = true := by
    intro listed hsz hr i
    induction i using Nat.strongRecOn with
    | _ i ih =>
      intro hi
      cases hl : listed.getD i false with
      | true => rfl
      | false =>
        have ho : ops[i]? = some ops[i] := Array.getElem?_eq_getElem hi
        have hmem : i ∈ Region.ready .any ops listed := mem_ready.2 ⟨by
          have : listed.getD i true = listed.getD i false := by simp [hsz, hi]
          rw [this]; exact hl, _, ho, fun e he hb => ih e.on ((anc_edges ha ho).1 e he hb) (by have := (anc_edges ha ho).1 e he hb; omega)⟩
        rw [hr] at hmem
        cases hmem
  have fin : ∀ (listed : Array Bool) (a : Act) (w : World), (∀ i, i < ops.size → listed.getD i false = true) → Inv (fun j => listed.getD j false) a w → Q .normal a w := by
    rintro listed a w hall ⟨E, rfl, g1, g2, g3, g4, g5⟩
    obtain ⟨c1, c2⟩ := canon ops.size (Nat.le_refl _)
    rw [hlen] at e4
    refine ⟨E, ⟨slA ops.size, mA ops.size, s.N⟩, rfl, ⟨?_, fun t => ?_, g3, g4⟩, g5, e4⟩
    · rw [c2, mcong _ (fun j => listed.getD j false) fun j hj _ => by rw [hall j hj]; simp [hj]]
      exact g1
    · rw [c1, vcong _ (fun j => listed.getD j false) t fun j hj _ => by rw [hall j hj]; simp [hj]]
      exact g2 t
  have step : ∀ (listed : Array Bool) (a : Act) (w : World) (i : Nat) (K : Act → World → Prop), listed.size = ops.size → Closed ops (fun j => listed.getD j false) → Inv (fun j => listed.getD j false) a w →
      i ∈ Region.ready .any ops listed → (∀ a' w', Inv (fun j => (listed.setIfInBounds i true).getD j false) a' w' → K a' w') → wpOpIn (FF ro) 0 P ops Q i K a w := by
    rintro listed a w i K hsz hcl ⟨E, rfl, g1, g2, g3, g4, g5⟩ hi hK
    obtain ⟨hun0, o, ho, hall⟩ := mem_ready.1 hi
    have hin : i < ops.size := (Array.getElem?_eq_some_iff.1 ho).1
    have hun : listed.getD i false = false := by
      have : listed.getD i true = listed.getD i false := by simp [hsz, hin]
      rw [← this]; exact hun0
    have hda : dstA i = o.dst := by simp [dstA, ho]
    have hanc := anc_closed ha hcl i ho hall
    have hS' : ∀ j, (listed.setIfInBounds i true).getD j false = if j = i then true else listed.getD j false := fun j => by
      by_cases e : j = i
      · subst e; simp [hsz, hin]
      · rw [if_neg e, getD_set_ne false (Ne.symm e)]
    -- nobody behind whom it matters to is done yet
    have hlate : ∀ j y, i < j → ops[j]? = some y → i ∈ anc.getD j [] → listed.getD j false = false := fun j y hij hy hja => by
      cases hl : listed.getD j false with
      | false => rfl
      | true =>
        have := anc_closed ha hcl j hy (hcl j y hy hl) i hja
        rw [hun] at this
        cases this
    have hread : ∀ t, t ∈ o.looksAt ops → val (fun j => listed.getD j false) t = Slots.get (slA i) t := fun t ht => by
      rw [(canon i (by omega)).1]
      refine vcong _ _ t fun j hj hdj => ?_
      have hy : ops[j]? = some ops[j] := Array.getElem?_eq_getElem hj
      have hdj' : ops[j].dst = some t := by simpa [dstA, hy] using hdj
      rcases Nat.lt_trichotomy j i with h1 | h1 | h1
      · rcases conf_spec hcf h1 hy ho with h2 | ⟨h2, _⟩
        · rw [hanc j h2]; simp [h1]
        · exact absurd ht ((Oper.apart_spec h2).1 t hdj')
      · subst h1; rw [hun]; simp
      · rcases conf_spec hcf h1 ho hy with h2 | ⟨h2, _⟩
        · rw [hlate j _ h1 hy h2]; simp; omega
        · exact absurd ht ((Oper.apart_spec h2).2.2 t hdj')
    have hmemr : (hv.getD i 0 = 1 ∨ hv.getD i 0 = 2) → mem (fun j => listed.getD j false) = mA i := fun hvi => by
      rw [(canon i (by omega)).2]
      refine mcong _ _ fun j hj hvj => ?_
      have hy : ops[j]? = some ops[j] := Array.getElem?_eq_getElem hj
      rcases Nat.lt_trichotomy j i with h1 | h1 | h1
      · rcases conf_spec hcf h1 hy ho with h2 | ⟨_, h2⟩
        · rw [hanc j h2]; simp [h1]
        · rcases hvi with hvi | hvi <;> rw [hvj, hvi] at h2 <;> exact absurd h2 (by decide)
      · subst h1; rw [hun]; simp
      · rcases conf_spec hcf h1 ho hy with h2 | ⟨_, h2⟩
        · rw [hlate j _ h1 hy h2]; simp; omega
        · rcases hvi with hvi | hvi <;> rw [hvj, hvi] at h2 <;> exact absurd h2 (by decide)
    have hval' : ∀ t, val (fun j => (listed.setIfInBounds i true).getD j false) t = if o.dst = some t then rA i else val (fun j => listed.getD j false) t := fun t => by
      by_cases hdt : o.dst = some t
      · rw [if_pos hdt]
        refine vis _ t i hin (by rw [hda]; exact hdt) (by rw [hS', if_pos rfl]) fun j hj hij hdj => ?_
        rw [hS', if_neg (by omega)]
        have hy : ops[j]? = some ops[j] := Array.getElem?_eq_getElem hj
        have hdj' : ops[j].dst = some t := by simpa [dstA, hy] using hdj
        rcases conf_spec hcf hij ho hy with h2 | ⟨h2, _⟩
        · exact hlate j _ hij hy h2
        · exact absurd hdj' ((Oper.apart_spec h2).2.1 t hdt)
      · rw [if_neg hdt]
        refine vcong _ _ t fun j hj hdj => ?_
        have : j ≠ i := fun e => hdt (by rw [← hda, ← e]; exact hdj)
        rw [hS', if_neg this]
    have hmem' : mem (fun j => (listed.setIfInBounds i true).getD j false) = if hv.getD i 0 = 1 then mA (i + 1) else mem (fun j => listed.getD j false) := by
      by_cases hvi : hv.getD i 0 = 1
      · rw [if_pos hvi]
        refine mis _ i hin hvi (by rw [hS', if_pos rfl]) fun j hj hij hvj => ?_
        rw [hS', if_neg (by omega)]
        have hy : ops[j]? = some ops[j] := Array.getElem?_eq_getElem hj
        rcases conf_spec hcf hij ho hy with h2 | ⟨_, h2⟩
        · exact hlate j _ hij hy h2
        · rw [hvj, hvi] at h2; exact absurd h2 (by decide)
      · rw [if_neg hvi]
        refine mcong _ _ fun j hj hvj => ?_
        have : j ≠ i := fun e => hvi (by rw [← e]; exact hvj)
        rw [hS', if_neg this]
    obtain ⟨⟨hdst, b, hgd, hheavy, hlook, hfree, hskip⟩, _⟩ := hstep i o ho
    have hnext : ∀ v E' M', Good w0 E' M' → Later E E' → Rep E' (rA i) v → M' = mem (fun j => (listed.setIfInBounds i true).getD j false) → K (a.put o.dst v) E'.w := fun v E' M' k1 k2 k3 k4 => by
      refine hK _ _ ⟨E', rfl, k4 ▸ k1, fun t => ?_, ?_, ?_, g5.trans k2⟩
      · rw [hval']
        cases hdo : o.dst with
        | none => simp only [Act.put, reduceCtorEq, if_false]; exact (g2 t).later k2
        | some d =>
          have hds : d < a.tmps.size := by rw [g3]; exact hdst d hdo
          by_cases hdt : d = t
          · subst hdt
            simp only [Act.put, if_true]
            have : (a.tmps.setIfInBounds d v).getD d undef = v := by simp [hds]
            rw [this]; exact k3
          · rw [if_neg (by simpa using hdt)]
            have : ((a.put (some d) v).tmps).getD t undef = a.tmps.getD t undef := by simp [Act.put, Array.getElem?_setIfInBounds_ne hdt]
            rw [this]; exact (g2 t).later k2
      · cases o.dst <;> simp [Act.put, g3]
      · cases o.dst <;> exact g4
    have hw : Region.wanted o (yielded ops a.tmps) = b := by
      unfold Region.wanted
      cases hgo : o.guard with
      | none => rw [hgo] at hgd; exact (show b = true from hgd).symm
      | some q =>
        obtain ⟨j, w⟩ := q
        rw [hgo] at hgd
        obtain ⟨d, c, h1, h2, h3, h4⟩ := hgd
        have hdl : d ∈ o.looksAt ops := List.mem_append_right _ (by simp [hgo, h1])
        have hv := g2 d
        rw [hread d hdl] at hv
        have hds : d < a.tmps.size := by rw [g3]; exact h2
        have : a.tmps.getD d undef = a.tmps[d] := by simp [Array.getD, hds]
        rw [this] at hv
        have hy : (yielded ops a.tmps j == some w) = c := by
          unfold yielded
          rw [h1]
          simp only [Option.bind_some, Array.getElem?_eq_getElem hds]
          have := gv_wanted hv h3
          generalize a.tmps[d] = v at this ⊢
          cases v <;> exact this
        rw [h4]; exact hy
    unfold wpOpIn
    simp only [ho]
    rw [hw]
    cases b with
    | false =>
      obtain ⟨k1, k2⟩ := hskip rfl
      simp only [Bool.false_eq_true, if_false]
      refine ⟨fun _ _ => trivial, ?_⟩
      refine hnext undef E _ g1 (.refl E) (by rw [k1]; exact rep_undef) ?_
      rw [hmem']
      split
      · rename_i hvi; rw [hmemr (.inl hvi), k2]
      · rfl
    | true =>
      simp only [if_true]
      let ts : List Nat := o.op.operands.toList.filterMap fun | .tmp t => some t | _ => none
      have hts : ∀ t, t ∈ ts → t ∈ o.looksAt ops := fun t ht => List.mem_append_left _ ht
      let L := lkL (val (fun j => listed.getD j false)) ts
      have hevs : ∀ z, z ∈ o.op.operands → ev (slA i) z = ev L z := fun z hz => by
        cases z with
        | tmp t =>
          have ht : t ∈ ts := List.mem_filterMap.2 ⟨.tmp t, by simpa using hz, rfl⟩
          show Slots.get (slA i) t = Slots.get L t
          rw [get_lkL, if_pos ht, hread t (hts t ht)]
        | _ => rfl
      have hst : ∀ M, Good w0 E M → St w0 E D ⟨L, M, s.N⟩ a := fun M hM => ⟨hM, fun t => by
        show Rep E (Slots.get L t) _
        rw [get_lkL]
        split
        · exact g2 t
        · exact .x _, g3, g4⟩
      by_cases hvi : hv.getD i 0 = 1
      · have hop := hheavy rfl hvi
        rw [opX_ev (N' := s.N) hevs, ← hmemr (.inl hvi)] at hop
        refine wpIn_of_wp (fun c e => by rw [e] at hop; exact hop) ?_
        exact opX_upon hT (hst _ g1) hop fun v E' M' x' k1 k2 k3 k4 => hnext v E' M' k1 k2 (k4.1 ▸ k3) (by rw [hmem', if_pos hvi]; exact k4.2)
      · by_cases hv2 : hv.getD i 0 = 2
        · have hop := (hlook rfl hv2).2
          rw [opX_ev (N' := s.N) hevs, ← hmemr (.inr hv2)] at hop
          refine wpIn_of_wp (fun c e => by rw [e] at hop; exact hop) ?_
          exact opX_upon hT (hst _ g1) hop fun v E' M' x' k1 k2 k3 k4 => hnext v E' M' k1 k2 (k4.1 ▸ k3) (by rw [hmem', if_neg hvi]; exact k4.2)
        · have hop := (hfree rfl hvi hv2).2 (mem (fun j => listed.getD j false))
          rw [opZ_ev (N' := s.N) hevs] at hop
          refine wpIn_of_wp (fun c e => by rw [e] at hop; exact hop) ?_
          exact opZ_upon hT (hst _ g1) hop fun v E' M' x' k1 k2 k3 k4 => hnext v E' M' k1 k2 (k4.1 ▸ k3) (by rw [hmem', if_neg hvi]; exact k4.2)
  have main : ∀ (fuel : Nat) (listed : Array Bool) (a : Act) (w : World), listed.size = ops.size → Closed ops (fun j => listed.getD j false) → ((List.range ops.size).filter fun j => !listed.getD j false).length ≤ fuel →
      Inv (fun j => listed.getD j false) a w → wpAnyIn (FF ro) 0 P .any ops Q fuel listed a w := by
    intro fuel
    induction fuel with
    | zero =>
      intro listed a w hsz hcl hcnt hinv
      have hnil : (List.range ops.size).filter (fun j => !listed.getD j false) = [] := List.eq_nil_of_length_eq_zero (by omega)
      have hall : ∀ i, i < ops.size → listed.getD i false = true := fun i hi => by
        have := List.filter_eq_nil_iff.1 hnil i (List.mem_range.2 hi)
        simpa using this
      refine ⟨?_, fin listed a w hall hinv⟩
      refine List.eq_nil_iff_forall_not_mem.2 fun i hi => ?_
      obtain ⟨h1, o, ho, _⟩ := mem_ready.1 hi
      have hin : i < ops.size := (Array.getElem?_eq_some_iff.1 ho).1
      have h2 := hall i hin
      have : listed.getD i true = listed.getD i false := by simp [hsz, hin]
      rw [this, h2] at h1
      cases h1
    | succ fuel ih =>
      intro listed a w hsz hcl hcnt hinv
      refine ⟨fun hr => fin listed a w (hready listed hsz hr) hinv, fun i hi => step listed a w i _ hsz hcl hinv hi fun a' w' hinv' => ?_⟩
      obtain ⟨h1, o, ho, hall⟩ := mem_ready.1 hi
      have hin : i < ops.size := (Array.getElem?_eq_some_iff.1 ho).1
      have hun : listed.getD i false = false := by
        have : listed.getD i true = listed.getD i false := by simp [hsz, hin]
        rw [← this]; exact h1
      have hS' : ∀ j, (listed.setIfInBounds i true).getD j false = if j = i then true else listed.getD j false := fun j => by
        by_cases e : j = i
        · subst e; simp [hsz, hin]
        · rw [if_neg e, getD_set_ne false (Ne.symm e)]
      refine ih _ a' w' (by simp [hsz]) (fun j y hy hj e he hb => ?_) ?_ hinv'
      · simp only [hS'] at hj ⊢
        by_cases hji : j = i
        · subst hji
          rw [ho] at hy; cases hy
          split
          · rfl
          · exact hall e he hb
        · rw [if_neg hji] at hj
          split
          · rfl
          · exact hcl j y hy hj e he hb
      · have hlt : ((List.range ops.size).filter fun j => !(listed.setIfInBounds i true).getD j false).length < ((List.range ops.size).filter fun j => !listed.getD j false).length :=
          filter_lt _ (fun j _ hj => by
            simp only [hS'] at hj
            split at hj
            · simp at hj
            · exact hj) i (List.mem_range.2 hin) (by simp only [hun]; rfl) (by simp only [hS']; simp)
        omega
  refine wpIn_region_any hm (main ops.size _ a0 _ (by simp) (fun j y _ hj => ?_) ?_ ?_)
  · by_cases h : j < ops.size <;> simp [h] at hj
  · refine Nat.le_trans (List.length_filter_le _ _) (by simp)
  · obtain ⟨k1, k2⟩ := hs.g.drawn (E0.w.drawn + 1)
    have h0 : ∀ j, (Array.replicate ops.size false).getD j false = false := fun j => by
      by_cases h : j < ops.size <;> simp [h]
    refine ⟨_, rfl, ?_, fun t => ?_, hs.n, hs.d, k2⟩
    · have : mem (fun j => (Array.replicate ops.size false).getD j false) = s.m := lastW_none _ _ 0 _ fun j _ _ => h0 _
      rw [this]; exact k1
    · have : val (fun j => (Array.replicate ops.size false).getD j false) t = Slots.get s.sl t := lastW_none _ _ 0 _ fun j _ _ => h0 _
      rw [this]; exact (hs.r t).later k2
end
end Go.Ab
