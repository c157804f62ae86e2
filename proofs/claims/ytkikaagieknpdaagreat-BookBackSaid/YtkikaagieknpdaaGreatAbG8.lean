/- Behind a piece of code: full rows and windows are read as data. Panics: the .. -/
import Derived.Test.YtkikaagieknpdaaGreatAbG7
import Derived.Recover
set_option linter.unusedVariables false
set_option linter.constructorNameAsVariable false
set_option linter.unusedSimpArgs false
namespace Go.Ab
open Go Go.RowKit
variable {pf : Value → Mem → Prop}
def SeeK (K : Exit → ASt → Prop) (e : Exit) (s : ASt) : Prop :=
 ∀ w0 E D a E0, St w0 E D s a → Later E0 E → ∃ E' s', E'.w = E.w ∧ St w0 E' D s' a ∧ Later E0 E' ∧ K e s'
theorem SeeK.done {K : Exit → ASt → Prop} {e : Exit} {s : ASt} (h : K e s) : SeeK K e s := fun w0 E D a E0 hst hl => ⟨E, s, rfl, hst, hl, h⟩
theorem see_after {P : Program} {c : Code} {K : Exit → ASt → Prop} {s : ASt} (h : ACodeG pf P c (SeeK K) s) : ACodeG pf P c K s := fun hK ro w0 E D a hst =>
 Code.wpIn_mono (fun e _ _ ⟨E', s', h1, h2, h3, h4⟩ => by
  obtain ⟨E2, s2, k1, k2, k3, k4⟩ := h4 _ _ _ _ _ h2 h3
  exact ⟨E2, s2, k1.trans h1, k2, k3, k4⟩) (h (fun x s hx => .done (hK x s hx)) ro w0 E D a hst)
end Go.Ab
namespace Go.Ab
open Go Go.RowKit
variable {pf pf' : Value → Mem → Prop}
theorem ICallG.trim {P : Program} {f : FuncId} {args : List AV} {M : Mem} {K : AV → Mem → Prop} (h : ICallG pf P f args M (fun a M1 => ∃ M', M.k ≤ M'.k ∧ Under M'.k a ∧ memFit M1 M'.k M'.l ∧ K a M')) : ICallG pf P f args M K :=
 ⟨h.1, fun w0 E vs h1 h2 h3 => Calls.mono' (h.2 w0 E vs h1 h2 h3) fun _ _ hp => hp.imp (fun ⟨v, E', M1, a, e1, e2, g, l, r, M', k1, k2, k3, k4⟩ =>
  ⟨v, E'.keep (fun i => (M'.get i).isSome) M'.k, M', a, e1, e2, g.keep k3, l.keep' _ (by rw [← h1.k]; exact k1), r.keep k2, k4⟩) id⟩
section
variable {P : Program} {tab : Tab} {K : ASt → Prop} {KE : Exit → ASt → Prop} {dst : Option Tmp} {s : ASt} {sl : Slots} {m : Mem} {N : Nat} {x' : Operand} {T : TypeId} {v : Value} {fs : List (Nat × TypeId)} {KA : AV → Prop}
theorem o_mki : aopS pf P tab K dst (.makeInterface T x') ⟨sl, m, N⟩ = tiK tab T fun ti => mkiK T ti.k (ev sl x') fun a => setT sl N K dst a m := by
 simp only [aopS, aop, opK, setT_eq]
theorem o_panic : aopS pf P tab K dst (.panic x') ⟨sl, m, N⟩ = panK pf m (ev sl x') := rfl
theorem r_mki : mkiK T (.st fs) (.g []) KA = KA (.c (.iface T (.agg #[]))) := rfl
theorem r_pan : panK pf m (.c (.iface T v)) = pf (.iface T v) m := rfl
theorem op_n : orP pf KE .normal s = KE .normal s := rfl
theorem op_r : orP pf KE .ret s = KE .ret s := rfl
theorem op_e {i : Nat} : orP pf KE (.exit i) s = KE (.exit i) s := rfl
theorem op_g {i : Nat} : orP pf KE (.goto i) s = KE (.goto i) s := rfl
end
theorem wpn : (type_of% @op_n) ∧ (type_of% @op_r) ∧ (type_of% @op_e) ∧ (type_of% @op_g) ∧ (type_of% @o_mki) ∧ (type_of% @o_panic) ∧ (type_of% @r_mki) ∧ (type_of% @r_pan) := ⟨@op_n, @op_r, @op_e, @op_g, @o_mki, @o_panic, @r_mki, @r_pan⟩
end Go.Ab
namespace Go.Ab
open Go Go.RowKit
variable {pf : Value → Mem → Prop}
def hvOf : List Nat → List Nat
 | [] => []
 | c :: cs => (bif Nat.beq c 9 then 2 else bif Nat.beq c 8 then 0 else c) :: hvOf cs
theorem hvOf_len : ∀ l, (hvOf l).length = l.length
 | [] => rfl
 | c :: cs => by simp [hvOf, hvOf_len cs]
theorem hvOf_pd : ∀ (cs xs : List Nat), pdOf (hvOf cs) xs = pdOf cs xs
 | [], [] => rfl
 | [], _ :: _ => rfl
 | _ :: _, [] => by simp [hvOf, pdOf]
 | c :: cs, x :: xs => by
  simp only [hvOf, pdOf, hvOf_pd cs xs]
  by_cases h9 : c = 9
  · subst h9; rfl
  · by_cases h8 : c = 8
    · subst h8; rfl
    · rw [beq_ne h9, beq_ne h8]; rfl
def dieOf : Nat → List Nat → List Nat
 | _, [] => []
 | k, c :: cs => bif Nat.beq c 9 || Nat.beq c 8 then k :: dieOf (k + 1) cs else dieOf (k + 1) cs
def drD (pf : Value → Mem → Prop) (P : Program) (tab : Tab) (ops : Array Oper) (die : List Nat) : List Oper → List Nat → List Nat → ASt → Prop
 | [], [], [], _ => True
 | o :: l, c :: cs, x :: xs, s =>
  bif Nat.beq c 8 then (o.after.toList.any fun e => Region.binds .any e && die.contains e.on) = true ∧ drD pf P tab ops die l cs xs ⟨putO s.sl o.dst .x, s.m, s.N⟩
  else bif Nat.beq c 9 then o.guard = none ∧ (∀ β, opX pf P tab ⟨s.sl, ovP β (pdOf cs xs) s.m, s.N⟩ (fun _ _ => False) o.op) ∧ drD pf P tab ops die l cs xs ⟨putO s.sl o.dst .x, s.m, s.N⟩
  else guardK ops s o.guard (stepS4 pf P tab (pdOf cs xs) c x (fun s => drD pf P tab ops die l cs xs s) o.dst o.op s) (c ≠ 4 ∧ setK s (fun s => drD pf P tab ops die l cs xs s) o.dst (.t []) s.m) ∧ (o.guard = none ∨ c ≠ 4)
 | _, _, _, _ => False
def TraceC (pf : Value → Mem → Prop) (P : Program) (tab : Tab) (ops : Array Oper) (N : Nat) (die : List Nat) (l : List Oper) (cd xs : List Nat) (sl : Slots) (M : Mem) : Prop :=
 ∃ (slA : Nat → Slots) (mA : Nat → Mem) (rA : Nat → AV) (fb : Nat → Blk), slA 0 = sl ∧ mA 0 = M ∧
  (∀ i (h : i < l.length), ((¬ (cd.getD i 0 = 9 ∨ cd.getD i 0 = 8) → Step4 pf P tab ops N (pdF (hvOf cd) xs (i + 1) (l.length - (i + 1))) ((hvOf cd).getD i 0) (xs.getD i 0) l[i] (slA i) (mA i) (rA i) (mA (i + 1)) (fb i)) ∧
   ((cd.getD i 0 = 9 ∨ cd.getD i 0 = 8) → mA (i + 1) = mA i ∧ (hvOf cd).getD i 0 ≠ 1 ∧ (hvOf cd).getD i 0 ≠ 4 ∧ Dies4 pf P tab N die (pdF (hvOf cd) xs (i + 1) (l.length - (i + 1))) ((hvOf cd).getD i 0) l[i] (slA i) (mA i))) ∧ slA (i + 1) = putO (slA i) l[i].dst (rA i))
theorem TraceC.cons {P : Program} {tab : Tab} {ops : Array Oper} {N : Nat} {die : List Nat} {o : Oper} {l : List Oper} {c x : Nat} {cd xs : List Nat} {sl : Slots} {M M' : Mem} {r : AV} {fb : Blk}
 (h1 : (¬ (c = 9 ∨ c = 8) → Step4 pf P tab ops N (pdF (hvOf cd) xs 0 l.length) ((hvOf (c :: cd)).getD 0 0) x o sl M r M' fb) ∧ ((c = 9 ∨ c = 8) → M' = M ∧ (hvOf (c :: cd)).getD 0 0 ≠ 1 ∧ (hvOf (c :: cd)).getD 0 0 ≠ 4 ∧ Dies4 pf P tab N die (pdF (hvOf cd) xs 0 l.length) ((hvOf (c :: cd)).getD 0 0) o sl M))
 (h2 : TraceC pf P tab ops N die l cd xs (putO sl o.dst r) M') : TraceC pf P tab ops N die (o :: l) (c :: cd) (x :: xs) sl M := by
 obtain ⟨slA, mA, rA, fA, e1, e2, e3⟩ := h2
 refine ⟨fun i => i.casesOn sl slA, fun i => i.casesOn M mA, fun i => i.casesOn r rA, fun i => i.casesOn fb fA, rfl, rfl, fun i hi => ?_⟩
 cases i with
 | zero =>
  simp only [List.getElem_cons_zero, List.getD_cons_zero]
  refine ⟨?_, e1⟩
  rw [List.length_cons, show l.length + 1 - (0 + 1) = l.length by omega]
  have hp : pdF (hvOf (c :: cd)) (x :: xs) (0 + 1) l.length = pdF (hvOf cd) xs 0 l.length := by rw [hvOf, pdF_cons]
  rw [hp]
  show (_ → Step4 pf P tab ops N _ _ x o sl M r (mA 0) fb) ∧ (_ → mA 0 = M ∧ _)
  rw [e2]; exact h1
 | succ i =>
  have := e3 i (by simpa using hi)
  have hp : pdF (hvOf (c :: cd)) (x :: xs) (i + 1 + 1) ((o :: l).length - (i + 1 + 1)) = pdF (hvOf cd) xs (i + 1) (l.length - (i + 1)) := by
   rw [hvOf, pdF_cons, List.length_cons, show l.length + 1 - (i + 1 + 1) = l.length - (i + 1) by omega]
  rw [hp]
  exact this
theorem drD_trace {P : Program} {tab : Tab} {ops : Array Oper} {die : List Nat} : ∀ (l : List Oper) (cd xs : List Nat) (s : ASt), drD pf P tab ops die l cd xs s → cd.length = l.length ∧ xs.length = l.length ∧ TraceC pf P tab ops s.N die l cd xs s.sl s.m
 | [], [], [], s, h => ⟨rfl, rfl, fun _ => s.sl, fun _ => s.m, fun _ => .x, fun _ => default, rfl, rfl, fun i h => absurd h (by simp)⟩
 | o :: l, c :: cs, x :: xs, s, h => by
  obtain ⟨sl, m, N⟩ := s
  unfold drD at h
  by_cases h8 : c = 8
  · subst h8
    obtain ⟨h1, h2⟩ := h
    replace h1 : ∃ e ∈ o.after, Region.binds .any e = true ∧ e.on ∈ die := by
     obtain ⟨e, he, hb⟩ := List.any_eq_true.1 h1
     simp only [Bool.and_eq_true, List.contains_iff_mem] at hb
     exact ⟨e, by simpa using he, hb.1, hb.2⟩
    obtain ⟨q1, q2, q3⟩ := drD_trace l cs xs _ h2
    exact ⟨by simp [q1], by simp [q2], .cons (r := .x) (M' := m) (fb := default) ⟨fun hn => absurd (.inr rfl) hn, fun _ => ⟨rfl, (show (0 : Nat) ≠ 1 by decide), (show (0 : Nat) ≠ 4 by decide), .inl h1⟩⟩ q3⟩
  rw [beq_ne h8, cond_false] at h
  by_cases h9 : c = 9
  · subst h9
    obtain ⟨h1, h2, h3⟩ := h
    obtain ⟨q1, q2, q3⟩ := drD_trace l cs xs _ h3
    refine ⟨by simp [q1], by simp [q2], .cons (r := .x) (M' := m) (fb := default) ⟨fun hn => absurd (.inl rfl) hn, fun _ => ⟨rfl, (show (2 : Nat) ≠ 1 by decide), (show (2 : Nat) ≠ 4 by decide), .inr ⟨rfl, h1, ?_⟩⟩⟩ q3⟩
    have hp : pdF (hvOf cs) xs 0 l.length = pdOf cs xs := by
     have := pdF_of (hv := hvOf cs) (xs := xs) (by rw [hvOf_len]; omega)
     rw [hvOf_len, q1] at this
     rw [this, hvOf_pd]
    rw [hp]; exact h2
  rw [beq_ne h9, cond_false] at h
  have hn : ¬ (c = 9 ∨ c = 8) := fun hh => hh.elim h9 h8
  have hcode : (hvOf (c :: cs)).getD 0 0 = c := by simp [hvOf, beq_ne h9, beq_ne h8]
  -- one step, by the walk without a step that dies
  have hone : ∃ r M' fb, Step4 pf P tab ops N (pdOf cs xs) c x o sl m r M' fb ∧ drD pf P tab ops die l cs xs ⟨putO sl o.dst r, M', N⟩ := step_one h
  obtain ⟨r, M', fb, k1, k2⟩ := hone
  obtain ⟨q1, q2, q3⟩ := drD_trace l cs xs _ k2
  have hp : pdF (hvOf cs) xs 0 l.length = pdOf cs xs := by
   have := pdF_of (hv := hvOf cs) (xs := xs) (by rw [hvOf_len]; omega)
   rw [hvOf_len, q1] at this
   rw [this, hvOf_pd]
  exact ⟨by simp [q1], by simp [q2], .cons ⟨fun _ => by rw [hp, hcode]; exact k1, fun hh => absurd hh hn⟩ q3⟩
 | [], _ :: _, _, _, h => h.elim
 | [], [], _ :: _, _, h => h.elim
 | _ :: _, [], _, _, h => h.elim
 | _ :: _, _ :: _, [], _, h => h.elim
theorem mem_dieOf : ∀ (cd : List Nat) (k i : Nat), i ∈ dieOf k cd ↔ k ≤ i ∧ i < k + cd.length ∧ (cd.getD (i - k) 0 = 9 ∨ cd.getD (i - k) 0 = 8)
 | [], k, i => by simp [dieOf]
 | c :: cs, k, i => by
  have ih := mem_dieOf cs (k + 1) i
  have hs : ∀ h : k + 1 ≤ i, i - k = (i - (k + 1)) + 1 := fun h => by omega
  unfold dieOf
  by_cases hc : c = 9 ∨ c = 8
  · have hb : (Nat.beq c 9 || Nat.beq c 8) = true := by rcases hc with rfl | rfl <;> rfl
    rw [hb, cond_true, List.mem_cons, ih]
    constructor
    · rintro (rfl | ⟨h1, h2, h3⟩)
      · exact ⟨Nat.le_refl _, by simp, by simpa using hc⟩
      · exact ⟨by omega, by simp; omega, by rw [hs h1, List.getD_cons_succ]; exact h3⟩
    · rintro ⟨h1, h2, h3⟩
      by_cases e : i = k
      · exact .inl e
      · have h4 : k + 1 ≤ i := by omega
        rw [hs h4, List.getD_cons_succ] at h3
        exact .inr ⟨h4, by simp at h2; omega, h3⟩
  · have hb : (Nat.beq c 9 || Nat.beq c 8) = false := by
     rw [beq_ne (fun e => hc (.inl e)), beq_ne (fun e => hc (.inr e))]; rfl
    rw [hb, cond_false, ih]
    constructor
    · rintro ⟨h1, h2, h3⟩
      exact ⟨by omega, by simp; omega, by rw [hs h1, List.getD_cons_succ]; exact h3⟩
    · rintro ⟨h1, h2, h3⟩
      by_cases e : i = k
      · subst e; exact absurd (by simpa using h3) hc
      · have h4 : k + 1 ≤ i := by omega
        rw [hs h4, List.getD_cons_succ] at h3
        exact ⟨h4, by simp at h2; omega, h3⟩
theorem draw_die {P : Program} {tab : Tab} (hT : TabOk P tab) (hm : P.follows .mixedOrders = true) {ops : Array Oper} (rs : List (TypeId × Nat)) (cd xs : List Nat) (anc : List (List Nat)) (hd : drawOk4 ops (hvOf cd) xs anc = true) {id : Nat} {KE : Exit → ASt → Prop} {s : ASt}
 (hi : idOk ops.size (hvOf cd) xs s.m.k rs.length = true) (hne : (dieOf 0 cd).isEmpty = false) (h : drD pf P tab ops (dieOf 0 cd) ops.toList cd xs ⟨s.sl, resv s.m rs, s.N⟩) : ACodeG pf P (.region id ops true) KE s := by
 obtain ⟨q1, q2, slA, mA, rA, fb, e1, e2, e3⟩ := drD_trace _ _ _ _ h
 have hmem : ∀ i, i < ops.toList.length → (i ∈ dieOf 0 cd ↔ (cd.getD i 0 = 9 ∨ cd.getD i 0 = 8)) := fun i hi => by
  rw [mem_dieOf]
  simp only [Nat.sub_zero]
  exact ⟨fun h => h.2.2, fun h => ⟨Nat.zero_le _, by omega, h⟩⟩
 refine draw_sound4D (dieOf 0 cd) hm hT hd rs hi ⟨slA, mA, rA, fb, e1, e2, fun i hi => ⟨⟨fun hn => (e3 i hi).1.1 fun hh => hn ((hmem i hi).2 hh), fun hh => (e3 i hi).1.2 ((hmem i hi).1 hh)⟩, (e3 i hi).2⟩, fun i hh => ?_, fun h0 => ?_⟩
 · have := ((mem_dieOf cd 0 i).1 hh).2.1
   omega
 · rw [h0] at hne; cases hne
section
variable {P : Program} {tab : Tab} {ops : Array Oper} {dst : Option Tmp} {sl : Slots} {m : Mem} {N : Nat} {s : ASt} {l : List Oper} {cs xs die : List Nat} {c x : Nat} {op : Op} {ty : TypeId} {pos : String} {af : Array Edge} {g : Option (Nat × Bool)}
theorem dd_nil : drD pf P tab ops die [] [] [] s = True := rfl
theorem dd_8 : drD pf P tab ops die (⟨dst, op, ty, pos, af, g⟩ :: l) (8 :: cs) (x :: xs) ⟨sl, m, N⟩ = ((af.toList.any fun e => Region.binds .any e && die.contains e.on) = true ∧ drD pf P tab ops die l cs xs ⟨putO sl dst .x, m, N⟩) := rfl
theorem dd_9 : drD pf P tab ops die (⟨dst, op, ty, pos, af, none⟩ :: l) (9 :: cs) (x :: xs) ⟨sl, m, N⟩ = ((∀ β, opX pf P tab ⟨sl, ovP β (pdOf cs xs) m, N⟩ (fun _ _ => False) op) ∧ drD pf P tab ops die l cs xs ⟨putO sl dst .x, m, N⟩) := by
 simp only [drD, Nat.beq_eq_true_eq, true_and]; rfl
theorem dd_0 : drD pf P tab ops die (⟨dst, op, ty, pos, af, none⟩ :: l) (0 :: cs) (x :: xs) ⟨sl, m, N⟩ = stepS4 pf P tab (pdOf cs xs) 0 x (fun s => drD pf P tab ops die l cs xs s) dst op ⟨sl, m, N⟩ := by
 simp only [drD, guardK, true_or, and_true]; rfl
theorem dd_2 : drD pf P tab ops die (⟨dst, op, ty, pos, af, none⟩ :: l) (2 :: cs) (x :: xs) ⟨sl, m, N⟩ = stepS4 pf P tab (pdOf cs xs) 2 x (fun s => drD pf P tab ops die l cs xs s) dst op ⟨sl, m, N⟩ := by
 simp only [drD, guardK, true_or, and_true]; rfl
theorem dd_3 : drD pf P tab ops die (⟨dst, op, ty, pos, af, none⟩ :: l) (3 :: cs) (x :: xs) ⟨sl, m, N⟩ = stepS4 pf P tab (pdOf cs xs) 3 x (fun s => drD pf P tab ops die l cs xs s) dst op ⟨sl, m, N⟩ := by
 simp only [drD, guardK, true_or, and_true]; rfl
theorem dd_4 : drD pf P tab ops die (⟨dst, op, ty, pos, af, none⟩ :: l) (4 :: cs) (x :: xs) ⟨sl, m, N⟩ = stepS4 pf P tab (pdOf cs xs) 4 x (fun s => drD pf P tab ops die l cs xs s) dst op ⟨sl, m, N⟩ := by
 simp only [drD, guardK, true_or, and_true]; rfl
theorem dd_pS {a : AV} {d : Tmp} : putO sl (some d) a = insert sl d a := rfl
theorem dd_pN {a : AV} : putO sl none a = sl := rfl
end
theorem wdd : (type_of% @dd_nil) ∧ (type_of% @dd_8) ∧ (type_of% @dd_9) ∧ (type_of% @dd_0) ∧ (type_of% @dd_2) ∧ (type_of% @dd_3) ∧ (type_of% @dd_4) ∧ (type_of% @dd_pS) ∧ (type_of% @dd_pN) := ⟨@dd_nil, @dd_8, @dd_9, @dd_0, @dd_2, @dd_3, @dd_4, @dd_pS, @dd_pN⟩
end Go.Ab
namespace Go.Ab
open Go Go.RowKit
variable {pf : Value → Mem → Prop}
theorem icall_lendT {pf' : Value → Mem → Prop} {P : Program} {fn : FuncId} {args args' : List AV} {M N : Mem} {r : AV} {K : AV → Mem → Prop} {G : Prop} (ids : List Nat) (bs : List Blk)
 (h : ICallG pf' P fn args' ⟨mkMem 0 bs, ids.length⟩ (fun a M' => G ∧ a = r ∧ M' = N)) (hn : ids.Nodup) (hl : LentL M (rnI ids M.k) ids.length ids bs) (ha : ArgsF (rnI ids M.k) ids.length args args')
 (hr : HdR N.k r) (hN : AllHd N.k N.l) (hK : G → K (rnR (rnI ids M.k) r) ⟨putAll (rnI ids M.k) (M.without ids).l N.l, M.k + (N.k - ids.length)⟩) (hp : ∀ x M' k, pf' x M' → pf x ⟨(M.without ids).l, k⟩) : ICallG pf P fn args M K := by
 refine ⟨h.1, fun w0 E vs hg hs hrep => ?_⟩
 obtain ⟨hlen, hget⟩ := hl.get
 obtain ⟨alen, aget⟩ := ha.get
 have hid : ∀ i ∈ ids, i < E.k := fun i hi => by
  obtain ⟨j, hj, rfl⟩ := List.getElem_of_mem hi
  obtain ⟨h1, _⟩ := hget j hj (by omega)
  obtain ⟨q, h2, _⟩ := hg.held _ _ h1
  exact hg.lt _ _ h2
 have hkk : M.k = E.k := hg.k
 have finj := rnI_inj (k := M.k) hn (fun i hi => by rw [hkk]; exact hid i hi)
 have lad : ∀ i (hi : i < ids.length), (E.lend ids).ad i = E.ad ids[i] := fun i hi => by simp only [Env.lend, List.getElem?_eq_getElem hi, Option.bind_some]
 have lnone : ∀ i, ids.length ≤ i → (E.lend ids).ad i = none := fun i hi => by simp only [Env.lend, List.getElem?_eq_none hi, Option.bind_none]
 have hz1 : ∀ b, E.Z b → (E.lend ids).Z b ∧ (E.lend ids).w.heap[b]? = E.w.heap[b]? := fun b hb => by
  refine ⟨⟨hb.1, fun hh => ?_, fun i q hq hcp => ?_⟩, rfl⟩
  · rcases hh with hh | ⟨i, q, _, h1, h2, h3⟩
    · exact hb.2.1 hh
    · exact hb.2.2 i q h1 h2 h3
  · by_cases hi : i < ids.length
    · rw [lad i hi] at hq; exact hb.2.2 _ q hq hcp
    · rw [lnone i (by omega)] at hq; cases hq
 have hf1 : ∀ i, i < ids.length → rnI ids M.k i < E.k → i < (E.lend ids).k ∧ (E.lend ids).ad i = E.ad (rnI ids M.k i) := fun i hi _ => ⟨hi, by rw [lad i hi, rnI_lt hi]⟩
 have hlb : ∀ i q, E.ad i = some q → 0 < q.cp → w0.heap.size ≤ q.b ∧ q.b < E.w.heap.size := fun i q hq hcp => hg.lt_b hq hcp
 have hgc : Good w0 (E.lend ids) ⟨mkMem 0 bs, ids.length⟩ := by
  refine ⟨hg.below, rfl, fun i q hq => ?_, fun i hi => ?_, fun i blk hi => ?_, fun i q hq hcp hh => ?_, fun b hb => ?_, fun i i' q q' hne h1 h2 hc1 hc2 => ?_⟩
  · by_cases hi : i < ids.length
    · exact hi
    · rw [lnone i (by omega)] at hq; cases hq
  · simp only [Mem.get, mkMem_get, Nat.zero_le, if_true, Nat.sub_zero] at hi
    have := List.getElem?_eq_none_iff.1 hi
    exact lnone i (by omega)
  · simp only [Mem.get, mkMem_get, Nat.zero_le, if_true, Nat.sub_zero] at hi
    obtain ⟨hi2, rfl⟩ := List.getElem?_eq_some_iff.1 hi
    obtain ⟨g1, g2⟩ := hget i (by omega) hi2
    obtain ⟨q, h1, h2, h3, h4, h5⟩ := hg.held _ _ g1
    refine ⟨q, by rw [lad i (by omega)]; exact h1, h2, by rw [h3]; simp [rnB], h4, fun hcp => ⟨(h5 hcp).1, ?_⟩⟩
    obtain ⟨c0, arr, c1, c2, c3⟩ := (h5 hcp).2
    refine ⟨c0, arr, c1, ⟨c2.1, by have := c2.2; simpa [rnB] using this⟩, fun j hj => ?_⟩
    have hj2 : j < (rnB (rnI ids M.k) bs[i]).xs.length := by simpa [rnB] using hj
    obtain ⟨d1, d2⟩ := c3 j hj2
    have hx : (rnB (rnI ids M.k) bs[i]).xs[j] = rnE (rnI ids M.k) bs[i].xs[j] := by simp [rnB]
    have hcl : (rnB (rnI ids M.k) bs[i]).xs[j].cells = bs[i].xs[j].cells.map (rnC (rnI ids M.k)) := by rw [hx, rnE_cells]
    refine ⟨by rw [← (show (rnB (rnI ids M.k) bs[i]).sz = bs[i].sz from rfl), ← d1, hcl, List.length_map], fun m hm => ?_⟩
    obtain ⟨y, e1, e2, e3⟩ := d2 m (by rw [hcl, List.length_map]; exact hm)
    refine ⟨y, e1, e2, ?_⟩
    simp only [hcl, List.getElem_map] at e3
    exact nrC_rep hz1 hf1 e3 ((g2 _ (List.getElem_mem hj)).cells _ (List.getElem_mem hm))
  · by_cases hi : i < ids.length
    · rw [lad i hi] at hq
      rcases hh with hh | ⟨i', q', k1, k2, k3, k4⟩
      · exact hg.hid _ q hq hcp hh
      · exact hg.inj _ _ q' q (fun e => k1 (by rw [e]; exact List.getElem_mem hi)) k2 hq k3 hcp k4
    · rw [lnone i (by omega)] at hq; cases hq
  · rcases hb with hb | ⟨i', q', k1, k2, k3, rfl⟩
    · exact hg.old b hb
    · exact (hlb _ _ k2 k3).2
  · by_cases hi : i < ids.length
    · by_cases hi' : i' < ids.length
      · rw [lad i hi] at h1
        rw [lad i' hi'] at h2
        exact hg.inj _ _ q q' (fun e => hne ((List.getElem_inj hn).1 e)) h1 h2 hc1 hc2
      · rw [lnone i' (by omega)] at h2; cases h2
    · rw [lnone i (by omega)] at h1; cases h1
 refine Calls.mono' (h.2 w0 (E.lend ids) vs hgc (by rw [hs, alen]) fun i h1 h2 => ?_) ?_
 · have h3 : i < args.length := by omega
   have hra := hrep i h3 h2
   rcases aget i h3 h1 with ⟨e1, e2⟩ | ⟨e1, e2⟩
   · rw [e1] at hra
     exact nrE_rep hz1 hf1 hra e2
   · exact Rep.pure hz1 (e1.rep hra) e2
 rintro e w' (⟨v, E', M', a, rfl, rfl, k1, k2, k3, hG, rfl, rfl⟩ | ⟨x, rfl, ho⟩)
 rotate_left
 · exact .inr ⟨x, rfl, ho.lent hg hn hid fun M' k hx => hp x M' k hx⟩
 obtain ⟨hgood, hlater, hrep'⟩ := lend_back hg hn hid k1 k2 hN
 exact .inl ⟨v, E.back E' ids, _, _, rfl, rfl, hgood, hlater, hrep' _ _ hr k3, hK hG⟩
theorem list_cons {ro : Option Nat} {P : Program} {ops : Array Oper} {Q : Exit → Act → World → Prop} {o : Oper} {r : List Oper} {a : Act} {w : World} (hg : o.guard = none) (h : o.wpIn (FF ro) 0 P a w (wpListIn (FF ro) 0 P ops Q r) Q) : wpListIn (FF ro) 0 P ops Q (o :: r) a w := by
 unfold wpListIn
 rw [if_pos (by simp [Region.wanted, hg])]
 exact h
theorem list_aop {ro : Option Nat} {P : Program} {tab : Tab} (hT : TabOk P tab) {ops : Array Oper} {Q : Exit → Act → World → Prop} {o : Oper} {r : List Oper} {w0 : World} {E : Env} {D : List Deferred} {s : ASt} {a : Act} {K : ASt → Prop} (hg : o.guard = none) (hst : St w0 E D s a) (hk : aop pf P tab s K o)
 (hn : ∀ E' s' a', St w0 E' D s' a' → Later E E' → K s' → wpListIn (FF ro) 0 P ops Q r a' E'.w) (hP : ∀ x w', PanOut pf w0 E x w' → Q (.panic [{ v := x, recovered := false }]) a w') : wpListIn (FF ro) 0 P ops Q (o :: r) a E.w :=
 list_cons hg (wpIn_of_wp (fun c e => by unfold aop at hk; rw [e] at hk; exact hk) (aop_sound hT hst hk hn hP))
theorem list_aops {ro : Option Nat} {P : Program} {tab : Tab} (hT : TabOk P tab) {ops : Array Oper} {Q : Exit → Act → World → Prop} {l2 : List Oper} {w0 : World} {D : List Deferred} {K : ASt → Prop} :
 ∀ (l1 : List Oper) (E : Env) (s : ASt) (a : Act), (∀ o ∈ l1, o.guard = none) → St w0 E D s a → aops NoP P tab ops K l1 s → (∀ E' s' a', St w0 E' D s' a' → Later E E' → K s' → wpListIn (FF ro) 0 P ops Q l2 a' E'.w) → wpListIn (FF ro) 0 P ops Q (l1 ++ l2) a E.w
 | [], E, s, a, hg, h, hk, hn => hn E s a h (.refl E) hk
 | o :: r, E, s, a, hg, h, hk, hn => by
  have hgo := hg o (by simp)
  unfold aops at hk
  rw [hgo] at hk
  exact list_aop hT hgo h hk (fun E' s' a' h1 h2 h3 => list_aops hT r E' s' a' (fun x hx => hg x (by simp [hx])) h1 h3 fun E2 s2 a2 g1 g2 g3 => hn E2 s2 a2 g1 (h2.trans g2) g3) fun x w' ⟨_, _, hx, _⟩ => hx.elim
theorem region_plain {ro : Option Nat} {P : Program} {tab : Tab} (hT : TabOk P tab) {w0 : World} {E : Env} {D : List Deferred} {s : ASt} {a : Act} (h : St w0 E D s a) {id : Nat} {ops : Array Oper} {c : Code} {Q : Exit → Act → World → Prop} (S1 : ASt)
 (hk : aops NoP P tab ops (fun s => s = S1) ops.toList s) (hn : ∀ E' a', St w0 E' D S1 a' → Later E E' → c.wpIn (FF ro) 0 P Q a' E'.w) : (Code.seq (.region id ops false) c).wpIn (FF ro) 0 P Q a E.w :=
 wpIn_seq (wpIn_region_list (aops_sound hT _ E s a h hk (fun E' s' a' h1 h2 h3 => hn E' a' (h3 ▸ h1) h2) fun x _ _ _ w' _ _ ⟨_, _, hx, _⟩ => hx.elim))
theorem region_die {ro : Option Nat} {P : Program} {tab : Tab} (hT : TabOk P tab) {w0 : World} {E : Env} {D : List Deferred} {s : ASt} {a : Act} (h : St w0 E D s a) {id : Nat} {ops : Array Oper} {c : Code} {K : Exit → ASt → Prop} {Q : Exit → Act → World → Prop} (L1 L2 : List Oper) (o : Oper) (S1 : ASt)
 (hl : ops.toList = L1 ++ o :: L2) (hg : ∀ o ∈ L1, o.guard = none) (hgo : o.guard = none) (hk1 : aops NoP P tab ops (fun s => s = S1) L1 s) (hk2 : aops pf P tab ops (fun s => aops NoP P tab ops (fun s => aw P tab c K s) L2 s) [o] S1)
 (hn : ∀ ex E' s' a', St w0 E' D s' a' → Later E E' → K ex s' → Q ex a' E'.w) (hP : ∀ x E' a' M', St w0 E' D ⟨S1.sl, M', S1.N⟩ a' → Later E E' → pf x M' → Q (.panic [{ v := x, recovered := false }]) a' E'.w) :
 (Code.seq (.region id ops false) c).wpIn (FF ro) 0 P Q a E.w := by
 refine wpIn_seq (wpIn_region_list ?_)
 rw [hl]
 refine list_aops hT L1 E s a hg h hk1 ?_
 rintro E1 s1 a1 h1 l1 rfl
 unfold aops at hk2
 rw [hgo] at hk2
 refine list_aop (K := fun s => aops NoP P tab ops (fun s => aw P tab c K s) L2 s) hT hgo h1 hk2 ?_ ?_
 · intro E2 s2 a2 h2 l2 k2
   refine aops_sound hT L2 E2 s2 a2 h2 k2 (fun E3 s3 a3 h3 l3 k3 => ?_) fun x _ _ _ w' _ _ ⟨_, _, hx, _⟩ => hx.elim
   refine Code.wpIn_mono ?_ (aw_sound hT c K s3 k3 acc_no ro w0 E3 D a3 h3)
   rintro ex a' w' ⟨E4, s4, rfl, h4, l4, k4⟩
   exact hn ex E4 s4 a' h4 (((l1.trans l2).trans l3).trans l4) k4
 · rintro x w' ⟨E2, M', hx, rfl, g2, l2⟩
   exact hP x E2 a1 M' ⟨g2, h1.r.later l2, h1.n, h1.d⟩ (l1.trans l2) hx
theorem st_init {w0 : World} {E : Env} {M : Mem} {fn : Func} {args : List AV} {vs : Array Value} (hg : Good w0 E M) (hs : vs.size = args.length) (hl : args.length ≤ fn.ntmps) (hr : ∀ i (h1 : i < args.length) (h2 : i < vs.size), Rep E args[i] vs[i]) :
 St w0 E [] ⟨mkSlots 0 args, M, fn.ntmps⟩ { tmps := vs ++ Array.replicate (fn.ntmps - vs.size) undef, defers := [] } := by
 refine ⟨hg, fun t => ?_, by simp; omega, rfl⟩
 simp only [mkSlots_get, Nat.zero_le, if_true, Nat.sub_zero]
 by_cases ht : t < args.length
 · rw [List.getElem?_eq_getElem ht]
   have ht2 : t < vs.size := by omega
   have : (vs ++ Array.replicate (fn.ntmps - vs.size) undef).getD t undef = vs[t] := by
    simp only [Array.getD_eq_getD_getElem?]
    rw [Array.getElem?_append_left ht2]
    simp [ht2]
   rw [this]
   exact hr t ht ht2
 · rw [List.getElem?_eq_none (by omega)]
   exact .x _
theorem region_defer {P : Program} {tab : Tab} (hT : TabOk P tab) {w0 : World} {E : Env} {s : ASt} {a : Act} (h : St w0 E [] s a) {id : Nat} {ops : Array Oper} {c : Code} {Q : Exit → Act → World → Prop} (o1 o2 : Oper) (S1 : ASt) (t : Nat) (f : FuncId) (x0 x1 : AV) (ty : Array TypeId)
 (hl : ops.toList = [o1, o2]) (hg1 : o1.guard = none) (hg2 : o2.guard = none) (hd : o2.dst = none) (ho : o2.op = .defer { callee := .value (.tmp t), args := #[], argTypes := ty }) (hk : aops NoP P tab ops (fun s => s = S1) [o1] s) (hs : Slots.get S1.sl t = .f f [x0, x1])
 (hn : ∀ E' a' y0 y1, St w0 E' [{ target := .fn (.func f) #[y0, y1], args := #[] }] S1 a' → Later E E' → Rep E' x0 y0 → Rep E' x1 y1 → c.wpIn (FF none) 0 P Q a' E'.w) :
 (Code.seq (.region id ops false) c).wpIn (FF none) 0 P Q a E.w := by
 refine wpIn_seq (wpIn_region_list ?_)
 rw [hl]
 unfold aops at hk
 rw [hg1] at hk
 refine list_aop (K := fun s => s = S1) hT hg1 h hk ?_ fun x w' ⟨_, _, hx, _⟩ => hx.elim
 rintro E1 s1 a1 h1 l1 rfl
 have hr := h1.r t
 rw [hs] at hr
 obtain ⟨ys, hv, hys, hyr⟩ : ∃ ys : Array Value, a1.tmps.getD t undef = .func (.func f) #[] ys ∧ ys.size = 2 ∧ ∀ i (h1 : i < [x0, x1].length) (h2 : i < ys.size), Rep E1 [x0, x1][i] ys[i] := by
  generalize a1.tmps.getD t undef = v at hr
  cases hr with
  | f _ _ ys h hr => exact ⟨ys, rfl, h, hr⟩
 obtain ⟨y0, y1, rfl⟩ : ∃ y0 y1, ys = #[y0, y1] := by
  rcases ys with ⟨l⟩
  match l, hys with
  | [y0, y1], _ => exact ⟨y0, y1, rfl⟩
 refine list_cons hg2 ?_
 have hrun : (o2.semAt (FF none).round a1.eval).run P E1.w = .ok (.defer { target := .fn (.func f) #[y0, y1], args := #[] }) E1.w := by
  show (o2.semAt none a1.eval).run P E1.w = _
  rw [Oper.semAt_none]
  obtain ⟨dst, op, type, pos, after, guard⟩ := o2
  simp only at ho
  subst ho
  simp only [Array.getD_eq_getD_getElem?] at hv
  simp [execOp, resolve, Act.eval, hv, Result.andThen, Deferred.ofValue]
 refine ⟨fun _ _ => trivial, ?_⟩
 rw [hrun, Oper.uponIn_defer, hd]
 refine hn E1 _ y0 y1 ⟨h1.g, h1.r, h1.n, by simp [Act.put, h1.d]⟩ l1 (hyr 0 (by simp) (by simp)) (hyr 1 (by simp) (by simp))
end Go.Ab
namespace Go.Ab
open Go Go.RowKit
variable {pf : Value → Mem → Prop}
def HeadN (a : AV) : Prop := ∃ w, a.cells.head? = some (.c w) ∧ ∀ v, w ≠ .int .u8 v
inductive NB : AV → Prop where
 | c (v : Value) : NB (.c v)
 | l (sz : Nat) (xs : List AV) (hh : ∀ i (hi : i < xs.length), HeadN xs[i]) (hc : ∀ i (hi : i < xs.length), ∀ j (hj : j < xs[i].cells.length), NB xs[i].cells[j]) : NB (.l sz xs)
theorem NB.rep {E1 E2 : Env} {bad : Nat → Prop} (hz : ∀ b, E1.Z b → ¬ bad b → E2.Z b ∧ E2.w.heap[b]? = E1.w.heap[b]?) (hb : ∀ b, bad b → ∀ j y, E1.w.cell? ⟨b, j, none⟩ = some y → ∃ v, y = .int .u8 v) :
 ∀ {a : AV} {v : Value}, NB a → Rep E1 a v → Rep E2 a v := by
 intro a v h
 induction h generalizing v with
 | c v0 =>
  intro hr
  cases hr with
  | c _ h => exact .c _ h
 | l sz xs hh hc ih =>
  intro hr
  cases hr with
  | l _ _ b off cap y hcap hZ hs hcell hrep =>
   by_cases h0 : xs.length = 0
   · have : xs = [] := List.eq_nil_of_length_eq_zero h0
     subst this
     exact .l0 _ _ _
   · have hi0 : 0 < xs.length := by omega
     obtain ⟨w, w1, w2⟩ := hh 0 hi0
     have hl0 : 0 < xs[0].cells.length := by
      cases hcs : xs[0].cells with
      | nil => rw [hcs] at w1; cases w1
      | cons c r => simp
     have hw : xs[0].cells[0] = .c w := by
      rw [List.head?_eq_getElem?, List.getElem?_eq_getElem hl0] at w1
      exact Option.some.inj w1
     have hsz0 : 0 < sz := by rw [← hs 0 hi0]; exact hl0
     have hr0 := hrep 0 hi0 0 hl0
     rw [hw] at hr0
     have hy : y 0 0 = w := by cases hr0; rfl
     have hnb : ¬ bad b := fun hbad => by
      obtain ⟨v', hv'⟩ := hb b hbad _ _ (hcell 0 0 hi0 hsz0).1
      exact w2 v' (by rw [← hy, hv'])
     obtain ⟨z1, z2⟩ := hz b hZ hnb
     exact .l _ _ b off cap y hcap z1 hs (fun i j hi hj => by rw [cell_same z2]; exact hcell i j hi hj) (fun i hi j hj => ih i hi j hj (hrep i hi j hj))
  | l0 _ A cap => exact .l0 _ _ _
theorem icall_keepB {P : Program} {f : FuncId} {args args' : List AV} {M : Mem} {res : AV} {K : AV → Mem → Prop} (ids : List Nat) (h : PCallG pf P f args' res) (ha : Args M ids args args')
 (hB : ∀ id ∈ ids, ∃ xs, M.get id = some ⟨U8T, 1, xs⟩ ∧ ∀ i (hi : i < xs.length), ∃ v, xs[i] = .c (.int .u8 v)) (hres : OkR NB res) (hK : K (thaw M.k res) (M.adds (blks res))) (hp : Indep pf := by exact fun _ _ _ h => h) : ICallG pf P f args M K := by
 refine ⟨h.1, fun w0 E vs hg hs hr => ?_⟩
 obtain ⟨hg1, hl1⟩ := hg.without ids
 refine Calls.mono' (h.2 E.w (E.without ids).callee vs (callee_good hg1) (by rw [hs, ha.len]) (callee_args hg ha hr)) ?_
 rintro e w' (⟨v, E', M', a, rfl, rfl, k1, k2, k3, IDS, FZ, k4, k5, k6⟩ | ⟨x, rfl, E', M', hx, rfl, k1, k2⟩)
 rotate_left
 · obtain ⟨g1, g2⟩ := Good.import hg k1 [] [] (by simp) rfl (fun j h1 => absurd h1 (by simp)) (fun b hb => by simp at hb)
   exact .inr ⟨x, rfl, E.import E' [], _, hp _ _ _ hx, rfl, g1, g2⟩
 have hz : ∀ b, (E'.without FZ).Z b → ¬ (∃ id ∈ ids, ∃ q, E.ad id = some q ∧ 0 < q.cp ∧ q.b = b) → (E.import (E'.without FZ) IDS).Z b ∧ (E.import (E'.without FZ) IDS).w.heap[b]? = (E'.without FZ).w.heap[b]? := fun b hb hbad => by
  have hh : E'.hid = (E.without ids).callee.hid := k2.hid
  have hb2 : ¬ E'.hid b := hb.2.1
  rw [hh] at hb2
  refine ⟨⟨hb.1, fun h => hb2 (.inl h), fun i q hq hcp => ?_⟩, rfl⟩
  simp only [Env.import] at hq
  split at hq
  · intro e
    by_cases hi : i ∈ ids
    · exact hbad ⟨i, hi, q, hq, hcp, e⟩
    · exact hb2 (.inr ⟨i, q, by simp only [Env.without, hi, if_false]; exact hq, hcp, e⟩)
  · cases hi : IDS[i - E.k]? with
    | none => rw [hi] at hq; cases hq
    | some j => rw [hi] at hq; exact hb.2.2 j q hq hcp
 have hbad : ∀ b, (∃ id ∈ ids, ∃ q, E.ad id = some q ∧ 0 < q.cp ∧ q.b = b) → ∀ j y, (E'.without FZ).w.cell? ⟨b, j, none⟩ = some y → ∃ v, y = .int .u8 v := by
  rintro b ⟨id, hid, q, hq, hcp, rfl⟩ j y hy
  obtain ⟨xs, hM, hx⟩ := hB id hid
  obtain ⟨q', b1, b2, b3, b4, b5⟩ := hg.held id _ hM
  rw [hq] at b1
  cases b1
  obtain ⟨c1, c2⟩ := b5 hcp
  have hlt := backed_lt c2
  obtain ⟨c3, arr, c4, ⟨c5, c6⟩, c7⟩ := c2
  have hZ : (E.without ids).callee.Z q.b := by
   refine ⟨hlt, ?_, fun i q' h => by cases h⟩
   rintro (h | ⟨i, q', h1, h2, h3⟩)
   · exact hg.hid id q hq hcp h
   · simp only [Env.without] at h1
     split at h1
     · cases h1
     · rename_i hni
       exact hg.inj i id q' q (fun e => hni (by rw [e]; exact hid)) h1 hq h2 hcp h3
  have hsame : E'.w.heap[q.b]? = E.w.heap[q.b]? := (k2.z q.b hZ).2
  have hy2 : arr[j]? = some y := by
   have : E'.w.cell? ⟨q.b, j, none⟩ = some y := hy
   simpa [World.cell?, hsame, c4] using this
  by_cases hj : j < xs.length
  · obtain ⟨v, hv⟩ := hx j hj
    obtain ⟨d1, d2⟩ := c7 j hj
    simp only at d1 d2
    obtain ⟨y', e1, _, e3⟩ := d2 0 (by rw [d1]; decide)
    have e4 : j * 1 + 0 = j := by omega
    rw [e4, hy2] at e1
    cases e1
    have hcc : xs[j].cells[0]'(by rw [d1]; decide) = .c (.int .u8 v) := by simp only [hv, AV.cells]; rfl
    rw [hcc] at e3
    cases e3
    exact ⟨v, rfl⟩
  · exact c6 rfl j y (by simp only; omega) hy2
 obtain ⟨g1, g2, g3⟩ := come_back (Ok := NB) hg k1 k3 k4 k5 k6 (fun a v hu hv => hu.rep hz hbad hv) hres
 exact .inl ⟨v, E.import (E'.without FZ) IDS, _, _, rfl, rfl, g1, g2, g3, hK⟩
end Go.Ab
