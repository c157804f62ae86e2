/- Rows: behind, by the program. -/
import Derived.Test.YtpjmbigfgoogaabRw8
set_option linter.unusedSimpArgs false
set_option linter.unusedVariables false
set_option linter.constructorNameAsVariable false
set_option maxRecDepth 100000
namespace Go.Ab
open Go Go.Proofs Go.RowKit Go.Shelf
attribute [local go_sem] Oper.semAt_some

/-- From the kit's word on a call to a contract: a result without memory. -/
theorem pcall_scalar {P : Program} {f : FuncId} {args : List AV} {v : Value} (h1 : ∃ fn, P.funcs[f]? = some fn ∧ fn.body.isNone = false ∧ (fn.name == "runtime.NumGoroutine") = false) (hv : One v)
    (h : ∀ (E : Env) (vs : Array Value), vs.size = args.length → (∀ i (h1 : i < args.length) (h2 : i < vs.size), Rep E args[i] vs[i]) → (∀ b, E.Z b → b < E.w.heap.size) →
      Calls P f vs E.w fun e w' => e = .returned v ∧ Below E.w.heap.size E.w w') : PCall P f args (.c v) := by
  refine ⟨h1, fun w0 E vs hg hs hr => Calls.mono' (h E vs hs hr fun b hb => hb.1) ?_⟩
  rintro e w' ⟨rfl, hb⟩
  obtain ⟨g1, g2⟩ := hg.grow hb
  exact ⟨v, _, _, .c v, rfl, rfl, g1, g2, .c v hv, exp_c⟩
theorem list_inv {E : Env} {o : List Int} {v : Value} (h : Rep E (.l 1 (o.map encI)) v) : ∃ A c, v = .slice A o.length c ∧ Ints E.Z E.w A o := by
  generalize he : AV.l 1 (o.map encI) = a at h
  cases h with
  | l sz xs b off cap y hcap hz hs hc hr =>
    injection he with e1 e2
    subst e1 e2
    refine ⟨some ⟨b, off, none⟩, cap, by simp, fun _ => ⟨b, off, rfl, hz, fun k hk => ?_⟩⟩
    have hk' : k < (o.map encI).length := by simpa using hk
    have h1 := hc k 0 hk' (by omega)
    have h2 := hr k hk' 0 (by simp [encI, AV.cells])
    simp only [List.getElem_map, encI, AV.cells, List.getElem_cons_zero] at h2
    rw [Nat.mul_one, Nat.add_zero] at h1
    generalize y k 0 = yy at h1 h2
    cases h2
    rw [h1.1, List.getD_eq_getElem?_getD, List.getElem?_eq_getElem hk, Option.getD_some]
  | l0 sz A cap =>
    injection he with e1 e2
    have : o = [] := by simpa using e2
    subst this
    exact ⟨A, cap, rfl, fun h => absurd h (by simp)⟩
  | _ => cases he
theorem row_inv {E : Env} {i u : Int} {o : List Int} {v : Value} (h : Rep E (RowA i u o) v) : ∃ A c, v = .agg #[.int .i64 i, .int .i64 u, .slice A o.length c] ∧ Ints E.Z E.w A o := by
  unfold RowA at h
  cases h with
  | g cs ys h hr =>
    match ys, h, hr with
    | ⟨[a, b, c]⟩, _, hr =>
      have h0 := hr 0 (by simp) (by simp)
      have h1 := hr 1 (by simp) (by simp)
      have h2 := hr 2 (by simp) (by simp)
      simp only [List.getElem_cons_zero, List.getElem_cons_succ, List.getElem_toArray] at h0 h1 h2
      cases h0
      cases h1
      obtain ⟨A, cp, rfl, h3⟩ := list_inv h2
      exact ⟨A, cp, rfl, h3⟩
theorem pairs_in (n : Nat) (a0 a1 a2 b0 b1 b2 : Value) (w : World) :
    CallsIn Fence.wide n Try.prog 18 #[.agg #[a0, a1, a2], .agg #[b0, b1, b2]] w fun e w' => e = .returned (.func (.func 22) #[] #[.pointer (some ⟨w.heap.size, 0, none⟩), .pointer (some ⟨w.heap.size + 1, 0, none⟩)]) ∧
      w' = (w.alloc (.cells #[a0, a1, a2] 24)).alloc (.cells #[b0, b1, b2] 24) := by
  refine callsIn_of_wp Try.func18 rfl trivial ?_ rfl
  simp only [Try.ntmps18, List.size_toArray, List.length_cons, List.length_nil, Nat.reduceAdd, Nat.reduceSub, Array.replicate_succ, Array.replicate_zero, List.push_toArray, List.append_toArray, List.nil_append, List.cons_append]
  gi_wp2
  go_ret
  exact ⟨rfl, rfl⟩

abbrev encP (x : Int × Int) : Array Value := #[.int .i64 x.1, .int .i64 x.2]
theorem Ints.mono {Z Z' : Nat → Prop} {W W' : World} {A : Option Addr} {zs : List Int} (h : Ints Z W A zs) (hz : ∀ b, Z b → Z' b ∧ W'.heap[b]? = W.heap[b]?) : Ints Z' W' A zs := fun hl => by
  obtain ⟨b, off, e, h1, h2⟩ := h hl
  exact ⟨b, off, e, (hz b h1).1, fun k hk => by rw [cell_same (hz b h1).2]; exact h2 k hk⟩
/-- The iterator's word, at a row's boxes. -/
theorem pairs_stops (n : Nat) (hn : 1 ≤ n) (Z : Nat → Prop) (i u j v : Int) (o p : List Int) (A1 A2 : Option Addr) (c1 c2 : Nat) (m : Nat) (ho : o.length = m) (hp : p.length = m) (hreach : m < 1000000000) (w : World) (Ba Bb : Nat)
    (hZ : ∀ b, Z b → b < w.heap.size) (hZa : Z Ba) (hZb : Z Bb)
    (ha : w.heap[Ba]? = some (.cells #[.int .i64 i, .int .i64 u, .slice A1 m c1] 24 (0, 0))) (hb : w.heap[Bb]? = some (.cells #[.int .i64 j, .int .i64 v, .slice A2 m c2] 24 (0, 0)))
    (hA1 : Ints Z w A1 o) (hA2 : Ints Z w A2 p) :
    SeqStopsK Fence.wide n Try.prog 22 #[.pointer (some ⟨Ba, 0, none⟩), .pointer (some ⟨Bb, 0, none⟩)] encP (KZ Z) (fun ys => ys = prs i u j v o p o.length) (fun pre => ∃ rest, prs i u j v o p o.length = pre ++ rest) (o.length + 2) w := fun l J Jx W hW _ _ hY h0 => by
  have hlen : o.length = p.length := ho.trans hp.symm
  have hs : ∀ b, Z b → W.heap[b]? = w.heap[b]? := fun b hb => hW.block b (hZ b hb)
  have ca := (hs _ hZa).trans ha
  have cb := (hs _ hZb).trans hb
  exact pairs1_in n l Ba Bb 0 0 hn Z i u j v o p A1 A2 c1 c2 hlen (by omega) J Jx hY W hZa hZb (by simp [World.cell?, ca]) (by simp [World.cell?, ca]) (by simp [World.cell?, ca, ho]) (by simp [World.cell?, cb]) (by simp [World.cell?, cb]) (by simp [World.cell?, cb, hp])
    (hA1.mono fun b h => ⟨h, hs b h⟩) (hA2.mono fun b h => ⟨h, hs b h⟩) h0
theorem beh_prs {i u j v : Int} {o p : List Int} (hlen : o.length = p.length) : Beh i u o j v p ↔ ∀ x ∈ prs i u j v o p o.length, x.1 ≤ x.2 := by
  have ht : (o.zip p).take o.length = o.zip p := List.take_of_length_le (by simp; omega)
  simp only [prs, ht, List.mem_cons, forall_eq_or_imp]
  constructor
  · rintro ⟨h1, h2, _, h3⟩
    refine ⟨h1, h2, fun x hx => ?_⟩
    obtain ⟨k, hk, rfl⟩ := List.getElem_of_mem hx
    have hk2 : k < o.length := by simp at hk; omega
    have := h3 k hk2
    rw [List.getD_eq_getElem?_getD, List.getD_eq_getElem?_getD, List.getElem?_eq_getElem hk2, List.getElem?_eq_getElem (show k < p.length by omega)] at this
    rw [List.getElem_zip]; exact this
  · rintro ⟨h1, h2, h3⟩
    refine ⟨h1, h2, hlen, fun k hk => ?_⟩
    have hk3 : k < (o.zip p).length := by simp; omega
    have := h3 (o.zip p)[k] (List.getElem_mem hk3)
    rw [List.getElem_zip] at this
    rw [List.getD_eq_getElem?_getD, List.getD_eq_getElem?_getD, List.getElem?_eq_getElem hk, List.getElem?_eq_getElem (show k < p.length by omega)]
    exact this
theorem cell_newL (W : World) (v : Value) (t : TypeId) : (W.alloc (.cells #[v] t)).cell? ⟨W.heap.size, 0, none⟩ = some v ∧ (W.alloc (.cells #[v] t)).frozen? ⟨W.heap.size, 0, none⟩ = false := by
  have h : ∀ B : Nat, (W.alloc (.cells #[v] t)).heap[B]? = some (.cells #[v] t (0, 0)) → (W.alloc (.cells #[v] t)).cell? ⟨B, 0, none⟩ = some v ∧ (W.alloc (.cells #[v] t)).frozen? ⟨B, 0, none⟩ = false := fun B h => by
    constructor <;> simp [World.cell?, World.frozen?, h]
  exact h _ (World.alloc_heap_new W _)
theorem cell_allocL {W : World} {a : Addr} {v : Value} (o : Obj) (h : W.cell? a = some v) : (W.alloc o).cell? a = some v := cell_kept h (World.grownBy_alloc W o none) (fun r e => by cases e)
theorem frozen_allocL {W : World} {a : Addr} {v : Value} (o : Obj) (h : W.cell? a = some v) (hf : W.frozen? a = false) : (W.alloc o).frozen? a = false := (frozen_kept h (World.grownBy_alloc W o none) (fun r e => by cases e)).trans hf
set_option maxHeartbeats 4000000 in
theorem behind_ne (n : Nat) (hn : 3 ≤ n) (a0 a1 b0 b1 : Value) (m1 m2 : Nat) (A1 A2 : Option Addr) (c1 c2 : Nat) (hlen : m1 ≠ m2) (w : World) :
    CallsIn Fence.wide n Try.prog 11 #[.agg #[a0, a1, .slice A1 m1 c1], .agg #[b0, b1, .slice A2 m2 c2]] w fun e w' => e = .returned (.bool false) ∧ Below w.heap.size w w' := by
  refine callsIn_of_wp_marks Try.func11 rfl trivial ?_ rfl
  simp only [Try.ntmps11, List.size_toArray, List.length_cons, List.length_nil, Nat.reduceAdd, Nat.reduceSub, Array.replicate_succ, Array.replicate_zero, List.push_toArray, List.append_toArray, List.nil_append, List.cons_append]
  gi_wp2
  have hx := cell_newL ((w.alloc (.cells #[a0, a1, .slice A1 m1 c1] 24)).alloc (.cells #[b0, b1, .slice A2 m2 c2] 24)) (.bool false) 4
  simp only [World.size_alloc] at hx
  refine ⟨_, ?_, rfl, (((Below.refl _ w).alloc (Nat.le_refl _) _).alloc (by simp) _).alloc (by simp; omega) _⟩
  simp [results, Try.f11, go_sem, hx.1]
set_option maxHeartbeats 4000000 in
theorem behind_eq (n : Nat) (hn : 3 ≤ n) (i u j v : Int) (o p : List Int) (m : Nat) (ho : o.length = m) (hp : p.length = m) (A1 A2 : Option Addr) (c1 c2 : Nat) (hreach : m < 1000000000) (Z : Nat → Prop) (w : World) (hZ : ∀ b, Z b → b < w.heap.size) (hA1 : Ints Z w A1 o) (hA2 : Ints Z w A2 p) :
    CallsIn Fence.wide n Try.prog 11 #[.agg #[.int .i64 i, .int .i64 u, .slice A1 m c1], .agg #[.int .i64 j, .int .i64 v, .slice A2 m c2]] w fun e w' =>
      e = .returned (.bool (decide (Beh i u o j v p))) ∧ Below w.heap.size w w' := by
  have h1 : 1 ≤ n := by omega
  refine callsIn_of_wp_marks Try.func11 rfl trivial ?_ rfl
  simp only [Try.ntmps11, List.size_toArray, List.length_cons, List.length_nil, Nat.reduceAdd, Nat.reduceSub, Array.replicate_succ, Array.replicate_zero, List.push_toArray, List.append_toArray, List.nil_append, List.cons_append]
  gi_wp2
  refine ⟨trivial, ?_⟩
  refine (pairs_in (n - 1) _ _ _ _ _ _ _).mono ?_
  rintro e w' ⟨rfl, rfl⟩
  gi_wp2
  obtain ⟨w3, hw3⟩ : ∃ w3, ((w.alloc (.cells #[.int .i64 i, .int .i64 u, .slice A1 m c1] 24)).alloc (.cells #[.int .i64 j, .int .i64 v, .slice A2 m c2] 24)).alloc (.cells #[.bool false] 4) = w3 := ⟨_, rfl⟩
  have hz3 : w3.heap.size = w.heap.size + 3 := by rw [← hw3]; simp
  have hb3 : Below w.heap.size w w3 := by rw [← hw3]; exact (((Below.refl _ w).alloc (Nat.le_refl _) _).alloc (by simp) _).alloc (by simp; omega) _
  have hc3 : w3.cell? ⟨w.heap.size + 2, 0, none⟩ = some (.bool false) ∧ w3.frozen? ⟨w.heap.size + 2, 0, none⟩ = false := by
    have hx := cell_newL ((w.alloc (.cells #[.int .i64 i, .int .i64 u, .slice A1 m c1] 24)).alloc (.cells #[.int .i64 j, .int .i64 v, .slice A2 m c2] 24)) (.bool false) 4
    simp only [World.size_alloc] at hx
    rw [hw3] at hx; exact hx
  simp only [hw3, hz3]
  clear hw3
  obtain ⟨w4, hw4⟩ : ∃ w4, (w3.alloc (.cells #[.int .i64 i, .int .i64 u, .slice A1 m c1] 24)).alloc (.cells #[.int .i64 j, .int .i64 v, .slice A2 m c2] 24) = w4 := ⟨_, rfl⟩
  have hz4 : w4.heap.size = w.heap.size + 5 := by rw [← hw4]; simp; omega
  have hb4 : Below w.heap.size w w4 := by rw [← hw4]; exact (hb3.alloc (by omega) _).alloc (by simp; omega) _
  have hc4 : w4.cell? ⟨w.heap.size + 2, 0, none⟩ = some (.bool false) ∧ w4.frozen? ⟨w.heap.size + 2, 0, none⟩ = false := by
    rw [← hw4]; exact ⟨cell_allocL _ (cell_allocL _ hc3.1), frozen_allocL _ (cell_allocL _ hc3.1) (frozen_allocL _ hc3.1 hc3.2)⟩
  have ha4 : w4.heap[w.heap.size + 3]? = some (.cells #[.int .i64 i, .int .i64 u, .slice A1 m c1] 24 (0, 0)) := by
    rw [← hw4, Below.heap_alloc _ _ _ (by simp; omega), ← hz3]; exact World.alloc_heap_new _ _
  have hd4 : w4.heap[w.heap.size + 4]? = some (.cells #[.int .i64 j, .int .i64 v, .slice A2 m c2] 24 (0, 0)) := by
    have := World.alloc_heap_new (w3.alloc (.cells #[.int .i64 i, .int .i64 u, .slice A1 m c1] 24)) (.cells #[.int .i64 j, .int .i64 v, .slice A2 m c2] 24)
    rw [World.size_alloc, hz3, hw4] at this; exact this
  simp only [hw4, Nat.add_assoc, Nat.reduceAdd]
  clear hw4
  have hlen : o.length = p.length := ho.trans hp.symm
  refine wpIn_rangeFunc_ownF rfl h1 (gf := 22) (lb := #[.pointer (some ⟨w.heap.size + 3, 0, none⟩), .pointer (some ⟨w.heap.size + 4, 0, none⟩)]) rfl trivial (enters_of Try.func22 (by kernel_rfl) rfl)
    (pairs_stops (n - 1) (by omega) (fun b => Z b ∨ b = w.heap.size + 3 ∨ b = w.heap.size + 4) i u j v o p A1 A2 c1 c2 m ho hp hreach w4 (w.heap.size + 3) (w.heap.size + 4)
      (fun b h => by rcases h with h | h | h; · have := hZ b h; omega
                     · omega
                     · omega) (.inr (.inl rfl)) (.inr (.inr rfl)) ha4 hd4
      (hA1.mono fun b h => ⟨.inl h, hb4.block b (hZ b h)⟩) (hA2.mono fun b h => ⟨.inl h, hb4.block b (hZ b h)⟩))
    (fun h k => h.trans k) (KZ.put (w := w4) (fun b h => by rcases h with h | h | h; · have := hZ b h; omega
                                                            · omega
                                                            · omega)) (Below.refl _ _) (fun _ => rfl)
    (fun pre W => ((∀ x ∈ pre, x.1 ≤ x.2) ∧ W.cell? ⟨w.heap.size + 2, 0, none⟩ = some (.bool false) ∧ W.frozen? ⟨w.heap.size + 2, 0, none⟩ = false) ∧ Below w.heap.size w W)
    (fun c pre W => (c = .ret ∧ (∃ x ∈ pre, x.2 < x.1) ∧ W.cell? ⟨w.heap.size + 2, 0, none⟩ = some (.bool false)) ∧ Below w.heap.size w W)
    (OwnFrom.and (Own.from (fun s A B row hs hg hr => ⟨hs.1, cell_kept hs.2.1 hg hr, (frozen_kept hs.2.1 hg hr).trans hs.2.2⟩) _) (ownFrom_below (Nat.le_refl _) (by omega)))
    (fun c => OwnFrom.and (Own.from (fun s A B row hs hg hr => ⟨hs.1, hs.2.1, cell_kept hs.2.2 hg hr⟩) _) (ownFrom_below (Nat.le_refl _) (by omega)))
    ⟨⟨fun x h => by simp at h, hc4⟩, hb4⟩
    (fun x => { tmps := #[.agg #[.int .i64 i, .int .i64 u, .slice A1 m c1], .agg #[.int .i64 j, .int .i64 v, .slice A2 m c2], .pointer (some ⟨w.heap.size, 0, none⟩), .pointer (some ⟨w.heap.size + 1, 0, none⟩), .pointer (some ⟨w.heap.size + 2, 0, none⟩), .int .i64 x.1, .int .i64 x.2,
      .pointer (some ⟨w.heap.size, 2, none⟩), .slice A1 m c1, .int .i64 m, .pointer (some ⟨w.heap.size + 1, 2, none⟩), .slice A2 m c2, .int .i64 m, .bool false, .agg #[.int .i64 i, .int .i64 u, .slice A1 m c1], .agg #[.int .i64 j, .int .i64 v, .slice A2 m c2],
      .func (.func 22) #[] #[.pointer (some ⟨w.heap.size + 3, 0, none⟩), .pointer (some ⟨w.heap.size + 4, 0, none⟩)], .int .i64 x.1, .int .i64 x.2, undef, undef, undef], defers := [] }) ?assign ?body ?done ?stop
  case assign =>
    intro l x W K hK
    gi_wp2
    exact hK
  case body =>
    rintro l pre x W ⟨⟨hp1, hc, hf⟩, hB⟩ _
    gi_wp2
    · have hx : x.2 < x.1 := by assumption
      exact ⟨KeepsOthers.setCell _ _ _, ⟨rfl, ⟨x, by simp, hx⟩, World.cell?_setCell_same' _ _ _ (by rw [hc]; rfl)⟩, hB.setCell (p := ⟨w.heap.size + 2, 0, none⟩) (by simp) _⟩
    · have hx : x.1 ≤ x.2 := by first | assumption | omega
      exact ⟨KeepsOthers.refl _, KZ.refl _ _, ⟨fun y hy => by
        rcases List.mem_append.1 hy with h | h
        · exact hp1 y h
        · rw [List.mem_singleton.1 h]; exact hx, hc, hf⟩, hB⟩
  case done =>
    rintro D xs W hD rfl ⟨⟨hp1, hc, hf⟩, hB⟩ hK
    have hK' := (KeepsOthers.setCell W ⟨w.heap.size + 2, 0, none⟩ (.bool true)).same D _ hK rfl
    have hc5 := cell_kept (World.cell?_setCell_same' W ⟨w.heap.size + 2, 0, none⟩ (.bool true) (by rw [hc]; rfl)) (grownBy_putObj' _ D (.deferred none)) (fun r e => by cases e; exact ⟨_, hK', rfl⟩)
    have hd : decide (Beh i u o j v p) = true := decide_eq_true ((beh_prs hlen).2 hp1)
    gi_wp2
    refine ⟨by simp, .inl ⟨_, _, rfl, run_takeDeferred hK', ?_⟩⟩
    refine ⟨.bool true, ?_, by rw [hd], (hB.setCell (p := ⟨w.heap.size + 2, 0, none⟩) (by simp) _).trans (belowK_b (w := w) (Nat.le_refl _) _ D _ _ (by omega) hK' rfl rfl)⟩
    simp [results, Try.f11, go_sem, hc5]
  case stop =>
    rintro D c pre W hD ⟨rest, hr⟩ ⟨⟨rfl, ⟨x, hx1, hx2⟩, hc⟩, hB⟩ hK
    have hd : decide (Beh i u o j v p) = false := decide_eq_false fun h => by
      have := (beh_prs hlen).1 h x (by rw [hr]; exact List.mem_append_left _ hx1)
      omega
    have hc5 := cell_kept hc (grownBy_putObj' _ D (.deferred none)) (fun r e => by cases e; exact ⟨_, hK, rfl⟩)
    gi_wp2
    refine ⟨by simp, .inl ⟨_, _, rfl, run_takeDeferred hK, ?_⟩⟩
    refine ⟨.bool false, ?_, by rw [hd], hB.trans (belowK_b (w := w) (Nat.le_refl _) _ D _ _ (by omega) hK rfl rfl)⟩
    simp [results, Try.f11, go_sem, hc5]
theorem behind_call (i u j v : Int) (o p : List Int) (hl : o.length < 1000000000) : PCall Try.prog 11 [RowA i u o, RowA j v p] (.c (.bool (decide (Beh i u o j v p)))) := by
  refine pcall_scalar ⟨_, Try.func11, rfl, rfl⟩ rfl fun E vs hs hr hZ => ?_
  match vs, hs, hr with
  | ⟨[a, b]⟩, _, hr =>
    have h0 := hr 0 (by simp) (by simp)
    have h1 := hr 1 (by simp) (by simp)
    simp only [List.getElem_cons_zero, List.getElem_cons_succ, List.getElem_toArray] at h0 h1
    obtain ⟨A1, c1, rfl, g1⟩ := row_inv h0
    obtain ⟨A2, c2, rfl, g2⟩ := row_inv h1
    by_cases hlen : o.length = p.length
    · rw [← hlen]
      exact callsIn_wide.1 (behind_eq 3 (by omega) i u j v o p o.length rfl hlen.symm A1 A2 c1 c2 hl E.Z E.w hZ g1 g2)
    · have hd : decide (Beh i u o j v p) = false := decide_eq_false fun h => hlen h.2.2.1
      rw [hd]
      exact callsIn_wide.1 (behind_ne 3 (by omega) _ _ _ _ _ _ A1 A2 c1 c2 hlen E.w)
end Go.Ab
