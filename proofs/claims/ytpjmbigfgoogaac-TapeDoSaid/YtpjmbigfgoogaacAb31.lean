/- A range over a function: the rule. -/
import Derived.Test.YtpjmbigfgoogaacAb30
set_option linter.unusedVariables false
set_option linter.unusedSimpArgs false
set_option linter.constructorNameAsVariable false
namespace Go.Ab
open Go Go.RowKit

/-- Of the blocks those that nobody writes lie as they lay. -/
structure KZ (Z : Nat → Prop) (A B : World) : Prop where
  same : ∀ b, Z b → B.heap[b]? = A.heap[b]?
theorem KZ.refl (Z : Nat → Prop) (W : World) : KZ Z W W := ⟨fun _ _ => rfl⟩
theorem KZ.trans {Z : Nat → Prop} {A B C : World} (h : KZ Z A B) (k : KZ Z B C) : KZ Z A C := ⟨fun b hb => (k.same b hb).trans (h.same b hb)⟩
theorem KZ.cell {Z : Nat → Prop} {A B : World} (h : KZ Z A B) {b : Nat} (hb : Z b) (o : Nat) : B.cell? ⟨b, o, none⟩ = A.cell? ⟨b, o, none⟩ := cell_same (h.same b hb) o none

/-- The parameters of a round. -/
def setPs : Slots → List Tmp → List Value → Slots
  | sl, t :: ts, v :: vs => setPs (insert sl t (.c v)) ts vs
  | sl, _, _ => sl
theorem reps_setPs {E : Env} : ∀ (ts : List Tmp) (vs : List Value) (sl : Slots) (tmps : Array Value), RepS E sl tmps → (∀ v ∈ vs, One v) → (∀ t ∈ ts, t < tmps.size) →
    RepS E (setPs sl ts vs) ((ts.zip vs).foldl (fun t (p : Tmp × Value) => t.setIfInBounds p.1 p.2) tmps) ∧ ((ts.zip vs).foldl (fun t (p : Tmp × Value) => t.setIfInBounds p.1 p.2) tmps).size = tmps.size
  | [], _, sl, tmps, h, _, _ => by simpa [setPs] using h
  | _ :: _, [], sl, tmps, h, _, _ => by simpa [setPs] using h
  | t :: ts, v :: vs, sl, tmps, h, h1, h2 => by
    have := reps_setPs ts vs (insert sl t (.c v)) (tmps.setIfInBounds t v) (h.put (h2 t (by simp)) (.c v (h1 v (by simp)))) (fun v' hv => h1 v' (by simp [hv])) (fun t' ht => by simpa using h2 t' (by simp [ht]))
    simpa [setPs] using this
def outC : Exit → Option Code
  | .ret => some .ret
  | .exit id => some (.exit id)
  | .goto l => some (.goto l)
  | _ => none
/-- Behind a round: on with the next one, or out of the loop. -/
def rndK {α : Type} (Sp : List α → Prop) (I : List α → Mem) (K : Exit → ASt → Prop) (sl : Slots) (N : Nat) (xs : List α) : Exit → ASt → Prop
  | .normal, s => memFit s.m (I xs).k (I xs).l
  | .ret, s => Sp xs → K .ret ⟨sl, s.m, N⟩
  | .exit id, s => Sp xs → K (.exit id) ⟨sl, s.m, N⟩
  | .goto l, s => Sp xs → K (.goto l) ⟨sl, s.m, N⟩
  | _, _ => False
def noK : Exit → ASt → Prop := fun _ _ => False

/-- How the loop stands between two rounds. -/
def Btw (w0 : World) (E : Env) (l Dn : Nat) (rec : Loop) (M : Mem) (W : World) : Prop :=
  ∃ E1, E1.w = W ∧ Good w0 E1 M ∧ Later E E1 ∧ (E1.Z l ∧ W.heap[l]? = some (.loop rec)) ∧ E1.Z Dn ∧ W.heap[Dn]? = some (.deferred (some []))
theorem Btw.turn {w0 : World} {E : Env} {l Dn : Nat} {rec : Loop} {M : Mem} {W W' : World} {row : Option Nat} (h : Btw w0 E l Dn rec M W) (hg : W.grownBy W' row) (hr : Dull W row) (h1 : ∀ r, row = some r → w0.heap.size ≤ r) (h2 : ∀ r, row = some r → E.w.heap.size ≤ r) (hl : row ≠ some l) (hD : row ≠ some Dn) :
    Btw w0 E l Dn rec M W' := by
  obtain ⟨E1, rfl, a1, a2, ⟨a3, a4⟩, a5, a6⟩ := h
  exact ⟨E1.at W', rfl, a1.turn hg hr h1, a2.turn hg h2, ⟨Z.at hg a3, (hg.block l a3.1 (fun e => hl e.symm)).trans a4⟩, Z.at hg a5, (hg.block Dn a5.1 (fun e => hD e.symm)).trans a6⟩

/-- The loop's record. -/
def theRec (fn : FuncId) (tmps : Array Value) (ps : Array Tmp) (assign body : Code) (d : Nat) (st : LoopState) (pe : Option Code) : Loop := { state := st, pending := pe, fn, tmps, params := ps, assign, body, defers := d }
theorem marks_lt {w0 : World} {Ee E : Env} : ∀ {ds : List Deferred}, Marks w0 Ee E ds → ∀ d ∈ ds, d.target ≠ .collected E.w.heap.size
  | d :: ds, ⟨⟨r, h1, _, _, h3, _, _⟩, h6⟩, d', hd, he => by
    rcases List.mem_cons.1 hd with h | h
    · subst h
      rw [h1] at he
      injection he with he
      have := h3.1
      omega
    · exact marks_lt h6 d' h he
theorem range_rule {P : Program} {tab : Tab} (hT : TabOk P tab) {g : Operand} {ps : Array Tmp} {assign body : Code} {K : Exit → ASt → Prop} {s : ASt} {α : Type}
    {gf : FuncId} {caps : List AV} (hg : ev s.sl g = .f gf caps) (eg : ∀ args w, (callFunc gf args).run P w = .ok (.enter gf args) w)
    {encs : α → List Value} (henc : ∀ x, (encs x).length = ps.size) (hone : ∀ x, ∀ v ∈ encs x, One v) (hps : ∀ t ∈ ps.toList, t < s.N) {S Sp : List α → Prop} {N : Nat}
    (hseq : ∀ (E : Env) (lb : Array Value), lb.size = caps.length → (∀ i (h1 : i < caps.length) (h2 : i < lb.size), Rep E caps[i] lb[i]) → SeqStopsK (FF none) 1 P gf lb (fun x => (encs x).toArray) (KZ E.Z) S Sp N E.w)
    (I : List α → Mem) (hk : ∀ xs, s.m.k ≤ (I xs).k) (h0 : memFit s.m (I []).k (I []).l)
    (round : ∀ pre x, pre.length < N → aw P tab assign (thenK (aw P tab body (rndK Sp I K s.sl s.N (pre ++ [x]))) noK) ⟨setPs s.sl ps.toList (encs x), I pre, s.N⟩)
    (done : ∀ xs, S xs → K .normal ⟨s.sl, I xs, s.N⟩) : ACode1 P (.rangeFunc g ps assign body) K s := by
  intro w0 Ee E D a hle hst hmk
  have hrg := rep_ev hst.r g
  rw [hg] at hrg
  generalize hag : a.eval g = vg at hrg
  cases hrg with
  | f fn caps' lb hlb hrc =>
  refine wpIn_rangeFunc (F := FF none) (n := 0) ?_
  intro fn hfn
  show ∃ (l : Nat) (mark : List Deferred) (w₁ : World) (d : Deferred) (w₁' : World) (f : FuncId) (args : Array Value) (w₂ : World),
      (Instr.enterLoop fn a.tmps ps assign body none).run P E.w = .ok (l, mark) w₁ ∧ _
  obtain ⟨W1, hW1⟩ : ∃ W1, (E.w.alloc (.deferred (some []))).alloc (.loop (theRec fn a.tmps ps assign body E.w.heap.size .ready none)) = W1 := ⟨_, rfl⟩
  have hL1 : W1.heap[E.w.heap.size + 1]? = some (.loop (theRec fn a.tmps ps assign body E.w.heap.size .ready none)) := by
    rw [← hW1]; have := World.alloc_heap_new (E.w.alloc (.deferred (some []))) (.loop (theRec fn a.tmps ps assign body E.w.heap.size .ready none)); rwa [World.size_alloc] at this
  have hK1 : W1.heap[E.w.heap.size]? = some (.deferred (some [])) := by
    rw [← hW1]; exact (Below.heap_alloc _ _ _ (by simp)).trans (World.alloc_heap_new E.w _)
  have hz1 : W1.heap.size = E.w.heap.size + 2 := by rw [← hW1]; simp
  have hw0 : w0.heap.size ≤ E.w.heap.size := hst.g.below.size
  have hg1 : E.w.grownBy W1 none := by
    rw [← hW1]
    have h1 := alloc_grown E.w (.deferred (some []))
    have h2 := alloc_grown (E.w.alloc (.deferred (some []))) (.loop (theRec fn a.tmps ps assign body E.w.heap.size .ready none))
    exact ⟨h2.os.trans h1.os, h2.tape.trans h1.tape, h2.output.trans h1.output, Nat.le_trans h1.size h2.size, fun k hk hne => (h2.block k (Nat.lt_of_lt_of_le hk h1.size) hne).trans (h1.block k hk hne)⟩
  have hb1 : Below E.w.heap.size E.w W1 := (Below.refl _ _).grown hg1 (Nat.le_refl _) row_none
  have hfit : ∀ {E1 : Env} {M : Mem} {xs : List α}, Good w0 E1 M → memFit M (I xs).k (I xs).l → Later E E1 → ∃ E2, E2.w = E1.w ∧ Good w0 E2 (I xs) ∧ Later E E2 ∧ (∀ b, E1.Z b → E2.Z b) := fun {E1 M xs} a1 a2 a3 => by
    refine ⟨E1.keep (fun i => ((I xs).get i).isSome) (I xs).k, rfl, a1.keep a2, a3.keep' _ (by rw [← hst.g.k]; exact hk _), fun b hb => ⟨hb.1, hb.2.1, fun i q hq hcp => ?_⟩⟩
    simp only [Env.keep] at hq
    split at hq
    · exact hb.2.2 i q hq hcp
    · cases hq
  have hown : ∀ {E1 : Env} {b : Nat} {o : Obj} {M : Mem}, Good w0 E1 M → E.w.heap.size ≤ b → E1.w.heap[b]? = some o → o.isCells = false → E1.hid = E.hid → E1.Z b := fun {E1 b o M} a1 a2 a3 a4 a5 => by
    refine ⟨(Array.getElem?_eq_some_iff.1 a3).1, fun h => ?_, fun i q hq hcp e => ?_⟩
    · rw [a5] at h
      have := hst.g.old b h
      omega
    · cases hM : M.get i with
      | none => rw [a1.gone i hM] at hq; cases hq
      | some blk =>
        obtain ⟨q1, b1, _, _, _, b5⟩ := a1.held i blk hM
        rw [hq] at b1; cases b1
        obtain ⟨_, arr, c1, _⟩ := (b5 hcp).2
        rw [e, a3] at c1
        cases c1
        cases a4
  -- the start
  obtain ⟨E2, e2, g2, l2, _⟩ := hfit (xs := []) hst.g h0 (.refl E)
  have hB0 : Btw w0 E (E.w.heap.size + 1) E.w.heap.size (theRec fn a.tmps ps assign body E.w.heap.size .ready none) (I []) W1 := by
    have g3 := g2.turn (W := W1) (by rw [e2]; exact hg1) alloc_dull row_none
    have l3 := l2.turn (W := W1) (by rw [e2]; exact hg1) row_none
    exact ⟨E2.at W1, rfl, g3, l3, ⟨hown g3 (by omega) hL1 rfl l3.hid, hL1⟩, hown g3 (by omega) hK1 rfl l3.hid, hK1⟩
  refine ⟨E.w.heap.size + 1, [{ target := .collected E.w.heap.size, args := #[] }], W1, { target := .fn (.func gf) lb, args := #[.func (.yield (E.w.heap.size + 1)) #[] #[]] }, W1, gf,
    #[.func (.yield (E.w.heap.size + 1)) #[] #[]] ++ lb, W1, ?_, ?_, fun f' hf' => trivial, ?_, (fun h => by cases h), ?_⟩
  · rw [← hW1]; exact run_enterLoop_outer _ _ _ _ _
  · simp only [resolve, hag]
    simp [go_sem]
  · simp [invoke, go_sem, eg]
  have hturnE : ∀ {A : Env} {W' : World} {row : Option Nat}, A.w.grownBy W' row → A.w.grownBy W' row := fun h => h
  have hcall := hseq E lb hlb hrc (E.w.heap.size + 1)
    (fun pre W => Btw w0 E (E.w.heap.size + 1) E.w.heap.size (theRec fn a.tmps ps assign body E.w.heap.size .ready none) (I pre) W)
    (fun pre W => ∃ ex c M, outC ex = some c ∧ Btw w0 E (E.w.heap.size + 1) E.w.heap.size (theRec fn a.tmps ps assign body E.w.heap.size .done (some c)) M W ∧ (Sp pre → K ex ⟨s.sl, M, s.N⟩))
    W1 hb1
    (fun xs A B row hs hg' hr => hs.turn hg' (fun r e => by obtain ⟨_, o, ho, hw⟩ := hr r e; exact ⟨o, ho, Obj.not_cells_of_walk hw⟩) (fun r e => by have := (hr r e).1; omega) (fun r e => by have := (hr r e).1; omega)
      (fun e => by have := (hr _ e).1; omega) (fun e => by have := (hr _ e).1; omega))
    (fun xs A B row hs hg' hr => by
      obtain ⟨ex, c, M, h1, h2, h3⟩ := hs
      exact ⟨ex, c, M, h1, h2.turn hg' (fun r e => by obtain ⟨_, o, ho, hw⟩ := hr r e; exact ⟨o, ho, Obj.not_cells_of_walk hw⟩) (fun r e => by have := (hr r e).1; omega) (fun r e => by have := (hr r e).1; omega)
        (fun e => by have := (hr _ e).1; omega) (fun e => by have := (hr _ e).1; omega), h3⟩)
    ?_ hB0
  · refine (callsIn_wide (n := 0 - 1)).2 (Calls.mono' ((callsIn_wide (n := 1)).1 hcall) ?_)
    rintro e W2 ⟨⟨v, rfl⟩, (⟨xs, hS, E1, rfl, a1, a2, ⟨a3, a4⟩, a5, a6⟩ | ⟨pre, hSp, ex, c, M, hex, ⟨E1, rfl, a1, a2, ⟨a3, a4⟩, a5, a6⟩, hKx⟩)⟩
    · have hend := run_endLoop (P := P) a4 (by simp [theRec])
      have gr := put_grown E1.w (E.w.heap.size + 1) (.loop { theRec fn a.tmps ps assign body E.w.heap.size .ready none with state := .exhausted })
      have du := put_dull a4 (rfl : Obj.isCells (.loop (theRec fn a.tmps ps assign body E.w.heap.size .ready none)) = false)
      refine ⟨none, _, hend, ?_⟩
      refine ⟨E1.at _, _, ⟨s.sl, I xs, s.N⟩, rfl, ⟨a1.turn gr du (row_some (by omega)), (hst.r.later (a2.turn gr (row_some (by omega)))), hst.n, rfl⟩, ?_, a2.turn gr (row_some (by omega)), done xs hS⟩
      refine ⟨⟨E.w.heap.size, rfl, hw0, fun hz => ?_, Z.at gr a5, (gr.block _ a5.1 (fun e => by injection e; omega)).trans a6, fun d' hd' he => ?_⟩, ?_⟩
      · have := (hle.z _ hz).1.1; omega
      · rw [hst.d] at hd'
        exact marks_lt hmk d' hd' he
      · rw [hst.d]
        exact (hmk.later (a2.turn gr (row_some (by omega))))
    · have hend := run_endLoop (P := P) a4 (by simp [theRec])
      have gr := put_grown E1.w (E.w.heap.size + 1) (.loop { theRec fn a.tmps ps assign body E.w.heap.size .done (some c) with state := .exhausted })
      have du := put_dull a4 (rfl : Obj.isCells (.loop (theRec fn a.tmps ps assign body E.w.heap.size .done (some c))) = false)
      refine ⟨some c, _, hend, ?_⟩
      have hfin : ∃ E' D' s', E'.w = E1.w.putObj (E.w.heap.size + 1) (.loop { theRec fn a.tmps ps assign body E.w.heap.size .done (some c) with state := .exhausted }) ∧ St w0 E' D' s' { a with defers := [{ target := .collected E.w.heap.size, args := #[] }] ++ a.defers } ∧ Marks w0 Ee E' D' ∧ Later E E' ∧ K ex s' := by
        refine ⟨E1.at _, _, ⟨s.sl, M, s.N⟩, rfl, ⟨a1.turn gr du (row_some (by omega)), (hst.r.later (a2.turn gr (row_some (by omega)))), hst.n, rfl⟩, ?_, a2.turn gr (row_some (by omega)), hKx hSp⟩
        refine ⟨⟨E.w.heap.size, rfl, hw0, fun hz => ?_, Z.at gr a5, (gr.block _ a5.1 (fun e => by injection e; omega)).trans a6, fun d' hd' he => ?_⟩, ?_⟩
        · have := (hle.z _ hz).1.1; omega
        · rw [hst.d] at hd'
          exact marks_lt hmk d' hd' he
        · rw [hst.d]
          exact (hmk.later (a2.turn gr (row_some (by omega))))
      cases ex <;> simp only [outC, Option.some.injEq, reduceCtorEq] at hex <;> subst hex
      · exact wpIn_exit hfin
      · exact wpIn_goto hfin
      · exact wpIn_ret hfin
  · -- one round
    rintro pre x W ⟨E1, rfl, a1, a2, ⟨a3, a4⟩, a5, a6⟩ hlen
    have hy := run_yield (P := P) (args := (encs x).toArray) a4 (by simp [theRec, henc])
    refine ⟨fn, _, assign, body, hy, ?_⟩
    have hfold : ((ps.zip (encs x).toArray).foldl (fun t (p : Tmp × Value) => t.setIfInBounds p.1 p.2) a.tmps) = (ps.toList.zip (encs x)).foldl (fun t (p : Tmp × Value) => t.setIfInBounds p.1 p.2) a.tmps := by
      rw [← Array.foldl_toList, Array.toList_zip]
    obtain ⟨r1, r2⟩ := reps_setPs (E := E1) ps.toList (encs x) s.sl a.tmps (hst.r.later a2) (hone x) (fun t ht => by rw [hst.n]; exact hps t ht)
    rw [← hfold] at r1 r2
    refine roundIn_of_wpIn (F := FF none) trivial ?_
    have hst1 : St w0 E1 [] ⟨setPs s.sl ps.toList (encs x), I pre, s.N⟩ { tmps := (ps.zip (encs x).toArray).foldl (fun t (p : Tmp × Value) => t.setIfInBounds p.1 p.2) a.tmps, defers := [] } := ⟨a1, r1, by rw [r2]; exact hst.n, rfl⟩
    refine Code.wpIn_mono ?_ (aw_sound hT assign _ _ (round pre x hlen) (some (E.w.heap.size + 1)) w0 E1 [] _ hst1)
    rintro e aa w' ⟨E2', s2, rfl, k1, k2, k3⟩
    cases e <;> try exact k3.elim
    have b4 := (k2.z _ a3).2.trans a4
    refine ⟨_, run_beginRound b4 rfl, ?_⟩
    have gr := put_grown E2'.w (E.w.heap.size + 1) (.loop { theRec fn a.tmps ps assign body E.w.heap.size .ready none with state := .busy })
    have du := put_dull b4 (rfl : Obj.isCells (.loop (theRec fn a.tmps ps assign body E.w.heap.size .ready none)) = false)
    have hlt := (k2.z _ a3).1.1
    have hst2 : St w0 (E2'.at (E2'.w.putObj (E.w.heap.size + 1) (.loop { theRec fn a.tmps ps assign body E.w.heap.size .ready none with state := .busy }))) [] s2 aa := ⟨k1.g.turn gr du (row_some (by omega)), k1.r.turn gr du, k1.n, k1.d⟩
    have l2' := (a2.trans k2).turn gr (row_some (by omega))
    have hb2 : (E2'.w.putObj (E.w.heap.size + 1) (.loop { theRec fn a.tmps ps assign body E.w.heap.size .ready none with state := .busy })).heap[E.w.heap.size + 1]? = some (.loop { theRec fn a.tmps ps assign body E.w.heap.size .ready none with state := .busy }) := World.putObj_heap_same hlt
    have hz2 := Z.at gr (k2.z _ a3).1
    have hd2 : (E2'.w.putObj (E.w.heap.size + 1) (.loop { theRec fn a.tmps ps assign body E.w.heap.size .ready none with state := .busy })).heap[E.w.heap.size]? = some (.deferred (some [])) := (World.putObj_heap_other (by omega)).trans ((k2.z _ a5).2.trans a6)
    have hzd2 := Z.at gr (k2.z _ a5).1
    refine Code.wpIn_mono ?_ (aw_sound hT body _ _ k3 (some (E.w.heap.size + 1)) w0 _ [] _ hst2)
    rintro e ab w' ⟨E3, s3, rfl, m1, m2, m3⟩
    have c4 := (m2.z _ hz2).2.trans hb2
    have c5 := (m2.z _ hzd2).2.trans hd2
    have z4 := (m2.z _ hz2).1
    have z5 := (m2.z _ hzd2).1
    have l3 := l2'.trans m2
    -- out of the loop
    have hout : ∀ ex c, outC ex = some c → (Sp (pre ++ [x]) → K ex ⟨s.sl, s3.m, s.N⟩) → ∃ v w', (Instr.endRound (E.w.heap.size + 1) (some c)).run P E3.w = .ok v w' ∧
        ((Ending.returned v = .returned (.bool true) ∧ Btw w0 E (E.w.heap.size + 1) E.w.heap.size (theRec fn a.tmps ps assign body E.w.heap.size .ready none) (I (pre ++ [x])) w' ∧ KZ E.Z E1.w w') ∨
          (Ending.returned v = .returned (.bool false) ∧ ∃ ex c M, outC ex = some c ∧ Btw w0 E (E.w.heap.size + 1) E.w.heap.size (theRec fn a.tmps ps assign body E.w.heap.size .done (some c)) M w' ∧ (Sp (pre ++ [x]) → K ex ⟨s.sl, M, s.N⟩))) := fun ex c hex hkx => by
      have hend := run_endRound (P := P) (some c) c4
      have gr3 := put_grown E3.w (E.w.heap.size + 1) (.loop (theRec fn a.tmps ps assign body E.w.heap.size .done (some c)))
      have du3 := put_dull c4 rfl
      refine ⟨_, _, hend, .inr ⟨rfl, ex, c, s3.m, hex, ⟨E3.at _, rfl, m1.g.turn gr3 du3 (row_some (by omega)), l3.turn gr3 (row_some (by omega)), ⟨Z.at gr3 z4, World.putObj_heap_same z4.1⟩, Z.at gr3 z5, (World.putObj_heap_other (by omega)).trans c5⟩, hkx⟩⟩
    cases e with
    | normal =>
      have hend := run_endRound (P := P) none c4
      obtain ⟨E4, e4, g4, l4, q4⟩ := hfit (xs := pre ++ [x]) m1.g m3 l3
      have c4' : E4.w.heap[E.w.heap.size + 1]? = some (.loop { theRec fn a.tmps ps assign body E.w.heap.size .ready none with state := .busy }) := by rw [e4]; exact c4
      have c5' : E4.w.heap[E.w.heap.size]? = some (.deferred (some [])) := by rw [e4]; exact c5
      have gr3 := put_grown E4.w (E.w.heap.size + 1) (.loop (theRec fn a.tmps ps assign body E.w.heap.size .ready none))
      have du3 := put_dull c4' rfl
      rw [← e4] at hend ⊢
      refine ⟨_, _, hend, .inl ⟨rfl, ⟨E4.at _, rfl, g4.turn gr3 du3 (row_some (by omega)), l4.turn gr3 (row_some (by omega)), ⟨Z.at gr3 (q4 _ z4), World.putObj_heap_same (q4 _ z4).1⟩, Z.at gr3 (q4 _ z5), (World.putObj_heap_other (by omega)).trans c5'⟩, ⟨fun b hb => ?_⟩⟩⟩
      have hb1 := hb.1
      exact ((l4.turn gr3 (row_some (by omega))).z b hb).2.trans (a2.z b hb).2.symm
    | ret => exact hout .ret _ rfl m3
    | exit id => exact hout (.exit id) _ rfl m3
    | goto l => exact hout (.goto l) _ rfl m3
    | _ => exact m3.elim
end Go.Ab
