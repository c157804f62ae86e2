/- Operations on values: slices of slices, conversions, tests. -/
import Derived.Test.YtpjmbigfgoogaacAb11
import Derived.Lib.ConvBytes
set_option linter.unusedVariables false
set_option linter.unusedSimpArgs false
set_option linter.constructorNameAsVariable false
namespace Go.Ab
open Go Go.RowKit

/-- A bound that is given, or not. -/
def bnd (d : Int) : Option AV → (Int → Prop) → Prop
  | none, K => K d
  | some (.c (.int _ i)), K => K i
  | _, _ => False
inductive RepO (E : Env) : Option AV → Option Value → Prop where
  | none : RepO E none none
  | some (a : AV) (v : Value) (h : Rep E a v) : RepO E (some a) (some v)
/-- The bounds that hold: 0 ≤ l ≤ h (≤ m) ≤ n. -/
def bnds (n : Nat) (lo hi mx : Option AV) (K : Nat → Nat → Prop) : Prop :=
  bnd 0 lo fun l => bnd n hi fun h => bnd n mx fun m => (mx.isSome = true → hi.isSome = true) ∧ 0 ≤ l ∧ l ≤ h ∧ h ≤ m ∧ m ≤ n ∧ K l.toNat h.toNat
/-- What a bound's run gives. -/
theorem bound_run {P : Program} (w : World) (k : IntKind) (i : Int) (y : Nat) (c : BoundsCode) (a : 0 ≤ i) (b : i ≤ y) : (Instr.sliceBound (.int k i) y c).run P w = .ok i.toNat w := by
  simp [Instr.sliceBound, asIntOf, a, b]
theorem bnd_val {E : Env} {d : Int} {o : Option AV} {ov : Option Value} {K : Int → Prop} (hr : RepO E o ov) (h : bnd d o K) : ∃ i, K i ∧ ((o = none ∧ ov = none ∧ i = d) ∨ ∃ k a, o = some a ∧ ov = some (.int k i)) := by
  cases hr with
  | none => exact ⟨d, h, .inl ⟨rfl, rfl, rfl⟩⟩
  | some a v hr =>
    cases hr <;> try exact h.elim
    cases v <;> try exact h.elim
    exact ⟨_, h, .inr ⟨_, _, rfl, rfl⟩⟩
theorem bnds_run {P : Program} {E : Env} {n cap : Nat} {lo hi mx : Option AV} {lv hv mv : Option Value} {K : Nat → Nat → Prop} (hn : n ≤ cap) (h1 : RepO E lo lv) (h2 : RepO E hi hv) (h3 : RepO E mx mv)
    (h : bnds n lo hi mx K) : ∃ l h m : Nat, (∀ b, (Instr.sliceBounds b n cap lv hv mv).run P E.w = .ok (l, h, m) E.w) ∧ l ≤ h ∧ h ≤ n ∧ h ≤ m ∧ m ≤ cap ∧ (hi = none → h = n) ∧ (mx = none → m = cap) ∧ (mx.isSome = true → hi.isSome = true) ∧ K l h := by
  unfold bnds at h
  obtain ⟨l, h, e1⟩ := bnd_val h1 h
  obtain ⟨i, h, e2⟩ := bnd_val h2 h
  obtain ⟨m, ⟨hm, a1, a2, a3, a4, hK⟩, e3⟩ := bnd_val h3 h
  have eh : ((i.toNat : Nat) : Int) = i := Int.toNat_of_nonneg (by omega)
  have em : ((m.toNat : Nat) : Int) = m := Int.toNat_of_nonneg (by omega)
  rcases e3 with ⟨rfl, rfl, rfl⟩ | ⟨km, am, rfl, rfl⟩
  · refine ⟨l.toNat, i.toNat, cap, fun b => ?_, by omega, by omega, by omega, by omega, fun e => ?_, fun _ => rfl, hm, hK⟩
    · rcases e2 with ⟨rfl, rfl, h2'⟩ | ⟨k2, a2', rfl, rfl⟩ <;> rcases e1 with ⟨rfl, rfl, h1'⟩ | ⟨k1, a1', rfl, rfl⟩ <;>
        simp only [Instr.sliceBounds, Sem.run_bind, Sem.run_pure, Result.andThen, bound_run (P := P) E.w _ _ _ _ a1 (by omega : l ≤ (i.toNat : Int)), bound_run (P := P) E.w _ _ n _ a1 (by omega), bound_run (P := P) E.w _ _ cap _ (by omega : 0 ≤ i) (by omega : i ≤ (cap : Int))] <;> simp [*]
    · rcases e2 with ⟨_, _, rfl⟩ | ⟨k2, a2', h, _⟩
      · simp
      · rw [h] at e; cases e
  · obtain ⟨k2, a2', rfl, rfl⟩ : ∃ k a, hi = some a ∧ hv = some (.int k i) := by
      rcases e2 with ⟨h, _⟩ | h
      · rw [h] at hm; exact absurd (hm rfl) (by simp)
      · exact h
    refine ⟨l.toNat, i.toNat, m.toNat, fun b => ?_, by omega, by omega, by omega, by omega, fun e => by (cases e), fun e => by (cases e), fun _ => rfl, hK⟩
    rcases e1 with ⟨rfl, rfl, h1'⟩ | ⟨k1, a1', rfl, rfl⟩ <;>
      simp only [Instr.sliceBounds, Sem.run_bind, Sem.run_pure, Result.andThen, bound_run (P := P) E.w _ _ cap _ (by omega : 0 ≤ m) (by omega : m ≤ (cap : Int)), bound_run (P := P) E.w _ _ m.toNat _ (by omega : 0 ≤ i) (by omega : i ≤ (m.toNat : Int)), bound_run (P := P) E.w _ _ i.toNat _ a1 (by omega : l ≤ (i.toNat : Int))] <;> simp [*]
theorem cut_l {E : Env} {sz : Nat} {xs : List AV} {A : Option Addr} {n cap l h m : Nat} (hr : Rep E (.l sz xs) (.slice A n cap)) (h1 : l ≤ h) (h2 : h ≤ n) (h3 : h ≤ m) (h4 : m ≤ cap) :
    Rep E (.l sz ((xs.drop l).take (h - l))) (.slice (if m = l then A else A.map (·.add (l * sz))) (h - l) (m - l)) := by
  cases hr with
  | l _ _ b off _ y hcap hz hs hc hr =>
    have hlen : ((xs.drop l).take (h - l)).length = h - l := by simp; omega
    by_cases he : m = l
    · have : h - l = 0 := by omega
      rw [if_pos he, this]
      exact .l0 _ _ _
    · rw [if_neg he]
      simp only [Option.map_some, addr_add]
      have := Rep.l (E := E) sz ((xs.drop l).take (h - l)) b (off + l * sz) (m - l) (fun i j => y (l + i) j) (by omega) hz (fun i hi => ?_) (fun i j hi hj => ?_) (fun i hi j hj => ?_)
      · rw [hlen] at this; exact this
      · simp only [List.getElem_take, List.getElem_drop]; exact hs _ _
      · rw [hlen] at hi
        have e : off + l * sz + (i * sz + j) = off + ((l + i) * sz + j) := by rw [Nat.add_mul]; omega
        rw [e]; exact hc _ _ (by omega) hj
      · simp only [List.getElem_take, List.getElem_drop]; exact hr _ _ _ _
  | l0 =>
    have e0 : h - l = 0 := by omega
    rw [e0]
    simp only [List.drop_nil, List.take_nil]
    exact .l0 _ _ _
/-- A piece of a slice, or of a text. -/
def cutK (k : TK) (tab : Tab) (M : Mem) (lo hi mx : Option AV) : AV → (AV → Mem → Prop) → Prop
  | .s id off n, K => match k with
    | .sl e => (∃ ti, assoc tab e = some ti ∧ blkK M id (off + n) fun blk => blk.sz = ti.sz ∧ bnds n lo hi mx fun l h =>
        if hi.isNone then K (.s id (off + l) (n - l)) M else PureL blk.xs ∧ K (.l ti.sz ((blk.xs.drop (off + l)).take (h - l))) (M.drop id))
    | _ => False
  | .l sz xs, K => match k with
    | .sl e => (∃ ti, assoc tab e = some ti ∧ sz = ti.sz ∧ bnds xs.length lo hi mx fun l h => K (.l sz ((xs.drop l).take (h - l))) M)
    | _ => False
  | .c (.slice none 0 0), K => match k with
    | .sl e => (∃ ti, assoc tab e = some ti ∧ bnds 0 lo hi mx fun _ _ => K (.c (.slice none 0 0)) M)
    | _ => False
  | .c (.string s), K => match k with
    | .str => mx.isNone = true ∧ bnds s.size lo hi mx fun l h => K (.c (.string (s.extract l h))) M
    | _ => False
  | _, _ => False
theorem cut_out {P : Program} {w0 : World} {E : Env} {M : Mem} {t : TypeId} {k : TK} {tab : Tab} {a : AV} {v : Value} {lo hi mx : Option AV} {lv hv mv : Option Value} {K : AV → Mem → Prop} (hg : Good w0 E M)
    (hT : TabOk P tab) (hk : KOk P t k) (hr : Rep E a v) (h1 : RepO E lo lv) (h2 : RepO E hi hv) (h3 : RepO E mx mv) (h : cutK k tab M lo hi mx a K) : Out P w0 E (Instr.sliceAt t v lv hv mv) K := by
  have hrun : ∀ e ti, k = .sl e → assoc tab e = some ti → ∀ A n cap l h m, (∀ b, (Instr.sliceBounds b n cap lv hv mv).run P E.w = .ok (l, h, m) E.w) →
      (Instr.sliceAt t (.slice A n cap) lv hv mv).run P E.w = .ok (.slice (if m = l then A else A.map (·.add (l * ti.sz))) (h - l) (m - l)) E.w := fun e ti hke hti A n cap l h m hb => by
    subst hke
    simp only [KOk] at hk
    simp only [Instr.sliceAt, Sem.run_bind, run_underlying hk, Result.andThen, Instr.slice, hb, (hT _ _ hti).run_size, Sem.run_pure]
  cases hr <;> try exact h.elim
  case c hv' =>
    cases v <;> try exact h.elim
    case string s =>
      cases k <;> try exact h.elim
      obtain ⟨hm, h⟩ := h
      obtain ⟨l, h', m, b1, b2, b3, b4, b5, b6, b7, b8, hK⟩ := bnds_run (P := P) (cap := s.size) (Nat.le_refl _) h1 h2 h3 h
      have hmn : mv = none := by
        cases h3 with
        | none => rfl
        | some a v _ => simp at hm
      subst hmn
      simp only [KOk] at hk
      exact .val hg (by simp only [Instr.sliceAt, Sem.run_bind, run_underlying hk, Result.andThen, Instr.slice, b1, Sem.run_pure, Option.isSome_none, Bool.false_eq_true, if_false]) (.c (.string _) rfl) hK
    case slice A n c =>
      match A, n, c, h with
      | none, 0, 0, h =>
        cases k <;> try exact h.elim
        obtain ⟨ti, hti, h⟩ := h
        obtain ⟨l, h', m, b1, b2, b3, b4, b5, b6, b7, b8, hK⟩ := bnds_run (P := P) (cap := 0) (Nat.le_refl _) h1 h2 h3 h
        have e1 : l = 0 := by omega
        have e2 : h' = 0 := by omega
        have e3 : m = 0 := by omega
        subst e1; subst e2; subst e3
        exact .val hg (by rw [hrun _ _ rfl hti _ _ _ _ _ _ b1]; rfl) (.c (.slice none 0 0) rfl) hK
  case l sz xs b off cap y hcap hz hs hc hr =>
    cases k <;> try exact h.elim
    obtain ⟨ti, hti, rfl, h⟩ := h
    obtain ⟨l, h', m, b1, b2, b3, b4, b5, b6, b7, b8, hK⟩ := bnds_run (P := P) (cap := cap) hcap h1 h2 h3 h
    exact .val hg (hrun _ _ rfl hti _ _ _ _ _ _ b1) (cut_l (.l _ xs b off cap y hcap hz hs hc hr) b2 b3 b4 b5) hK
  case l0 sz A cap =>
    cases k <;> try exact h.elim
    obtain ⟨ti, hti, rfl, h⟩ := h
    obtain ⟨l, h', m, b1, b2, b3, b4, b5, b6, b7, b8, hK⟩ := bnds_run (P := P) (cap := cap) (Nat.zero_le _) h1 h2 h3 h
    exact .val hg (hrun _ _ rfl hti _ _ _ _ _ _ b1) (cut_l (.l0 _ A cap) b2 b3 b4 b5) hK
  case s id off n A cap hk' hs =>
    cases k <;> try exact h.elim
    obtain ⟨ti, hti, blk, hM, hn, hsz, h⟩ := h
    obtain ⟨q, q1, q2, q3, q4, q5⟩ := hg.held id blk hM
    obtain ⟨g1, g2⟩ := hs q q1
    obtain ⟨g3, g4⟩ := g2 (by omega)
    obtain ⟨l, h', m, b1, b2, b3, b4, b5, b6, b7, b8, hK⟩ := bnds_run (P := P) (cap := cap) (by omega) h1 h2 h3 h
    have hr' := hrun _ _ rfl hti A n cap l h' m b1
    have hrs : Rep E (.s id (off + l) (n - l)) (.slice (if cap = l then A else A.map (·.add (l * ti.sz))) (n - l) (cap - l)) := by
      refine .s _ _ _ _ _ hk' (fun q' hq' => ?_)
      rw [q1] at hq'; cases hq'
      refine ⟨by omega, fun _ => ⟨by omega, fun hc => ?_⟩⟩
      rw [if_neg (by omega), g4 (by omega)]
      simp only [Option.map_some, addr_add, Option.some.injEq, Addr.mk.injEq, and_true, true_and]
      rw [q2, hsz, Nat.add_mul]
    cases h2 with
    | none =>
      simp only [Option.isNone_none, if_true] at hK
      have e1 := b6 rfl
      have hmx : mx = none := by
        cases mx with
        | none => rfl
        | some a => exact absurd (b8 rfl) (by simp)
      have e2 := b7 hmx
      subst e1; subst e2
      exact .val hg hr' hrs hK
    | some a0 v0 h0 =>
      simp only [Option.isNone_some, Bool.false_eq_true, if_false] at hK
      obtain ⟨hp, hK⟩ := hK
      obtain ⟨hg', hl⟩ := hg.without [id]
      have hv := rep_viewC (ids := [id]) hg (Rep.s id off n A cap hk' hs) ⟨blk, hM, by omega, hp⟩ (fun i hi => by simpa [idsC] using hi)
      simp only [viewC, hM] at hv
      have hc := cut_l (l := l) (h := h') (m := m) hv b2 b3 b4 b5
      rw [List.drop_drop, hsz] at hc
      exact ⟨_, E.without [id], M.drop id, _, hr', hg', hl, hc, hK⟩
end Go.Ab
