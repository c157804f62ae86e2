/- A block of the call's own is given up: what points at it is told as what it holds. -/
import Derived.Test.YtpjmbigfgoogaacAb32
set_option linter.unusedVariables false
set_option linter.unusedSimpArgs false
set_option linter.constructorNameAsVariable false
namespace Go.Ab
open Go Go.RowKit

def frzC (M : Mem) (id : Nat) : AV → AV
  | .s i off n => bif Nat.beq i id then (match M.get id with | some blk => .l blk.sz (blk.xs.drop off) | none => .x) else .s i off n
  | .p i k j n => bif Nat.beq i id then (match M.get id with | some blk => .e ((blk.xs.getD k .x).cells.drop j) | none => .x) else .p i k j n
  | a => a
def frzE (M : Mem) (id : Nat) : AV → AV
  | .g cs => .g (cs.map (frzC M id))
  | a => frzC M id a
/-- What the rule wants of a value that names the block. -/
def FOk (M : Mem) (id : Nat) : AV → Prop
  | .s i off n => i = id → blkK M id (off + n) fun blk => PureL blk.xs
  | .p i k j n => i = id → blkK M id n fun blk => PureL blk.xs ∧ k < n
  | _ => True
def FOkE (M : Mem) (id : Nat) : AV → Prop
  | .g cs => ∀ c ∈ cs, FOk M id c
  | a => FOk M id a
theorem frzC_notG {M : Mem} {id : Nat} {a : AV} (h : ∀ cs, a ≠ .g cs) : ∀ cs, frzC M id a ≠ .g cs := by
  intro cs e
  unfold frzC at e
  split at e
  · cases hb : Nat.beq _ id <;> rw [hb] at e
    · cases e
    · simp only [cond_true] at e
      split at e <;> cases e
  · cases hb : Nat.beq _ id <;> rw [hb] at e
    · cases e
    · simp only [cond_true] at e
      split at e <;> cases e
  · exact h cs e
theorem cells_notG {a : AV} (h : ∀ cs, a ≠ .g cs) : a.cells = [a] := by
  cases a <;> first | rfl | exact absurd rfl (h _)
theorem frzE_cells {M : Mem} {id : Nat} (a : AV) : (frzE M id a).cells = a.cells.map (frzC M id) := by
  by_cases h : ∃ cs, a = .g cs
  · obtain ⟨cs, rfl⟩ := h; rfl
  · have hn : ∀ cs, a ≠ .g cs := fun cs e => h ⟨cs, e⟩
    have he : frzE M id a = frzC M id a := by
      cases a <;> first | rfl | exact absurd rfl (hn _)
    rw [he, cells_notG (frzC_notG hn), cells_notG hn]; rfl

theorem rep_frzC {w0 : World} {E : Env} {M : Mem} (hg : Good w0 E M) {id : Nat} {a : AV} {v : Value} (hr : Rep E a v) (ho : FOk M id a) : Rep (E.without [id]) (frzC M id a) v := by
  have hl := (hg.without [id]).2
  cases hr with
  | s i off n A cap hk h =>
    by_cases e : i = id
    · subst e
      obtain ⟨blk, hM, hn, hp⟩ := ho rfl
      have := rep_viewC hg (ids := [i]) (Rep.s i off n A cap hk h) ⟨blk, hM, hn, hp⟩ (fun j hj => by simpa [idsC] using hj)
      simpa [frzC, viewC, hM] using this
    · have : frzC M id (.s i off n) = .s i off n := by simp [frzC, beq_ne e]
      rw [this]; exact (Rep.s i off n A cap hk h).later hl
  | p i k j n a hk h =>
    by_cases e : i = id
    · subst e
      obtain ⟨blk, hM, hn, hp, hkn⟩ := ho rfl
      have he : frzC M i (.p i k j n) = .e ((blk.xs.getD k .x).cells.drop j) := by simp [frzC, hM]
      rw [he]
      obtain ⟨q, h1, h2, h3, h4, h5⟩ := hg.held i blk hM
      have hcp : 0 < q.cp := by omega
      obtain ⟨hb0, hb⟩ := h5 hcp
      have hlt := backed_lt hb
      obtain ⟨_, arr, a1, a2, a3⟩ := hb
      have ha := (h q h1).2 (by omega)
      subst ha
      have hki : k < blk.xs.length := by omega
      have hgd : blk.xs.getD k .x = blk.xs[k] := by rw [List.getD_eq_getElem?_getD, List.getElem?_eq_getElem hki]; rfl
      rw [hgd]
      refine .e _ q.b (k * q.sz + j) (fun m => (arr[k * blk.sz + (j + m)]?).getD undef) ⟨hlt, hg.hid i q h1 hcp, fun i' q' hq' hcp' => ?_⟩ (fun m hm => ?_) fun m hm => ?_
      · simp only [Env.without] at hq'
        split at hq'
        · cases hq'
        · rename_i hni
          exact hg.inj i' i q' q (fun e => hni (by simp [e])) hq' h1 hcp' hcp
      · simp only [List.length_drop] at hm
        obtain ⟨y, b1, b2, b3⟩ := (a3 k hki).2 (j + m) (by omega)
        simp only [Env.without, World.cell?, a1, h2]
        exact ⟨by simp [Nat.add_assoc, b1], by rw [b1]; exact b2⟩
      · simp only [List.length_drop] at hm
        obtain ⟨y, b1, b2, b3⟩ := (a3 k hki).2 (j + m) (by omega)
        rw [b1]
        simp only [List.getElem_drop]
        exact b3.later hl
    · have : frzC M id (.p i k j n) = .p i k j n := by simp [frzC, beq_ne e]
      rw [this]; exact (Rep.p i k j n a hk h).later hl
  | c v h => exact .c v h
  | x v => exact .x v
  | g cs ys h hr => exact (Rep.g cs ys h hr).later hl
  | t cs ys h hr => exact (Rep.t cs ys h hr).later hl
  | f cs ys a h hr => exact (Rep.f cs ys a h hr).later hl
  | l sz xs b off cap y hcap hz hs hc hr => exact (Rep.l sz xs b off cap y hcap hz hs hc hr).later hl
  | l0 sz A cap => exact .l0 sz A cap
  | e cs b off y hz hc hr => exact (Rep.e cs b off y hz hc hr).later hl
theorem rep_frzE {w0 : World} {E : Env} {M : Mem} (hg : Good w0 E M) {id : Nat} {a : AV} {v : Value} (hr : Rep E a v) (ho : FOkE M id a) : Rep (E.without [id]) (frzE M id a) v := by
  cases a with
  | g cs =>
    cases hr with
    | g _ ys h hr =>
      refine .g _ ys (by simpa using h) (fun i h1 h2 => ?_)
      simp only [List.getElem_map]
      have h1' : i < cs.length := by simpa using h1
      exact rep_frzC hg (hr i h1' h2) (ho _ (List.getElem_mem h1'))
  | _ => exact rep_frzC hg hr ho

def mapB (f : AV → AV) : List (Nat × Blk) → List (Nat × Blk)
  | [] => []
  | (i, b) :: r => (i, ⟨b.T, b.sz, b.xs.map f⟩) :: mapB f r
theorem assoc_mapB (f : AV → AV) : ∀ (l : List (Nat × Blk)) (i : Nat), assoc (mapB f l) i = (assoc l i).map fun b => ⟨b.T, b.sz, b.xs.map f⟩
  | [], i => rfl
  | (k, b) :: r, i => by
    by_cases e : k = i
    · subst e; simp [mapB, assoc]
    · simp [mapB, assoc, beq_ne e, assoc_mapB f r i]
def BOk (M : Mem) (id : Nat) : List (Nat × Blk) → Prop
  | [] => True
  | (_, b) :: r => (∀ x ∈ b.xs, ∀ c ∈ x.cells, FOk M id c) ∧ BOk M id r
theorem BOk.get {M : Mem} {id : Nat} : ∀ {l : List (Nat × Blk)}, BOk M id l → ∀ i b, assoc l i = some b → ∀ x ∈ b.xs, ∀ c ∈ x.cells, FOk M id c
  | [], _, i, b, h => by cases h
  | (k, b0) :: r, h, i, b, he => by
    by_cases e : k = i
    · subst e
      simp only [assoc, Nat.beq_refl, cond_true, Option.some.injEq] at he
      subst he
      exact h.1
    · simp only [assoc, beq_ne e, cond_false] at he
      exact BOk.get h.2 i b he
theorem Good.freeze {w0 : World} {E : Env} {M : Mem} (hg : Good w0 E M) {id : Nat} (hb : BOk M id (remove M.l id)) : Good w0 (E.without [id]) ⟨mapB (frzE M id) (remove M.l id), M.k⟩ := by
  obtain ⟨h1, h2⟩ := hg.without [id]
  have hget : ∀ i, Mem.get ⟨mapB (frzE M id) (remove M.l id), M.k⟩ i = ((M.without [id]).get i).map fun b => ⟨b.T, b.sz, b.xs.map (frzE M id)⟩ := fun i => assoc_mapB _ _ _
  refine ⟨h1.below, h1.k, h1.lt, fun i hi => h1.gone i ?_, fun i blk hi => ?_, h1.hid, h1.old, h1.inj⟩
  · rw [hget] at hi
    simpa using hi
  · rw [hget] at hi
    cases hM : (M.without [id]).get i with
    | none => rw [hM] at hi; cases hi
    | some b =>
      rw [hM] at hi
      simp only [Option.map_some, Option.some.injEq] at hi
      subst hi
      obtain ⟨q, a1, a2, a3, a4, a5⟩ := h1.held i b hM
      refine ⟨q, a1, a2, by simpa using a3, a4, fun hcp => ⟨(a5 hcp).1, ?_⟩⟩
      have hne : i ≠ id := fun e => by
        subst e
        have : (M.without [i]).get i = none := by show assoc (remove M.l i) i = none; rw [assoc_remove]; simp
        rw [this] at hM; cases hM
      have hM2 : M.get i = some b := by
        have : (M.without [id]).get i = M.get i := by show assoc (remove M.l id) i = assoc M.l i; rw [assoc_remove, if_neg (Ne.symm hne)]
        rw [← this]; exact hM
      obtain ⟨q2, c1, _, _, _, c5⟩ := hg.held i b hM2
      have hqq : q2 = q := by
        have : (E.without [id]).ad i = E.ad i := by simp [Env.without, hne]
        rw [this, c1] at a1
        exact Option.some.inj a1
      subst hqq
      obtain ⟨d0, arr, d1, d2, d3⟩ := (c5 hcp).2
      have hfo := hb.get i b hM
      refine ⟨d0, arr, d1, d2, fun k hk => ?_⟩
      simp only [List.length_map] at hk
      simp only [List.getElem_map, frzE_cells]
      refine ⟨by simpa using (d3 k hk).1, fun j hj => ?_⟩
      have hj2 : j < b.xs[k].cells.length := by simpa using hj
      obtain ⟨y, y1, y2, y3⟩ := (d3 k hk).2 j hj2
      refine ⟨y, y1, y2, ?_⟩
      exact rep_frzC hg y3 (hfo _ (List.getElem_mem hk) _ (List.getElem_mem hj2))
/-- The state behind it: of the slots those of a list are kept. -/
def frz (s : ASt) (id : Nat) (keep : List Nat) : ASt := ⟨keep.map fun t => (t, frzE s.m id (Slots.get s.sl t)), ⟨mapB (frzE s.m id) (remove s.m.l id), s.m.k⟩, s.N⟩
def SOk (s : ASt) (id : Nat) : List Nat → Prop
  | [] => True
  | t :: r => FOkE s.m id (Slots.get s.sl t) ∧ SOk s id r
theorem St.freeze {w0 : World} {E : Env} {D : List Deferred} {s : ASt} {a : Act} (h : St w0 E D s a) {id : Nat} {keep : List Nat} (hb : BOk s.m id (remove s.m.l id)) (hs : SOk s id keep) :
    St w0 (E.without [id]) D (frz s id keep) a := by
  refine ⟨h.g.freeze hb, ?_, h.n, h.d⟩
  have : ∀ (l : List Nat), SOk s id l → RepS (E.without [id]) (l.map fun t => (t, frzE s.m id (Slots.get s.sl t))) a.tmps := by
    intro l
    induction l with
    | nil => intro _ t; exact .x _
    | cons t r ih =>
      intro hl u
      by_cases e : t = u
      · subst e
        have : Slots.get ((t :: r).map fun t => (t, frzE s.m id (Slots.get s.sl t))) t = frzE s.m id (Slots.get s.sl t) := by simp [Slots.get, assoc]
        rw [this]
        exact rep_frzE h.g (h.r t) hl.1
      · have : Slots.get ((t :: r).map fun t => (t, frzE s.m id (Slots.get s.sl t))) u = Slots.get (r.map fun t => (t, frzE s.m id (Slots.get s.sl t))) u := by simp [Slots.get, assoc, beq_ne e]
        rw [this]
        exact ih hl.2 u
  exact this keep hs
theorem freeze_rule {P : Program} {c : Code} {K : Exit → ASt → Prop} {s : ASt} (id : Nat) (keep : List Nat) (hb : BOk s.m id (remove s.m.l id)) (hs : SOk s id keep) (h : ACode P c K (frz s id keep)) : ACode P c K s := fun ro w0 E D a hst =>
  Code.wpIn_mono (fun _ _ _ ⟨E', s', h1, h2, h3, h4⟩ => ⟨E', s', h1, h2, (hst.g.without [id]).2.trans h3, h4⟩) (h ro w0 (E.without [id]) D a (hst.freeze hb hs))
end Go.Ab
