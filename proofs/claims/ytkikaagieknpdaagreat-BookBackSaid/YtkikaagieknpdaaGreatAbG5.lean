/- A block of the call's own is given up: what points at it is told as what it .. -/
import Derived.Test.YtkikaagieknpdaaGreatAbG4
import Derived.Deep.Slices
import Derived.SizedLaws
set_option linter.unusedVariables false
set_option linter.unusedSimpArgs false
set_option linter.constructorNameAsVariable false
namespace Go.Ab
open Go Go.RowKit
variable {pf : Value → Mem → Prop}
def frz0 (M : Mem) (id : Nat) : AV → AV
 | .s i off n => bif Nat.beq i id then (match M.get id with | some blk => .l blk.sz (blk.xs.drop off) | none => .x) else .s i off n
 | .p i k j n => bif Nat.beq i id then (match M.get id with | some blk => .e ((blk.xs.getD k .x).cells.drop j) | none => .x) else .p i k j n
 | a => a
def frzC (M : Mem) (id : Nat) : AV → AV
 | .f fn caps => .f fn (caps.map (frz0 M id))
 | a => frz0 M id a
def frzE (M : Mem) (id : Nat) : AV → AV
 | .g cs => .g (cs.map (frzC M id))
 | a => frzC M id a
def FOk0 (M : Mem) (id : Nat) : AV → Prop
 | .s i off n => i = id → blkK M id (off + n) fun blk => PureL blk.xs
 | .p i k j n => i = id → blkK M id n fun blk => PureL blk.xs ∧ k < n
 | _ => True
def FOk (M : Mem) (id : Nat) : AV → Prop
 | .f _ caps => ∀ c ∈ caps, FOk0 M id c
 | a => FOk0 M id a
def FOkE (M : Mem) (id : Nat) : AV → Prop
 | .g cs => ∀ c ∈ cs, FOk M id c
 | a => FOk M id a
theorem frz0_notG {M : Mem} {id : Nat} {a : AV} (h : ∀ cs, a ≠ .g cs) : ∀ cs, frz0 M id a ≠ .g cs := by
 intro cs e
 unfold frz0 at e
 split at e
 · cases hb : Nat.beq _ id <;> rw [hb] at e
   · cases e
   · simp only [cond_true] at e
     split at e <;> cases e
 · cases hb : Nat.beq _ id <;> rw [hb] at e
   · cases e
   · simp only [cond_true] at e
     split at e <;> cases e
 · exact h cs e
theorem frzC_notG {M : Mem} {id : Nat} {a : AV} (h : ∀ cs, a ≠ .g cs) : ∀ cs, frzC M id a ≠ .g cs := by
 intro cs e
 unfold frzC at e
 split at e
 · cases e
 · exact frz0_notG h cs e
theorem cells_notG {a : AV} (h : ∀ cs, a ≠ .g cs) : a.cells = [a] := by
 cases a <;> first | rfl | exact absurd rfl (h _)
theorem frzE_cells {M : Mem} {id : Nat} (a : AV) : (frzE M id a).cells = a.cells.map (frzC M id) := by
 by_cases h : ∃ cs, a = .g cs
 · obtain ⟨cs, rfl⟩ := h; rfl
 · have hn : ∀ cs, a ≠ .g cs := fun cs e => h ⟨cs, e⟩
   have he : frzE M id a = frzC M id a := by
    cases a <;> first | rfl | exact absurd rfl (hn _)
   rw [he, cells_notG (frzC_notG hn), cells_notG hn]; rfl
theorem rep_frz0 {w0 : World} {E : Env} {M : Mem} (hg : Good w0 E M) {id : Nat} {a : AV} {v : Value} (hr : Rep E a v) (ho : FOk0 M id a) : Rep (E.without [id]) (frz0 M id a) v := by
 have hl := (hg.without [id]).2
 cases hr with
 | s i off n A cap hk h =>
  by_cases e : i = id
  · subst e
    obtain ⟨blk, hM, hn, hp⟩ := ho rfl
    have := rep_viewC hg (ids := [i]) (Rep.s i off n A cap hk h) ⟨blk, hM, hn, hp⟩ (fun j hj => by simpa [idsC] using hj)
    simpa [frz0, viewC, hM] using this
  · have : frz0 M id (.s i off n) = .s i off n := by simp [frz0, beq_ne e]
    rw [this]; exact (Rep.s i off n A cap hk h).later hl
 | p i k j n a hk h =>
  by_cases e : i = id
  · subst e
    obtain ⟨blk, hM, hn, hp, hkn⟩ := ho rfl
    have he : frz0 M i (.p i k j n) = .e ((blk.xs.getD k .x).cells.drop j) := by simp [frz0, hM]
    rw [he]
    obtain ⟨q, h1, h2, h3, h4, h5⟩ := hg.held i blk hM
    have hcp : 0 < q.cp := by omega
    obtain ⟨hb0, hb⟩ := h5 hcp
    have hlt := backed_lt hb
    obtain ⟨_, arr, a1, a2, a3⟩ := hb
    have ha := (h q h1).2 (by omega)
    subst ha
    have hki : k < blk.xs.length := by omega
    have hgd : blk.xs.getD k .x = blk.xs[k] := by rw [List.getD_eq_getElem?_getD, List.getElem?_eq_getElem hki]; rfl
    rw [hgd]
    refine .e _ q.b (k * q.sz + j) (fun m => (arr[k * blk.sz + (j + m)]?).getD undef) ⟨hlt, hg.hid i q h1 hcp, fun i' q' hq' hcp' => ?_⟩ (fun m hm => ?_) fun m hm => ?_
    · simp only [Env.without] at hq'
      split at hq'
      · cases hq'
      · rename_i hni
        exact hg.inj i' i q' q (fun e => hni (by simp [e])) hq' h1 hcp' hcp
    · simp only [List.length_drop] at hm
      obtain ⟨y, b1, b2, b3⟩ := (a3 k hki).2 (j + m) (by omega)
      simp only [Env.without, World.cell?, a1, h2]
      exact ⟨by simp [Nat.add_assoc, b1], by rw [b1]; exact b2⟩
    · simp only [List.length_drop] at hm
      obtain ⟨y, b1, b2, b3⟩ := (a3 k hki).2 (j + m) (by omega)
      rw [b1]
      simp only [List.getElem_drop]
      exact b3.later hl
  · have : frz0 M id (.p i k j n) = .p i k j n := by simp [frz0, beq_ne e]
    rw [this]; exact (Rep.p i k j n a hk h).later hl
 | c v h => exact .c v h
 | x v => exact .x v
 | g cs ys h hr => exact (Rep.g cs ys h hr).later hl
 | t cs ys h hr => exact (Rep.t cs ys h hr).later hl
 | f cs ys a h hr => exact (Rep.f cs ys a h hr).later hl
 | b cs ys a h hr => exact (Rep.b cs ys a h hr).later hl
 | u sz xs A h => exact (Rep.u sz xs A h).later hl
 | w id len n A cap hk h => exact (Rep.w id len n A cap hk h).later hl
 | l sz xs b off cap y hcap hz hs hc hr => exact (Rep.l sz xs b off cap y hcap hz hs hc hr).later hl
 | l0 sz A cap => exact .l0 sz A cap
 | e cs b off y hz hc hr => exact (Rep.e cs b off y hz hc hr).later hl
theorem rep_frzC {w0 : World} {E : Env} {M : Mem} (hg : Good w0 E M) {id : Nat} {a : AV} {v : Value} (hr : Rep E a v) (ho : FOk M id a) : Rep (E.without [id]) (frzC M id a) v := by
 cases a with
 | f fn caps =>
  cases hr with
  | f _ _ ys h hr =>
   refine .f _ _ ys (by simpa using h) (fun i h1 h2 => ?_)
   simp only [List.getElem_map]
   exact rep_frz0 hg (hr i (by simpa using h1) h2) (ho _ (List.getElem_mem _))
 | _ => exact rep_frz0 hg hr ho
theorem rep_frzE {w0 : World} {E : Env} {M : Mem} (hg : Good w0 E M) {id : Nat} {a : AV} {v : Value} (hr : Rep E a v) (ho : FOkE M id a) : Rep (E.without [id]) (frzE M id a) v := by
 cases a with
 | g cs =>
  cases hr with
  | g _ ys h hr =>
   refine .g _ ys (by simpa using h) (fun i h1 h2 => ?_)
   simp only [List.getElem_map]
   have h1' : i < cs.length := by simpa using h1
   exact rep_frzC hg (hr i h1' h2) (ho _ (List.getElem_mem h1'))
 | _ => exact rep_frzC hg hr ho
def mapB (f : AV → AV) : List (Nat × Blk) → List (Nat × Blk)
 | [] => []
 | (i, b) :: r => (i, ⟨b.T, b.sz, b.xs.map f⟩) :: mapB f r
theorem assoc_mapB (f : AV → AV) : ∀ (l : List (Nat × Blk)) (i : Nat), assoc (mapB f l) i = (assoc l i).map fun b => ⟨b.T, b.sz, b.xs.map f⟩
 | [], i => rfl
 | (k, b) :: r, i => by
  by_cases e : k = i
  · subst e; simp [mapB, assoc]
  · simp [mapB, assoc, beq_ne e, assoc_mapB f r i]
def BOk (M : Mem) (id : Nat) : List (Nat × Blk) → Prop
 | [] => True
 | (_, b) :: r => (∀ x ∈ b.xs, ∀ c ∈ x.cells, FOk M id c) ∧ BOk M id r
theorem BOk.get {M : Mem} {id : Nat} : ∀ {l : List (Nat × Blk)}, BOk M id l → ∀ i b, assoc l i = some b → ∀ x ∈ b.xs, ∀ c ∈ x.cells, FOk M id c
 | [], _, i, b, h => by cases h
 | (k, b0) :: r, h, i, b, he => by
  by_cases e : k = i
  · subst e
    simp only [assoc, Nat.beq_refl, cond_true, Option.some.injEq] at he
    subst he
    exact h.1
  · simp only [assoc, beq_ne e, cond_false] at he
    exact BOk.get h.2 i b he
theorem Good.freeze {w0 : World} {E : Env} {M : Mem} (hg : Good w0 E M) {id : Nat} (hb : BOk M id (remove M.l id)) : Good w0 (E.without [id]) ⟨mapB (frzE M id) (remove M.l id), M.k⟩ := by
 obtain ⟨h1, h2⟩ := hg.without [id]
 have hget : ∀ i, Mem.get ⟨mapB (frzE M id) (remove M.l id), M.k⟩ i = ((M.without [id]).get i).map fun b => ⟨b.T, b.sz, b.xs.map (frzE M id)⟩ := fun i => assoc_mapB _ _ _
 refine ⟨h1.below, h1.k, h1.lt, fun i hi => h1.gone i ?_, fun i blk hi => ?_, h1.hid, h1.old, h1.inj⟩
 · rw [hget] at hi
   simpa using hi
 · rw [hget] at hi
   cases hM : (M.without [id]).get i with
   | none => rw [hM] at hi; cases hi
   | some b =>
    rw [hM] at hi
    simp only [Option.map_some, Option.some.injEq] at hi
    subst hi
    obtain ⟨q, a1, a2, a3, a4, a5⟩ := h1.held i b hM
    refine ⟨q, a1, a2, by simpa using a3, a4, fun hcp => ⟨(a5 hcp).1, ?_⟩⟩
    have hne : i ≠ id := fun e => by
     subst e
     have : (M.without [i]).get i = none := by show assoc (remove M.l i) i = none; rw [assoc_remove]; simp
     rw [this] at hM; cases hM
    have hM2 : M.get i = some b := by
     have : (M.without [id]).get i = M.get i := by show assoc (remove M.l id) i = assoc M.l i; rw [assoc_remove, if_neg (Ne.symm hne)]
     rw [← this]; exact hM
    obtain ⟨q2, c1, _, _, _, c5⟩ := hg.held i b hM2
    have hqq : q2 = q := by
     have : (E.without [id]).ad i = E.ad i := by simp [Env.without, hne]
     rw [this, c1] at a1
     exact Option.some.inj a1
    subst hqq
    obtain ⟨d0, arr, d1, d2, d3⟩ := (c5 hcp).2
    have hfo := hb.get i b hM
    refine ⟨d0, arr, d1, by simpa only [List.length_map] using d2, fun k hk => ?_⟩
    simp only [List.length_map] at hk
    simp only [List.getElem_map, frzE_cells]
    refine ⟨by simpa using (d3 k hk).1, fun j hj => ?_⟩
    have hj2 : j < b.xs[k].cells.length := by simpa using hj
    obtain ⟨y, y1, y2, y3⟩ := (d3 k hk).2 j hj2
    refine ⟨y, y1, y2, ?_⟩
    exact rep_frzC hg y3 (hfo _ (List.getElem_mem hk) _ (List.getElem_mem hj2))
def frz (s : ASt) (id : Nat) (keep : List Nat) : ASt := ⟨keep.map fun t => (t, frzE s.m id (Slots.get s.sl t)), ⟨mapB (frzE s.m id) (remove s.m.l id), s.m.k⟩, s.N⟩
def SOk (s : ASt) (id : Nat) : List Nat → Prop
 | [] => True
 | t :: r => FOkE s.m id (Slots.get s.sl t) ∧ SOk s id r
theorem St.freeze {w0 : World} {E : Env} {D : List Deferred} {s : ASt} {a : Act} (h : St w0 E D s a) {id : Nat} {keep : List Nat} (hb : BOk s.m id (remove s.m.l id)) (hs : SOk s id keep) :
 St w0 (E.without [id]) D (frz s id keep) a := by
 refine ⟨h.g.freeze hb, ?_, h.n, h.d⟩
 have : ∀ (l : List Nat), SOk s id l → RepS (E.without [id]) (l.map fun t => (t, frzE s.m id (Slots.get s.sl t))) a.tmps := by
  intro l
  induction l with
  | nil => intro _ t; exact .x _
  | cons t r ih =>
   intro hl u
   by_cases e : t = u
   · subst e
     have : Slots.get ((t :: r).map fun t => (t, frzE s.m id (Slots.get s.sl t))) t = frzE s.m id (Slots.get s.sl t) := by simp [Slots.get, assoc]
     rw [this]
     exact rep_frzE h.g (h.r t) hl.1
   · have : Slots.get ((t :: r).map fun t => (t, frzE s.m id (Slots.get s.sl t))) u = Slots.get (r.map fun t => (t, frzE s.m id (Slots.get s.sl t))) u := by simp [Slots.get, assoc, beq_ne e]
     rw [this]
     exact ih hl.2 u
 exact this keep hs
theorem freeze_rule {P : Program} {c : Code} {K : Exit → ASt → Prop} {s : ASt} (id : Nat) (keep : List Nat) (hb : BOk s.m id (remove s.m.l id)) (hs : SOk s id keep) (h : ACodeG pf P c K (frz s id keep)) : ACodeG pf P c K s := fun hK ro w0 E D a hst =>
 Code.wpIn_mono (fun _ _ _ ⟨E', s', h1, h2, h3, h4⟩ => ⟨E', s', h1, h2, (hst.g.without [id]).2.trans h3, h4⟩) (h (fun x s hx => hK x s hx) ro w0 (E.without [id]) D a (hst.freeze hb hs))
end Go.Ab
namespace Go.Ab
open Go Go.RowKit Go.ChangeShapes Go.WideShapes Go.ChangeAt
structure Opens (E : Env) (cs : List Value) (l : List AV) : Prop where
 len : cs.length = l.length
 get : ∀ i (h1 : i < l.length) (h2 : i < cs.length), Rep E l[i] cs[i] ∧ One cs[i]
def Opener (P : Program) (t : TypeId) {α : Type} (enc : α → AV) (Q : α → Prop) : Prop :=
 ∀ (H : Type) (encH : TypeId × Value → H) (W : World) (fuel : Nat) (cs : List Value) (x : DataW H × List MemPlace), DataW.trod encH P W 0 (fun _ => true) true fuel t cs = some x → (∀ m ∈ x.1.weights P t, m ≤ reachBytes) → ∃ a, Q a ∧ Opens (E0 W) cs (enc a).cells
theorem opens_one {E : Env} {v : Value} {a : AV} (h : Rep E a v) (h1 : One v) : Opens E [v] [a] := ⟨rfl, fun i h2 h3 => by
 match i, h2, h3 with
 | 0, _, _ => exact ⟨h, h1⟩⟩
theorem Opens.append {E : Env} {c1 c2 : List Value} {l1 l2 : List AV} (h1 : Opens E c1 l1) (h2 : Opens E c2 l2) : Opens E (c1 ++ c2) (l1 ++ l2) := by
 refine ⟨by simp [h1.len, h2.len], fun i k1 k2 => ?_⟩
 have hl := h1.len
 by_cases h : i < l1.length
 · rw [List.getElem_append_left h, List.getElem_append_left (by omega)]; exact h1.get i h (by omega)
 · rw [List.getElem_append_right (by omega), List.getElem_append_right (by omega)]
   simp only [hl]
   exact h2.get _ (by simp at k1; omega) (by rw [h2.len]; simp at k1; omega)
section
variable {P : Program}
theorem Opener.int {t : TypeId} {k : IntKind} (h : P.underlying t = some (.int k)) : Opener P t (fun n : Int => .c (.int k n)) (fun n => (Lit.int k n).wf = true) := fun H encH W fuel cs x hd _ => by
 obtain ⟨n, rfl, _, hw⟩ := DataW.trod_int h hd
 exact ⟨n, hw, opens_one (.c _ rfl) rfl⟩
theorem Opener.bool {t : TypeId} (h : P.underlying t = some .bool) : Opener P t (fun b : Bool => .c (.bool b)) (fun _ => True) := fun H encH W fuel cs x hd _ => by
 obtain ⟨b, rfl, _⟩ := DataW.trod_bool h hd
 exact ⟨b, trivial, opens_one (.c _ rfl) rfl⟩
theorem Opener.str {t : TypeId} (h : P.underlying t = some .string) : Opener P t (fun l : List UInt8 => .c (.string ⟨l.toArray⟩)) (fun _ => True) := fun H encH W fuel cs x hd _ => by
 obtain ⟨s, rfl, _⟩ := DataW.trod_string h hd
 obtain ⟨l, _, h1⟩ := rep_str (W := W) s
 exact ⟨l, trivial, opens_one h1 rfl⟩
theorem list_of {α : Type} {R : Nat → α → Prop} : ∀ n, (∀ i, i < n → ∃ a, R i a) → ∃ l : List α, l.length = n ∧ ∀ i (h : i < l.length), R i l[i]
 | 0, _ => ⟨[], rfl, fun i h => absurd h (by simp)⟩
 | n + 1, h => by
  obtain ⟨l, h1, h2⟩ := list_of n fun i hi => h i (by omega)
  obtain ⟨a, ha⟩ := h n (by omega)
  refine ⟨l ++ [a], by simp [h1], fun i hi => ?_⟩
  by_cases e : i < l.length
  · rw [List.getElem_append_left e]; exact h2 i e
  · rw [List.getElem_append_right (by omega)]
    have : i = n := by simp at hi; omega
    subst this
    simpa [h1] using ha
theorem cellsOf_tok {t : TypeId} {ti : TI} (h : TOk P t ti) : P.cellsOf t = ti.sz := by
 have := h.info
 unfold Program.cellsOf
 cases hi : P.info? t with
 | none => rw [hi] at this; cases this
 | some i =>
  rw [hi] at this
  simp only [Option.map_some, Option.some.injEq, Prod.mk.injEq] at this
  simp [this.2.1]
theorem Opener.sliceB {t e : TypeId} {ti : TI} {α : Type} {enc : α → AV} {Q : α → Prop} (h : P.underlying t = some (.slice e)) (he : Opener P e enc Q) (ht : TOk P e ti) (hsz : 0 < ti.sz) : Opener P t (fun l : List α => .l ti.sz (l.map enc)) (fun l => l.length * ti.by' ≤ reachBytes ∧ ∀ a ∈ l, Q a) := fun H encH W fuel cs x hd hz => by
 have hce := cellsOf_tok ht
 rcases Go.Deep.open_slice h hd with ⟨rfl, _⟩ | ⟨a, len, cap, m, n, D, Pl, rfl, _, hl, hm, hmm, rfl, hx⟩
 · exact ⟨[], ⟨by simp, fun a h => by simp at h⟩, opens_one (.l0 _ _ _) rfl⟩
 · simp only [if_true] at hmm
   subst hmm
   have hbe : P.bytesOf e = ti.by' := by
    obtain ⟨f, g1, _, _, g4⟩ := ht.ex
    simp [Program.bytesOf, g1, g4]
   have hz1 : len * ti.by' ≤ reachBytes := by
    have := hz ((len + (m - len)) * P.bytesOf e) (by simp [DataW.weights, h])
    rw [hbe] at this
    exact Nat.le_trans (Nat.mul_le_mul_right _ (by omega)) this
   have hz2 : ∀ i, i < len → ∀ q ∈ (D i).weights P e, q ≤ reachBytes := fun i hi q hq => by
    refine hz q ?_
    simp only [DataW.weights, h, List.mem_cons, List.mem_append]
    right; left
    have key : ∀ (l : List (DataW H)), D i ∈ l → q ∈ DataW.weightsAll P e l := by
     intro l
     induction l with
     | nil => intro h; simp at h
     | cons a r ih =>
      intro h
      simp only [DataW.weightsAll, List.mem_append]
      rcases List.mem_cons.1 h with rfl | h
      · exact .inl hq
      · exact .inr (ih h)
    exact key _ (List.mem_map.2 ⟨i, by simpa using hi, rfl⟩)
   obtain ⟨l, hll, hR⟩ := list_of (R := fun i z => Q z ∧ ∃ cs', W.cells? 0 (a.add (i * P.cellsOf e)) (P.cellsOf e) = some cs' ∧ Opens (E0 W) cs' (enc z).cells) len fun i hi => by
    obtain ⟨cs', h1, h2⟩ := hx i (by omega)
    obtain ⟨z, hz, ho⟩ := he H encH W n cs' _ h2 (hz2 i hi)
    exact ⟨z, hz, cs', h1, ho⟩
   refine ⟨l, ⟨by rw [hll]; exact hz1, fun z hz => ?_⟩, opens_one ?_ rfl⟩
   · obtain ⟨i, hi, rfl⟩ := List.getElem_of_mem hz
     exact (hR i hi).1
   · by_cases h0 : len = 0
     · subst h0
       have : l = [] := List.eq_nil_of_length_eq_zero hll
       subst this
       exact .l0 _ _ _
     · obtain ⟨b, off, spot⟩ := a
       obtain ⟨_, cs0, hc0, _⟩ := hR 0 (by omega)
       obtain ⟨_, hcl0, hcg0⟩ := World.cells?_some hc0
       have hcell0 := hcg0 0 (by omega)
       rw [List.getElem?_eq_getElem (by omega)] at hcell0
       simp only [Nat.zero_mul, Addr.add, if_true] at hcell0
       have hsp : spot = none ∧ b < W.heap.size := by
        simp only [World.cell?] at hcell0
        split at hcell0
        · rename_i h1
          refine ⟨?_, (Array.getElem?_eq_some_iff.1 h1).1⟩
          cases spot with
          | none => rfl
          | some _ => simp at hcell0
        · cases hcell0
       obtain ⟨rfl, hb⟩ := hsp
       have hlm : (l.map enc).length = len := by simp [hll]
       have hadd : ∀ i j, ((⟨b, off, none⟩ : Addr).add i).add j = ⟨b, off + (i + j), none⟩ := fun i j => by
        unfold Addr.add
        by_cases h1 : i = 0
        · by_cases h2 : j = 0
          · simp [h1, h2]
          · simp [h1, h2]
        · by_cases h2 : j = 0
          · simp [h1, h2]
          · simp [h1, h2, Nat.add_assoc]
       have key : ∀ i (hi : i < (l.map enc).length), (l.map enc)[i].cells.length = ti.sz ∧ ∀ j (hj : j < (l.map enc)[i].cells.length), ∃ y, W.cell? ⟨b, off + (i * ti.sz + j), none⟩ = some y ∧ One y ∧ Rep (E0 W) (l.map enc)[i].cells[j] y := fun i hi => by
        have hi2 : i < l.length := by simpa using hi
        obtain ⟨_, cs', hc, ho⟩ := hR i hi2
        obtain ⟨_, hcl, hcg⟩ := World.cells?_some hc
        rw [hce] at hcl hcg
        simp only [List.getElem_map]
        refine ⟨by rw [← ho.len, hcl], fun j hj => ?_⟩
        have hjc : j < cs'.length := by rw [ho.len]; exact hj
        have := hcg j (by omega)
        rw [hadd, List.getElem?_eq_getElem hjc] at this
        exact ⟨_, this, (ho.get j hj hjc).2, (ho.get j hj hjc).1⟩
       have := Rep.l (E := E0 W) ti.sz (l.map enc) b off m (fun i j => (W.cell? ⟨b, off + (i * ti.sz + j), none⟩).getD undef) (by rw [hlm]; exact hl) (e0_z hb) (fun i hi => (key i hi).1) (fun i j hi hj => by
        obtain ⟨y, y1, y2, _⟩ := (key i hi).2 j (by rw [(key i hi).1]; exact hj)
        exact ⟨by show W.cell? _ = _; rw [y1]; rfl, by rw [y1]; exact y2⟩) (fun i hi j hj => by
        obtain ⟨y, y1, _, y3⟩ := (key i hi).2 j hj
        rw [y1]; exact y3)
       rw [hlm] at this
       exact this
theorem Opener.slice {t e : TypeId} {ti : TI} {α : Type} {enc : α → AV} {Q : α → Prop} (h : P.underlying t = some (.slice e)) (he : Opener P e enc Q) (ht : TOk P e ti) (hsz : 0 < ti.sz) : Opener P t (fun l : List α => .l ti.sz (l.map enc)) (fun l => ∀ a ∈ l, Q a) := fun H encH W fuel cs x hd hz =>
 let ⟨a, ha, ho⟩ := Opener.sliceB h he ht hsz H encH W fuel cs x hd hz
 ⟨a, ha.2, ho⟩
def FOpener (P : Program) (fs : List (Nat × TypeId)) (off : Nat) {α : Type} (encs : α → List AV) (Q : α → Prop) : Prop :=
 ∀ (H : Type) (encH : TypeId × Value → H) (W : World) (cs : List Value), cs.length = off + (fs.map fun p => P.cellsOf p.2).sum →
  (∀ p ∈ fs, ∃ n x, DataW.trod encH P W 0 (fun _ => true) true n p.2 ((cs.drop p.1).take (P.cellsOf p.2)) = some x ∧ ∀ m ∈ x.1.weights P p.2, m ≤ reachBytes) → ∃ a, Q a ∧ Opens (E0 W) (cs.drop off) (encs a)
theorem FOpener.nil {off : Nat} : FOpener P [] off (fun _ : Unit => []) (fun _ => True) := fun H encH W cs hl _ =>
 ⟨(), trivial, by
  have : cs.drop off = [] := List.drop_eq_nil_of_le (by simp at hl; omega)
  rw [this]; exact ⟨rfl, fun i h => absurd h (by simp)⟩⟩
theorem FOpener.cons {off : Nat} {t : TypeId} {ti : TI} {fs : List (Nat × TypeId)} {α β : Type} {enc : α → AV} {Q : α → Prop} {encs : β → List AV} {R : β → Prop} (h1 : Opener P t enc Q) (ht : TOk P t ti) (h2 : FOpener P fs (off + ti.sz) encs R) :
 FOpener P ((off, t) :: fs) off (fun p : α × β => (enc p.1).cells ++ encs p.2) (fun p => Q p.1 ∧ R p.2) := fun H encH W cs hl hd => by
 have hce := cellsOf_tok ht
 obtain ⟨n, x, hx, hxz⟩ := hd (off, t) (by simp)
 obtain ⟨a, ha, ho⟩ := h1 H encH W n _ x hx hxz
 obtain ⟨b, hb, hob⟩ := h2 H encH W cs (by simp only [List.map_cons, List.sum_cons, hce] at hl; omega) fun p hp => hd p (by simp [hp])
 refine ⟨(a, b), ⟨ha, hb⟩, ?_⟩
 simp only [hce] at ho
 have := ho.append hob
 rwa [← List.drop_drop, List.take_append_drop] at this
theorem Opener.struct {t : TypeId} {ti : TI} {fs : List (Nat × TypeId)} {α : Type} {encs : α → List AV} {Q : α → Prop} (ht : TOk P t ti) (hk : ti.k = .st fs) (hs : ti.sz = (fs.map fun p => P.cellsOf p.2).sum) (h : FOpener P fs 0 encs Q) : Opener P t (fun a => .g (encs a)) Q := fun H encH W fuel cs x hd hz => by
 have hko := ht.k
 rw [hk] at hko
 obtain ⟨fa, h1, h2⟩ := hko
 obtain ⟨xs, n, _, rfl, hl, hxl, hf⟩ := DataW.trod_struct h1 hd
 rw [cellsOf_tok ht, hs] at hl
 have := h H encH W cs (by omega) fun p hp => by
  rw [← h2] at hp
  obtain ⟨f, hfm, rfl⟩ := List.mem_map.1 hp
  obtain ⟨i, hi⟩ := List.getElem?_of_mem hfm
  have hi2 : fa[i]? = some f := by simpa using hi
  have := hf i f hi2
  have hix : i < xs.length := by rw [hxl]; exact (Array.getElem?_eq_some_iff.1 hi2).1
  rw [List.getElem?_eq_getElem hix] at this
  refine ⟨n, _, this, fun m hm => hz m ?_⟩
  simp only [DataW.weights, h1]
  exact DataW.weights_mem_each (j := i) (by simp [hi]) (by simp [List.getElem?_eq_getElem hix]) m hm
 rwa [List.drop_zero] at this
theorem Opener.arg {H : Type} {encH : TypeId × Value → H} {W : World} {base : Nat} {t : TypeId} {ti : TI} {v : Value} {d : DataW H} {ps : List MemPlace} {α : Type} {enc : α → AV} {Q : α → Prop} (h : Opener P t enc Q) (ht : TOk P t ti)
 (hk : match ti.k with | .st _ => (∀ a, ∃ cs, enc a = .g cs) | .int _ => ∀ a, ∀ cs, enc a ≠ .g cs | .bool => ∀ a, ∀ cs, enc a ≠ .g cs | .str => ∀ a, ∀ cs, enc a ≠ .g cs | .sl _ => ∀ a, ∀ cs, enc a ≠ .g cs | _ => False)
 (hval : Value.okWide P W .any base t v) (hd : DataW.Trod encH P W 0 (fun _ => true) true t v d ps) (hz : ∀ m ∈ d.weights P t, m ≤ reachBytes) : ∃ a, Q a ∧ Rep (E0 W) (enc a) v := by
 obtain ⟨fuel, hf⟩ := hd
 obtain ⟨a, ha, ho⟩ := h H encH W fuel _ _ hf hz
 refine ⟨a, ha, ?_⟩
 have hko := ht.k
 have single : v.cells.toList = [v] → (∀ cs, enc a ≠ .g cs) → Rep (E0 W) (enc a) v := fun h1 h2 => by
  rw [h1, cells_notG h2] at ho
  exact (ho.get 0 (by simp) (by simp)).1
 cases hkk : ti.k with
 | st fs =>
  rw [hkk] at hk hko
  obtain ⟨fa, h1, h2⟩ := hko
  obtain ⟨cs, rfl, _⟩ := okWide_struct h1 hval
  obtain ⟨l, hl⟩ := hk a
  rw [hl] at ho ⊢
  simp only [Value.cells, AV.cells] at ho
  refine .g _ _ (by simpa using ho.len) fun i g1 g2 => ?_
  have := (ho.get i g1 (by simpa using g2)).1
  simpa using this
 | int k =>
  rw [hkk] at hk hko
  obtain ⟨n, rfl⟩ := okWide_int hko hval
  exact single rfl (hk a)
 | bool =>
  rw [hkk] at hk hko
  obtain ⟨n, rfl⟩ := okWide_bool hko hval
  exact single rfl (hk a)
 | str =>
  rw [hkk] at hk hko
  obtain ⟨n, rfl⟩ := okWide_string hko hval
  exact single rfl (hk a)
 | sl e =>
  rw [hkk] at hk hko
  obtain ⟨n, m, k, rfl⟩ := okWide_slice hko hval
  exact single rfl (hk a)
 | _ => rw [hkk] at hk; exact hk.elim
end
end Go.Ab
set_option maxRecDepth 100000
namespace Go.Ab
open Go Go.RowKit
theorem wk0 :
  ((((((type_of% @mkSlots.eq_1) ∧ (type_of% @mkSlots.eq_2)) ∧ ((type_of% @Nat.zero_add) ∧ ((type_of% @r_skip) ∧ (type_of% @r_label)))) ∧ (((type_of% @r_ret) ∧ (type_of% @r_exit)) ∧
 ((type_of% @r_region) ∧ ((type_of% @r_draw) ∧ (type_of% @r_seq))))) ∧ ((((type_of% @r_cond) ∧ (type_of% @r_block)) ∧ ((type_of% @r_loop) ∧ ((type_of% @r_then) ∧ (type_of%
 @Go.Ab.r_thenR)))) ∧ (((type_of% @r_thenE) ∧ ((type_of% @r_blockN) ∧ (type_of% @r_blockR))) ∧ ((type_of% @r_blockE) ∧ ((type_of% @r_condT) ∧ (type_of% @r_condF)))))) ∧ (((((type_of%
 @Go.Ab.r_nil) ∧ (type_of% @r_op)) ∧ ((type_of% @r_opg) ∧ ((type_of% @r_gS) ∧ (type_of% @r_gU)))) ∧ (((type_of% @r_gTT) ∧ (type_of% @r_gFF)) ∧ ((type_of% @r_gTF) ∧ ((type_of%
 @Go.Ab.r_gFT) ∧ (type_of% @r_set))))) ∧ ((((type_of% @r_set0) ∧ (type_of% @r_setX)) ∧ ((type_of% @r_skS) ∧ ((type_of% @r_atM) ∧ (type_of% @o_move)))) ∧ (((type_of% @o_assign) ∧
 ((type_of% @o_pick) ∧ (type_of% @o_alloc))) ∧ ((type_of% @o_box) ∧ ((type_of% @o_build) ∧ (type_of% @o_buildSlice))))))) ∧ ((((((type_of% @o_load) ∧ (type_of% @o_nilCheck)) ∧
 ((type_of% @o_bin) ∧ ((type_of% @o_un) ∧ (type_of% @o_conv)))) ∧ (((type_of% @o_makeFunc) ∧ (type_of% @o_makeSlice)) ∧ ((type_of% @o_slice) ∧ ((type_of% @o_fieldAddr) ∧ (type_of%
 @Go.Ab.o_field))))) ∧ ((((type_of% @o_indexAddr) ∧ (type_of% @o_extract)) ∧ ((type_of% @o_callF) ∧ ((type_of% @o_callV) ∧ (type_of% @o_len)))) ∧ (((type_of% @o_append) ∧ ((type_of%
 @Go.Ab.o_max) ∧ (type_of% @o_min))) ∧ ((type_of% @o_store) ∧ ((type_of% @slK_eq) ∧ (type_of% @stK_eq)))))) ∧ (((((type_of% @blkK_sel) ∧ (type_of% @selK_eq)) ∧ ((type_of% @elem_0)
 ∧ ((type_of% @elem_s) ∧ (type_of% @elem_B)))) ∧ (((type_of% @ev_tmp) ∧ ((type_of% @ev_const) ∧ (type_of% @ev_func))) ∧ ((type_of% @ev_global) ∧ ((type_of% @cv_int) ∧ (type_of%
 @Go.Ab.cv_bool))))) ∧ ((((type_of% @cv_string) ∧ (type_of% @cv_slice)) ∧ ((type_of% @cv_ptr) ∧ ((type_of% @Slots.get.eq_1) ∧ (type_of% @Mem.get.eq_1)))) ∧ (((type_of% @assoc.eq_1) ∧
 ((type_of% @assoc.eq_2) ∧ (type_of% @insert.eq_1))) ∧ ((type_of% @insert.eq_2) ∧ ((type_of% @nbeq) ∧ (type_of% @nble))))))) :=
⟨⟨⟨⟨⟨⟨@Go.Ab.mkSlots.eq_1, @Go.Ab.mkSlots.eq_2⟩, ⟨@Nat.zero_add, ⟨@Go.Ab.r_skip, @Go.Ab.r_label⟩⟩⟩, ⟨⟨@Go.Ab.r_ret, @Go.Ab.r_exit⟩, ⟨@Go.Ab.r_region, ⟨@Go.Ab.r_draw, @Go.Ab.r_seq⟩⟩⟩⟩, ⟨⟨⟨@Go.Ab.r_cond, @Go.Ab.r_block⟩,
 ⟨@Go.Ab.r_loop, ⟨@Go.Ab.r_then, @Go.Ab.r_thenR⟩⟩⟩, ⟨⟨@Go.Ab.r_thenE, ⟨@Go.Ab.r_blockN, @Go.Ab.r_blockR⟩⟩, ⟨@Go.Ab.r_blockE, ⟨@Go.Ab.r_condT, @Go.Ab.r_condF⟩⟩⟩⟩⟩, ⟨⟨⟨⟨@Go.Ab.r_nil, @Go.Ab.r_op⟩, ⟨@Go.Ab.r_opg,
 ⟨@Go.Ab.r_gS, @Go.Ab.r_gU⟩⟩⟩, ⟨⟨@Go.Ab.r_gTT, @Go.Ab.r_gFF⟩, ⟨@Go.Ab.r_gTF, ⟨@Go.Ab.r_gFT, @Go.Ab.r_set⟩⟩⟩⟩, ⟨⟨⟨@Go.Ab.r_set0, @Go.Ab.r_setX⟩, ⟨@Go.Ab.r_skS, ⟨@Go.Ab.r_atM, @Go.Ab.o_move⟩⟩⟩, ⟨⟨@Go.Ab.o_assign,
 ⟨@Go.Ab.o_pick, @Go.Ab.o_alloc⟩⟩, ⟨@Go.Ab.o_box, ⟨@Go.Ab.o_build, @Go.Ab.o_buildSlice⟩⟩⟩⟩⟩⟩, ⟨⟨⟨⟨⟨@Go.Ab.o_load, @Go.Ab.o_nilCheck⟩, ⟨@Go.Ab.o_bin, ⟨@Go.Ab.o_un, @Go.Ab.o_conv⟩⟩⟩, ⟨⟨@Go.Ab.o_makeFunc,
 @Go.Ab.o_makeSlice⟩, ⟨@Go.Ab.o_slice, ⟨@Go.Ab.o_fieldAddr, @Go.Ab.o_field⟩⟩⟩⟩, ⟨⟨⟨@Go.Ab.o_indexAddr, @Go.Ab.o_extract⟩, ⟨@Go.Ab.o_callF, ⟨@Go.Ab.o_callV, @Go.Ab.o_len⟩⟩⟩, ⟨⟨@Go.Ab.o_append, ⟨@Go.Ab.o_max,
 @Go.Ab.o_min⟩⟩, ⟨@Go.Ab.o_store, ⟨@Go.Ab.slK_eq, @Go.Ab.stK_eq⟩⟩⟩⟩⟩, ⟨⟨⟨⟨@Go.Ab.blkK_sel, @Go.Ab.selK_eq⟩, ⟨@Go.Ab.elem_0, ⟨@Go.Ab.elem_s, @Go.Ab.elem_B⟩⟩⟩, ⟨⟨@Go.Ab.ev_tmp, ⟨@Go.Ab.ev_const, @Go.Ab.ev_func⟩⟩,
 ⟨@Go.Ab.ev_global, ⟨@Go.Ab.cv_int, @Go.Ab.cv_bool⟩⟩⟩⟩, ⟨⟨⟨@Go.Ab.cv_string, @Go.Ab.cv_slice⟩, ⟨@Go.Ab.cv_ptr, ⟨@Go.Ab.Slots.get.eq_1, @Go.Ab.Mem.get.eq_1⟩⟩⟩, ⟨⟨@Go.Ab.assoc.eq_1, ⟨@Go.Ab.assoc.eq_2, @Go.Ab.insert.eq_1⟩⟩,
 ⟨@Go.Ab.insert.eq_2, ⟨@Go.Ab.nbeq, @Go.Ab.nble⟩⟩⟩⟩⟩⟩⟩
theorem wk1 :
  (((((((type_of% @cond_true.{1}) ∧ (type_of% @cond_false.{1})) ∧ ((type_of% @Option.getD_some.{0}) ∧ (type_of% @Option.getD_none.{0}))) ∧ (((type_of% @Option.map_some.{0, 0}) ∧ (type_of% @Option.map_none.{0, 0})) ∧
 ((type_of% @Option.isNone_none.{0}) ∧ ((type_of% @Option.isNone_some.{0}) ∧ (type_of% @Option.isSome_none.{0}))))) ∧ ((((type_of% @Option.isSome_some.{0}) ∧ (type_of% @decide_true)) ∧ ((type_of% @decide_false) ∧
 (type_of% @true_and))) ∧ (((type_of% @and_true) ∧ (type_of% @if_true.{1})) ∧ ((type_of% @if_false.{1}) ∧ ((type_of% @List.map_nil.{0, 0}) ∧ (type_of% @List.map_cons.{0, 0})))))) ∧ (((((type_of% @List.length_nil.{0}) ∧
 (type_of% @List.length_cons.{0})) ∧ ((type_of% @List.range'_zero) ∧ (type_of% @List.range'_succ))) ∧ (((type_of% @List.getElem?_toArray.{0}) ∧ (type_of% @List.getElem?_cons_zero.{0})) ∧ ((type_of%
 @List.getElem?_cons_succ.{0}) ∧ ((type_of% @Option.bind_some.{0, 0}) ∧ (type_of% @sliceK.eq_1))))) ∧ ((((type_of% @AllVP.eq_1) ∧ (type_of% @AllVP.eq_2)) ∧ ((type_of% @VOkA.eq_1) ∧ ((type_of%
 @Go.Ab.VOkA.eq_2) ∧ (type_of% @VOkC.eq_1)))) ∧ (((type_of% @VOkC.eq_2) ∧ (type_of% @VOkC.eq_3)) ∧ ((type_of% @AllSz.eq_1) ∧ ((type_of% @AllSz.eq_2) ∧ (type_of% @viewP.eq_1))))))) ∧
 ((((((type_of% @viewP.eq_2) ∧ (type_of% @viewA.eq_1)) ∧ ((type_of% @viewA.eq_2) ∧ (type_of% @viewC.eq_1))) ∧ (((type_of% @viewC.eq_2) ∧ (type_of% @idsP.eq_1)) ∧ ((type_of%
 @Go.Ab.idsP.eq_2) ∧ ((type_of% @idsA.eq_1) ∧ (type_of% @idsA.eq_2))))) ∧ ((((type_of% @idsC.eq_1) ∧ (type_of% @idsC.eq_2)) ∧ ((type_of% @Mem.without.eq_1) ∧ ((type_of%
 @Go.Ab.Mem.without.eq_2) ∧ (type_of% @Mem.drop.eq_1)))) ∧ (((type_of% @remove.eq_1) ∧ (type_of% @remove.eq_2)) ∧ ((type_of% @newMem.eq_1) ∧ ((type_of% @Nat.zero_mul) ∧ (type_of% @Nat.zero_le))))))
 ∧ (((((type_of% @Nat.lt_add_one) ∧ (type_of% @Nat.zero_lt_one)) ∧ ((type_of% @appendK.eq_1) ∧ (type_of% @dstK.eq_1))) ∧ (((type_of% @dstK.eq_2) ∧ (type_of% @dstK.eq_3)) ∧ ((type_of%
 @Go.Ab.dstK.eq_4) ∧ ((type_of% @dstK.eq_5) ∧ (type_of% @okA_s))))) ∧ ((((type_of% @okA_c) ∧ (type_of% @okA_u)) ∧ ((type_of% @okA_w) ∧ ((type_of% @srcK.eq_1) ∧ (type_of%
 @Go.Ab.srcK.eq_2)))) ∧ (((type_of% @srcK.eq_3) ∧ (type_of% @srcK.eq_4)) ∧ ((type_of% @srcK.eq_5) ∧ ((type_of% @List.drop_zero.{0}) ∧ (type_of% @List.nil_append.{0})))))))) ∧ (((((((type_of%
 @List.length_map.{0, 0}) ∧ (type_of% @Mem.put.eq_1)) ∧ ((type_of% @Cells.eq_1) ∧ (type_of% @Cells.eq_2))) ∧ (((type_of% @Cell.eq_1) ∧ (type_of% @Cell.eq_2)) ∧ ((type_of% @Cell.eq_3) ∧
 ((type_of% @Cell.eq_4) ∧ (type_of% @Cell.eq_5))))) ∧ ((((type_of% @Cell.eq_6) ∧ (type_of% @Cell.eq_7)) ∧ ((type_of% @AllCell.eq_1) ∧ ((type_of% @AllCell.eq_2) ∧ (type_of%
 @Go.Ab.AV.cells.eq_1)))) ∧ (((type_of% @AV.cells.eq_2) ∧ (type_of% @List.append_nil.{0})) ∧ ((type_of% @List.cons_append.{0}) ∧ ((type_of% @convK.eq_1) ∧ (type_of% @convK.eq_2)))))) ∧ (((((type_of%
 @Go.Ab.convK.eq_3) ∧ (type_of% @intConvK.eq_1)) ∧ ((type_of% @intConvK.eq_2) ∧ (type_of% @strConvK.eq_1))) ∧ (((type_of% @strConvK.eq_2) ∧ (type_of% @strConvK.eq_3)) ∧ ((type_of%
 @Go.Ab.bytesStrK.eq_1) ∧ ((type_of% @bytesStrK.eq_2) ∧ (type_of% @binK.eq_1))))) ∧ ((((type_of% @binK.eq_2) ∧ (type_of% @binK.eq_3)) ∧ ((type_of% @binK.eq_4) ∧ ((type_of% @binK.eq_5) ∧
 (type_of% @binK.eq_6)))) ∧ (((type_of% @binK.eq_7) ∧ (type_of% @binK.eq_8)) ∧ ((type_of% @strBinK.eq_1) ∧ ((type_of% @strBinK.eq_2) ∧ (type_of% @strBinK.eq_3))))))) ∧ ((((((type_of%
 @Go.Ab.strBinK.eq_4) ∧ (type_of% @strBinK.eq_5)) ∧ ((type_of% @boolBinK.eq_1) ∧ (type_of% @boolBinK.eq_2))) ∧ (((type_of% @boolBinK.eq_3) ∧ (type_of% @unK.eq_1)) ∧ ((type_of%
 @Go.Ab.unK.eq_2) ∧ ((type_of% @unK.eq_3) ∧ (type_of% @unK.eq_4))))) ∧ ((((type_of% @unK.eq_5) ∧ (type_of% @unK.eq_6)) ∧ ((type_of% @Int.toNat_natCast) ∧ ((type_of% @List.headD_cons.{0}) ∧
 (type_of% @beq_int)))) ∧ (((type_of% @maxK.eq_1) ∧ (type_of% @maxK.eq_2)) ∧ ((type_of% @minK.eq_1) ∧ ((type_of% @minK.eq_2) ∧ (type_of% @pickK.eq_1)))))) ∧ (((((type_of%
 @Go.Ab.pickK.eq_2) ∧ (type_of% @extractK.eq_1)) ∧ ((type_of% @extractK.eq_2) ∧ (type_of% @lenK.eq_1))) ∧ (((type_of% @lenK.eq_2) ∧ (type_of% @lenK.eq_3)) ∧ ((type_of% @lenK.eq_4) ∧
 ((type_of% @lenK.eq_5) ∧ (type_of% @loadK.eq_1))))) ∧ ((((type_of% @loadK.eq_2) ∧ (type_of% @loadK.eq_3)) ∧ ((type_of% @loadK.eq_4) ∧ ((type_of% @storeK.eq_1) ∧ (type_of%
 @Go.Ab.storeK.eq_2)))) ∧ (((type_of% @fieldK.eq_1) ∧ (type_of% @fieldK.eq_2)) ∧ ((type_of% @fieldK.eq_3) ∧ ((type_of% @fieldVK.eq_1) ∧ (type_of% @fieldVK.eq_2)))))))) :=
⟨⟨⟨⟨⟨⟨⟨@cond_true.{1}, @cond_false.{1}⟩, ⟨@Option.getD_some.{0}, @Option.getD_none.{0}⟩⟩, ⟨⟨@Option.map_some.{0, 0}, @Option.map_none.{0, 0}⟩, ⟨@Option.isNone_none.{0}, ⟨@Option.isNone_some.{0},
 @Option.isSome_none.{0}⟩⟩⟩⟩, ⟨⟨⟨@Option.isSome_some.{0}, @decide_true⟩, ⟨@decide_false, @true_and⟩⟩, ⟨⟨@and_true, @if_true.{1}⟩, ⟨@if_false.{1}, ⟨@List.map_nil.{0, 0}, @List.map_cons.{0, 0}⟩⟩⟩⟩⟩,
 ⟨⟨⟨⟨@List.length_nil.{0}, @List.length_cons.{0}⟩, ⟨@List.range'_zero, @List.range'_succ⟩⟩, ⟨⟨@List.getElem?_toArray.{0}, @List.getElem?_cons_zero.{0}⟩, ⟨@List.getElem?_cons_succ.{0}, ⟨@Option.bind_some.{0, 0},
 @Go.Ab.sliceK.eq_1⟩⟩⟩⟩, ⟨⟨⟨@Go.Ab.AllVP.eq_1, @Go.Ab.AllVP.eq_2⟩, ⟨@Go.Ab.VOkA.eq_1, ⟨@Go.Ab.VOkA.eq_2, @Go.Ab.VOkC.eq_1⟩⟩⟩, ⟨⟨@Go.Ab.VOkC.eq_2, @Go.Ab.VOkC.eq_3⟩, ⟨@Go.Ab.AllSz.eq_1, ⟨@Go.Ab.AllSz.eq_2,
 @Go.Ab.viewP.eq_1⟩⟩⟩⟩⟩⟩, ⟨⟨⟨⟨⟨@Go.Ab.viewP.eq_2, @Go.Ab.viewA.eq_1⟩, ⟨@Go.Ab.viewA.eq_2, @Go.Ab.viewC.eq_1⟩⟩, ⟨⟨@Go.Ab.viewC.eq_2, @Go.Ab.idsP.eq_1⟩, ⟨@Go.Ab.idsP.eq_2, ⟨@Go.Ab.idsA.eq_1, @Go.Ab.idsA.eq_2⟩⟩⟩⟩,
 ⟨⟨⟨@Go.Ab.idsC.eq_1, @Go.Ab.idsC.eq_2⟩, ⟨@Go.Ab.Mem.without.eq_1, ⟨@Go.Ab.Mem.without.eq_2, @Go.Ab.Mem.drop.eq_1⟩⟩⟩, ⟨⟨@Go.Ab.remove.eq_1, @Go.Ab.remove.eq_2⟩, ⟨@Go.Ab.newMem.eq_1, ⟨@Nat.zero_mul, @Nat.zero_le⟩⟩⟩⟩⟩,
 ⟨⟨⟨⟨@Nat.lt_add_one, @Nat.zero_lt_one⟩, ⟨@Go.Ab.appendK.eq_1, @Go.Ab.dstK.eq_1⟩⟩, ⟨⟨@Go.Ab.dstK.eq_2, @Go.Ab.dstK.eq_3⟩, ⟨@Go.Ab.dstK.eq_4, ⟨@Go.Ab.dstK.eq_5, @Go.Ab.okA_s⟩⟩⟩⟩, ⟨⟨⟨@Go.Ab.okA_c, @Go.Ab.okA_u⟩,
 ⟨@Go.Ab.okA_w, ⟨@Go.Ab.srcK.eq_1, @Go.Ab.srcK.eq_2⟩⟩⟩, ⟨⟨@Go.Ab.srcK.eq_3, @Go.Ab.srcK.eq_4⟩, ⟨@Go.Ab.srcK.eq_5, ⟨@List.drop_zero.{0}, @List.nil_append.{0}⟩⟩⟩⟩⟩⟩⟩, ⟨⟨⟨⟨⟨⟨@List.length_map.{0, 0}, @Go.Ab.Mem.put.eq_1⟩,
 ⟨@Go.Ab.Cells.eq_1, @Go.Ab.Cells.eq_2⟩⟩, ⟨⟨@Go.Ab.Cell.eq_1, @Go.Ab.Cell.eq_2⟩, ⟨@Go.Ab.Cell.eq_3, ⟨@Go.Ab.Cell.eq_4, @Go.Ab.Cell.eq_5⟩⟩⟩⟩, ⟨⟨⟨@Go.Ab.Cell.eq_6, @Go.Ab.Cell.eq_7⟩, ⟨@Go.Ab.AllCell.eq_1,
 ⟨@Go.Ab.AllCell.eq_2, @Go.Ab.AV.cells.eq_1⟩⟩⟩, ⟨⟨@Go.Ab.AV.cells.eq_2, @List.append_nil.{0}⟩, ⟨@List.cons_append.{0}, ⟨@Go.Ab.convK.eq_1, @Go.Ab.convK.eq_2⟩⟩⟩⟩⟩, ⟨⟨⟨⟨@Go.Ab.convK.eq_3, @Go.Ab.intConvK.eq_1⟩,
 ⟨@Go.Ab.intConvK.eq_2, @Go.Ab.strConvK.eq_1⟩⟩, ⟨⟨@Go.Ab.strConvK.eq_2, @Go.Ab.strConvK.eq_3⟩, ⟨@Go.Ab.bytesStrK.eq_1, ⟨@Go.Ab.bytesStrK.eq_2, @Go.Ab.binK.eq_1⟩⟩⟩⟩, ⟨⟨⟨@Go.Ab.binK.eq_2, @Go.Ab.binK.eq_3⟩,
 ⟨@Go.Ab.binK.eq_4, ⟨@Go.Ab.binK.eq_5, @Go.Ab.binK.eq_6⟩⟩⟩, ⟨⟨@Go.Ab.binK.eq_7, @Go.Ab.binK.eq_8⟩, ⟨@Go.Ab.strBinK.eq_1, ⟨@Go.Ab.strBinK.eq_2, @Go.Ab.strBinK.eq_3⟩⟩⟩⟩⟩⟩, ⟨⟨⟨⟨⟨@Go.Ab.strBinK.eq_4, @Go.Ab.strBinK.eq_5⟩,
 ⟨@Go.Ab.boolBinK.eq_1, @Go.Ab.boolBinK.eq_2⟩⟩, ⟨⟨@Go.Ab.boolBinK.eq_3, @Go.Ab.unK.eq_1⟩, ⟨@Go.Ab.unK.eq_2, ⟨@Go.Ab.unK.eq_3, @Go.Ab.unK.eq_4⟩⟩⟩⟩, ⟨⟨⟨@Go.Ab.unK.eq_5, @Go.Ab.unK.eq_6⟩, ⟨@Int.toNat_natCast,
 ⟨@List.headD_cons.{0}, @Go.Ab.beq_int⟩⟩⟩, ⟨⟨@Go.Ab.maxK.eq_1, @Go.Ab.maxK.eq_2⟩, ⟨@Go.Ab.minK.eq_1, ⟨@Go.Ab.minK.eq_2, @Go.Ab.pickK.eq_1⟩⟩⟩⟩⟩, ⟨⟨⟨⟨@Go.Ab.pickK.eq_2, @Go.Ab.extractK.eq_1⟩, ⟨@Go.Ab.extractK.eq_2,
 @Go.Ab.lenK.eq_1⟩⟩, ⟨⟨@Go.Ab.lenK.eq_2, @Go.Ab.lenK.eq_3⟩, ⟨@Go.Ab.lenK.eq_4, ⟨@Go.Ab.lenK.eq_5, @Go.Ab.loadK.eq_1⟩⟩⟩⟩, ⟨⟨⟨@Go.Ab.loadK.eq_2, @Go.Ab.loadK.eq_3⟩, ⟨@Go.Ab.loadK.eq_4, ⟨@Go.Ab.storeK.eq_1,
 @Go.Ab.storeK.eq_2⟩⟩⟩, ⟨⟨@Go.Ab.fieldK.eq_1, @Go.Ab.fieldK.eq_2⟩, ⟨@Go.Ab.fieldK.eq_3, ⟨@Go.Ab.fieldVK.eq_1, @Go.Ab.fieldVK.eq_2⟩⟩⟩⟩⟩⟩⟩⟩
theorem wk2 :
  (((((((type_of% @idxK.eq_1) ∧ (type_of% @idxK.eq_2)) ∧ ((type_of% @idxK.eq_3) ∧ ((type_of% @cutK.eq_1) ∧ (type_of% @cutK.eq_2)))) ∧ (((type_of% @cutK.eq_3) ∧ (type_of%
 @Go.Ab.cutK.eq_4)) ∧ ((type_of% @cutK.eq_5) ∧ ((type_of% @cutK.eq_6) ∧ (type_of% @cutK.eq_7))))) ∧ ((((type_of% @cutK.eq_8) ∧ (type_of% @cutK.eq_9)) ∧ ((type_of% @cutK.eq_10) ∧
 ((type_of% @cutK.eq_11) ∧ (type_of% @bnds.eq_1)))) ∧ (((type_of% @bnd.eq_1) ∧ (type_of% @bnd.eq_2)) ∧ ((type_of% @bnd.eq_3) ∧ ((type_of% @boxK.eq_1) ∧ (type_of%
 @Go.Ab.allocK.eq_1)))))) ∧ (((((type_of% @zeroAV.eq_1) ∧ (type_of% @part.eq_1)) ∧ ((type_of% @ibin.eq_1) ∧ ((type_of% @ibin.eq_2) ∧ (type_of% @ibin.eq_3)))) ∧ (((type_of% @ibin.eq_4) ∧
 (type_of% @ibin.eq_5)) ∧ ((type_of% @ibin.eq_6) ∧ ((type_of% @ibin.eq_7) ∧ (type_of% @ibin.eq_8))))) ∧ ((((type_of% @ibin.eq_9) ∧ (type_of% @ibin.eq_10)) ∧ ((type_of%
 @Go.Ab.ibin.eq_11) ∧ ((type_of% @ibin.eq_12) ∧ (type_of% @ibin.eq_13)))) ∧ (((type_of% @ibin.eq_14) ∧ (type_of% @ibin.eq_15)) ∧ ((type_of% @ibin.eq_16) ∧ ((type_of% @ibin.eq_17) ∧
 (type_of% @ipre.eq_1))))))) ∧ ((((((type_of% @ipre.eq_2) ∧ (type_of% @ipre.eq_3)) ∧ ((type_of% @ipre.eq_4) ∧ ((type_of% @ipre.eq_5) ∧ (type_of% @TK.known.eq_1)))) ∧ (((type_of%
 @Go.Ab.TK.known.eq_2) ∧ (type_of% @TK.agg.eq_1)) ∧ ((type_of% @TK.agg.eq_2) ∧ ((type_of% @TK.agg.eq_3) ∧ (type_of% @Bool.not_true))))) ∧ ((((type_of% @Bool.not_false) ∧ (type_of% @Bool.false_eq_true)) ∧
 ((type_of% @thaw.eq_1) ∧ ((type_of% @thaw.eq_2) ∧ (type_of% @thawLA.eq_1)))) ∧ (((type_of% @thawLA.eq_2) ∧ (type_of% @thawA.eq_1)) ∧ ((type_of% @thawA.eq_2) ∧ ((type_of%
 @Go.Ab.thawC.eq_1) ∧ (type_of% @thawC.eq_2)))))) ∧ (((((type_of% @thawL.eq_1) ∧ (type_of% @thawL.eq_2)) ∧ ((type_of% @blks.eq_1) ∧ ((type_of% @blks.eq_2) ∧ (type_of% @blksLA.eq_1)))) ∧
 (((type_of% @blksLA.eq_2) ∧ (type_of% @blksA.eq_1)) ∧ ((type_of% @blksA.eq_2) ∧ ((type_of% @blksC.eq_1) ∧ (type_of% @blksC.eq_2))))) ∧ ((((type_of% @blksL.eq_1) ∧ (type_of%
 @Go.Ab.blksL.eq_2)) ∧ ((type_of% @Mem.adds.eq_1) ∧ ((type_of% @Mem.adds.eq_2) ∧ (type_of% @retK.eq_1)))) ∧ (((type_of% @retK.eq_2) ∧ (type_of% @retK.eq_3)) ∧ ((type_of% @resK.eq_1) ∧
 ((type_of% @resK.eq_2) ∧ (type_of% @resK.eq_3)))))))) ∧ (((((((type_of% @oneK.eq_1) ∧ (type_of% @oneK.eq_2)) ∧ ((type_of% @tkAlt) ∧ ((type_of% @tkAlt2) ∧ (type_of% @r_noGotoN))))
 ∧ (((type_of% @r_noGotoR) ∧ (type_of% @r_noGotoE)) ∧ ((type_of% @r_blockF) ∧ ((type_of% @d_nil) ∧ (type_of% @d_op))))) ∧ ((((type_of% @d_opg) ∧ (type_of% @d_free)) ∧ ((type_of%
 @Go.Ab.z_move) ∧ ((type_of% @z_assign) ∧ (type_of% @z_pick)))) ∧ (((type_of% @z_unOp) ∧ (type_of% @z_extract)) ∧ ((type_of% @z_convert) ∧ ((type_of% @z_slice) ∧ (type_of%
 @Go.Ab.z_field)))))) ∧ (((((type_of% @z_load) ∧ (type_of% @z_indexAddr)) ∧ ((type_of% @z_fieldAddr) ∧ ((type_of% @z_nilCheck) ∧ (type_of% @z_binOp)))) ∧ (((type_of% @z_call) ∧
 (type_of% @z_lit)) ∧ ((type_of% @z_set) ∧ ((type_of% @litK.eq_1) ∧ (type_of% @d_read))))) ∧ ((((type_of% @d_back) ∧ (type_of% @freeOk.eq_1)) ∧ ((type_of% @freeOk.eq_2) ∧
 ((type_of% @freeOk.eq_3) ∧ (type_of% @freeOk.eq_4)))) ∧ (((type_of% @freeOk.eq_5) ∧ (type_of% @freeOk.eq_6)) ∧ ((type_of% @freeOk.eq_7) ∧ ((type_of% @freeOk.eq_8) ∧ (type_of%
 @Go.Ab.freeOk.eq_9))))))) ∧ ((((((type_of% @freeOk.eq_10) ∧ (type_of% @freeOk.eq_11)) ∧ ((type_of% @freeOk.eq_12) ∧ ((type_of% @freeOk.eq_13) ∧ (type_of% @freeOk.eq_14)))) ∧ (((type_of%
 @Go.Ab.freeOk.eq_15) ∧ (type_of% @readOk.eq_1)) ∧ ((type_of% @readOk.eq_2) ∧ ((type_of% @readOk.eq_3) ∧ (type_of% @notOwn.eq_1))))) ∧ ((((type_of% @notOwn.eq_2) ∧ (type_of%
 @Go.Ab.NoNil.eq_1)) ∧ ((type_of% @NoNil.eq_2) ∧ ((type_of% @mem0.eq_1) ∧ (type_of% @cvK.eq_1)))) ∧ (((type_of% @litC.eq_1) ∧ (type_of% @litC.eq_2)) ∧ ((type_of% @constK.eq_1) ∧
 ((type_of% @constK.eq_2) ∧ (type_of% @nilCheckK.eq_1)))))) ∧ (((((type_of% @nilCheckK.eq_2) ∧ (type_of% @nilCheckK.eq_3)) ∧ ((type_of% @nilCheckK.eq_4) ∧ ((type_of% @AllV.eq_1) ∧
 (type_of% @AllV.eq_2)))) ∧ (((type_of% @List.length_append.{0}) ∧ (type_of% @encB_toInt)) ∧ ((type_of% @str_size) ∧ ((type_of% @str_append) ∧ (type_of% @str_extract))))) ∧ ((((type_of%
 @Go.Ab.strOf_B) ∧ (type_of% @isB_B)) ∧ ((type_of% @str_toList) ∧ ((type_of% @str_data) ∧ (type_of% @mapB_take)))) ∧ (((type_of% @mapB_drop) ∧ (type_of% @take_drop')) ∧ ((type_of%
 @Int.toNat_zero) ∧ ((type_of% @Nat.sub_zero) ∧ (type_of% @Int.cast_ofNat_Int)))))))) :=
⟨⟨⟨⟨⟨⟨⟨@Go.Ab.idxK.eq_1, @Go.Ab.idxK.eq_2⟩, ⟨@Go.Ab.idxK.eq_3, ⟨@Go.Ab.cutK.eq_1, @Go.Ab.cutK.eq_2⟩⟩⟩, ⟨⟨@Go.Ab.cutK.eq_3, @Go.Ab.cutK.eq_4⟩, ⟨@Go.Ab.cutK.eq_5, ⟨@Go.Ab.cutK.eq_6, @Go.Ab.cutK.eq_7⟩⟩⟩⟩,
 ⟨⟨⟨@Go.Ab.cutK.eq_8, @Go.Ab.cutK.eq_9⟩, ⟨@Go.Ab.cutK.eq_10, ⟨@Go.Ab.cutK.eq_11, @Go.Ab.bnds.eq_1⟩⟩⟩, ⟨⟨@Go.Ab.bnd.eq_1, @Go.Ab.bnd.eq_2⟩, ⟨@Go.Ab.bnd.eq_3, ⟨@Go.Ab.boxK.eq_1, @Go.Ab.allocK.eq_1⟩⟩⟩⟩⟩,
 ⟨⟨⟨⟨@Go.Ab.zeroAV.eq_1, @Go.Ab.part.eq_1⟩, ⟨@Go.Ab.ibin.eq_1, ⟨@Go.Ab.ibin.eq_2, @Go.Ab.ibin.eq_3⟩⟩⟩, ⟨⟨@Go.Ab.ibin.eq_4, @Go.Ab.ibin.eq_5⟩, ⟨@Go.Ab.ibin.eq_6, ⟨@Go.Ab.ibin.eq_7, @Go.Ab.ibin.eq_8⟩⟩⟩⟩,
 ⟨⟨⟨@Go.Ab.ibin.eq_9, @Go.Ab.ibin.eq_10⟩, ⟨@Go.Ab.ibin.eq_11, ⟨@Go.Ab.ibin.eq_12, @Go.Ab.ibin.eq_13⟩⟩⟩, ⟨⟨@Go.Ab.ibin.eq_14, @Go.Ab.ibin.eq_15⟩, ⟨@Go.Ab.ibin.eq_16, ⟨@Go.Ab.ibin.eq_17, @Go.Ab.ipre.eq_1⟩⟩⟩⟩⟩⟩,
 ⟨⟨⟨⟨⟨@Go.Ab.ipre.eq_2, @Go.Ab.ipre.eq_3⟩, ⟨@Go.Ab.ipre.eq_4, ⟨@Go.Ab.ipre.eq_5, @Go.Ab.TK.known.eq_1⟩⟩⟩, ⟨⟨@Go.Ab.TK.known.eq_2, @Go.Ab.TK.agg.eq_1⟩, ⟨@Go.Ab.TK.agg.eq_2, ⟨@Go.Ab.TK.agg.eq_3, @Bool.not_true⟩⟩⟩⟩,
 ⟨⟨⟨@Bool.not_false, @Bool.false_eq_true⟩, ⟨@Go.Ab.thaw.eq_1, ⟨@Go.Ab.thaw.eq_2, @Go.Ab.thawLA.eq_1⟩⟩⟩, ⟨⟨@Go.Ab.thawLA.eq_2, @Go.Ab.thawA.eq_1⟩, ⟨@Go.Ab.thawA.eq_2, ⟨@Go.Ab.thawC.eq_1, @Go.Ab.thawC.eq_2⟩⟩⟩⟩⟩,
 ⟨⟨⟨⟨@Go.Ab.thawL.eq_1, @Go.Ab.thawL.eq_2⟩, ⟨@Go.Ab.blks.eq_1, ⟨@Go.Ab.blks.eq_2, @Go.Ab.blksLA.eq_1⟩⟩⟩, ⟨⟨@Go.Ab.blksLA.eq_2, @Go.Ab.blksA.eq_1⟩, ⟨@Go.Ab.blksA.eq_2, ⟨@Go.Ab.blksC.eq_1, @Go.Ab.blksC.eq_2⟩⟩⟩⟩,
 ⟨⟨⟨@Go.Ab.blksL.eq_1, @Go.Ab.blksL.eq_2⟩, ⟨@Go.Ab.Mem.adds.eq_1, ⟨@Go.Ab.Mem.adds.eq_2, @Go.Ab.retK.eq_1⟩⟩⟩, ⟨⟨@Go.Ab.retK.eq_2, @Go.Ab.retK.eq_3⟩, ⟨@Go.Ab.resK.eq_1, ⟨@Go.Ab.resK.eq_2, @Go.Ab.resK.eq_3⟩⟩⟩⟩⟩⟩⟩,
 ⟨⟨⟨⟨⟨⟨@Go.Ab.oneK.eq_1, @Go.Ab.oneK.eq_2⟩, ⟨@Go.Ab.tkAlt, ⟨@Go.Ab.tkAlt2, @Go.Ab.r_noGotoN⟩⟩⟩, ⟨⟨@Go.Ab.r_noGotoR, @Go.Ab.r_noGotoE⟩, ⟨@Go.Ab.r_blockF, ⟨@Go.Ab.d_nil, @Go.Ab.d_op⟩⟩⟩⟩, ⟨⟨⟨@Go.Ab.d_opg, @Go.Ab.d_free⟩,
 ⟨@Go.Ab.z_move, ⟨@Go.Ab.z_assign, @Go.Ab.z_pick⟩⟩⟩, ⟨⟨@Go.Ab.z_unOp, @Go.Ab.z_extract⟩, ⟨@Go.Ab.z_convert, ⟨@Go.Ab.z_slice, @Go.Ab.z_field⟩⟩⟩⟩⟩, ⟨⟨⟨⟨@Go.Ab.z_load, @Go.Ab.z_indexAddr⟩, ⟨@Go.Ab.z_fieldAddr,
 ⟨@Go.Ab.z_nilCheck, @Go.Ab.z_binOp⟩⟩⟩, ⟨⟨@Go.Ab.z_call, @Go.Ab.z_lit⟩, ⟨@Go.Ab.z_set, ⟨@Go.Ab.litK.eq_1, @Go.Ab.d_read⟩⟩⟩⟩, ⟨⟨⟨@Go.Ab.d_back, @Go.Ab.freeOk.eq_1⟩, ⟨@Go.Ab.freeOk.eq_2, ⟨@Go.Ab.freeOk.eq_3,
 @Go.Ab.freeOk.eq_4⟩⟩⟩, ⟨⟨@Go.Ab.freeOk.eq_5, @Go.Ab.freeOk.eq_6⟩, ⟨@Go.Ab.freeOk.eq_7, ⟨@Go.Ab.freeOk.eq_8, @Go.Ab.freeOk.eq_9⟩⟩⟩⟩⟩⟩, ⟨⟨⟨⟨⟨@Go.Ab.freeOk.eq_10, @Go.Ab.freeOk.eq_11⟩, ⟨@Go.Ab.freeOk.eq_12,
 ⟨@Go.Ab.freeOk.eq_13, @Go.Ab.freeOk.eq_14⟩⟩⟩, ⟨⟨@Go.Ab.freeOk.eq_15, @Go.Ab.readOk.eq_1⟩, ⟨@Go.Ab.readOk.eq_2, ⟨@Go.Ab.readOk.eq_3, @Go.Ab.notOwn.eq_1⟩⟩⟩⟩, ⟨⟨⟨@Go.Ab.notOwn.eq_2, @Go.Ab.NoNil.eq_1⟩, ⟨@Go.Ab.NoNil.eq_2,
 ⟨@Go.Ab.mem0.eq_1, @Go.Ab.cvK.eq_1⟩⟩⟩, ⟨⟨@Go.Ab.litC.eq_1, @Go.Ab.litC.eq_2⟩, ⟨@Go.Ab.constK.eq_1, ⟨@Go.Ab.constK.eq_2, @Go.Ab.nilCheckK.eq_1⟩⟩⟩⟩⟩, ⟨⟨⟨⟨@Go.Ab.nilCheckK.eq_2, @Go.Ab.nilCheckK.eq_3⟩,
 ⟨@Go.Ab.nilCheckK.eq_4, ⟨@Go.Ab.AllV.eq_1, @Go.Ab.AllV.eq_2⟩⟩⟩, ⟨⟨@List.length_append.{0}, @Go.Ab.encB_toInt⟩, ⟨@Go.Ab.str_size, ⟨@Go.Ab.str_append, @Go.Ab.str_extract⟩⟩⟩⟩, ⟨⟨⟨@Go.Ab.strOf_B, @Go.Ab.isB_B⟩,
 ⟨@Go.Ab.str_toList, ⟨@Go.Ab.str_data, @Go.Ab.mapB_take⟩⟩⟩, ⟨⟨@Go.Ab.mapB_drop, @Go.Ab.take_drop'⟩, ⟨@Int.toNat_zero, ⟨@Nat.sub_zero, @Int.cast_ofNat_Int⟩⟩⟩⟩⟩⟩⟩⟩
theorem wk3 :
  ((((((type_of% @bne_int) ∧ ((type_of% @beq_self_eq_true.{0}) ∧ (type_of% @eq_self.{1}))) ∧ ((type_of% @imp_self) ∧ ((type_of% @implies_true.{0}) ∧ (type_of% @implies_true.{1})))) ∧ (((type_of% @Int.le_refl) ∧
 ((type_of% @Nat.le_refl) ∧ (type_of% @List.set_cons_zero.{0}))) ∧ ((type_of% @List.set_cons_succ.{0}) ∧ ((type_of% @List.mem_cons.{0}) ∧ (type_of% @List.not_mem_nil.{0}))))) ∧ ((((type_of% @or_false) ∧ ((type_of%
 @forall_eq_or_imp.{1}) ∧ (type_of% @forall_eq.{1}))) ∧ ((type_of% @false_implies) ∧ ((type_of% @buildK.eq_1) ∧ (type_of% @fillA.eq_1)))) ∧ (((type_of% @fillA.eq_2) ∧ ((type_of% @AllKnown.eq_1) ∧
 (type_of% @AllKnown.eq_2))) ∧ ((type_of% @splice.eq_1) ∧ ((type_of% @mkEl.eq_1) ∧ (type_of% @mkEl.eq_2)))))) ∧ (((((type_of% @or_self) ∧ ((type_of% @or_true) ∧ (type_of% @true_or))) ∧ ((type_of%
 @Go.Ab.elem_I) ∧ ((type_of% @encI_eq) ∧ (type_of% @mapI_take)))) ∧ (((type_of% @mapI_drop) ∧ ((type_of% @List.take_zero.{0}) ∧ (type_of% @List.headD_cons.{0}))) ∧ ((type_of% @List.take_succ_cons.{0}) ∧
 ((type_of% @List.getD_cons_zero.{0}) ∧ (type_of% @List.getD_cons_succ.{0}))))) ∧ ((((type_of% @List.drop_succ_cons.{0}) ∧ ((type_of% @r_pin) ∧ (type_of% @x_alloc))) ∧ ((type_of% @x_box) ∧ ((type_of%
 @Go.Ab.x_build) ∧ (type_of% @x_buildSlice)))) ∧ (((type_of% @x_load) ∧ ((type_of% @x_conv) ∧ (type_of% @x_makeSlice))) ∧ ((type_of% @x_slice) ∧ ((type_of% @x_append) ∧ (type_of%
 @Go.Ab.x_store))))))) ∧ ((((((type_of% @x_indexAddr) ∧ ((type_of% @o_clear) ∧ (type_of% @clearK.eq_1))) ∧ ((type_of% @x_callF) ∧ ((type_of% @r1_skip) ∧ (type_of% @r1_ret)))) ∧
 (((type_of% @r1_exit) ∧ ((type_of% @r1_region) ∧ (type_of% @r1_loop))) ∧ ((type_of% @r1_scope) ∧ ((type_of% @r1_seq) ∧ (type_of% @r1_cond))))) ∧ ((((type_of% @r1_block) ∧
 ((type_of% @r1_range) ∧ (type_of% @r_callV))) ∧ ((type_of% @r_callB) ∧ ((type_of% @idx2K_s) ∧ (type_of% @idx2K_l)))) ∧ (((type_of% @idx2K_g) ∧ ((type_of% @bldK.eq_1) ∧ (type_of%
 @Go.Ab.bldK.eq_2))) ∧ ((type_of% @arrK.eq_1) ∧ ((type_of% @sapK.eq_1) ∧ (type_of% @arK_eq)))))) ∧ (((((type_of% @o_sap) ∧ ((type_of% @x_sap) ∧ (type_of% @r_mkf1))) ∧ ((type_of%
 @Go.Ab.r_mkf2) ∧ ((type_of% @frz.eq_1) ∧ (type_of% @mapB.eq_1)))) ∧ (((type_of% @mapB.eq_2) ∧ ((type_of% @frzE.eq_1) ∧ (type_of% @frzE.eq_2))) ∧ ((type_of% @frzC.eq_1) ∧ ((type_of%
 @Go.Ab.frzC.eq_2) ∧ (type_of% @frz0.eq_1))))) ∧ ((((type_of% @frz0.eq_2) ∧ ((type_of% @frz0.eq_3) ∧ (type_of% @FOkE.eq_1))) ∧ ((type_of% @FOkE.eq_2) ∧ ((type_of% @FOk.eq_1) ∧ (type_of%
 @Go.Ab.FOk.eq_2)))) ∧ (((type_of% @FOk0.eq_1) ∧ ((type_of% @FOk0.eq_2) ∧ (type_of% @FOk0.eq_3))) ∧ (((type_of% @SOk.eq_1) ∧ (type_of% @SOk.eq_2)) ∧ ((type_of% @BOk.eq_1) ∧ (type_of%
 @Go.Ab.BOk.eq_2))))))) :=
⟨⟨⟨⟨⟨⟨@Go.Ab.bne_int, ⟨@beq_self_eq_true.{0}, @eq_self.{1}⟩⟩, ⟨@imp_self, ⟨@implies_true.{0}, @implies_true.{1}⟩⟩⟩, ⟨⟨@Int.le_refl, ⟨@Nat.le_refl, @List.set_cons_zero.{0}⟩⟩, ⟨@List.set_cons_succ.{0}, ⟨@List.mem_cons.{0},
 @List.not_mem_nil.{0}⟩⟩⟩⟩, ⟨⟨⟨@or_false, ⟨@forall_eq_or_imp.{1}, @forall_eq.{1}⟩⟩, ⟨@false_implies, ⟨@Go.Ab.buildK.eq_1, @Go.Ab.fillA.eq_1⟩⟩⟩, ⟨⟨@Go.Ab.fillA.eq_2, ⟨@Go.Ab.AllKnown.eq_1, @Go.Ab.AllKnown.eq_2⟩⟩,
 ⟨@Go.Ab.splice.eq_1, ⟨@Go.Ab.mkEl.eq_1, @Go.Ab.mkEl.eq_2⟩⟩⟩⟩⟩, ⟨⟨⟨⟨@or_self, ⟨@or_true, @true_or⟩⟩, ⟨@Go.Ab.elem_I, ⟨@Go.Ab.encI_eq, @Go.Ab.mapI_take⟩⟩⟩, ⟨⟨@Go.Ab.mapI_drop, ⟨@List.take_zero.{0}, @List.headD_cons.{0}⟩⟩,
 ⟨@List.take_succ_cons.{0}, ⟨@List.getD_cons_zero.{0}, @List.getD_cons_succ.{0}⟩⟩⟩⟩, ⟨⟨⟨@List.drop_succ_cons.{0}, ⟨@Go.Ab.r_pin, @Go.Ab.x_alloc⟩⟩, ⟨@Go.Ab.x_box, ⟨@Go.Ab.x_build, @Go.Ab.x_buildSlice⟩⟩⟩, ⟨⟨@Go.Ab.x_load,
 ⟨@Go.Ab.x_conv, @Go.Ab.x_makeSlice⟩⟩, ⟨@Go.Ab.x_slice, ⟨@Go.Ab.x_append, @Go.Ab.x_store⟩⟩⟩⟩⟩⟩, ⟨⟨⟨⟨⟨@Go.Ab.x_indexAddr, ⟨@Go.Ab.o_clear, @Go.Ab.clearK.eq_1⟩⟩, ⟨@Go.Ab.x_callF, ⟨@Go.Ab.r1_skip, @Go.Ab.r1_ret⟩⟩⟩,
 ⟨⟨@Go.Ab.r1_exit, ⟨@Go.Ab.r1_region, @Go.Ab.r1_loop⟩⟩, ⟨@Go.Ab.r1_scope, ⟨@Go.Ab.r1_seq, @Go.Ab.r1_cond⟩⟩⟩⟩, ⟨⟨⟨@Go.Ab.r1_block, ⟨@Go.Ab.r1_range, @Go.Ab.r_callV⟩⟩, ⟨@Go.Ab.r_callB, ⟨@Go.Ab.idx2K_s, @Go.Ab.idx2K_l⟩⟩⟩,
 ⟨⟨@Go.Ab.idx2K_g, ⟨@Go.Ab.bldK.eq_1, @Go.Ab.bldK.eq_2⟩⟩, ⟨@Go.Ab.arrK.eq_1, ⟨@Go.Ab.sapK.eq_1, @Go.Ab.arK_eq⟩⟩⟩⟩⟩, ⟨⟨⟨⟨@Go.Ab.o_sap, ⟨@Go.Ab.x_sap, @Go.Ab.r_mkf1⟩⟩, ⟨@Go.Ab.r_mkf2, ⟨@Go.Ab.frz.eq_1, @Go.Ab.mapB.eq_1⟩⟩⟩,
 ⟨⟨@Go.Ab.mapB.eq_2, ⟨@Go.Ab.frzE.eq_1, @Go.Ab.frzE.eq_2⟩⟩, ⟨@Go.Ab.frzC.eq_1, ⟨@Go.Ab.frzC.eq_2, @Go.Ab.frz0.eq_1⟩⟩⟩⟩, ⟨⟨⟨@Go.Ab.frz0.eq_2, ⟨@Go.Ab.frz0.eq_3, @Go.Ab.FOkE.eq_1⟩⟩, ⟨@Go.Ab.FOkE.eq_2, ⟨@Go.Ab.FOk.eq_1,
 @Go.Ab.FOk.eq_2⟩⟩⟩, ⟨⟨@Go.Ab.FOk0.eq_1, ⟨@Go.Ab.FOk0.eq_2, @Go.Ab.FOk0.eq_3⟩⟩, ⟨⟨@Go.Ab.SOk.eq_1, @Go.Ab.SOk.eq_2⟩, ⟨@Go.Ab.BOk.eq_1, @Go.Ab.BOk.eq_2⟩⟩⟩⟩⟩⟩⟩
theorem wkf :
  ((((type_of% @Fits.eq_1) ∧ ((type_of% @slFit.eq_1) ∧ (type_of% @slFit.eq_2))) ∧ ((type_of% @memFit.eq_1) ∧ ((type_of% @memFit.eq_2) ∧ (type_of% @under_c)))) ∧ (((type_of%
 @Go.Ab.under_s) ∧ ((type_of% @under_x) ∧ (type_of% @under_p))) ∧ ((type_of% @under_l) ∧ ((type_of% @underL_nil) ∧ (type_of% @underL_B))))) ∧ ((((type_of% @underL_B1) ∧ ((type_of%
 @Go.Ab.under_g) ∧ (type_of% @under_t))) ∧ ((type_of% @underL_I) ∧ ((type_of% @underL_cons) ∧ (type_of% @List.mem_cons.{0})))) ∧ (((type_of% @List.not_mem_nil.{0}) ∧ ((type_of% @or_false) ∧ (type_of%
 @forall_eq_or_imp.{1}))) ∧ ((type_of% @forall_eq.{1}) ∧ ((type_of% @AV.cells.eq_1) ∧ (type_of% @AV.cells.eq_2))))) :=
⟨⟨⟨⟨@Go.Ab.Fits.eq_1, ⟨@Go.Ab.slFit.eq_1, @Go.Ab.slFit.eq_2⟩⟩, ⟨@Go.Ab.memFit.eq_1, ⟨@Go.Ab.memFit.eq_2, @Go.Ab.under_c⟩⟩⟩, ⟨⟨@Go.Ab.under_s, ⟨@Go.Ab.under_x, @Go.Ab.under_p⟩⟩, ⟨@Go.Ab.under_l, ⟨@Go.Ab.underL_nil,
 @Go.Ab.underL_B⟩⟩⟩⟩, ⟨⟨⟨@Go.Ab.underL_B1, ⟨@Go.Ab.under_g, @Go.Ab.under_t⟩⟩, ⟨@Go.Ab.underL_I, ⟨@Go.Ab.underL_cons, @List.mem_cons.{0}⟩⟩⟩, ⟨⟨@List.not_mem_nil.{0}, ⟨@or_false, @forall_eq_or_imp.{1}⟩⟩, ⟨@forall_eq.{1},
 ⟨@Go.Ab.AV.cells.eq_1, @Go.Ab.AV.cells.eq_2⟩⟩⟩⟩⟩
end Go.Ab
namespace Go.Ab
open Go Go.RowKit
variable {pf : Value → Mem → Prop}
def resv : Mem → List (TypeId × Nat) → Mem
 | M, [] => M
 | M, (T, sz) :: r => resv (newMem M ⟨T, sz, []⟩) r
theorem Good.ext {w0 : World} {E : Env} {M M' : Mem} (hg : Good w0 E M) (hk : M'.k = M.k) (h : ∀ i, M'.get i = M.get i) : Good w0 E M' :=
 ⟨hg.below, hk.trans hg.k, hg.lt, fun i hi => hg.gone i ((h i).symm.trans hi), fun i b hi => hg.held i b ((h i).symm.trans hi), hg.hid, hg.old, hg.inj⟩
theorem Good.set1 {w0 : World} {E : Env} {M : Mem} (hg : Good w0 E M) (T : TypeId) (sz : Nat) :
 Good w0 ⟨E.w, Ab.upd E.ad E.k (some ⟨0, sz, 0, 0⟩), E.k + 1, E.hid⟩ (newMem M ⟨T, sz, []⟩) ∧ Later E ⟨E.w, Ab.upd E.ad E.k (some ⟨0, sz, 0, 0⟩), E.k + 1, E.hid⟩ := by
 have hnone : E.ad E.k = none := by
  cases hq : E.ad E.k with
  | none => rfl
  | some q => exact absurd (hg.lt _ _ hq) (by omega)
 have := Good.upd hg E.w E.k (E.k + 1) ⟨0, sz, 0, 0⟩ ⟨T, sz, []⟩ (by omega) (by omega) hg.below (Nat.le_refl _) (fun b _ _ => rfl) rfl rfl (Nat.le_refl _)
  (fun h => absurd h (by simp)) (fun q hq => by rw [hnone] at hq; cases hq) (fun h => absurd h (by omega)) (fun _ h => absurd h (by simp))
 have e : newMem M ⟨T, sz, []⟩ = ⟨insert M.l E.k ⟨T, sz, []⟩, E.k + 1⟩ := by simp only [newMem, hg.k]
 rw [e]
 exact this
theorem Good.resv {w0 : World} : ∀ (rs : List (TypeId × Nat)) {E : Env} {M : Mem}, Good w0 E M → ∃ E', E'.w = E.w ∧ Good w0 E' (Ab.resv M rs) ∧ Later E E' ∧ E'.k = E.k + rs.length ∧ (∀ i, i < E.k → (Ab.resv M rs).get i = M.get i ∧ E'.ad i = E.ad i) ∧
 ∀ i, E.k ≤ i → i < E.k + rs.length → (∃ T sz, (Ab.resv M rs).get i = some ⟨T, sz, []⟩) ∧ ∃ sz, E'.ad i = some ⟨0, sz, 0, 0⟩
 | [], E, M, hg => ⟨E, rfl, hg, .refl E, rfl, fun i _ => ⟨rfl, rfl⟩, fun i h1 h2 => by simp at h2; omega⟩
 | (T, sz) :: r, E, M, hg => by
  obtain ⟨g1, l1⟩ := hg.set1 T sz
  obtain ⟨E', e1, e2, e3, e4, e5, e6⟩ := Good.resv r g1
  refine ⟨E', e1, e2, l1.trans e3, by rw [e4, List.length_cons]; show E.k + 1 + r.length = _; omega, fun i hi => ?_, fun i h1 h2 => ?_⟩
  · obtain ⟨a, b⟩ := e5 i (by show i < E.k + 1; omega)
    refine ⟨a.trans ?_, b.trans (upd_ne _ _ (by omega))⟩
    simp only [newMem, Mem.get, assoc_insert, hg.k]
    rw [if_neg (by omega)]
  · by_cases h : i = E.k
    · subst h
      obtain ⟨a, b⟩ := e5 E.k (by show E.k < E.k + 1; omega)
      refine ⟨⟨T, sz, a.trans ?_⟩, sz, b.trans (upd_self _ _ _)⟩
      simp only [newMem, Mem.get, assoc_insert, hg.k, if_true]
    · exact e6 i (by show E.k + 1 ≤ i; omega) (by show i < E.k + 1 + r.length; rw [List.length_cons] at h2; omega)
theorem alloc_at {P : Program} {w0 : World} {E : Env} {M : Mem} {T : TypeId} {ti : TI} {id : Nat} {T0 : TypeId} {sz0 : Nat} (hg : Good w0 E M) (ht : TOk P T ti) (hc : ti.k.agg = true ∨ 0 < ti.sz) (hcc : Cells (zeroAV ti))
 (hid : M.get id = some ⟨T0, sz0, []⟩) : Out P w0 E (Instr.alloc T true (.tuple #[])) fun a M' => a = .p id 0 0 1 ∧ M' = M.put id ⟨T, (zeroAV ti).cells.length, [zeroAV ti]⟩ := by
 obtain ⟨q0, a1, a2, a3, a4, a5⟩ := hg.held id _ hid
 have hidk : id < E.k := hg.lt _ _ a1
 have hr := rep_zero (P := P) ht hc E
 obtain ⟨hs, hcr⟩ := hr.cells hcc
 generalize ha : zeroAV ti = a at *
 generalize hv : ti.zero = v at *
 have hold : ∀ b, b < E.w.heap.size → (E.w.alloc (.cells v.cells T)).heap[b]? = E.w.heap[b]? := fun b hb => by
  show (E.w.heap.push _)[b]? = _
  rw [Array.getElem?_push, if_neg (by omega)]
 have hsz : E.w.heap.size ≤ (E.w.alloc (.cells v.cells T)).heap.size := by show _ ≤ (E.w.heap.push _).size; simp
 have := Good.upd hg (E.w.alloc (.cells v.cells T)) id E.k ⟨E.w.heap.size, a.cells.length, 1, 1⟩ ⟨T, a.cells.length, [a]⟩ (Nat.le_refl _) hidk
  (hg.below.trans ⟨rfl, rfl, rfl, hsz, fun b hb => hold b (Nat.lt_of_lt_of_le hb hg.below.size)⟩) hsz (fun b hb _ => hold b hb) rfl rfl (Nat.le_refl _)
  (fun _ => ⟨hg.below.size, .inl (Nat.le_refl _)⟩) (fun q hq => by rw [a1] at hq; cases hq; simp only [List.length_nil] at a3; exact ⟨by omega, fun h => by simp only [a3] at h; omega, fun h => absurd h (by omega)⟩) (fun _ => ⟨q0, a1⟩)
  (fun hl _ => by
   refine ⟨by simp [maxLen], v.cells, by show (E.w.heap.push _)[E.w.heap.size]? = _; simp, ⟨by simpa using hs, SpareA.exact (by simp [hs])⟩, fun i hi => ?_⟩
   have h0 : i = 0 := by simpa using hi
   subst h0
   refine ⟨rfl, fun j hj => ?_⟩
   simp only [List.getElem_cons_zero] at hj ⊢
   have hj2 : j < v.cells.size := by omega
   exact ⟨v.cells[j], by simp [hj2], (hcr j hj hj2).1, (hcr j hj hj2).2.later hl⟩)
 refine ⟨.pointer (some ⟨E.w.heap.size, 0, none⟩), _, _, .p id 0 0 1, ?_, this.1, this.2, ?_, rfl, ?_⟩
 · simp [Instr.alloc, ht.run_zero, Result.andThen, hv, newVar, newRow]
 · refine .p _ _ _ _ _ hidk (fun q hq => ?_)
   simp only [upd_self, Option.some.injEq] at hq
   subst hq
   exact ⟨Nat.le_refl _, fun _ => by simp⟩
 · simp only [Mem.put, hg.k]
theorem empty_at {P : Program} {w0 : World} {E : Env} {M : Mem} {t e : TypeId} {ti : TI} (hg : Good w0 E M) (hS : KOk P t (.sl e)) (ht : TOk P e ti) :
 ∃ A w', (Instr.buildSlice t 0 #[]).run P E.w = .ok (.slice A 0 0) w' ∧ Good w0 ⟨w', E.ad, E.k, E.hid⟩ M ∧ Later E ⟨w', E.ad, E.k, E.hid⟩ := by
 have hrun : (Instr.buildSlice t 0 #[]).run P E.w = .ok (.slice (some ⟨E.w.heap.size, 0, none⟩) 0 0) (E.w.alloc (.cells #[] e)) := by
  simp only [KOk] at hS
  simp [Instr.buildSlice, run_underlying hS, ht.run_size, Result.andThen, Instr.fill, newRow]
  have e0 : ∀ f : Nat → Value, (Array.range 0).map f = #[] := fun f => by simp
  rw [e0]
 have hbel : Below E.w.heap.size E.w (E.w.alloc (.cells #[] e)) := (Below.refl _ _).alloc (Nat.le_refl _) _
 obtain ⟨k1, k2⟩ := hg.grow hbel
 exact ⟨_, _, hrun, k1, k2⟩
def ovP (β : Nat → Blk) : List Nat → Mem → Mem
 | [], M => M
 | i :: r, M => ovP β r (M.put i (β i))
theorem ovP_k {β : Nat → Blk} : ∀ (l : List Nat) (M : Mem), (ovP β l M).k = M.k
 | [], _ => rfl
 | _ :: r, M => ovP_k r _
theorem ovP_get {β : Nat → Blk} : ∀ (l : List Nat) (M M' : Mem) (i : Nat), M.get i = M'.get i → (ovP β l M).get i = (ovP β l M').get i
 | [], _, _, _, h => h
 | j :: r, M, M', i, h => ovP_get r _ _ i (by simp only [Mem.put, Mem.get, assoc_insert] at h ⊢; split <;> simp_all)
theorem ovP_other {β : Nat → Blk} : ∀ (l : List Nat) (M : Mem) (i : Nat), i ∉ l → (ovP β l M).get i = M.get i
 | [], _, _, _ => rfl
 | j :: r, M, i, h => by
  rw [ovP, ovP_other r _ i (fun h2 => h (List.mem_cons_of_mem _ h2))]
  simp only [Mem.put, Mem.get, assoc_insert]
  rw [if_neg (fun e => h (by rw [e]; exact List.mem_cons_self ..))]
theorem get_put' {M : Mem} {i j : Nat} {b : Blk} : (M.put i b).get j = if i = j then some b else M.get j := by simp only [Mem.put, Mem.get, assoc_insert]
section
variable (hv xs : List Nat) (fb eb : Nat → Blk) (mA : Nat → Mem)
def stp (S : Nat → Bool) (i : Nat) (z : Mem) : Mem :=
 bif Nat.beq (hv.getD i 0) 1 then (bif S i then mA (i + 1) else z) else bif Nat.beq (hv.getD i 0) 4 then z.put (xs.getD i 0) (bif S i then fb i else eb i) else z
def fol (S : Nat → Bool) : Nat → Nat → Mem → Mem
 | _, 0, z => z
 | i, n + 1, z => fol S (i + 1) n (stp hv xs fb eb mA S i z)
def pdF : Nat → Nat → List Nat
 | _, 0 => []
 | i, n + 1 => bif Nat.beq (hv.getD i 0) 4 then xs.getD i 0 :: pdF (i + 1) n else pdF (i + 1) n
end
section
variable {hv xs : List Nat} {fb eb : Nat → Blk} {mA : Nat → Mem}
theorem fol_split (S : Nat → Bool) : ∀ (n i m : Nat) (z : Mem), fol hv xs fb eb mA S i (n + m) z = fol hv xs fb eb mA S (i + n) m (fol hv xs fb eb mA S i n z)
 | 0, i, m, z => by simp [fol]
 | n + 1, i, m, z => by
  rw [show n + 1 + m = (n + m) + 1 by omega, fol, fol, fol_split S n (i + 1) m, show i + 1 + n = i + (n + 1) by omega]
theorem fol_congr (S S' : Nat → Bool) : ∀ (n i : Nat) (z : Mem), (∀ j, i ≤ j → j < i + n → hv.getD j 0 = 1 ∨ hv.getD j 0 = 4 → S j = S' j) → fol hv xs fb eb mA S i n z = fol hv xs fb eb mA S' i n z
 | 0, _, _, _ => rfl
 | n + 1, i, z, h => by
  rw [fol, fol, fol_congr S S' n (i + 1) _ fun j h1 h2 => h j (by omega) (by omega)]
  congr 1
  unfold stp
  cases e1 : Nat.beq (hv.getD i 0) 1 with
  | true => rw [h i (by omega) (by omega) (.inl (Nat.eq_of_beq_eq_true e1))]
  | false =>
   cases e4 : Nat.beq (hv.getD i 0) 4 with
   | true => rw [h i (by omega) (by omega) (.inr (Nat.eq_of_beq_eq_true e4))]
   | false => rfl
theorem beq_of {a b : Nat} (h : a = b) : Nat.beq a b = true := by subst h; exact Nat.beq_refl a
theorem fol_ov {β : Nat → Blk} (S : Nat → Bool) : ∀ (n i : Nat) (z : Mem), (∀ j, i ≤ j → j < i + n → hv.getD j 0 = 1 → S j = false) →
 (∀ j, i ≤ j → j < i + n → hv.getD j 0 = 4 → β (xs.getD j 0) = bif S j then fb j else eb j) → fol hv xs fb eb mA S i n z = ovP β (pdF hv xs i n) z
 | 0, _, _, _, _ => rfl
 | n + 1, i, z, h, hb => by
  rw [fol, pdF, fol_ov S n (i + 1) _ (fun j h1 h2 => h j (by omega) (by omega)) (fun j h1 h2 => hb j (by omega) (by omega))]
  unfold stp
  cases e1 : Nat.beq (hv.getD i 0) 1 with
  | true =>
   rw [h i (by omega) (by omega) (Nat.eq_of_beq_eq_true e1)]
   have : Nat.beq (hv.getD i 0) 4 = false := by rw [Nat.eq_of_beq_eq_true e1]; rfl
   simp only [this, cond_true, cond_false]
  | false =>
   cases e4 : Nat.beq (hv.getD i 0) 4 with
   | true =>
    simp only [cond_true, cond_false]
    rw [ovP, hb i (by omega) (by omega) (Nat.eq_of_beq_eq_true e4)]
   | false => simp only [cond_false]
theorem pdF_mem : ∀ (n i : Nat) (x : Nat), x ∈ pdF hv xs i n → ∃ j, i ≤ j ∧ j < i + n ∧ hv.getD j 0 = 4 ∧ xs.getD j 0 = x
 | 0, _, _, h => by cases h
 | n + 1, i, x, h => by
  unfold pdF at h
  cases e4 : Nat.beq (hv.getD i 0) 4 with
  | true =>
   rw [e4] at h
   rcases List.mem_cons.1 h with h | h
   · exact ⟨i, by omega, by omega, Nat.eq_of_beq_eq_true e4, h.symm⟩
   · obtain ⟨j, h1, h2, h3⟩ := pdF_mem n (i + 1) x h
     exact ⟨j, by omega, by omega, h3⟩
  | false =>
   rw [e4] at h
   obtain ⟨j, h1, h2, h3⟩ := pdF_mem n (i + 1) x h
   exact ⟨j, by omega, by omega, h3⟩
end
structure Step4 (pf : Value → Mem → Prop) (P : Program) (tab : Tab) (ops : Array Oper) (N : Nat) (pd : List Nat) (c x : Nat) (o : Oper) (sl : Slots) (M : Mem) (r : AV) (M' : Mem) (fb : Blk) : Prop where
 dst : ∀ d, o.dst = some d → d < N
 go : ∃ b, Gd ops N sl o.guard b ∧ (b = true → c = 1 → ∀ β, opX pf P tab ⟨sl, ovP β pd M, N⟩ (fun a M2 => a = r ∧ M2 = ovP β pd M') o.op) ∧
  (b = true → c = 2 → M' = M ∧ ∀ β, opX pf P tab ⟨sl, ovP β pd M, N⟩ (fun a M2 => a = r ∧ M2 = ovP β pd M) o.op) ∧
  (c = 4 → b = true ∧ M' = M.put x fb ∧ r = .p x 0 0 1 ∧ ∃ T ti, o.op = .alloc T ∧ assoc tab T = some ti ∧ (ti.k.agg = true ∨ 0 < ti.sz) ∧ Cells (zeroAV ti) ∧ fb = ⟨T, (zeroAV ti).cells.length, [zeroAV ti]⟩) ∧
  (b = true → c = 5 → M' = M ∧ r = .s x 0 0 ∧ ∃ T tt e ti, o.op = .buildSlice T 0 #[] ∧ assoc tab T = some tt ∧ tt.k = .sl e ∧ assoc tab e = some ti) ∧
  (b = true → c ≠ 1 → c ≠ 2 → c ≠ 4 → c ≠ 5 → M' = M ∧ ∀ M0, opZ pf P tab ⟨sl, M0, N⟩ (fun a M2 => a = r ∧ M2 = M0) o.op) ∧ (b = false → r = .t [] ∧ M' = M)
def Trace4 (pf : Value → Mem → Prop) (P : Program) (tab : Tab) (ops : Array Oper) (N : Nat) (l : List Oper) (hv xs : List Nat) (sl : Slots) (M : Mem) (K : ASt → Prop) : Prop :=
 ∃ (slA : Nat → Slots) (mA : Nat → Mem) (rA : Nat → AV) (fb : Nat → Blk), slA 0 = sl ∧ mA 0 = M ∧
  (∀ i (h : i < l.length), Step4 pf P tab ops N (pdF hv xs (i + 1) (l.length - (i + 1))) (hv.getD i 0) (xs.getD i 0) l[i] (slA i) (mA i) (rA i) (mA (i + 1)) (fb i) ∧ slA (i + 1) = putO (slA i) l[i].dst (rA i)) ∧ K ⟨slA l.length, mA l.length, N⟩
def Dies4 (pf : Value → Mem → Prop) (P : Program) (tab : Tab) (N : Nat) (die : List Nat) (pd : List Nat) (c : Nat) (o : Oper) (sl : Slots) (M : Mem) : Prop :=
 (∃ e ∈ o.after, Region.binds .any e = true ∧ e.on ∈ die) ∨ (c = 2 ∧ o.guard = none ∧ ∀ β, opX pf P tab ⟨sl, ovP β pd M, N⟩ (fun _ _ => False) o.op)
def Trace4D (pf : Value → Mem → Prop) (P : Program) (tab : Tab) (ops : Array Oper) (N : Nat) (die : List Nat) (l : List Oper) (hv xs : List Nat) (sl : Slots) (M : Mem) (K : ASt → Prop) : Prop :=
 ∃ (slA : Nat → Slots) (mA : Nat → Mem) (rA : Nat → AV) (fb : Nat → Blk), slA 0 = sl ∧ mA 0 = M ∧
  (∀ i (h : i < l.length), ((i ∉ die → Step4 pf P tab ops N (pdF hv xs (i + 1) (l.length - (i + 1))) (hv.getD i 0) (xs.getD i 0) l[i] (slA i) (mA i) (rA i) (mA (i + 1)) (fb i)) ∧
   (i ∈ die → mA (i + 1) = mA i ∧ hv.getD i 0 ≠ 1 ∧ hv.getD i 0 ≠ 4 ∧ Dies4 pf P tab N die (pdF hv xs (i + 1) (l.length - (i + 1))) (hv.getD i 0) l[i] (slA i) (mA i))) ∧ slA (i + 1) = putO (slA i) l[i].dst (rA i)) ∧
  (∀ i ∈ die, i < l.length) ∧ (die = [] → K ⟨slA l.length, mA l.length, N⟩)
def mclash4 (c d : Nat) : Bool := mclash c d || (c == 4 && (d == 1 || d == 2))
def conf4 (ops : Array Oper) (hv xs : List Nat) (anc : List (List Nat)) : Bool :=
 (List.range ops.size).all fun j => (List.range j).all fun i => ((anc.getD j []).contains i || match ops[i]?, ops[j]? with
  | some x, some y => x.apart ops y && !(mclash4 (hv.getD i 0) (hv.getD j 0))
  | _, _ => false) && !(hv.getD i 0 == 4 && hv.getD j 0 == 4 && xs.getD i 0 == xs.getD j 0)
def idOk (n : Nat) (hv xs : List Nat) (k r : Nat) : Bool := (List.range n).all fun i => !(hv.getD i 0 == 4 || hv.getD i 0 == 5) || (Nat.ble k (xs.getD i 0) && Nat.blt (xs.getD i 0) (k + r))
def drawOk4 (ops : Array Oper) (hv xs : List Nat) (anc : List (List Nat)) : Bool := ancOk ops anc && conf4 ops hv xs anc
section
variable {P : Program} {tab : Tab} {ops : Array Oper} {hv xs : List Nat} {anc : List (List Nat)}
theorem conf4_spec (h : conf4 ops hv xs anc = true) {i j : Nat} {x y : Oper} (hij : i < j) (hx : ops[i]? = some x) (hy : ops[j]? = some y) :
 (i ∈ anc.getD j [] ∨ (x.apart ops y = true ∧ mclash4 (hv.getD i 0) (hv.getD j 0) = false)) ∧ (hv.getD i 0 = 4 → hv.getD j 0 = 4 → xs.getD i 0 ≠ xs.getD j 0) := by
 have hj : j < ops.size := (Array.getElem?_eq_some_iff.1 hy).1
 have := List.all_eq_true.1 (List.all_eq_true.1 h j (List.mem_range.2 hj)) i (List.mem_range.2 hij)
 simp only [hx, hy, Bool.or_eq_true, Bool.and_eq_true, List.contains_iff_mem, Bool.not_eq_true'] at this
 refine ⟨?_, fun h1 h2 h3 => ?_⟩
 · rcases this.1 with h | ⟨h1, h2⟩
   · exact .inl h
   · exact .inr ⟨h1, h2⟩
 · have := this.2
   rw [h1, h2, h3] at this
   simp at this
theorem draw_sound4D (die : List Nat) (hm : P.follows .mixedOrders = true) (hT : TabOk P tab) (hd : drawOk4 ops hv xs anc = true) {id : Nat} {KE : Exit → ASt → Prop} {s : ASt} (rs : List (TypeId × Nat)) (hids : idOk ops.size hv xs s.m.k rs.length = true)
 (h : Trace4D pf P tab ops s.N die ops.toList hv xs s.sl (resv s.m rs) (KE .normal)) : ACodeG pf P (.region id ops true) KE s := by
 intro hAcc ro w0 E00 D a0 hs
 obtain ⟨slA, mA, rA, fb, e1, e2, e3, e5, e4⟩ := h
 simp only [drawOk4, Bool.and_eq_true] at hd
 obtain ⟨ha, hcf⟩ := hd
 obtain ⟨g0, l0⟩ := hs.g.drawn (E00.w.drawn + 1)
 obtain ⟨E0, w1, w2, w3, w4, w5, w6⟩ := g0.resv rs
 have hlen : ops.toList.length = ops.size := by simp
 have hstep : ∀ i o, ops[i]? = some o → ((i ∉ die → Step4 pf P tab ops s.N (pdF hv xs (i + 1) (ops.size - (i + 1))) (hv.getD i 0) (xs.getD i 0) o (slA i) (mA i) (rA i) (mA (i + 1)) (fb i)) ∧ (i ∈ die → mA (i + 1) = mA i ∧ hv.getD i 0 ≠ 1 ∧ hv.getD i 0 ≠ 4 ∧ Dies4 pf P tab s.N die (pdF hv xs (i + 1) (ops.size - (i + 1))) (hv.getD i 0) o (slA i) (mA i))) ∧ slA (i + 1) = putO (slA i) o.dst (rA i) := fun i o ho => by
  obtain ⟨hi, rfl⟩ := Array.getElem?_eq_some_iff.1 ho
  have := e3 i (by rw [hlen]; exact hi)
  simpa using this
 let eb : Nat → Blk := fun i => ((resv s.m rs).get (xs.getD i 0)).getD default
 have hidr : ∀ i, i < ops.size → hv.getD i 0 = 4 ∨ hv.getD i 0 = 5 → E00.k ≤ xs.getD i 0 ∧ xs.getD i 0 < E00.k + rs.length := fun i hi hc => by
  have := List.all_eq_true.1 hids i (List.mem_range.2 hi)
  rw [hs.g.k] at this
  rcases hc with hc | hc <;> rw [hc] at this <;> simp at this <;> exact ⟨this.1, this.2⟩
 have heb : ∀ i, i < ops.size → hv.getD i 0 = 4 → ∃ T sz, eb i = ⟨T, sz, []⟩ ∧ (resv s.m rs).get (xs.getD i 0) = some (eb i) := fun i hi hc => by
  obtain ⟨h1, h2⟩ := hidr i hi (.inl hc)
  obtain ⟨⟨T, sz, h3⟩, _⟩ := w6 _ h1 h2
  exact ⟨T, sz, by simp only [eb, h3, Option.getD_some], by simp only [eb, h3, Option.getD_some]⟩
 have hlit : ∀ i, i < ops.size → hv.getD i 0 = 5 → ∀ A, Rep E0 (.s (xs.getD i 0) 0 0) (.slice A 0 0) := fun i hi hc A => by
  obtain ⟨h1, h2⟩ := hidr i hi (.inr hc)
  obtain ⟨_, sz, h3⟩ := w6 _ h1 h2
  refine .s _ _ _ _ _ (by rw [w4]; exact h2) fun q hq => ?_
  rw [h3] at hq
  cases hq
  exact ⟨Nat.le_refl _, fun _ => ⟨rfl, fun h => absurd h (by simp)⟩⟩
 -- what is written, by temporaries; what the memory is
 let dstA : Nat → Option Tmp := fun i => (ops[i]?).bind (·.dst)
 let wl : Nat → List (Bool × AV) := fun t => (List.range ops.size).map fun i => (dstA i == some t, rA i)
 let val : (Nat → Bool) → Nat → AV := fun S t => lastW (Slots.get s.sl t) (wl t) 0 S
 let mem : (Nat → Bool) → Mem := fun S => fol hv xs fb eb mA S 0 ops.size (resv s.m rs)
 have wlen : ∀ t, (wl t).length = ops.size := fun t => by simp [wl]
 have wget : ∀ t j (hj : j < (wl t).length), (wl t)[j] = (dstA j == some t, rA j) := fun t j hj => by simp [wl]
 have vcong : ∀ S S' t, (∀ j, j < ops.size → dstA j = some t → S j = S' j) → val S t = val S' t := fun S S' t hh =>
  lastW_congr _ _ 0 S S' fun j hj hf => by
   rw [wget] at hf
   rw [Nat.zero_add]
   exact hh j (by rw [← wlen t]; exact hj) (by simpa using hf)
 have mcong : ∀ S S', (∀ j, j < ops.size → hv.getD j 0 = 1 ∨ hv.getD j 0 = 4 → S j = S' j) → mem S = mem S' := fun S S' hh =>
  fol_congr S S' _ _ _ fun j _ hj => hh j (by omega)
 have vis : ∀ S t i, i < ops.size → dstA i = some t → S i = true → (∀ j, j < ops.size → i < j → dstA j = some t → S j = false) → val S t = rA i := fun S t i hi hdi hS hh => by
  have := lastW_is (wl t) (Slots.get s.sl t) 0 S i (by rw [wlen]; exact hi) (by rw [wget]; simpa using hdi) (by rw [Nat.zero_add]; exact hS) fun j hj hij hf => by
   rw [wget] at hf
   rw [Nat.zero_add]
   exact hh j (by rw [← wlen t]; exact hj) hij (by simpa using hf)
  rw [wget] at this
  exact this
 have canon : ∀ i, i ≤ ops.size → (∀ t, Slots.get (slA i) t = val (fun j => decide (j < i)) t) := by
  intro i
  induction i with
  | zero =>
   intro _ t
   rw [e1]; exact (lastW_none _ _ 0 _ fun j _ _ => by simp).symm
  | succ i ih =>
   intro hi t
   have ih1 := ih (by omega)
   have ho : ops[i]? = some ops[i] := Array.getElem?_eq_getElem (by omega)
   have hda : dstA i = ops[i].dst := by simp [dstA, ho]
   obtain ⟨k1, k2⟩ := hstep i _ ho
   rw [k2, get_putO]
   by_cases hdt : ops[i].dst = some t
   · rw [if_pos hdt]
     exact (vis _ t i (by omega) (by rw [hda]; exact hdt) (by simp) fun j hj hij _ => by simp; omega).symm
   · rw [if_neg hdt, ih1]
     refine vcong _ _ t fun j hj hdj => ?_
     have : j ≠ i := fun e => hdt (by rw [← hda, ← e]; exact hdj)
     exact decide_eq_decide.2 (by omega)
 -- all ahead is done: the memory is the walk's
 have pre : ∀ i, i ≤ ops.size → ∀ S : Nat → Bool, (∀ j, j < i → hv.getD j 0 = 1 ∨ hv.getD j 0 = 4 → S j = true) → fol hv xs fb eb mA S 0 i (resv s.m rs) = mA i := by
  intro i
  induction i with
  | zero => intro _ S _; exact e2.symm
  | succ i ih =>
   intro hi S hS
   rw [fol_split S i 0 1, ih (by omega) S fun j hj => hS j (by omega), Nat.zero_add]
   show stp hv xs fb eb mA S i (mA i) = mA (i + 1)
   have ho : ops[i]? = some ops[i] := Array.getElem?_eq_getElem (by omega)
   by_cases hdie : i ∈ die
   · obtain ⟨q1, q2, q3, _⟩ := (hstep i _ ho).1.2 hdie
     unfold stp
     rw [beq_ne q2, beq_ne q3, q1]
     rfl
   obtain ⟨b, _, _, k2, k4, k5, k0, kn⟩ := ((hstep i _ ho).1.1 hdie).go
   unfold stp
   cases c1 : Nat.beq (hv.getD i 0) 1 with
   | true => rw [hS i (by omega) (.inl (Nat.eq_of_beq_eq_true c1))]; rfl
   | false =>
    have n1 : hv.getD i 0 ≠ 1 := fun e => by rw [beq_of e] at c1; cases c1
    cases c4 : Nat.beq (hv.getD i 0) 4 with
    | true =>
     have h4 := Nat.eq_of_beq_eq_true c4
     rw [hS i (by omega) (.inr h4)]
     exact (k4 h4).2.1.symm
    | false =>
     have n4 : hv.getD i 0 ≠ 4 := fun e => by rw [beq_of e] at c4; cases c4
     simp only [cond_false]
     cases b with
     | false => exact (kn rfl).2.symm
     | true =>
      by_cases n2 : hv.getD i 0 = 2
      · exact (k2 rfl n2).1.symm
      · by_cases n5 : hv.getD i 0 = 5
        · exact (k5 rfl n5).1.symm
        · exact (k0 rfl n1 n2 n4 n5).1.symm
 have suf : ∀ i, i ≤ ops.size → ∀ S z, fol hv xs fb eb mA S 0 ops.size z = fol hv xs fb eb mA S i (ops.size - i) (fol hv xs fb eb mA S 0 i z) := fun i hi S z => by
  have := fol_split (hv := hv) (xs := xs) (fb := fb) (eb := eb) (mA := mA) S i 0 (ops.size - i) z
  rw [show i + (ops.size - i) = ops.size by omega, Nat.zero_add] at this
  exact this
 -- the orders
 let Q : Exit → Act → World → Prop := fun ex a' w' => ∃ E' s', E'.w = w' ∧ St w0 E' D s' a' ∧ Later E00 E' ∧ KE ex s'
 have hPan : ∀ {E : Env} {a : Act}, a.tmps.size = s.N → a.defers = D → Later E0 E → ∀ x w', PanOut pf w0 E x w' → Q (.panic [{ v := x, recovered := false }]) a w' := fun hn hd hl x w' hp => hp.code2 hn hd ((l0.trans w3).trans hl) hAcc
 let Inv : (Nat → Bool) → Act → World → Prop := fun S a w => ∃ E, E.w = w ∧ Good w0 E (mem S) ∧ (∀ t, Rep E (val S t) (a.tmps.getD t undef)) ∧ a.tmps.size = s.N ∧ a.defers = D ∧ Later E0 E ∧ ∀ j ∈ die, S j = false
 have hready : ∀ (listed : Array Bool), listed.size = ops.size → Region.ready .any ops listed = [] → ∀ i, i < ops.size → listed.getD i false = true := by
  intro listed hsz hr i
  induction i using Nat.strongRecOn with
  | _ i ih =>
   intro hi
   cases hl : listed.getD i false with
   | true => rfl
   | false =>
    have ho : ops[i]? = some ops[i] := Array.getElem?_eq_getElem hi
    have hmem : i ∈ Region.ready .any ops listed := mem_ready.2 ⟨by
     have : listed.getD i true = listed.getD i false := by simp [hsz, hi]
     rw [this]; exact hl, _, ho, fun e he hb => ih e.on ((anc_edges ha ho).1 e he hb) (by have := (anc_edges ha ho).1 e he hb; omega)⟩
    rw [hr] at hmem
    cases hmem
 have fin : ∀ (listed : Array Bool) (a : Act) (w : World), (∀ i, i < ops.size → listed.getD i false = true) → Inv (fun j => listed.getD j false) a w → Q .normal a w := by
  rintro listed a w hall ⟨E, rfl, g1, g2, g3, g4, g5, g6⟩
  have c1 := canon ops.size (Nat.le_refl _)
  rw [hlen] at e4
  have hd0 : die = [] := List.eq_nil_iff_forall_not_mem.2 fun j hj => by
   have h1 : listed.getD j false = false := g6 j hj
   rw [hall j (by have := e5 j hj; rw [hlen] at this; exact this)] at h1
   cases h1
  replace e4 := e4 hd0
  refine ⟨E, ⟨slA ops.size, mA ops.size, s.N⟩, rfl, ⟨?_, fun t => ?_, g3, g4⟩, (l0.trans w3).trans g5, e4⟩
  · rw [← pre ops.size (Nat.le_refl _) (fun j => listed.getD j false) fun j hj _ => hall j hj]
    exact g1
  · rw [c1, vcong _ (fun j => listed.getD j false) t fun j hj _ => by rw [hall j hj]; simp [hj]]
    exact g2 t
 have step : ∀ (listed : Array Bool) (a : Act) (w : World) (i : Nat) (K : Act → World → Prop), listed.size = ops.size → Closed ops (fun j => listed.getD j false) → Inv (fun j => listed.getD j false) a w →
  i ∈ Region.ready .any ops listed → (∀ a' w', Inv (fun j => (listed.setIfInBounds i true).getD j false) a' w' → K a' w') → wpOpIn (FF ro) 0 P ops Q i K a w := by
  rintro listed a w i K hsz hcl ⟨E, rfl, g1, g2, g3, g4, g5, g6⟩ hi hK
  obtain ⟨hun0, o, ho, hall⟩ := mem_ready.1 hi
  have hin : i < ops.size := (Array.getElem?_eq_some_iff.1 ho).1
  have hun : listed.getD i false = false := by
   have : listed.getD i true = listed.getD i false := by simp [hsz, hin]
   rw [← this]; exact hun0
  have hda : dstA i = o.dst := by simp [dstA, ho]
  have hanc := anc_closed ha hcl i ho hall
  have hS' : ∀ j, (listed.setIfInBounds i true).getD j false = if j = i then true else listed.getD j false := fun j => by
   by_cases e : j = i
   · subst e; simp [hsz, hin]
   · rw [if_neg e, getD_set_ne false (Ne.symm e)]
  -- nobody behind whom it matters to is done yet
  have hlate : ∀ j y, i < j → ops[j]? = some y → i ∈ anc.getD j [] → listed.getD j false = false := fun j y hij hy hja => by
   cases hl : listed.getD j false with
   | false => rfl
   | true =>
    have := anc_closed ha hcl j hy (hcl j y hy hl) i hja
    rw [hun] at this
    cases this
  have hread : ∀ t, t ∈ o.looksAt ops → val (fun j => listed.getD j false) t = Slots.get (slA i) t := fun t ht => by
   rw [canon i (by omega)]
   refine vcong _ _ t fun j hj hdj => ?_
   have hy : ops[j]? = some ops[j] := Array.getElem?_eq_getElem hj
   have hdj' : ops[j].dst = some t := by simpa [dstA, hy] using hdj
   rcases Nat.lt_trichotomy j i with h1 | h1 | h1
   · rcases (conf4_spec hcf h1 hy ho).1 with h2 | ⟨h2, _⟩
     · rw [hanc j h2]; simp [h1]
     · exact absurd ht ((Oper.apart_spec h2).1 t hdj')
   · subst h1; rw [hun]; simp
   · rcases (conf4_spec hcf h1 ho hy).1 with h2 | ⟨h2, _⟩
     · rw [hlate j _ h1 hy h2]; simp; omega
     · exact absurd ht ((Oper.apart_spec h2).2.2 t hdj')
  let βS : Nat → Blk := fun x => match (List.range ops.size).find? (fun j => hv.getD j 0 == 4 && xs.getD j 0 == x) with
   | some j => bif listed.getD j false then fb j else eb j
   | none => default
  have hβ : ∀ j, j < ops.size → hv.getD j 0 = 4 → βS (xs.getD j 0) = bif listed.getD j false then fb j else eb j := fun j hj hc => by
   simp only [βS]
   cases hf : (List.range ops.size).find? (fun j' => hv.getD j' 0 == 4 && xs.getD j' 0 == xs.getD j 0) with
   | none =>
    have := List.find?_eq_none.1 hf j (List.mem_range.2 hj)
    rw [hc] at this
    simp at this
   | some j' =>
    have h1 := List.find?_some hf
    have h2 := List.mem_range.1 (List.mem_of_find?_eq_some hf)
    simp only [Bool.and_eq_true, beq_iff_eq] at h1
    have hy : ops[j]? = some ops[j] := Array.getElem?_eq_getElem hj
    have hy' : ops[j']? = some ops[j'] := Array.getElem?_eq_getElem h2
    rcases Nat.lt_trichotomy j j' with h3 | h3 | h3
    · exact absurd h1.2.symm ((conf4_spec hcf h3 hy hy').2 hc h1.1)
    · rw [h3]
    · exact absurd h1.2 ((conf4_spec hcf h3 hy' hy).2 h1.1 hc)
  -- a step that looks at the memory: nothing of class 1 is done behind it, all ahead is
  have hmemr : (hv.getD i 0 = 1 ∨ hv.getD i 0 = 2) → mem (fun j => listed.getD j false) = ovP βS (pdF hv xs (i + 1) (ops.size - (i + 1))) (mA i) := fun hvi => by
   have hlook : ∀ j, j < i → hv.getD j 0 = 1 ∨ hv.getD j 0 = 4 → listed.getD j false = true := fun j hj hc => by
    have hy : ops[j]? = some ops[j] := Array.getElem?_eq_getElem (by omega)
    rcases (conf4_spec hcf hj hy ho).1 with h2 | ⟨_, h2⟩
    · exact hanc j h2
    · rcases hvi with hvi | hvi <;> rcases hc with hc | hc <;> rw [hc, hvi] at h2 <;> exact absurd h2 (by decide)
   have hnot : ∀ j, i < j → j < ops.size → hv.getD j 0 = 1 → listed.getD j false = false := fun j hij hj hc => by
    have hy : ops[j]? = some ops[j] := Array.getElem?_eq_getElem hj
    rcases (conf4_spec hcf hij ho hy).1 with h2 | ⟨_, h2⟩
    · exact hlate j _ hij hy h2
    · rcases hvi with hvi | hvi <;> rw [hc, hvi] at h2 <;> exact absurd h2 (by decide)
   simp only [mem]
   rw [suf i (by omega), pre i (by omega) _ hlook]
   obtain ⟨n, hn⟩ : ∃ n, ops.size - i = n + 1 := ⟨ops.size - i - 1, by omega⟩
   rw [hn, fol]
   have hstp : stp hv xs fb eb mA (fun j => listed.getD j false) i (mA i) = mA i := by
    unfold stp
    simp only [hun]
    rcases hvi with hvi | hvi <;> rw [hvi] <;> rfl
   rw [hstp, show ops.size - (i + 1) = n by omega]
   exact fol_ov _ n (i + 1) _ (fun j h1 h2 h3 => hnot j (by omega) (by omega) h3) fun j h1 h2 h3 => hβ j (by omega) h3
  have hval' : ∀ t, val (fun j => (listed.setIfInBounds i true).getD j false) t = if o.dst = some t then rA i else val (fun j => listed.getD j false) t := fun t => by
   by_cases hdt : o.dst = some t
   · rw [if_pos hdt]
     refine vis _ t i hin (by rw [hda]; exact hdt) (by rw [hS', if_pos rfl]) fun j hj hij hdj => ?_
     rw [hS', if_neg (by omega)]
     have hy : ops[j]? = some ops[j] := Array.getElem?_eq_getElem hj
     have hdj' : ops[j].dst = some t := by simpa [dstA, hy] using hdj
     rcases (conf4_spec hcf hij ho hy).1 with h2 | ⟨h2, _⟩
     · exact hlate j _ hij hy h2
     · exact absurd hdj' ((Oper.apart_spec h2).2.1 t hdt)
   · rw [if_neg hdt]
     refine vcong _ _ t fun j hj hdj => ?_
     have : j ≠ i := fun e => hdt (by rw [← hda, ← e]; exact hdj)
     rw [hS', if_neg this]
  have hmem1 : hv.getD i 0 = 1 → mem (fun j => (listed.setIfInBounds i true).getD j false) = ovP βS (pdF hv xs (i + 1) (ops.size - (i + 1))) (mA (i + 1)) := fun hvi => by
   have hlook : ∀ j, j < i + 1 → hv.getD j 0 = 1 ∨ hv.getD j 0 = 4 → (listed.setIfInBounds i true).getD j false = true := fun j hj hc => by
    rw [hS']
    split
    · rfl
    · rename_i hne
      have hy : ops[j]? = some ops[j] := Array.getElem?_eq_getElem (by omega)
      rcases (conf4_spec hcf (show j < i by omega) hy ho).1 with h2 | ⟨_, h2⟩
      · exact hanc j h2
      · rcases hc with hc | hc <;> rw [hc, hvi] at h2 <;> exact absurd h2 (by decide)
   simp only [mem]
   rw [suf (i + 1) (by omega), pre (i + 1) (by omega) _ hlook]
   refine fol_ov _ _ (i + 1) _ (fun j h1 h2 h3 => ?_) fun j h1 h2 h3 => ?_
   · rw [hS', if_neg (by omega)]
     have hy : ops[j]? = some ops[j] := Array.getElem?_eq_getElem (by omega)
     rcases (conf4_spec hcf (show i < j by omega) ho hy).1 with h2 | ⟨_, h2⟩
     · exact hlate j _ (by omega) hy h2
     · rw [h3, hvi] at h2; exact absurd h2 (by decide)
   · rw [hβ j (by omega) h3, hS', if_neg (by omega)]
  have hmemn : hv.getD i 0 ≠ 1 → hv.getD i 0 ≠ 4 → mem (fun j => (listed.setIfInBounds i true).getD j false) = mem (fun j => listed.getD j false) := fun h1 h4 => by
   refine mcong _ _ fun j hj hvj => ?_
   have : j ≠ i := fun e => by rw [e] at hvj; rcases hvj with h | h <;> contradiction
   rw [hS', if_neg this]
  -- a variable comes to be
  have hmem4 : hv.getD i 0 = 4 → (mem (fun j => listed.getD j false)).get (xs.getD i 0) = some (eb i) ∧ (mem (fun j => (listed.setIfInBounds i true).getD j false)).k = (mem (fun j => listed.getD j false)).k ∧
   ∀ x, (mem (fun j => (listed.setIfInBounds i true).getD j false)).get x = ((mem (fun j => listed.getD j false)).put (xs.getD i 0) (fb i)).get x := fun hvi => by
   have hnot : ∀ j, i < j → j < ops.size → hv.getD j 0 = 1 → listed.getD j false = false := fun j hij hj hc => by
    have hy : ops[j]? = some ops[j] := Array.getElem?_eq_getElem hj
    rcases (conf4_spec hcf hij ho hy).1 with h2 | ⟨_, h2⟩
    · exact hlate j _ hij hy h2
    · rw [hc, hvi] at h2; exact absurd h2 (by decide)
   have hb : Nat.beq (hv.getD i 0) 1 = false := by rw [hvi]; rfl
   have hb4 : Nat.beq (hv.getD i 0) 4 = true := beq_of hvi
   obtain ⟨n, hn⟩ : ∃ n, ops.size - i = n + 1 := ⟨ops.size - i - 1, by omega⟩
   have z0 : fol hv xs fb eb mA (fun j => (listed.setIfInBounds i true).getD j false) 0 i (resv s.m rs) = fol hv xs fb eb mA (fun j => listed.getD j false) 0 i (resv s.m rs) :=
    fol_congr _ _ _ _ _ fun j _ hj _ => by rw [hS', if_neg (by omega)]
   generalize hz : fol hv xs fb eb mA (fun j => listed.getD j false) 0 i (resv s.m rs) = z at z0
   have m1 : mem (fun j => listed.getD j false) = ovP βS (pdF hv xs (i + 1) n) (z.put (xs.getD i 0) (eb i)) := by
    simp only [mem]
    rw [suf i (by omega), hz, hn, fol]
    have : stp hv xs fb eb mA (fun j => listed.getD j false) i z = z.put (xs.getD i 0) (eb i) := by
     unfold stp
     simp only [hb, hb4, hun, cond_true, cond_false]
    rw [this]
    exact fol_ov _ n (i + 1) _ (fun j h1 h2 h3 => hnot j (by omega) (by omega) h3) fun j h1 h2 h3 => hβ j (by omega) h3
   have m2 : mem (fun j => (listed.setIfInBounds i true).getD j false) = ovP βS (pdF hv xs (i + 1) n) (z.put (xs.getD i 0) (fb i)) := by
    simp only [mem]
    rw [suf i (by omega), z0, hn, fol]
    have : stp hv xs fb eb mA (fun j => (listed.setIfInBounds i true).getD j false) i z = z.put (xs.getD i 0) (fb i) := by
     unfold stp
     simp only [hb, hb4, hS', if_true, cond_true, cond_false]
    rw [this]
    refine fol_ov _ n (i + 1) _ (fun j h1 h2 h3 => ?_) fun j h1 h2 h3 => ?_
    · rw [hS', if_neg (by omega)]; exact hnot j (by omega) (by omega) h3
    · rw [hβ j (by omega) h3, hS', if_neg (by omega)]
   have hnin : xs.getD i 0 ∉ pdF hv xs (i + 1) n := fun hmem => by
    obtain ⟨j, h1, h2, h3, h4⟩ := pdF_mem n (i + 1) _ hmem
    have hy : ops[j]? = some ops[j] := Array.getElem?_eq_getElem (by omega)
    exact (conf4_spec hcf (show i < j by omega) ho hy).2 hvi h3 h4.symm
   refine ⟨?_, ?_, fun x => ?_⟩
   · rw [m1, ovP_other _ _ _ hnin, get_put', if_pos rfl]
   · rw [m1, m2, ovP_k, ovP_k]; rfl
   · rw [get_put', m2]
     split
     · rename_i e
       rw [← e, ovP_other _ _ _ hnin, get_put', if_pos rfl]
     · rename_i e
       rw [m1]
       exact ovP_get _ _ _ x (by rw [get_put', get_put', if_neg e, if_neg e])
  by_cases hdie : i ∈ die
  · obtain ⟨_, _, _, hdd⟩ := (hstep i o ho).1.2 hdie
    rcases hdd with ⟨e, he, hb, hon⟩ | ⟨hv2, hgn, hop⟩
    · have h1 := hall e he hb
      have h2 : listed.getD e.on false = false := g6 _ hon
      rw [h2] at h1
      cases h1
    · have hw : Region.wanted o (yielded ops a.tmps) = true := by simp [Region.wanted, hgn]
      unfold wpOpIn
      simp only [ho]
      rw [if_pos hw]
      let ts : List Nat := o.op.operands.toList.filterMap fun | .tmp t => some t | _ => none
      have hts : ∀ t, t ∈ ts → t ∈ o.looksAt ops := fun t ht => List.mem_append_left _ ht
      let L := lkL (val (fun j => listed.getD j false)) ts
      have hevs : ∀ z, z ∈ o.op.operands → ev (slA i) z = ev L z := fun z hz => by
       cases z with
       | tmp t =>
        have ht : t ∈ ts := List.mem_filterMap.2 ⟨.tmp t, by simpa using hz, rfl⟩
        show Slots.get (slA i) t = Slots.get L t
        rw [get_lkL, if_pos ht, hread t (hts t ht)]
       | _ => rfl
      have hst : ∀ M, Good w0 E M → St w0 E D ⟨L, M, s.N⟩ a := fun M hM => ⟨hM, fun t => by
       show Rep E (Slots.get L t) _
       rw [get_lkL]
       split
       · exact g2 t
       · exact .x _, g3, g4⟩
      have hop := hop βS
      rw [opX_ev (pf := pf) (N' := s.N) hevs, ← hmemr (.inr hv2)] at hop
      refine wpIn_of_wp (fun c e => by rw [e] at hop; exact hop) ?_
      exact opX_upon hT (hst _ g1) hop (fun v E' M' x' k1 k2 k3 k4 => k4.elim) (hPan g3 g4 g5)
  obtain ⟨hdst, b, hgd, hheavy, hlook, hmake, hlit5, hfree, hskip⟩ := (hstep i o ho).1.1 hdie
  have hnext : ∀ v E' M', Good w0 E' M' → Later E E' → Rep E' (rA i) v → M' = mem (fun j => (listed.setIfInBounds i true).getD j false) → K (a.put o.dst v) E'.w := fun v E' M' k1 k2 k3 k4 => by
   refine hK _ _ ⟨E', rfl, k4 ▸ k1, fun t => ?_, ?_, ?_, g5.trans k2, fun j hj => by show (listed.setIfInBounds i true).getD j false = false; rw [hS', if_neg (fun e : j = i => hdie (e ▸ hj))]; exact g6 j hj⟩
   · rw [hval']
     cases hdo : o.dst with
     | none => simp only [Act.put, reduceCtorEq, if_false]; exact (g2 t).later k2
     | some d =>
      have hds : d < a.tmps.size := by rw [g3]; exact hdst d hdo
      by_cases hdt : d = t
      · subst hdt
        simp only [Act.put, if_true]
        have : (a.tmps.setIfInBounds d v).getD d undef = v := by simp [hds]
        rw [this]; exact k3
      · rw [if_neg (by simpa using hdt)]
        have : ((a.put (some d) v).tmps).getD t undef = a.tmps.getD t undef := by simp [Act.put, Array.getElem?_setIfInBounds_ne hdt]
        rw [this]; exact (g2 t).later k2
   · cases o.dst <;> simp [Act.put, g3]
   · cases o.dst <;> exact g4
  have hw : Region.wanted o (yielded ops a.tmps) = b := by
   unfold Region.wanted
   cases hgo : o.guard with
   | none => rw [hgo] at hgd; exact (show b = true from hgd).symm
   | some q =>
    obtain ⟨j, w⟩ := q
    rw [hgo] at hgd
    obtain ⟨d, c, h1, h2, h3, h4⟩ := hgd
    have hdl : d ∈ o.looksAt ops := List.mem_append_right _ (by simp [hgo, h1])
    have hv := g2 d
    rw [hread d hdl] at hv
    have hds : d < a.tmps.size := by rw [g3]; exact h2
    have : a.tmps.getD d undef = a.tmps[d] := by simp [Array.getD, hds]
    rw [this] at hv
    have hy : (yielded ops a.tmps j == some w) = c := by
     unfold yielded
     rw [h1]
     simp only [Option.bind_some, Array.getElem?_eq_getElem hds]
     have := gv_wanted hv h3
     generalize a.tmps[d] = v at this ⊢
     cases v <;> exact this
    rw [h4]; exact hy
  unfold wpOpIn
  simp only [ho]
  rw [hw]
  cases b with
  | false =>
   obtain ⟨k1, k2⟩ := hskip rfl
   simp only [Bool.false_eq_true, if_false]
   refine ⟨fun _ _ => trivial, ?_⟩
   have n4 : hv.getD i 0 ≠ 4 := fun h4 => by cases (hmake h4).1
   refine hnext undef E _ g1 (.refl E) (by rw [k1]; exact rep_undef) ?_
   by_cases hvi : hv.getD i 0 = 1
   · rw [hmem1 hvi, hmemr (.inl hvi), k2]
   · rw [hmemn hvi n4]
  | true =>
   simp only [if_true]
   let ts : List Nat := o.op.operands.toList.filterMap fun | .tmp t => some t | _ => none
   have hts : ∀ t, t ∈ ts → t ∈ o.looksAt ops := fun t ht => List.mem_append_left _ ht
   let L := lkL (val (fun j => listed.getD j false)) ts
   have hevs : ∀ z, z ∈ o.op.operands → ev (slA i) z = ev L z := fun z hz => by
    cases z with
    | tmp t =>
     have ht : t ∈ ts := List.mem_filterMap.2 ⟨.tmp t, by simpa using hz, rfl⟩
     show Slots.get (slA i) t = Slots.get L t
     rw [get_lkL, if_pos ht, hread t (hts t ht)]
    | _ => rfl
   have hst : ∀ M, Good w0 E M → St w0 E D ⟨L, M, s.N⟩ a := fun M hM => ⟨hM, fun t => by
    show Rep E (Slots.get L t) _
    rw [get_lkL]
    split
    · exact g2 t
    · exact .x _, g3, g4⟩
   by_cases hvi : hv.getD i 0 = 1
   · have hop := hheavy rfl hvi βS
     rw [opX_ev (N' := s.N) hevs, ← hmemr (.inl hvi)] at hop
     refine wpIn_of_wp (fun c e => by rw [e] at hop; exact hop) ?_
     exact opX_upon hT (hst _ g1) hop (fun v E' M' x' k1 k2 k3 k4 => hnext v E' M' k1 k2 (k4.1 ▸ k3) (by rw [hmem1 hvi]; exact k4.2)) (hPan g3 g4 g5)
   · by_cases hv2 : hv.getD i 0 = 2
     · have hop := (hlook rfl hv2).2 βS
       rw [opX_ev (N' := s.N) hevs, ← hmemr (.inr hv2)] at hop
       refine wpIn_of_wp (fun c e => by rw [e] at hop; exact hop) ?_
       exact opX_upon hT (hst _ g1) hop (fun v E' M' x' k1 k2 k3 k4 => hnext v E' M' k1 k2 (k4.1 ▸ k3) (by rw [hmemn hvi (by rw [hv2]; decide)]; exact k4.2)) (hPan g3 g4 g5)
     · by_cases hv4 : hv.getD i 0 = 4
       · obtain ⟨_, kM, kr, T, ti, kop, kt, kc, kcc, kfb⟩ := hmake hv4
         obtain ⟨m1, m2, m3⟩ := hmem4 hv4
         obtain ⟨T0, sz0, hb0, _⟩ := heb i hin hv4
         rw [hb0] at m1
         refine wpIn_of_wp (fun c e => by rw [kop] at e; cases e) ?_
         obtain ⟨v, E', M', x', r1, r2, r3, r4, r5, r6⟩ := alloc_at (P := P) g1 (hT _ _ kt) kc kcc m1
         unfold Oper.wp
         obtain ⟨odst, oop, otype, opos, oafter, oguard⟩ := o
         simp only at kop
         subst kop
         have hrun : (execOp a.eval ⟨odst, .alloc T, otype, opos, oafter, oguard⟩).run P E.w = .ok (.value v) E'.w := by
          simp only [execOp, Sem.run_bind, r1, Result.andThen, Sem.run_pure]
         rw [hrun]
         simp only [Oper.upon]
         rw [← kfb] at r6
         exact hnext v E' _ (r2.ext (by rw [m2, r6]; rfl) fun x => by rw [m3, r6]) r3 (by rw [kr, ← r5]; exact r4) rfl
       · by_cases hv5 : hv.getD i 0 = 5
         · obtain ⟨kM, kr, T, tt, e, ti, kop, k1, k2, k3⟩ := hlit5 rfl hv5
           have hS := (hT _ _ k1).k
           rw [k2] at hS
           obtain ⟨A, w', r1, r2, r3⟩ := empty_at (P := P) g1 hS (hT _ _ k3)
           refine wpIn_of_wp (fun c e => by rw [kop] at e; cases e) ?_
           unfold Oper.wp
           obtain ⟨odst, oop, otype, opos, oafter, oguard⟩ := o
           simp only at kop
           subst kop
           have hrun : (execOp a.eval ⟨odst, .buildSlice T 0 #[], otype, opos, oafter, oguard⟩).run P E.w = .ok (.value (.slice A 0 0)) w' := by
            have : ((#[] : Array (Nat × Operand)).map fun (i, x) => (i, a.eval x)) = #[] := by simp
            simp only [execOp, Sem.run_bind, this, r1, Result.andThen, Sem.run_pure]
           rw [hrun]
           simp only [Oper.upon]
           exact hnext (.slice A 0 0) ⟨w', E.ad, E.k, E.hid⟩ _ r2 r3 (by rw [kr]; exact (hlit i hin hv5 A).later (g5.trans r3)) (hmemn hvi hv4).symm
         · have hop := (hfree rfl hvi hv2 hv4 hv5).2 (mem (fun j => listed.getD j false))
           rw [opZ_ev (N' := s.N) hevs] at hop
           refine wpIn_of_wp (fun c e => by rw [e] at hop; exact hop) ?_
           exact opZ_upon hT (hst _ g1) hop (fun v E' M' x' k1 k2 k3 k4 => hnext v E' M' k1 k2 (k4.1 ▸ k3) (by rw [hmemn hvi hv4]; exact k4.2)) (hPan g3 g4 g5)
 have main : ∀ (fuel : Nat) (listed : Array Bool) (a : Act) (w : World), listed.size = ops.size → Closed ops (fun j => listed.getD j false) → ((List.range ops.size).filter fun j => !listed.getD j false).length ≤ fuel →
  Inv (fun j => listed.getD j false) a w → wpAnyIn (FF ro) 0 P .any ops Q fuel listed a w := by
  intro fuel
  induction fuel with
  | zero =>
   intro listed a w hsz hcl hcnt hinv
   have hnil : (List.range ops.size).filter (fun j => !listed.getD j false) = [] := List.eq_nil_of_length_eq_zero (by omega)
   have hall : ∀ i, i < ops.size → listed.getD i false = true := fun i hi => by
    have := List.filter_eq_nil_iff.1 hnil i (List.mem_range.2 hi)
    simpa using this
   refine ⟨?_, fin listed a w hall hinv⟩
   refine List.eq_nil_iff_forall_not_mem.2 fun i hi => ?_
   obtain ⟨h1, o, ho, _⟩ := mem_ready.1 hi
   have hin : i < ops.size := (Array.getElem?_eq_some_iff.1 ho).1
   have h2 := hall i hin
   have : listed.getD i true = listed.getD i false := by simp [hsz, hin]
   rw [this, h2] at h1
   cases h1
  | succ fuel ih =>
   intro listed a w hsz hcl hcnt hinv
   refine ⟨fun hr => fin listed a w (hready listed hsz hr) hinv, fun i hi => step listed a w i _ hsz hcl hinv hi fun a' w' hinv' => ?_⟩
   obtain ⟨h1, o, ho, hall⟩ := mem_ready.1 hi
   have hin : i < ops.size := (Array.getElem?_eq_some_iff.1 ho).1
   have hun : listed.getD i false = false := by
    have : listed.getD i true = listed.getD i false := by simp [hsz, hin]
    rw [← this]; exact h1
   have hS' : ∀ j, (listed.setIfInBounds i true).getD j false = if j = i then true else listed.getD j false := fun j => by
    by_cases e : j = i
    · subst e; simp [hsz, hin]
    · rw [if_neg e, getD_set_ne false (Ne.symm e)]
   refine ih _ a' w' (by simp [hsz]) (fun j y hy hj e he hb => ?_) ?_ hinv'
   · simp only [hS'] at hj ⊢
     by_cases hji : j = i
     · subst hji
       rw [ho] at hy; cases hy
       split
       · rfl
       · exact hall e he hb
     · rw [if_neg hji] at hj
       split
       · rfl
       · exact hcl j y hy hj e he hb
   · have hlt : ((List.range ops.size).filter fun j => !(listed.setIfInBounds i true).getD j false).length < ((List.range ops.size).filter fun j => !listed.getD j false).length :=
      filter_lt _ (fun j _ hj => by
       simp only [hS'] at hj
       split at hj
       · simp at hj
       · exact hj) i (List.mem_range.2 hin) (by simp only [hun]; rfl) (by simp only [hS']; simp)
     omega
 refine wpIn_region_any hm (main ops.size _ a0 _ (by simp) (fun j y _ hj => ?_) ?_ ?_)
 · by_cases h : j < ops.size <;> simp [h] at hj
 · refine Nat.le_trans (List.length_filter_le _ _) (by simp)
 · have h0 : ∀ j, (Array.replicate ops.size false).getD j false = false := fun j => by
    by_cases h : j < ops.size <;> simp [h]
   refine ⟨E0, w1, ?_, fun t => ?_, hs.n, hs.d, .refl E0, fun j _ => h0 j⟩
   · refine w2.ext ?_ fun x => ?_
     · simp only [mem]
       rw [fol_ov (β := fun x => ((resv s.m rs).get x).getD default) _ _ _ _ (fun j _ _ _ => h0 j) fun j _ _ _ => by rw [h0]; rfl, ovP_k]
     · simp only [mem]
       rw [fol_ov (β := fun x => ((resv s.m rs).get x).getD default) _ _ _ _ (fun j _ _ _ => h0 j) fun j _ _ _ => by rw [h0]; rfl]
       have hall : ∀ x ∈ pdF hv xs 0 ops.size, ∃ b, (resv s.m rs).get x = some b := fun x hx => by
        obtain ⟨j, _, h2, h3, h4⟩ := pdF_mem _ _ _ hx
        obtain ⟨T, sz, _, h5⟩ := heb j (by omega) h3
        exact ⟨_, by rw [← h4]; exact h5⟩
       generalize pdF hv xs 0 ops.size = l at hall
       have : ∀ (l : List Nat) (M : Mem), (∀ y, M.get y = (resv s.m rs).get y) → (∀ x ∈ l, ∃ b, (resv s.m rs).get x = some b) → (ovP (fun x => ((resv s.m rs).get x).getD default) l M).get x = (resv s.m rs).get x := by
        intro l
        induction l with
        | nil => intro M hM _; exact hM x
        | cons y l ih =>
         intro M hM hl
         refine ih _ (fun z => ?_) fun z hz => hl z (List.mem_cons_of_mem _ hz)
         rw [get_put']
         split
         · rename_i e
           obtain ⟨b, hb⟩ := hl y (List.mem_cons_self ..)
           subst e
           simp only [hb, Option.getD_some]
         · exact hM z
       exact this l _ (fun _ => rfl) hall
   · have : val (fun j => (Array.replicate ops.size false).getD j false) t = Slots.get s.sl t := lastW_none _ _ 0 _ fun j _ _ => h0 _
     rw [this]; exact (hs.r t).later (l0.trans w3)
theorem draw_sound4 (hm : P.follows .mixedOrders = true) (hT : TabOk P tab) (hd : drawOk4 ops hv xs anc = true) {id : Nat} {KE : Exit → ASt → Prop} {s : ASt} (rs : List (TypeId × Nat)) (hids : idOk ops.size hv xs s.m.k rs.length = true)
 (h : Trace4 pf P tab ops s.N ops.toList hv xs s.sl (resv s.m rs) (KE .normal)) : ACodeG pf P (.region id ops true) KE s := by
 obtain ⟨slA, mA, rA, fb, e1, e2, e3, e4⟩ := h
 exact draw_sound4D [] hm hT hd rs hids ⟨slA, mA, rA, fb, e1, e2, fun i hi => ⟨⟨fun _ => (e3 i hi).1, fun h => by cases h⟩, (e3 i hi).2⟩, (fun i hi => by cases hi), fun _ => e4⟩
end
end Go.Ab
namespace Go.Ab
open Go Go.RowKit
variable {pf : Value → Mem → Prop}
def pdOf : List Nat → List Nat → List Nat
 | c :: cs, x :: xs => bif Nat.beq c 4 then x :: pdOf cs xs else pdOf cs xs
 | _, _ => []
theorem pdF_cons {c x : Nat} {hv xs : List Nat} : ∀ (n i : Nat), pdF (c :: hv) (x :: xs) (i + 1) n = pdF hv xs i n
 | 0, _ => rfl
 | n + 1, i => by rw [pdF, pdF, pdF_cons n (i + 1)]; rfl
theorem pdF_of : ∀ {hv xs : List Nat}, hv.length = xs.length → pdF hv xs 0 hv.length = pdOf hv xs
 | [], [], _ => rfl
 | c :: hv, x :: xs, h => by
  rw [List.length_cons, pdF, pdOf, pdF_cons, pdF_of (by simpa using h)]; rfl
 | [], _ :: _, h => by cases h
 | _ :: _, [], h => by cases h
def make4 (P : Program) (tab : Tab) (x : Nat) (K : ASt → Prop) (dst : Option Tmp) (s : ASt) : Op → Prop
 | .alloc T => tiK tab T fun ti => (ti.k.agg = true ∨ 0 < ti.sz) ∧ Cells (zeroAV ti) ∧ setK s K dst (.p x 0 0 1) (s.m.put x ⟨T, (zeroAV ti).cells.length, [zeroAV ti]⟩)
 | _ => False
def make5 (P : Program) (tab : Tab) (x : Nat) (K : ASt → Prop) (dst : Option Tmp) (s : ASt) : Op → Prop
 | .buildSlice T n ps => n = 0 ∧ ps.toList = [] ∧ tiK tab T fun tt => slK tt.k fun e => tiK tab e fun _ => setK s K dst (.s x 0 0) s.m
 | _ => False
def look4 (pf : Value → Mem → Prop) (P : Program) (tab : Tab) (pd : List Nat) : Nat → (ASt → Prop) → Option Tmp → Op → ASt → Prop
 | 1, K, dst, op, s => ∃ r M', (∀ β, opX pf P tab ⟨s.sl, ovP β pd s.m, s.N⟩ (fun a M2 => a = r ∧ M2 = ovP β pd M') op) ∧ setK s K dst r M'
 | 2, K, dst, op, s => ∃ r, (∀ β, opX pf P tab ⟨s.sl, ovP β pd s.m, s.N⟩ (fun a M2 => a = r ∧ M2 = ovP β pd s.m) op) ∧ setK s K dst r s.m
 | c, K, dst, op, s => stepS pf P tab c K dst op s
def stepS4 (pf : Value → Mem → Prop) (P : Program) (tab : Tab) (pd : List Nat) (c x : Nat) (K : ASt → Prop) (dst : Option Tmp) (op : Op) (s : ASt) : Prop :=
 match c with
 | 4 => make4 P tab x K dst s op
 | 5 => make5 P tab x K dst s op
 | c => match pd with
  | [] => stepS pf P tab c K dst op s
  | p :: pd => look4 pf P tab (p :: pd) c K dst op s
def drS4 (pf : Value → Mem → Prop) (P : Program) (tab : Tab) (ops : Array Oper) : List Oper → List Nat → List Nat → (ASt → Prop) → ASt → Prop
 | [], [], [], K, s => K s
 | o :: l, c :: cs, x :: xs, K, s => guardK ops s o.guard (stepS4 pf P tab (pdOf cs xs) c x (drS4 pf P tab ops l cs xs K) o.dst o.op s) (c ≠ 4 ∧ setK s (drS4 pf P tab ops l cs xs K) o.dst (.t []) s.m) ∧ (o.guard = none ∨ c ≠ 4)
 | _, _, _, _, _ => False
theorem Trace4.cons {P : Program} {tab : Tab} {ops : Array Oper} {N : Nat} {o : Oper} {l : List Oper} {c x : Nat} {hv xs : List Nat} {sl : Slots} {M M' : Mem} {r : AV} {fb : Blk} {K : ASt → Prop} {pd : List Nat}
 (hp : pd = pdF hv xs 0 l.length) (h1 : Step4 pf P tab ops N pd c x o sl M r M' fb) (h2 : Trace4 pf P tab ops N l hv xs (putO sl o.dst r) M' K) : Trace4 pf P tab ops N (o :: l) (c :: hv) (x :: xs) sl M K := by
 obtain ⟨slA, mA, rA, fA, e1, e2, e3, e4⟩ := h2
 refine ⟨fun i => i.casesOn sl slA, fun i => i.casesOn M mA, fun i => i.casesOn r rA, fun i => i.casesOn fb fA, rfl, rfl, fun i hi => ?_, e4⟩
 cases i with
 | zero =>
  simp only [List.getD_cons_zero, List.getElem_cons_zero]
  refine ⟨?_, e1⟩
  rw [List.length_cons, show l.length + 1 - (0 + 1) = l.length by omega, pdF_cons, ← hp]
  show Step4 pf P tab ops N pd c x o sl M r (mA 0) fb
  rw [e2]; exact h1
 | succ i =>
  have := e3 i (by simpa using hi)
  rw [pdF_cons, List.length_cons, show l.length + 1 - (i + 1 + 1) = l.length - (i + 1) by omega]
  exact this
theorem look4_else {P : Program} {tab : Tab} {pd : List Nat} {c : Nat} {K : ASt → Prop} {dst : Option Tmp} {op : Op} {s : ASt} (h1 : c ≠ 1) (h2 : c ≠ 2) : look4 pf P tab pd c K dst op s ↔ stepS pf P tab c K dst op s := by
 unfold look4
 split
 · exact absurd rfl h1
 · exact absurd rfl h2
 · exact .rfl
theorem step_look {P : Program} {tab : Tab} {ops : Array Oper} {N : Nat} {o : Oper} {pd : List Nat} {c x : Nat} {sl : Slots} {m : Mem} {K : ASt → Prop} (n4 : c ≠ 4) (n5 : c ≠ 5) (h : match pd with
 | [] => stepS pf P tab c K o.dst o.op ⟨sl, m, N⟩
 | p :: pd => look4 pf P tab (p :: pd) c K o.dst o.op ⟨sl, m, N⟩) (hg : Gd ops N sl o.guard true) :
 ∃ r M' fb, Step4 pf P tab ops N pd c x o sl m r M' fb ∧ K ⟨putO sl o.dst r, M', N⟩ := by
 have zero : c ≠ 1 → c ≠ 2 → stepS pf P tab c K o.dst o.op ⟨sl, m, N⟩ → ∃ r M' fb, Step4 pf P tab ops N pd c x o sl m r M' fb ∧ K ⟨putO sl o.dst r, M', N⟩ := fun n1 n2 h => by
  have h : ∃ r, setK ⟨sl, m, N⟩ K o.dst r m ∧ ∀ M0, opZ pf P tab ⟨sl, M0, N⟩ (fun a M2 => a = r ∧ M2 = M0) o.op := by
   by_cases n3 : c = 3
   · subst n3
     obtain ⟨r, h1, h2⟩ := h
     exact ⟨r, h2, h1⟩
   · rw [stepS_else n1 n2 n3] at h
     exact stepZ_pin h
  obtain ⟨r, h2, h3⟩ := h
  obtain ⟨k1, k2⟩ := setK_dst h2
  exact ⟨r, m, default, ⟨k1, true, hg, (fun _ h => absurd h n1), (fun _ h => absurd h n2), (fun h => absurd h n4), (fun _ h => absurd h n5), (fun _ _ _ _ _ => ⟨rfl, h3⟩), (fun h => by cases h)⟩, k2⟩
 by_cases n1 : c = 1
 · subst n1
   have h : ∃ r M', (∀ β, opX pf P tab ⟨sl, ovP β pd m, N⟩ (fun a M2 => a = r ∧ M2 = ovP β pd M') o.op) ∧ setK ⟨sl, m, N⟩ K o.dst r M' := by
    cases pd with
    | nil => obtain ⟨r, M', h1, h2⟩ := h; exact ⟨r, M', fun _ => h1, h2⟩
    | cons p pd => exact h
   obtain ⟨r, M', h1, h2⟩ := h
   obtain ⟨k1, k2⟩ := setK_dst h2
   exact ⟨r, M', default, ⟨k1, true, hg, fun _ _ => h1, (fun _ h => by cases h), (fun h => by cases h), (fun _ h => by cases h), (fun _ h => absurd rfl h), (fun h => by cases h)⟩, k2⟩
 · by_cases n2 : c = 2
   · subst n2
     have h : ∃ r, (∀ β, opX pf P tab ⟨sl, ovP β pd m, N⟩ (fun a M2 => a = r ∧ M2 = ovP β pd m) o.op) ∧ setK ⟨sl, m, N⟩ K o.dst r m := by
      cases pd with
      | nil =>
       obtain ⟨h0, h1⟩ := h
       obtain ⟨r, h2, h3⟩ := read_pin h0 (aopS_op h0.1 h1)
       refine ⟨r, fun _ => opX_of h0.1 h3, ?_⟩
       generalize o.dst = dst at h2
       cases dst <;> exact h2
      | cons p pd => exact h
     obtain ⟨r, h1, h2⟩ := h
     obtain ⟨k1, k2⟩ := setK_dst h2
     exact ⟨r, m, default, ⟨k1, true, hg, (fun _ h => by cases h), (fun _ _ => ⟨rfl, h1⟩), (fun h => by cases h), (fun _ h => by cases h), (fun _ _ h => absurd rfl h), (fun h => by cases h)⟩, k2⟩
   · refine zero n1 n2 ?_
     cases pd with
     | nil => exact h
     | cons p pd => exact (look4_else n1 n2).mp h
theorem step_one {P : Program} {tab : Tab} {ops : Array Oper} {N : Nat} {o : Oper} {pd : List Nat} {c x : Nat} {sl : Slots} {m : Mem} {K : ASt → Prop}
 (h : guardK ops ⟨sl, m, N⟩ o.guard (stepS4 pf P tab pd c x K o.dst o.op ⟨sl, m, N⟩) (c ≠ 4 ∧ setK ⟨sl, m, N⟩ K o.dst (.t []) m) ∧ (o.guard = none ∨ c ≠ 4)) :
 ∃ r M' fb, Step4 pf P tab ops N pd c x o sl m r M' fb ∧ K ⟨putO sl o.dst r, M', N⟩ := by
 obtain ⟨h, hg4⟩ := h
 have hyes : stepS4 pf P tab pd c x K o.dst o.op ⟨sl, m, N⟩ → Gd ops N sl o.guard true → ∃ r M' fb, Step4 pf P tab ops N pd c x o sl m r M' fb ∧ K ⟨putO sl o.dst r, M', N⟩ := fun h hg => by
  unfold stepS4 at h
  split at h
  · unfold make4 at h
    split at h
    · rename_i T hop
      obtain ⟨ti, k1, k2, k3, k4⟩ := h
      obtain ⟨k5, k6⟩ := setK_dst k4
      exact ⟨_, _, _, ⟨k5, true, hg, (fun _ h => by cases h), (fun _ h => by cases h), (fun _ => ⟨rfl, rfl, rfl, T, ti, hop, k1, k2, k3, rfl⟩), (fun _ h => by cases h), (fun _ _ _ h => absurd rfl h), (fun h => by cases h)⟩, k6⟩
    · exact h.elim
  · unfold make5 at h
    split at h
    · rename_i T n ps hop
      obtain ⟨rfl, hps, tt, k1, e, k2, ti, k3, k4⟩ := h
      obtain ⟨k5, k6⟩ := setK_dst k4
      have hps : ps = #[] := Array.toList_eq_nil_iff.1 hps
      subst hps
      exact ⟨_, _, default, ⟨k5, true, hg, (fun _ h => by cases h), (fun _ h => by cases h), (fun h => by cases h), (fun _ _ => ⟨rfl, rfl, T, tt, e, ti, hop, k1, k2, k3⟩), (fun _ _ _ _ h => absurd rfl h), (fun h => by cases h)⟩, k6⟩
    · exact h.elim
  · rename_i c n4 n5
    exact step_look n4 n5 h hg
 have hno : (c ≠ 4 ∧ setK ⟨sl, m, N⟩ K o.dst (.t []) m) → Gd ops N sl o.guard false → ∃ r M' fb, Step4 pf P tab ops N pd c x o sl m r M' fb ∧ K ⟨putO sl o.dst r, M', N⟩ := fun h hg => by
  obtain ⟨k1, k2⟩ := setK_dst h.2
  exact ⟨.t [], m, default, ⟨k1, false, hg, (fun h => by cases h), (fun h => by cases h), (fun h4 => absurd h4 h.1), (fun h => by cases h), (fun h => by cases h), fun _ => ⟨rfl, rfl⟩⟩, k2⟩
 cases hgo : o.guard with
 | none =>
  rw [hgo] at h hyes
  exact hyes h rfl
 | some q =>
  obtain ⟨j, w⟩ := q
  rw [hgo] at h hyes hno
  obtain ⟨d, b, h1, h2, h3, h4⟩ := h
  cases b with
  | true =>
   simp only [if_true] at h4
   exact hyes h4 ⟨d, true, h1, h2, h3, rfl⟩
  | false =>
   simp only [Bool.false_eq_true, if_false] at h4
   exact hno h4 ⟨d, false, h1, h2, h3, rfl⟩
theorem drS4_trace {P : Program} {tab : Tab} {ops : Array Oper} {K : ASt → Prop} : ∀ (l : List Oper) (hv xs : List Nat) (s : ASt), drS4 pf P tab ops l hv xs K s → hv.length = l.length ∧ xs.length = l.length ∧ Trace4 pf P tab ops s.N l hv xs s.sl s.m K
 | [], [], [], s, h => ⟨rfl, rfl, fun _ => s.sl, fun _ => s.m, fun _ => .x, fun _ => default, rfl, rfl, fun i h => absurd h (by simp), h⟩
 | o :: l, c :: cs, x :: xs, s, h => by
  obtain ⟨sl, m, N⟩ := s
  obtain ⟨r, M', fb, k1, k2⟩ := step_one h
  obtain ⟨q1, q2, q3⟩ := drS4_trace l cs xs _ k2
  refine ⟨by simp [q1], by simp [q2], .cons ?_ k1 q3⟩
  rw [← q1, pdF_of (by omega)]
 | [], _ :: _, _, _, h => h.elim
 | [], [], _ :: _, _, h => h.elim
 | _ :: _, [], _, _, h => h.elim
 | _ :: _, _ :: _, [], _, h => h.elim
theorem draw_rule4 {P : Program} {tab : Tab} (hT : TabOk P tab) (hm : P.follows .mixedOrders = true) {ops : Array Oper} (rs : List (TypeId × Nat)) (hv xs : List Nat) (anc : List (List Nat)) (hd : drawOk4 ops hv xs anc = true) {id : Nat} {KE : Exit → ASt → Prop} {s : ASt}
 (hi : idOk ops.size hv xs s.m.k rs.length = true) (h : drS4 pf P tab ops ops.toList hv xs (KE .normal) ⟨s.sl, resv s.m rs, s.N⟩) : ACodeG pf P (.region id ops true) KE s :=
 draw_sound4 hm hT hd rs hi (drS4_trace _ _ _ _ h).2.2
section
variable {P : Program} {tab : Tab} {ops : Array Oper} {K : ASt → Prop} {dst : Option Tmp} {sl : Slots} {m : Mem} {N : Nat} {s : ASt} {l : List Oper} {cs xs pd : List Nat} {c x p : Nat} {op : Op} {ty : TypeId} {pos : String} {af : Array Edge} {j : Nat} {w : Bool} {T : TypeId} {ps : Array (Nat × Operand)}
theorem d4_nil : drS4 pf P tab ops [] [] [] K s = K s := rfl
theorem d4_op : drS4 pf P tab ops (⟨dst, op, ty, pos, af, none⟩ :: l) (c :: cs) (x :: xs) K s = stepS4 pf P tab (pdOf cs xs) c x (drS4 pf P tab ops l cs xs K) dst op s := by
 simp only [drS4, guardK, true_or, and_true]
theorem d4_opg : drS4 pf P tab ops (⟨dst, op, ty, pos, af, some (j, w)⟩ :: l) (c :: cs) (x :: xs) K s = (gS ((ops[j]?).bind (·.dst)) w (stepS4 pf P tab (pdOf cs xs) c x (drS4 pf P tab ops l cs xs K) dst op) (fun s => c ≠ 4 ∧ skS (drS4 pf P tab ops l cs xs K) dst s) s ∧ (some (j, w) = none ∨ c ≠ 4)) := rfl
theorem d4_p0 : pdOf [] [] = [] := rfl
theorem d4_p : pdOf (c :: cs) (x :: xs) = bif Nat.beq c 4 then x :: pdOf cs xs else pdOf cs xs := rfl
theorem d4_0 : stepS4 pf P tab [] 0 x K dst op s = stepS pf P tab 0 K dst op s := rfl
theorem d4_1 : stepS4 pf P tab [] 1 x K dst op s = stepS pf P tab 1 K dst op s := rfl
theorem d4_2 : stepS4 pf P tab [] 2 x K dst op s = stepS pf P tab 2 K dst op s := rfl
theorem d4_3 : stepS4 pf P tab [] 3 x K dst op s = stepS pf P tab 3 K dst op s := rfl
theorem d4_p0' : stepS4 pf P tab (p :: pd) 0 x K dst op s = stepS pf P tab 0 K dst op s := rfl
theorem d4_p3 : stepS4 pf P tab (p :: pd) 3 x K dst op s = stepS pf P tab 3 K dst op s := rfl
theorem d4_alloc : stepS4 pf P tab pd 4 x K dst (.alloc T) ⟨sl, m, N⟩ = tiK tab T fun ti => (ti.k.agg = true ∨ 0 < ti.sz) ∧ Cells (zeroAV ti) ∧ setT sl N K dst (.p x 0 0 1) (m.put x ⟨T, (zeroAV ti).cells.length, [zeroAV ti]⟩) := by
 simp only [← setT_eq (m := m)]; rfl
theorem d4_lit : stepS4 pf P tab pd 5 x K dst (.buildSlice T j ps) ⟨sl, m, N⟩ = (j = 0 ∧ ps.toList = [] ∧ tiK tab T fun tt => slK tt.k fun e => tiK tab e fun _ => setT sl N K dst (.s x 0 0) m) := by
 simp only [← setT_eq (m := m)]; rfl
def pinF (r : AV) (F : Mem) (a : AV) (M : Mem) : Prop := a = r ∧ M = F
def pdB (m : Mem) (i : Nat) : Blk := (m.get i).getD default
theorem d4_heavyX {r : AV} {F : (Nat → Blk) → Mem} (h1 : ∀ β, opX pf P tab ⟨sl, ovP β (p :: pd) m, N⟩ (pinF r (F β)) op) (h3 : ∀ β, F β = ovP β (p :: pd) (F (pdB m))) (h2 : setT sl N K dst r (F (pdB m))) : stepS4 pf P tab (p :: pd) 1 x K dst op ⟨sl, m, N⟩ :=
 ⟨r, F (pdB m), fun β => by have := h1 β; unfold pinF at this; rw [h3 β] at this; exact this, by rw [setT_eq]; exact h2⟩
theorem d4_readX {r : AV} (h1 : ∀ β, opX pf P tab ⟨sl, ovP β (p :: pd) m, N⟩ (pinF r (ovP β (p :: pd) m)) op) (h2 : setT sl N K dst r m) : stepS4 pf P tab (p :: pd) 2 x K dst op ⟨sl, m, N⟩ :=
 ⟨r, h1, by rw [setT_eq]; exact h2⟩
theorem d4_heavyC {f : FuncId} {as : Array Operand} {ts : Array TypeId} {r : AV} {F : (Nat → Blk) → Mem} (h1 : ∀ β, ICallG pf P f (as.toList.map (ev sl)) (ovP β (p :: pd) m) (fun a M2 => a = r ∧ M2 = F β)) (h3 : ∀ β, F β = ovP β (p :: pd) (F (pdB m)))
 (h2 : setT sl N K dst r (F (pdB m))) : stepS4 pf P tab (p :: pd) 1 x K dst (.call ⟨.value (.func f), as, ts⟩) ⟨sl, m, N⟩ :=
 d4_heavyX (fun β => by show ICallG pf P f (as.toList.map (fun o => ev sl o) ++ []) _ _; rw [List.append_nil]; exact h1 β) h3 h2
end
end Go.Ab
namespace Go.Ab
open Go Go.RowKit
variable {pf : Value → Mem → Prop}
inductive FzK (K : Exit → ASt → Prop) (e : Exit) : ASt → Prop
 | done {s : ASt} (h : K e s) : FzK K e s
 | step {s : ASt} (id : Nat) (keep : List Nat) (hb : BOk s.m id (remove s.m.l id)) (hs : SOk s id keep) (h : FzK K e (frz s id keep)) : FzK K e s
theorem FzK.out {K : Exit → ASt → Prop} {e : Exit} {w0 : World} {D : List Deferred} {a : Act} {E0 : Env} {s : ASt} (h : FzK K e s) : ∀ E : Env, St w0 E D s a → Later E0 E → ∃ E' s', E'.w = E.w ∧ St w0 E' D s' a ∧ Later E0 E' ∧ K e s' := by
 induction h with
 | done h => exact fun E hst hl => ⟨E, _, rfl, hst, hl, h⟩
 | step id keep hb hs h ih =>
  intro E hst hl
  obtain ⟨E', s', h1, h2, h3, h4⟩ := ih (E.without [id]) (hst.freeze hb hs) (hl.trans (hst.g.without [id]).2)
  exact ⟨E', s', h1, h2, h3, h4⟩
end Go.Ab
namespace Go.Ab
open Go Go.RowKit Go.ChangeShapes Go.WideShapes Go.ChangeAt
section
variable {P : Program}
theorem Opener.map {t : TypeId} {α β : Type} {enc : α → AV} {Q : α → Prop} {enc' : β → AV} {R : β → Prop} (h : Opener P t enc Q) (g : α → β) (hg : ∀ a, Q a → enc a = enc' (g a) ∧ R (g a)) : Opener P t enc' R := fun H encH W fuel cs x hd hz => by
 obtain ⟨a, ha, ho⟩ := h H encH W fuel cs x hd hz
 obtain ⟨h1, h2⟩ := hg a ha
 exact ⟨g a, h2, h1 ▸ ho⟩
theorem Opener.bytes {t e : TypeId} {ti : TI} (h : P.underlying t = some (.slice e)) (he : P.underlying e = some (.int .u8)) (ht : TOk P e ti) (hs : ti.sz = 1) : Opener P t (fun l : List UInt8 => .l 1 (l.map encB)) (fun _ => True) :=
 (Opener.slice h (.int he) ht (by omega)).map (fun l => l.map fun n => UInt8.ofNat n.toNat) fun l hl => by
  refine ⟨?_, trivial⟩
  rw [hs, List.map_map]
  congr 1
  refine List.map_congr_left fun n hn => ?_
  obtain ⟨a, rfl, b⟩ := wf_u8 (hl n hn)
  simp only [Function.comp, encB, Int.toNat_natCast]
  congr 2
  rw [UInt8.toNat_ofNat_of_lt' (by omega)]
end
theorem wf_i64 {n : Int} (h : (Lit.int .i64 n).wf = true) : -9223372036854775808 ≤ n ∧ n < 9223372036854775808 := by
 simp only [Lit.wf, Bool.and_eq_true, decide_eq_true_eq, IntKind.min, IntKind.max, IntKind.signed, IntKind.bits] at h
 simp at h
 omega
theorem rep5 {E : Env} {a b c d e : AV} {v u w z y : Value} (h : Rep E a v) (h' : Rep E b u) (h'' : Rep E c w) (h3 : Rep E d z) (h4 : Rep E e y) : ∀ i (h1 : i < [a, b, c, d, e].length) (h2 : i < #[v, u, w, z, y].size), Rep E [a, b, c, d, e][i] #[v, u, w, z, y][i]
 | 0, _, _ => h
 | 1, _, _ => h'
 | 2, _, _ => h''
 | 3, _, _ => h3
 | 4, _, _ => h4
end Go.Ab
namespace Go.Ab
open Go Go.RowKit
variable {pf : Value → Mem → Prop}
def QG (c : Code) (I : Nat → Nat → Act → World → Prop) (Q : Exit → Act → World → Prop) (m : Nat) : Exit → Act → World → Prop
 | .goto l, a, w => match findLabel c l with
  | some _ => ∃ m', m' < m ∧ I l m' a w
  | none => Q (.goto l) a w
 | e, a, w => Q e a w
theorem wpIn_scope_jumps {F : Fence} {n : Nat} {P : Program} {Q : Exit → Act → World → Prop} {a : Act} {w : World} {c : Code} (I : Nat → Nat → Act → World → Prop) (m : Nat) (h : c.wpIn F n P (QG c I Q m) a w)
 (hr : ∀ l rest m a w, findLabel c l = some rest → I l m a w → rest.wpIn F n P (QG c I Q m) a w) : (Code.scope c).wpIn F n P Q a w := by
 have key : ∀ m (d : Code) (a : Act) (w : World), d.wpIn F n P (QG c I Q m) a w → ∀ (b : Frame) (k : List Item) (cs : List Frame), b.roundOf = F.round → F.fn b.fn → F.room (cs.length + 1 + n) →
  ∃ e a' w', Q e a' w' ∧ ArrivesIn (Machine.fenced P F) P (lone (b.atR a (.code d :: .inScope c :: k)) cs w) b k cs e a' w' := by
  intro m
  induction m using Nat.strongRecOn with
  | _ m ih =>
   intro d a w h b k cs hro hb hrm
   obtain ⟨e, a₁, w₁, hq, harr⟩ := h b (.inScope c :: k) cs hro hb hrm
   cases e with
   | normal => exact ⟨.normal, a₁, w₁, hq, StepsIn.trans harr (.one (fenced_calm hb hrm rfl) stepR_inScope')⟩
   | exit id =>
    have hx : exitTo id (.inScope c :: k) = exitTo id k := by simp [exitTo]
    exact ⟨.exit id, a₁, w₁, hq, fun k' hk => harr.1 k' (by rw [hx]; exact hk), fun hr' hk => harr.2 hr' (by rw [hx]; exact hk)⟩
   | goto l =>
    cases hl : findLabel c l with
    | none =>
     have hx : gotoIn l (.inScope c :: k) = gotoIn l k := by simp [gotoIn, hl]
     simp only [QG, hl] at hq
     exact ⟨.goto l, a₁, w₁, hq, fun k' hk => harr.1 k' (by rw [hx]; exact hk), fun hr' hk => harr.2 hr' (by rw [hx]; exact hk)⟩
    | some rest =>
     have hx : gotoIn l (.inScope c :: k) = some (.code rest :: .inScope c :: k) := by simp [gotoIn, hl]
     simp only [QG, hl] at hq
     obtain ⟨m', h1, h2⟩ := hq
     obtain ⟨e, a₂, w₂, hq₂, harr₂⟩ := ih m' h1 rest a₁ w₁ (hr l rest m' a₁ w₁ hl h2) b k cs hro hb hrm
     exact ⟨e, a₂, w₂, hq₂, .of_steps (harr.1 _ hx) harr₂⟩
   | ret => exact ⟨_, a₁, w₁, hq, harr⟩
   | panic ch => exact ⟨_, a₁, w₁, hq, harr⟩
   | outgrown => exact ⟨_, a₁, w₁, hq, harr⟩
 intro b k cs hro hb hrm
 have h0 : (lone (b.atR a (.code (.scope c) :: k)) cs w).fenced P F := fenced_calm hb hrm rfl
 obtain ⟨e, a₁, w₁, hq, harr⟩ := key m c a w h b k cs hro hb hrm
 exact ⟨e, a₁, w₁, hq, .of_steps (.one h0 stepR_scope') harr⟩
def fwdK (pf : Value → Mem → Prop) (P : Program) (tab : Tab) (l : Nat) (rest : Code) (K : Exit → ASt → Prop) : Exit → ASt → Prop
 | .goto j, s => Nat.beq j l = true ∧ awG pf P tab rest (noGotoK K) s
 | e, s => K e s
theorem scope_fwd {P : Program} {tab : Tab} (hT : TabOk P tab) {c : Code} {K : Exit → ASt → Prop} {s : ASt} (l : Nat) (rest : Code) (hl : findLabel c l = some rest) (h : awG pf P tab c (fwdK pf P tab l rest K) s) : ACodeG pf P (.scope c) K s := fun hK ro w0 E D a hs => by
 refine wpIn_scope_jumps (fun j m a w => j = l ∧ rest.wpIn (FF ro) 0 P (fun e a w => (∀ j, e ≠ .goto j) ∧ ∃ E' s', E'.w = w ∧ St w0 E' D s' a ∧ Later E E' ∧ K e s') a w) 1
  (Code.wpIn_mono ?_ (aw_sound hT c _ s h (fun x s hx => hK x s hx) ro w0 E D a hs)) ?_
 · rintro e a' w' ⟨E', s', h1, h2, h3, h4⟩
   cases e with
   | goto j =>
    have hj := Nat.eq_of_beq_eq_true h4.1
    subst hj
    simp only [QG, hl]
    refine ⟨0, by omega, trivial, Code.wpIn_mono ?_ (h1 ▸ aw_sound hT rest _ s' h4.2 (fun x s hx => hK x s hx) ro w0 E' D a' h2)⟩
    rintro e a2 w2 ⟨E2, s2, k1, k2, k3, k4⟩
    cases e <;> first | exact ⟨(fun j => by simp), E2, s2, k1, k2, h3.trans k3, k4⟩ | exact k4.elim
   | _ => exact ⟨E', s', h1, h2, h3, h4⟩
 · rintro l' rest' m a w hl' ⟨hll, hw⟩
   subst hll
   rw [hl] at hl'
   cases hl'
   refine Code.wpIn_mono ?_ hw
   rintro e a' w' ⟨h1, h2⟩
   cases e with
   | goto j => exact absurd rfl (h1 j)
   | _ => exact h2
def backK {α : Type} (l : Nat) (I : α → ASt) (G : α → Prop) (K : Exit → ASt → Prop) : Exit → ASt → Prop
 | .goto j, s => Nat.beq j l = true ∧ ∃ y, G y ∧ Fits s (I y)
 | e, s => K e s
section
variable {P : Program} {tab : Tab} {K : Exit → ASt → Prop} {s : ASt} {l j : Nat} {rest : Code} {α : Type} {I : α → ASt} {G : α → Prop} {f : ASt → Prop}
theorem r_goto : awG pf P tab (.goto l) K s = K (.goto l) s := rfl
theorem r_thenG : thenK f K (.goto l) s = K (.goto l) s := rfl
theorem r_fwdN : fwdK pf P tab l rest K .normal s = K .normal s := rfl
theorem r_fwdR : fwdK pf P tab l rest K .ret s = K .ret s := rfl
theorem r_fwdE : fwdK pf P tab l rest K (.exit j) s = K (.exit j) s := rfl
theorem r_fwdG : fwdK pf P tab l rest K (.goto j) s = (Nat.beq j l = true ∧ awG pf P tab rest (noGotoK K) s) := rfl
theorem r_backN : backK l I G K .normal s = K .normal s := rfl
theorem r_backR : backK l I G K .ret s = K .ret s := rfl
theorem r_backE : backK l I G K (.exit j) s = K (.exit j) s := rfl
theorem r_backG : backK l I G K (.goto j) s = (Nat.beq j l = true ∧ ∃ y, G y ∧ Fits s (I y)) := rfl
theorem r_blockG : blockK j K (.goto l) s = K (.goto l) s := rfl
end
end Go.Ab
