/- Arguments of any make, opened: whole numbers, truth values, texts, rows, structs. -/
import Derived.Test.YtpjmbigfgoogaacAb33
import Derived.Deep.Slices
set_option linter.unusedVariables false
set_option linter.unusedSimpArgs false
set_option linter.constructorNameAsVariable false
namespace Go.Ab
open Go Go.RowKit Go.ChangeShapes Go.WideShapes Go.ChangeAt

structure Opens (E : Env) (cs : List Value) (l : List AV) : Prop where
  len : cs.length = l.length
  get : ∀ i (h1 : i < l.length) (h2 : i < cs.length), Rep E l[i] cs[i] ∧ One cs[i]
def Opener (P : Program) (t : TypeId) {α : Type} (enc : α → AV) (Q : α → Prop) : Prop :=
  ∀ (H : Type) (encH : TypeId × Value → H) (W : World) (fuel : Nat) (cs : List Value) (x : DataW H × List MemPlace), DataW.trod encH P W 0 (fun _ => true) true fuel t cs = some x → ∃ a, Q a ∧ Opens (E0 W) cs (enc a).cells
theorem opens_one {E : Env} {v : Value} {a : AV} (h : Rep E a v) (h1 : One v) : Opens E [v] [a] := ⟨rfl, fun i h2 h3 => by
  match i, h2, h3 with
  | 0, _, _ => exact ⟨h, h1⟩⟩
theorem Opens.append {E : Env} {c1 c2 : List Value} {l1 l2 : List AV} (h1 : Opens E c1 l1) (h2 : Opens E c2 l2) : Opens E (c1 ++ c2) (l1 ++ l2) := by
  refine ⟨by simp [h1.len, h2.len], fun i k1 k2 => ?_⟩
  have hl := h1.len
  by_cases h : i < l1.length
  · rw [List.getElem_append_left h, List.getElem_append_left (by omega)]; exact h1.get i h (by omega)
  · rw [List.getElem_append_right (by omega), List.getElem_append_right (by omega)]
    simp only [hl]
    exact h2.get _ (by simp at k1; omega) (by rw [h2.len]; simp at k1; omega)
section
variable {P : Program}
theorem Opener.int {t : TypeId} {k : IntKind} (h : P.underlying t = some (.int k)) : Opener P t (fun n : Int => .c (.int k n)) (fun n => (Lit.int k n).wf = true) := fun H encH W fuel cs x hd => by
  obtain ⟨n, rfl, _, hw⟩ := DataW.trod_int h hd
  exact ⟨n, hw, opens_one (.c _ rfl) rfl⟩
theorem Opener.bool {t : TypeId} (h : P.underlying t = some .bool) : Opener P t (fun b : Bool => .c (.bool b)) (fun _ => True) := fun H encH W fuel cs x hd => by
  obtain ⟨b, rfl, _⟩ := DataW.trod_bool h hd
  exact ⟨b, trivial, opens_one (.c _ rfl) rfl⟩
theorem Opener.str {t : TypeId} (h : P.underlying t = some .string) : Opener P t (fun l : List UInt8 => .c (.string ⟨l.toArray⟩)) (fun _ => True) := fun H encH W fuel cs x hd => by
  obtain ⟨s, rfl, _⟩ := DataW.trod_string h hd
  obtain ⟨l, _, h1⟩ := rep_str (W := W) s
  exact ⟨l, trivial, opens_one h1 rfl⟩
theorem list_of {α : Type} {R : Nat → α → Prop} : ∀ n, (∀ i, i < n → ∃ a, R i a) → ∃ l : List α, l.length = n ∧ ∀ i (h : i < l.length), R i l[i]
  | 0, _ => ⟨[], rfl, fun i h => absurd h (by simp)⟩
  | n + 1, h => by
    obtain ⟨l, h1, h2⟩ := list_of n fun i hi => h i (by omega)
    obtain ⟨a, ha⟩ := h n (by omega)
    refine ⟨l ++ [a], by simp [h1], fun i hi => ?_⟩
    by_cases e : i < l.length
    · rw [List.getElem_append_left e]; exact h2 i e
    · rw [List.getElem_append_right (by omega)]
      have : i = n := by simp at hi; omega
      subst this
      simpa [h1] using ha
theorem cellsOf_tok {t : TypeId} {ti : TI} (h : TOk P t ti) : P.cellsOf t = ti.sz := by
  have := h.info
  unfold Program.cellsOf
  cases hi : P.info? t with
  | none => rw [hi] at this; cases this
  | some i =>
    rw [hi] at this
    simp only [Option.map_some, Option.some.injEq, Prod.mk.injEq] at this
    simp [this.2.1]
theorem Opener.slice {t e : TypeId} {ti : TI} {α : Type} {enc : α → AV} {Q : α → Prop} (h : P.underlying t = some (.slice e)) (he : Opener P e enc Q) (ht : TOk P e ti) (hsz : 0 < ti.sz) : Opener P t (fun l : List α => .l ti.sz (l.map enc)) (fun l => ∀ a ∈ l, Q a) := fun H encH W fuel cs x hd => by
  have hce := cellsOf_tok ht
  rcases Go.Deep.open_slice h hd with ⟨rfl, _⟩ | ⟨a, len, cap, m, n, D, Pl, rfl, _, hl, hm, hmm, _, hx⟩
  · exact ⟨[], fun a h => by simp at h, opens_one (.l0 _ _ _) rfl⟩
  · simp only [if_true] at hmm
    subst hmm
    obtain ⟨l, hll, hR⟩ := list_of (R := fun i z => Q z ∧ ∃ cs', W.cells? 0 (a.add (i * P.cellsOf e)) (P.cellsOf e) = some cs' ∧ Opens (E0 W) cs' (enc z).cells) len fun i hi => by
      obtain ⟨cs', h1, h2⟩ := hx i (by omega)
      obtain ⟨z, hz, ho⟩ := he H encH W n cs' _ h2
      exact ⟨z, hz, cs', h1, ho⟩
    refine ⟨l, fun z hz => ?_, opens_one ?_ rfl⟩
    · obtain ⟨i, hi, rfl⟩ := List.getElem_of_mem hz
      exact (hR i hi).1
    · by_cases h0 : len = 0
      · subst h0
        have : l = [] := List.eq_nil_of_length_eq_zero hll
        subst this
        exact .l0 _ _ _
      · obtain ⟨b, off, spot⟩ := a
        obtain ⟨_, cs0, hc0, _⟩ := hR 0 (by omega)
        obtain ⟨_, hcl0, hcg0⟩ := World.cells?_some hc0
        have hcell0 := hcg0 0 (by omega)
        rw [List.getElem?_eq_getElem (by omega)] at hcell0
        simp only [Nat.zero_mul, Addr.add, if_true] at hcell0
        have hsp : spot = none ∧ b < W.heap.size := by
          simp only [World.cell?] at hcell0
          split at hcell0
          · rename_i h1
            refine ⟨?_, (Array.getElem?_eq_some_iff.1 h1).1⟩
            cases spot with
            | none => rfl
            | some _ => simp at hcell0
          · cases hcell0
        obtain ⟨rfl, hb⟩ := hsp
        have hlm : (l.map enc).length = len := by simp [hll]
        have hadd : ∀ i j, ((⟨b, off, none⟩ : Addr).add i).add j = ⟨b, off + (i + j), none⟩ := fun i j => by
          unfold Addr.add
          by_cases h1 : i = 0
          · by_cases h2 : j = 0
            · simp [h1, h2]
            · simp [h1, h2]
          · by_cases h2 : j = 0
            · simp [h1, h2]
            · simp [h1, h2, Nat.add_assoc]
        have key : ∀ i (hi : i < (l.map enc).length), (l.map enc)[i].cells.length = ti.sz ∧ ∀ j (hj : j < (l.map enc)[i].cells.length), ∃ y, W.cell? ⟨b, off + (i * ti.sz + j), none⟩ = some y ∧ One y ∧ Rep (E0 W) (l.map enc)[i].cells[j] y := fun i hi => by
          have hi2 : i < l.length := by simpa using hi
          obtain ⟨_, cs', hc, ho⟩ := hR i hi2
          obtain ⟨_, hcl, hcg⟩ := World.cells?_some hc
          rw [hce] at hcl hcg
          simp only [List.getElem_map]
          refine ⟨by rw [← ho.len, hcl], fun j hj => ?_⟩
          have hjc : j < cs'.length := by rw [ho.len]; exact hj
          have := hcg j (by omega)
          rw [hadd, List.getElem?_eq_getElem hjc] at this
          exact ⟨_, this, (ho.get j hj hjc).2, (ho.get j hj hjc).1⟩
        have := Rep.l (E := E0 W) ti.sz (l.map enc) b off m (fun i j => (W.cell? ⟨b, off + (i * ti.sz + j), none⟩).getD undef) (by rw [hlm]; exact hl) (e0_z hb) (fun i hi => (key i hi).1) (fun i j hi hj => by
          obtain ⟨y, y1, y2, _⟩ := (key i hi).2 j (by rw [(key i hi).1]; exact hj)
          exact ⟨by show W.cell? _ = _; rw [y1]; rfl, by rw [y1]; exact y2⟩) (fun i hi j hj => by
          obtain ⟨y, y1, _, y3⟩ := (key i hi).2 j hj
          rw [y1]; exact y3)
        rw [hlm] at this
        exact this

/-- Fields, one behind the other. -/
def FOpener (P : Program) (fs : List (Nat × TypeId)) (off : Nat) {α : Type} (encs : α → List AV) (Q : α → Prop) : Prop :=
  ∀ (H : Type) (encH : TypeId × Value → H) (W : World) (cs : List Value), cs.length = off + (fs.map fun p => P.cellsOf p.2).sum →
    (∀ p ∈ fs, ∃ n x, DataW.trod encH P W 0 (fun _ => true) true n p.2 ((cs.drop p.1).take (P.cellsOf p.2)) = some x) → ∃ a, Q a ∧ Opens (E0 W) (cs.drop off) (encs a)
theorem FOpener.nil {off : Nat} : FOpener P [] off (fun _ : Unit => []) (fun _ => True) := fun H encH W cs hl _ =>
  ⟨(), trivial, by
    have : cs.drop off = [] := List.drop_eq_nil_of_le (by simp at hl; omega)
    rw [this]; exact ⟨rfl, fun i h => absurd h (by simp)⟩⟩
theorem FOpener.cons {off : Nat} {t : TypeId} {ti : TI} {fs : List (Nat × TypeId)} {α β : Type} {enc : α → AV} {Q : α → Prop} {encs : β → List AV} {R : β → Prop} (h1 : Opener P t enc Q) (ht : TOk P t ti) (h2 : FOpener P fs (off + ti.sz) encs R) :
    FOpener P ((off, t) :: fs) off (fun p : α × β => (enc p.1).cells ++ encs p.2) (fun p => Q p.1 ∧ R p.2) := fun H encH W cs hl hd => by
  have hce := cellsOf_tok ht
  obtain ⟨n, x, hx⟩ := hd (off, t) (by simp)
  obtain ⟨a, ha, ho⟩ := h1 H encH W n _ x hx
  obtain ⟨b, hb, hob⟩ := h2 H encH W cs (by simp only [List.map_cons, List.sum_cons, hce] at hl; omega) fun p hp => hd p (by simp [hp])
  refine ⟨(a, b), ⟨ha, hb⟩, ?_⟩
  simp only [hce] at ho
  have := ho.append hob
  rwa [← List.drop_drop, List.take_append_drop] at this
theorem Opener.struct {t : TypeId} {ti : TI} {fs : List (Nat × TypeId)} {α : Type} {encs : α → List AV} {Q : α → Prop} (ht : TOk P t ti) (hk : ti.k = .st fs) (hs : ti.sz = (fs.map fun p => P.cellsOf p.2).sum) (h : FOpener P fs 0 encs Q) : Opener P t (fun a => .g (encs a)) Q := fun H encH W fuel cs x hd => by
  have hko := ht.k
  rw [hk] at hko
  obtain ⟨fa, h1, h2⟩ := hko
  obtain ⟨xs, n, _, _, hl, hxl, hf⟩ := DataW.trod_struct h1 hd
  rw [cellsOf_tok ht, hs] at hl
  have := h H encH W cs (by omega) fun p hp => by
    rw [← h2] at hp
    obtain ⟨f, hfm, rfl⟩ := List.mem_map.1 hp
    obtain ⟨i, hi⟩ := List.getElem?_of_mem hfm
    have hi2 : fa[i]? = some f := by simpa using hi
    have := hf i f hi2
    have hix : i < xs.length := by rw [hxl]; exact (Array.getElem?_eq_some_iff.1 hi2).1
    rw [List.getElem?_eq_getElem hix] at this
    exact ⟨n, _, this⟩
  rwa [List.drop_zero] at this
/-- An argument. -/
theorem Opener.arg {H : Type} {encH : TypeId × Value → H} {W : World} {base : Nat} {t : TypeId} {ti : TI} {v : Value} {d : DataW H} {ps : List MemPlace} {α : Type} {enc : α → AV} {Q : α → Prop} (h : Opener P t enc Q) (ht : TOk P t ti)
    (hk : match ti.k with | .st _ => (∀ a, ∃ cs, enc a = .g cs) | .int _ => ∀ a, ∀ cs, enc a ≠ .g cs | .bool => ∀ a, ∀ cs, enc a ≠ .g cs | .str => ∀ a, ∀ cs, enc a ≠ .g cs | .sl _ => ∀ a, ∀ cs, enc a ≠ .g cs | _ => False)
    (hval : Value.okWide P W .any base t v) (hd : DataW.Trod encH P W 0 (fun _ => true) true t v d ps) : ∃ a, Q a ∧ Rep (E0 W) (enc a) v := by
  obtain ⟨fuel, hf⟩ := hd
  obtain ⟨a, ha, ho⟩ := h H encH W fuel _ _ hf
  refine ⟨a, ha, ?_⟩
  have hko := ht.k
  have single : v.cells.toList = [v] → (∀ cs, enc a ≠ .g cs) → Rep (E0 W) (enc a) v := fun h1 h2 => by
    rw [h1, cells_notG h2] at ho
    exact (ho.get 0 (by simp) (by simp)).1
  cases hkk : ti.k with
  | st fs =>
    rw [hkk] at hk hko
    obtain ⟨fa, h1, h2⟩ := hko
    obtain ⟨cs, rfl, _⟩ := okWide_struct h1 hval
    obtain ⟨l, hl⟩ := hk a
    rw [hl] at ho ⊢
    simp only [Value.cells, AV.cells] at ho
    refine .g _ _ (by simpa using ho.len) fun i g1 g2 => ?_
    have := (ho.get i g1 (by simpa using g2)).1
    simpa using this
  | int k =>
    rw [hkk] at hk hko
    obtain ⟨n, rfl⟩ := okWide_int hko hval
    exact single rfl (hk a)
  | bool =>
    rw [hkk] at hk hko
    obtain ⟨n, rfl⟩ := okWide_bool hko hval
    exact single rfl (hk a)
  | str =>
    rw [hkk] at hk hko
    obtain ⟨n, rfl⟩ := okWide_string hko hval
    exact single rfl (hk a)
  | sl e =>
    rw [hkk] at hk hko
    obtain ⟨n, m, k, rfl⟩ := okWide_slice hko hval
    exact single rfl (hk a)
  | _ => rw [hkk] at hk; exact hk.elim
end
end Go.Ab
