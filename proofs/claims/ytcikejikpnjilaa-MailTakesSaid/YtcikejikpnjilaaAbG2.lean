/- Slices of the call's own are given up (frozen); append. append; what is read out of slices. Operations on values: fields, literals, slices, lengths, conversions, tests. Operations on values: literals of structs and slices, make. Operations on values: make, slices of slices, conversions, tests. Operations on values: slices of slices, conversions, tests. -/
import Derived.Test.YtcikejikpnjilaaAbG1
import Derived.Lib.ConvBytes
set_option linter.unusedVariables false
set_option linter.unusedSimpArgs false
set_option linter.constructorNameAsVariable false
namespace Go.Ab
open Go Go.RowKit

def Env.without (E : Env) (ids : List Nat) : Env := ⟨E.w, fun i => if i ∈ ids then none else E.ad i, E.k, E.hid⟩
def Mem.without (M : Mem) : List Nat → Mem
  | [] => M
  | id :: r => (M.drop id).without r
theorem without_nil (E : Env) : E.without [] = E := by simp [Env.without]
theorem without_cons (E : Env) (id : Nat) (r : List Nat) : E.without (id :: r) = (Env.without ⟨E.w, upd E.ad id none, E.k, E.hid⟩ r) := by
  simp only [Env.without, Env.mk.injEq, and_true, true_and]
  funext i
  by_cases h : i = id
  · subst h; simp [upd_self]
  · simp [upd_ne _ _ h, h]
theorem Good.without {w0 : World} {E : Env} {M : Mem} (hg : Good w0 E M) (ids : List Nat) : Good w0 (E.without ids) (M.without ids) ∧ Later E (E.without ids) := by
  induction ids generalizing E M with
  | nil => rw [without_nil]; exact ⟨hg, .refl E⟩
  | cons id r ih =>
    rw [without_cons]
    obtain ⟨h1, h2⟩ := hg.drop id
    obtain ⟨h3, h4⟩ := ih h1
    exact ⟨h3, h2.trans h4⟩

/-- All cells of all elements are without names of blocks. -/
def PureL (xs : List AV) : Prop := ∀ i (hi : i < xs.length), ∀ j (hj : j < xs[i].cells.length), Under 0 xs[i].cells[j]
/-- As it reads when it is given up. -/
def viewC (M : Mem) : AV → AV
  | .s id off _ => match M.get id with
    | some blk => .l blk.sz (blk.xs.drop off)
    | none => .x
  | a => a
def viewA (M : Mem) : AV → AV
  | .g cs => .g (cs.map (viewC M))
  | a => viewC M a
def idsC : AV → List Nat
  | .s id _ _ => [id]
  | _ => []
def idsA : AV → List Nat
  | .g cs => cs.flatMap idsC
  | a => idsC a
def VOkC (M : Mem) : AV → Prop
  | .s id off n => blkK M id (off + n) fun blk => PureL blk.xs
  | .g _ => False
  | _ => True
def AllV (M : Mem) : List AV → Prop
  | [] => True
  | a :: r => VOkC M a ∧ AllV M r
theorem AllV.get {M : Mem} : ∀ {l : List AV}, AllV M l → ∀ i (h : i < l.length), VOkC M l[i]
  | a :: r, h, 0, _ => h.1
  | a :: r, h, i + 1, hi => h.2.get i (by simpa using hi)
def VOkA (M : Mem) : AV → Prop
  | .g cs => AllV M cs
  | a => VOkC M a

theorem rep_viewC {w0 : World} {E : Env} {M : Mem} (hg : Good w0 E M) {a : AV} {v : Value} (hr : Rep E a v) (hv : VOkC M a) {ids : List Nat} (hi : ∀ id ∈ idsC a, id ∈ ids) :
    Rep (E.without ids) (viewC M a) v := by
  have hl := (hg.without ids).2
  cases hr with
  | s id off n A cap hk h =>
    obtain ⟨blk, hM, hn, hp⟩ := hv
    have hid : id ∈ ids := hi id (by simp [idsC])
    obtain ⟨q, h1, h2, h3, h4, h5⟩ := hg.held id blk hM
    simp only [viewC, hM]
    obtain ⟨g1, g2⟩ := h q h1
    obtain ⟨g3, g4⟩ := g2 (by omega)
    have hlen : (blk.xs.drop off).length = n := by simp; omega
    by_cases hcp : 0 < cap
    · have hqcp : 0 < q.cp := by omega
      obtain ⟨hb0, hb⟩ := h5 hqcp
      have hlt := backed_lt hb
      obtain ⟨_, arr, a1, a2, a3⟩ := hb
      have hA := g4 hcp
      subst hA
      rw [← hlen]
      refine .l _ _ _ _ cap (fun i j => (arr[(off + i) * blk.sz + j]?).getD undef) (by omega) ⟨hlt, hg.hid id q h1 hqcp, fun i q' hq' hcp' => ?_⟩ (fun i hi' => ?_) (fun i j hi' hj => ?_) (fun i hi' j hj => ?_)
      · simp only [Env.without] at hq'
        split at hq'
        · cases hq'
        · rename_i hni
          exact hg.inj i id q' q (fun e => hni (e ▸ hid)) hq' h1 hcp' hqcp
      · simp only [List.length_drop] at hi'
        simp only [List.getElem_drop]
        exact (a3 _ _).1
      · simp only [List.length_drop] at hi'
        have hc := (a3 (off + i) (by omega)).1
        obtain ⟨y, b1, b2, b3⟩ := (a3 (off + i) (by omega)).2 j (by rw [hc]; exact hj)
        simp only [Env.without, World.cell?, a1]
        have e : off * q.sz + (i * blk.sz + j) = (off + i) * blk.sz + j := by rw [h2, Nat.add_mul]; omega
        exact ⟨by simp [e, b1], by rw [b1]; exact b2⟩
      · simp only [List.length_drop] at hi'
        simp only [List.getElem_drop] at hj ⊢
        obtain ⟨y, b1, b2, b3⟩ := (a3 (off + i) (by omega)).2 j hj
        rw [b1]
        exact b3.later hl
    · have hn0 : n = 0 := by omega
      subst hn0
      have : blk.xs.drop off = [] := List.eq_nil_of_length_eq_zero hlen
      rw [this]
      exact .l0 _ _ _
  | c v h => exact .c v h
  | x v => exact .x v
  | g => exact hv.elim
  | t cs ys h hr => exact (Rep.t cs ys h hr).later hl
  | f cs ys a h hr => exact (Rep.f cs ys a h hr).later hl
  | b cs ys a h hr => exact (Rep.b cs ys a h hr).later hl
  | u sz xs A h => exact (Rep.u sz xs A h).later hl
  | w id len n A cap hk h => exact (Rep.w id len n A cap hk h).later hl
  | l sz xs b off cap y hcap hz hs hc hr => exact (Rep.l sz xs b off cap y hcap hz hs hc hr).later hl
  | l0 sz A cap => exact .l0 sz A cap
  | e cs b off y hz hc hr => exact (Rep.e cs b off y hz hc hr).later hl
  | p id i j n a hk h => exact (Rep.p id i j n a hk h).later hl

theorem rep_viewA {w0 : World} {E : Env} {M : Mem} (hg : Good w0 E M) {a : AV} {v : Value} (hr : Rep E a v) (hv : VOkA M a) {ids : List Nat} (hi : ∀ id ∈ idsA a, id ∈ ids) :
    Rep (E.without ids) (viewA M a) v := by
  cases a with
  | g cs =>
    cases hr with
    | g _ ys h hr =>
      refine .g _ ys (by simpa using h) (fun i h1 h2 => ?_)
      simp only [List.getElem_map]
      have h1' : i < cs.length := by simpa using h1
      refine rep_viewC hg (hr i h1' h2) (AllV.get hv i h1') (fun id hid => hi id ?_)
      simp only [idsA, List.mem_flatMap]
      exact ⟨_, List.getElem_mem h1', hid⟩
  | _ => exact rep_viewC hg hr hv hi

section append
variable {P : Program} {t t2 e : TypeId} {ti : TI} {d2 : TypeDesc}
theorem run_append_stay (w : World) (ty : TypeId) (ht : P.underlying t = some (.slice e)) (hti : TOk P e ti) (h2 : P.underlying t2 = some d2) (hd2 : d2 = .string ∨ ∃ e2, d2 = .slice e2)
    (A : Option Addr) (n cap m : Nat) (x : Value) (news : List Value) (hlen : (Builtin.lenOf x).run P w = .ok m w) (hf : (Builtin.firstCells ti.sz m x).run P w = .ok news.toArray w)
    (hroom : n + m ≤ cap) (w' : World) (hs : (match A with | some a => (storeCells (a.add (n * ti.sz)) news).run P w | none => .ok () w) = .ok () w') :
    (Builtin.append_ #[t, t2] ty #[.slice A n cap, x]).run P w = .ok (.slice A (n + m) cap) w' := by
  rcases hd2 with rfl | ⟨e2, rfl⟩ <;> cases A <;> simp only at hs
  all_goals first
    | (cases hs; simp [Builtin.append_, run_underlying ht, hti.run_size, run_underlying h2, hlen, hf, hroom, Result.andThen]; done)
    | simp [Builtin.append_, run_underlying ht, hti.run_size, run_underlying h2, hlen, hf, hroom, Result.andThen, hs]
theorem run_append_more (w : World) (ty : TypeId) (ht : P.underlying t = some (.slice e)) (hti : TOk P e ti) (h2 : P.underlying t2 = some d2) (hd2 : d2 = .string ∨ ∃ e2, d2 = .slice e2)
    (A : Option Addr) (n cap m : Nat) (x : Value) (olds news : List Value) (hlen : (Builtin.lenOf x).run P w = .ok m w) (hf : (Builtin.firstCells ti.sz m x).run P w.drew = .ok news.toArray w.drew)
    (ho : (Builtin.firstCells ti.sz n (.slice A n cap)).run P w.drew = .ok olds.toArray w.drew)
    (hroom : ¬ n + m ≤ cap) (hby : (n + m) * ti.by' ≤ 140737488355328) (hby0 : 0 < ti.by') :
    (Builtin.append_ #[t, t2] ty #[.slice A n cap, x]).run P w = .ok (.slice (some ⟨w.heap.size, 0, none⟩) (n + m) (grownCap w (n + m) cap e))
      (w.drew.alloc (.cells (olds.toArray ++ news.toArray ++ Builtin.zeroCells ti.zero.cells (grownCap w (n + m) cap e - (n + m))) e)) := by
  obtain ⟨f, g1, g2, g3, g4⟩ := hti.ex
  have h48 := growslice_fits (by omega) hby (old := cap)
  have hb0 : f.bytes ≠ 0 := by omega
  have h48' : ¬ (281474976710656 < Builtin.nextslicecap (n + m) cap * f.bytes) := by rw [g4]; omega
  rcases hd2 with rfl | ⟨e2, rfl⟩ <;>
    simp [Builtin.append_, run_underlying ht, sizeOf, zeroValue, typeInfo, g1, g2, g3, run_underlying h2, hlen, hroom, hb0, h48', Question.forced, hf, ho, newRow, grownCap, Result.andThen] <;> (congr 2; apply Array.ext'; simp)
end append
end Go.Ab

set_option linter.unusedVariables false
set_option linter.unusedSimpArgs false
set_option linter.constructorNameAsVariable false
namespace Go.Ab
open Go Go.RowKit

def encB (b : UInt8) : AV := .c (.int .u8 b.toNat)
/-- What an append takes from. -/
def srcK (sz : Nat) (M : Mem) : AV → (List AV → Prop) → Prop
  | .l sz' xs, K => sz' = sz ∧ K xs
  | .s id off n, K => blkK M id (off + n) fun blk => blk.sz = sz ∧ K (blk.xs.drop off)
  | .c (.slice none 0 0), K => K []
  | .c (.string s), K => sz = 1 ∧ K (s.data.toList.map encB)
  | _, _ => False

theorem cells_run {P : Program} {w w' : World} (hw : w'.heap = w.heap) {A : Addr} {sz n : Nat} {ys : Nat → Nat → Value}
    (h : ∀ i j, i < n → j < sz → w.cell? (A.add (i * sz + j)) = some (ys i j)) :
    (loadCells A (n * sz)).run P w' = .ok ((List.range (n * sz)).map fun k => ys (k / sz) (k % sz)).toArray w' := by
  refine run_loadCells (P := P) w' A (n * sz) _ (fun k hk => ?_)
  have hs : 0 < sz := by
    rcases Nat.eq_zero_or_pos sz with h | h
    · subst h; simp at hk
    · exact h
  have hd : k / sz < n := Nat.div_lt_of_lt_mul (by rw [Nat.mul_comm]; exact hk)
  have hm : k % sz < sz := Nat.mod_lt _ hs
  have e : k / sz * sz + k % sz = k := by rw [Nat.mul_comm]; exact Nat.div_add_mod k sz
  have := h (k / sz) (k % sz) hd hm
  rw [e] at this
  have hc : w'.cell? (A.add k) = w.cell? (A.add k) := by simp only [World.cell?, hw]
  rw [hc]; exact this

/-- What is read of a slice or a text: as many elements as it is told, each cell by cell. -/
structure Src (P : Program) (E : Env) (sz : Nat) (v : Value) (xs : List AV) : Prop where
  len : ∀ w, (Builtin.lenOf v).run P w = .ok xs.length w
  first : ∃ news : List Value, news.length = xs.length * sz ∧ (∀ w, w.heap = E.w.heap → (Builtin.firstCells sz xs.length v).run P w = .ok news.toArray w) ∧
    (∀ i (hi : i < xs.length), xs[i].cells.length = sz ∧ ∀ j (hj : j < xs[i].cells.length), ∃ y, news[i * sz + j]? = some y ∧ One y ∧ Rep E xs[i].cells[j] y)

theorem range_get? {sz n i j : Nat} (hi : i < n) (hj : j < sz) (f : Nat → Nat → Value) : ((List.range (n * sz)).map fun k => f (k / sz) (k % sz))[i * sz + j]? = some (f i j) := by
  have h1 : i * sz + j < n * sz := by
    have : (i + 1) * sz ≤ n * sz := Nat.mul_le_mul_right _ hi
    rw [Nat.add_mul] at this; omega
  have h2 : (i * sz + j) / sz = i := by
    rw [Nat.mul_comm, Nat.mul_add_div (by omega)]
    rw [Nat.div_eq_of_lt hj]; rfl
  have h3 : (i * sz + j) % sz = j := by
    rw [Nat.mul_comm, Nat.mul_add_mod]; exact Nat.mod_eq_of_lt hj
  simp [h1, h2, h3]

theorem src_of {P : Program} {w0 : World} {E : Env} {M : Mem} (hg : Good w0 E M) {sz : Nat} {a : AV} {v : Value} {K : List AV → Prop} (hr : Rep E a v) (h : srcK sz M a K) :
    ∃ xs, Src P E sz v xs ∧ K xs := by
  cases hr <;> try exact h.elim
  case c hv =>
    cases v <;> try exact h.elim
    case string s =>
      obtain ⟨rfl, hK⟩ := h
      have hsz : s.data.toList.length = s.size := by simp
      refine ⟨_, ⟨fun w => by simp [Builtin.lenOf], s.data.toList.map (fun b => .int .u8 b.toNat), by simp, fun w _ => ?_, fun i hi => ?_⟩, hK⟩
      · simp only [Builtin.firstCells, List.length_map, hsz, Sem.run_pure]
        congr 2
        apply Array.ext'
        have : (s.extract 0 s.size) = s := by
          apply ByteArray.ext
          rw [ByteArray.data_extract, ← ByteArray.size_data]
          simp
        rw [this]; simp
      · simp only [List.length_map] at hi
        simp only [List.getElem_map, encB, AV.cells]
        refine ⟨rfl, fun j hj => ?_⟩
        have h0 : j = 0 := by simpa using hj
        subst h0
        exact ⟨.int .u8 (s.data.toList[i].toNat), by rw [Nat.mul_one, Nat.add_zero, List.getElem?_map, List.getElem?_eq_getElem hi]; rfl, rfl, .c _ rfl⟩
    case slice A n c =>
      match A, n, c, h with
      | none, 0, 0, h => exact ⟨[], ⟨fun w => rfl, [], by simp, fun w _ => by simp [Builtin.firstCells], fun i hi => by simp at hi⟩, h⟩
  case l sz' xs b off cap y hcap hz hs hc hr =>
    obtain ⟨rfl, hK⟩ := h
    refine ⟨xs, ⟨fun w => rfl, _, by simp, fun w hw => ?_, fun i hi => ⟨hs i hi, fun j hj => ⟨y i j, range_get? hi (by rw [← hs i hi]; exact hj) y, (hc i j hi (by rw [← hs i hi]; exact hj)).2, hr i hi j hj⟩⟩⟩, hK⟩
    simp only [Builtin.firstCells]
    exact cells_run (P := P) hw (fun i j hi hj => by rw [addr_add]; exact (hc i j hi hj).1)
  case l0 sz' A cap =>
    obtain ⟨rfl, hK⟩ := h
    refine ⟨[], ⟨fun w => rfl, [], by simp, fun w _ => ?_, fun i hi => by simp at hi⟩, hK⟩
    cases A <;> simp [Builtin.firstCells, loadCells, loadCellsFrom]
  case s id off n A cap hk h' =>
    obtain ⟨blk, hM, hn, rfl, hK⟩ := h
    obtain ⟨q, h1, h2, h3, h4, h5⟩ := hg.held id blk hM
    obtain ⟨g1, g2⟩ := h' q h1
    obtain ⟨g3, g4⟩ := g2 (by omega)
    have hlen : (blk.xs.drop off).length = n := by simp; omega
    refine ⟨_, ⟨fun w => by rw [hlen]; rfl, ?_⟩, hK⟩
    by_cases hcp : 0 < cap
    · obtain ⟨_, hb⟩ := h5 (by omega)
      obtain ⟨_, arr, a1, a2, a3⟩ := hb
      have hA := g4 hcp
      subst hA
      refine ⟨(List.range ((blk.xs.drop off).length * blk.sz)).map fun k => (arr[(off + k / blk.sz) * blk.sz + k % blk.sz]?).getD undef, by simp, fun w hw => ?_, fun i hi => ?_⟩
      · simp only [Builtin.firstCells]
        exact cells_run (P := P) (ys := fun i j => (arr[(off + i) * blk.sz + j]?).getD undef) hw (fun i j hi hj => by
          rw [hlen] at hi
          obtain ⟨y, b1, b2, b3⟩ := (a3 (off + i) (by omega)).2 j (by rw [(a3 (off + i) (by omega)).1]; exact hj)
          have e : off * q.sz + (i * blk.sz + j) = (off + i) * blk.sz + j := by rw [h2, Nat.add_mul]; omega
          rw [addr_add]
          simp [World.cell?, a1, e, b1])
      · simp only [List.length_drop] at hi
        simp only [List.getElem_drop]
        refine ⟨(a3 _ _).1, fun j hj => ?_⟩
        obtain ⟨y, b1, b2, b3⟩ := (a3 (off + i) (by omega)).2 j hj
        refine ⟨y, ?_, b2, b3⟩
        have := range_get? (n := (blk.xs.drop off).length) (sz := blk.sz) (i := i) (j := j) (by simp; omega) (by rw [← (a3 (off + i) (by omega)).1]; exact hj) (fun i j => (arr[(off + i) * blk.sz + j]?).getD undef)
        rw [this, b1]
        rfl
    · have hn0 : n = 0 := by omega
      subst hn0
      have he : blk.xs.drop off = [] := List.eq_nil_of_length_eq_zero hlen
      rw [he]
      refine ⟨[], by simp, fun w _ => ?_, fun i hi => by simp at hi⟩
      cases A <;> simp [Builtin.firstCells, loadCells, loadCellsFrom]

/-- What an append is behind: the elements, and which block they lie in (none: nil). -/
def dstK (e : TypeId) (sz : Nat) (M : Mem) : AV → (List AV → (Blk → Nat × Mem) → Prop) → Prop
  | .s id off n, K => off = 0 ∧ blkK M id n fun blk => blk.sz = sz ∧ blk.T = e ∧ K blk.xs fun b => (id, M.put id b)
  | .c (.slice none 0 0), K => K [] fun b => (M.k, newMem M b)
  | .u sz' xs, K => sz' = sz ∧ K xs fun b => (M.k, newMem M b)
  | .w id len n, K => blkK M id len fun blk => blk.sz = sz ∧ blk.T = e ∧ K blk.xs fun b => (id, M.put id b)
  | _, _ => False
/-- How many elements may come: behind a full row some; into a window's room as many as were taken in. -/
def okA : AV → Nat → Prop
  | .u _ _, k => 0 < k
  | .w _ len n, k => len + k ≤ n
  | _, _ => True
theorem okA_s {id off n k : Nat} : okA (.s id off n) k = True := rfl
theorem okA_c {v : Value} {k : Nat} : okA (.c v) k = True := rfl
theorem okA_u {sz k : Nat} {xs : List AV} : okA (.u sz xs) k = (0 < k) := rfl
theorem okA_w {id len n k : Nat} : okA (.w id len n) k = (len + k ≤ n) := rfl
def appendK (e : TypeId) (ti : TI) (M : Mem) (a b : AV) (K : AV → Mem → Prop) : Prop :=
  dstK e ti.sz M a fun xs f => srcK ti.sz M b fun ys => okA a ys.length ∧ (xs.length + ys.length) * ti.by' ≤ 140737488355328 ∧ 0 < ti.by' ∧ 0 < ti.sz ∧
    K (.s (f ⟨e, ti.sz, xs ++ ys⟩).1 0 (xs.length + ys.length)) (f ⟨e, ti.sz, xs ++ ys⟩).2
theorem append_out {P : Program} {w0 : World} {E : Env} {M : Mem} {t t2 e ty : TypeId} {ti : TI} {d2 : TypeDesc} {a b : AV} {u v : Value} {K : AV → Mem → Prop} (hg : Good w0 E M)
    (ht : P.underlying t = some (.slice e)) (hti : TOk P e ti) (h2 : P.underlying t2 = some d2) (hd2 : d2 = .string ∨ ∃ e2, d2 = .slice e2)
    (hr : Rep E a u) (hx : Rep E b v) (h : appendK e ti M a b K) : Out P w0 E (Builtin.append_ #[t, t2] ty #[u, v]) K := by
  -- the new block, where it must grow
  have grow : ∀ (id : Nat) (xs ys : List AV) (k' : Nat) (n cap : Nat) (olds news : List Value), n = xs.length →
      (n + ys.length) * ti.by' ≤ 140737488355328 → 0 < ti.by' → ¬ n + ys.length ≤ cap →
      olds.length = xs.length * ti.sz → news.length = ys.length * ti.sz →
      (∀ i (hi : i < xs.length), xs[i].cells.length = ti.sz ∧ ∀ j (hj : j < xs[i].cells.length), ∃ y, olds[i * ti.sz + j]? = some y ∧ One y ∧ Rep E xs[i].cells[j] y) →
      (∀ i (hi : i < ys.length), ys[i].cells.length = ti.sz ∧ ∀ j (hj : j < ys[i].cells.length), ∃ y, news[i * ti.sz + j]? = some y ∧ One y ∧ Rep E ys[i].cells[j] y) →
      E.k ≤ k' → id < k' → (id < E.k → ∃ q, E.ad id = some q) → (∀ q, E.ad id = some q → q.n ≤ n + ys.length ∧ (n + ys.length = q.n → False) ∧ (n + ys.length ≤ q.cp → False)) →
      Good w0 ⟨E.w.drew.alloc (.cells (olds.toArray ++ news.toArray ++ Builtin.zeroCells ti.zero.cells (grownCap E.w (n + ys.length) cap e - (n + ys.length))) e), upd E.ad id (some ⟨E.w.heap.size, ti.sz, n + ys.length, grownCap E.w (n + ys.length) cap e⟩), k', E.hid⟩
        ⟨insert M.l id ⟨e, ti.sz, xs ++ ys⟩, k'⟩ ∧
      Later E ⟨E.w.drew.alloc (.cells (olds.toArray ++ news.toArray ++ Builtin.zeroCells ti.zero.cells (grownCap E.w (n + ys.length) cap e - (n + ys.length))) e), upd E.ad id (some ⟨E.w.heap.size, ti.sz, n + ys.length, grownCap E.w (n + ys.length) cap e⟩), k', E.hid⟩ := by
    intro id xs ys k' n cap olds news hn hby hby0 hroom hol hnl hox hny hk' hid hex hnew
    subst hn
    have hge := grownCap_ge E.w (xs.length + ys.length) cap e
    have hle : xs.length + ys.length ≤ maxLen := by
      have : xs.length + ys.length ≤ (xs.length + ys.length) * ti.by' := Nat.le_mul_of_pos_right _ hby0
      simp only [maxLen]; omega
    have hcm := grownCap_le_maxLen E.w (xs.length + ys.length) cap e hle
    have hzs := hti.zc
    refine Good.upd hg _ id k' ⟨E.w.heap.size, ti.sz, xs.length + ys.length, grownCap E.w (xs.length + ys.length) cap e⟩ ⟨e, ti.sz, xs ++ ys⟩ hk' hid
      (hg.below.trans ⟨rfl, rfl, rfl, by simp, fun b hb => by
        have := hg.below.size
        exact Below.heap_alloc _ _ _ (by simp; omega)⟩) (by simp) (fun b hb _ => Below.heap_alloc E.w.drew _ _ (by simpa using hb)) rfl (by simp) hge
      (fun _ => ⟨hg.below.size, .inl (Nat.le_refl _)⟩) (fun q hq => ⟨(hnew q hq).1, fun h => ((hnew q hq).2.1 h).elim, fun _ h => ((hnew q hq).2.2 h).elim⟩) hex (fun hl _ => ?_)
    refine ⟨hcm, _, heap_alloc_new E.w.drew _, ?_, fun i hi => ?_⟩
    · simp only [Array.size_append, List.size_toArray, size_zeroCells, hzs, hol, hnl, ← Nat.add_mul]
      congr 1
      omega
    · simp only [List.length_append] at hi
      have hget : ∀ k, k < (olds ++ news).length → (olds.toArray ++ news.toArray ++ Builtin.zeroCells ti.zero.cells (grownCap E.w (xs.length + ys.length) cap e - (xs.length + ys.length)))[k]? = (olds ++ news)[k]? := fun k hk => by
        rw [Array.getElem?_append_left (by simpa using hk)]
        simp
      by_cases hlt : i < xs.length
      · simp only [List.getElem_append_left hlt]
        refine ⟨(hox i hlt).1, fun j hj => ?_⟩
        obtain ⟨y, b1, b2, b3⟩ := (hox i hlt).2 j hj
        have hb : i * ti.sz + j < olds.length := (List.getElem?_eq_some_iff.1 b1).1
        refine ⟨y, ?_, b2, b3.later hl⟩
        rw [hget _ (by simp; omega), List.getElem?_append_left hb]
        exact b1
      · simp only [List.getElem_append_right (Nat.le_of_not_lt hlt)]
        have hi2 : i - xs.length < ys.length := by omega
        refine ⟨(hny _ hi2).1, fun j hj => ?_⟩
        obtain ⟨y, b1, b2, b3⟩ := (hny _ hi2).2 j hj
        have hb : (i - xs.length) * ti.sz + j < news.length := (List.getElem?_eq_some_iff.1 b1).1
        refine ⟨y, ?_, b2, b3.later hl⟩
        have e1 : i * ti.sz + j = olds.length + ((i - xs.length) * ti.sz + j) := by
          rw [hol, ← Nat.add_assoc, ← Nat.add_mul]; congr 2; omega
        rw [hget _ (by simp; omega), e1, List.getElem?_append_right (by omega)]
        simpa using b1
  have hx' := hx
  cases hr <;> try exact h.elim
  case c hv =>
    cases u <;> try exact h.elim
    case slice A n cap =>
      match A, n, cap, h with
      | none, 0, 0, h =>
        obtain ⟨ys, hsrc, hok, hby, hby0, hsz0, hK⟩ := src_of (P := P) hg hx h
        obtain ⟨news, n1, n2, n3⟩ := hsrc.first
        have hnone : E.ad E.k = none := by
          cases hq : E.ad E.k with
          | none => rfl
          | some q => exact absurd (hg.lt _ _ hq) (by omega)
        simp only [List.nil_append, List.length_nil, Nat.zero_add] at hK hby
        by_cases hm : ys.length = 0
        · have hys : ys = [] := List.eq_nil_of_length_eq_zero hm
          subst hys
          have hnews : news = [] := List.eq_nil_of_length_eq_zero (by simpa using n1)
          subst hnews
          have hrun := run_append_stay (P := P) E.w ty ht hti h2 hd2 none 0 0 0 v [] (by simpa using hsrc.len E.w) (by simpa using n2 E.w rfl) (Nat.le_refl _) E.w rfl
          have hup := Good.upd hg E.w E.k (E.k + 1) ⟨0, ti.sz, 0, 0⟩ ⟨e, ti.sz, []⟩ (by omega) (by omega) hg.below (Nat.le_refl _) (fun _ _ _ => rfl) rfl rfl (Nat.le_refl _) (fun h => absurd h (by simp))
            (fun q hq => by rw [hnone] at hq; cases hq) (fun h => absurd h (by omega)) (fun _ h => absurd h (by simp))
          refine ⟨_, ⟨E.w, Ab.upd E.ad E.k (some ⟨0, ti.sz, 0, 0⟩), E.k + 1, E.hid⟩, _, _, hrun, hup.1, hup.2, .s E.k 0 0 none 0 (by show E.k < E.k + 1; omega) (fun q hq => ?_), ?_⟩
          · simp only [upd_self, Option.some.injEq] at hq
            subst hq
            exact ⟨Nat.le_refl _, fun _ => ⟨rfl, fun h => absurd h (by omega)⟩⟩
          · simpa [newMem, hg.k] using hK
        · have hrun := run_append_more (P := P) E.w ty ht hti h2 hd2 none 0 0 ys.length v [] news (hsrc.len E.w) (n2 E.w.drew rfl) (by simp [Builtin.firstCells]) (by omega) (by simpa using hby) hby0
          have hgr := grow E.k [] ys (E.k + 1) 0 0 [] news rfl (by simpa using hby) hby0 (by omega) (by simp) n1 (fun i hi => absurd hi (by simp)) n3 (by omega) (by omega) (fun h => absurd h (by omega)) (fun q hq => by rw [hnone] at hq; cases hq)
          rw [Nat.zero_add] at hrun hgr
          refine ⟨_, _, _, _, hrun, hgr.1, hgr.2, .s E.k 0 ys.length _ _ (by show E.k < E.k + 1; omega) (fun q hq => ?_), ?_⟩
          · simp only [upd_self, Option.some.injEq] at hq
            subst hq
            exact ⟨by simp, fun _ => ⟨by simp, fun _ => by simp⟩⟩
          · simpa [newMem, hg.k] using hK
  case s id off n A cap hk h' =>
    obtain ⟨rfl, blk, hM, hn, rfl', rfl'', h⟩ := h
    obtain ⟨ys, hsrc, hok, hby, hby0, hsz0, hK⟩ := src_of (P := P) hg hx h
    obtain ⟨news, n1, n2, n3⟩ := hsrc.first
    obtain ⟨q, q1, q2, q3, q4, q5⟩ := hg.held id blk hM
    obtain ⟨g1, g2⟩ := h' q q1
    obtain ⟨g3, g4⟩ := g2 (by omega)
    have hput : ∀ b, (⟨insert M.l id b, E.k⟩ : Mem) = M.put id b := fun b => by rw [Mem.put, hg.k]
    obtain ⟨xs', hsrc', hx1⟩ := src_of (P := P) (sz := ti.sz) (K := fun l => l = blk.xs) hg (Rep.s id 0 n A cap hk h') ⟨blk, hM, by omega, rfl', rfl⟩
    subst hx1
    obtain ⟨olds, o1, o2, o3⟩ := hsrc'.first
    have hlenx : blk.xs.length = n := by omega
    by_cases hroom : n + ys.length ≤ cap
    · by_cases hcp : 0 < cap
      · obtain ⟨hb0, hb⟩ := q5 (by omega)
        have hlt := backed_lt hb
        obtain ⟨hmax, arr, a1, a2, a3⟩ := hb
        have hA := g4 hcp
        subst hA
        have hfit : n * ti.sz + news.length ≤ arr.size := by
          rw [n1, a2, ← Nat.add_mul, q2, rfl']
          exact Nat.mul_le_mul_right _ (by omega)
        have hone : ∀ u ∈ news, u.oneCell' = true := fun u hu => by
          obtain ⟨k, hk', rfl⟩ := List.mem_iff_getElem.1 hu
          have hd : k / ti.sz < ys.length := Nat.div_lt_of_lt_mul (by rw [Nat.mul_comm, ← n1]; exact hk')
          have hmd : k % ti.sz < ti.sz := Nat.mod_lt _ hsz0
          obtain ⟨c1, c2⟩ := n3 _ hd
          obtain ⟨y, b1, b2, _⟩ := c2 (k % ti.sz) (by rw [c1]; exact hmd)
          have e1 : k / ti.sz * ti.sz + k % ti.sz = k := by rw [Nat.mul_comm]; exact Nat.div_add_mod k ti.sz
          rw [e1, List.getElem?_eq_getElem hk'] at b1
          cases b1
          exact b2
        have hst := run_storeCells_at P q.b (n * ti.sz) blk.T news 0 arr E.w a1 (by simpa using hfit) hone
        simp only [Nat.add_zero] at hst
        have hrun := run_append_stay (P := P) E.w ty ht hti h2 hd2 (some ⟨q.b, 0 * q.sz, none⟩) n cap ys.length v news (hsrc.len E.w) (n2 E.w rfl) hroom _ (by simp only [addr_add, Nat.zero_mul, Nat.zero_add]; exact hst)
        have hA : ∀ k, ((arr.toList.take (n * ti.sz) ++ news ++ arr.toList.drop (n * ti.sz + news.length)).toArray)[k]? =
            if n * ti.sz ≤ k ∧ k < n * ti.sz + news.length then news[k - n * ti.sz]? else arr[k]? := fun k => by
          rw [List.getElem?_toArray, take_drop_get? _ _ _ (by simpa using hfit)]
          simp
        have hup := Good.upd hg (E.w.setRow q.b (arr.toList.take (n * ti.sz) ++ news ++ arr.toList.drop (n * ti.sz + news.length)).toArray) id E.k ⟨q.b, q.sz, q.n + ys.length, q.cp⟩
          ⟨e, ti.sz, blk.xs ++ ys⟩ (Nat.le_refl _) (hg.lt id q q1)
          ⟨⟨hg.below.os, hg.below.tape, hg.below.output, by simpa using hg.below.size, fun k hk => by rw [setRow_other _ _ _ _ (by omega)]; exact hg.below.block k hk⟩, hg.below.glob⟩
          (by simp) (fun b hb hne => setRow_other _ _ _ _ (fun e => hne q q1 (by omega) e.symm)) (by simp [q2, rfl']) (by simp [q3]) (by simp only; omega) (fun _ => ⟨hb0, .inr ⟨q, q1, by omega, rfl⟩⟩)
          (fun q' hq' => by
            rw [q1] at hq'; cases hq'
            refine ⟨by simp, fun hz => ?_, fun _ _ => ⟨rfl, rfl⟩⟩
            simp only at hz
            have : ys.length = 0 := by omega
            simp [this]) (fun _ => ⟨q, q1⟩) (fun hl _ => by
            refine ⟨hmax, _, by rw [← rfl'']; exact setRow_heap _ _ _ _ _ _ a1, ?_, fun i hi => ?_⟩
            · simp only [List.size_toArray, List.length_append, List.length_take, List.length_drop, Array.length_toList]
              rw [← a2]; omega
            · simp only [List.length_append] at hi
              by_cases hlt : i < blk.xs.length
              · simp only [List.getElem_append_left hlt]
                refine ⟨by rw [← rfl']; exact (a3 i hlt).1, fun j hj => ?_⟩
                obtain ⟨y, b1, b2, b3⟩ := (a3 i hlt).2 j hj
                rw [(a3 i hlt).1] at hj
                refine ⟨y, ?_, b2, b3.later hl⟩
                have hlt2 : (i + 1) * blk.sz ≤ n * blk.sz := Nat.mul_le_mul_right _ (by omega)
                rw [Nat.add_mul] at hlt2
                rw [hA, ← rfl', if_neg (by omega)]
                exact b1
              · simp only [List.getElem_append_right (Nat.le_of_not_lt hlt)]
                have hi2 : i - blk.xs.length < ys.length := by omega
                refine ⟨(n3 _ hi2).1, fun j hj => ?_⟩
                obtain ⟨y, b1, b2, b3⟩ := (n3 _ hi2).2 j hj
                have hb : (i - blk.xs.length) * ti.sz + j < news.length := (List.getElem?_eq_some_iff.1 b1).1
                refine ⟨y, ?_, b2, b3.later hl⟩
                have e1 : i * ti.sz + j = n * ti.sz + ((i - blk.xs.length) * ti.sz + j) := by
                  rw [← Nat.add_assoc, ← Nat.add_mul]; congr 2; omega
                rw [hA, e1, if_pos (by omega)]
                simpa using b1)
        refine ⟨_, _, _, _, hrun, hup.1, hup.2, .s id 0 (n + ys.length) _ _ hk (fun q' hq' => ?_), ?_⟩
        · simp only [upd_self, Option.some.injEq] at hq'
          subst hq'
          exact ⟨by show 0 + (n + ys.length) ≤ q.n + ys.length; omega, fun _ => ⟨by show 0 + cap = q.cp; omega, fun _ => rfl⟩⟩
        · rw [hput, ← hlenx]; exact hK
      · have hy0 : ys = [] := List.eq_nil_of_length_eq_zero (by omega)
        subst hy0
        have hx0 : blk.xs = [] := List.eq_nil_of_length_eq_zero (by omega)
        have hn0 : n = 0 := by omega
        subst hn0
        have hnews : news = [] := List.eq_nil_of_length_eq_zero (by simpa using n1)
        subst hnews
        have hcap0 : cap = 0 := by omega
        subst hcap0
        have hrun := run_append_stay (P := P) E.w ty ht hti h2 hd2 A 0 0 0 v [] (by simpa using hsrc.len E.w) (by simpa using n2 E.w rfl) (Nat.le_refl _) E.w (by cases A <;> rfl)
        have hup := Good.upd hg E.w id E.k q ⟨e, ti.sz, blk.xs⟩ (Nat.le_refl _) hk hg.below (Nat.le_refl _) (fun _ _ _ => rfl) (by rw [q2, rfl']) q3 q4 (fun h => absurd h (by omega))
          (fun q' hq' => by rw [q1] at hq'; cases hq'; exact ⟨Nat.le_refl _, fun _ => rfl, fun _ _ => ⟨rfl, rfl⟩⟩) (fun _ => ⟨q, q1⟩) (fun _ h => absurd h (by omega))
        refine ⟨_, ⟨E.w, Ab.upd E.ad id (some q), E.k, E.hid⟩, _, _, hrun, hup.1, hup.2, .s id 0 0 A 0 hk (fun q' hq' => ?_), ?_⟩
        · simp only [upd_self, Option.some.injEq] at hq'
          subst hq'
          exact ⟨by omega, fun _ => ⟨by omega, fun h => absurd h (by omega)⟩⟩
        · rw [hput]
          simpa [hx0] using hK
    · have hrun := run_append_more (P := P) E.w ty ht hti h2 hd2 A n cap ys.length v olds news (hsrc.len E.w) (n2 E.w.drew rfl) (by have := o2 E.w.drew rfl; rw [hlenx] at this; exact this) hroom (by rw [← hlenx]; exact hby) hby0
      have hgr := grow id blk.xs ys E.k n cap olds news hlenx.symm (by rw [← hlenx]; exact hby) hby0 hroom o1 n1 o3 n3 (Nat.le_refl _) hk (fun _ => ⟨q, q1⟩) (fun q' hq' => by
        rw [q1] at hq'; cases hq'; exact ⟨by omega, fun h => by omega, fun h => by omega⟩)
      refine ⟨_, _, _, _, hrun, hgr.1, hgr.2, .s id 0 (n + ys.length) _ _ hk (fun q' hq' => ?_), ?_⟩
      · simp only [upd_self, Option.some.injEq] at hq'
        subst hq'
        exact ⟨by simp, fun _ => ⟨by simp, fun _ => by simp⟩⟩
      · rw [hput, ← hlenx]; exact hK
  case u sz' xs A hl =>
    obtain ⟨rfl, h⟩ := h
    obtain ⟨ys, hsrc, hok, hby, hby0, hsz0, hK⟩ := src_of (P := P) hg hx h
    have hok : 0 < ys.length := hok
    obtain ⟨news, n1, n2, n3⟩ := hsrc.first
    have hnone : E.ad E.k = none := by
      cases hq : E.ad E.k with
      | none => rfl
      | some q => exact absurd (hg.lt _ _ hq) (by omega)
    obtain ⟨xs', hsrc', hx1⟩ := src_of (P := P) (sz := ti.sz) (K := fun l => l = xs) hg hl ⟨rfl, rfl⟩
    subst hx1
    obtain ⟨olds, o1, o2, o3⟩ := hsrc'.first
    have hrun := run_append_more (P := P) E.w ty ht hti h2 hd2 A xs'.length xs'.length ys.length v olds news (hsrc.len E.w) (n2 E.w.drew rfl) (o2 E.w.drew rfl) (by omega) hby hby0
    have hgr := grow E.k xs' ys (E.k + 1) xs'.length xs'.length olds news rfl hby hby0 (by omega) o1 n1 o3 n3 (by omega) (by omega) (fun h => absurd h (by omega)) (fun q hq => by rw [hnone] at hq; cases hq)
    refine ⟨_, _, _, _, hrun, hgr.1, hgr.2, .s E.k 0 (xs'.length + ys.length) _ _ (by show E.k < E.k + 1; omega) (fun q hq => ?_), ?_⟩
    · simp only [upd_self, Option.some.injEq] at hq
      subst hq
      exact ⟨by simp, fun _ => ⟨by simp, fun _ => by simp⟩⟩
    · simpa [newMem, hg.k] using hK
  case w id len m A cap hk h' =>
    obtain ⟨blk, hM, hn, rfl', rfl'', h⟩ := h
    obtain ⟨ys, hsrc, hok, hby, hby0, hsz0, hK⟩ := src_of (P := P) hg hx h
    have hok : len + ys.length ≤ m := hok
    obtain ⟨news, n1, n2, n3⟩ := hsrc.first
    obtain ⟨q, q1, q2, q3, q4, q5⟩ := hg.held id blk hM
    obtain ⟨g1, g2⟩ := h' q q1
    obtain ⟨g6, g3, g4, g5⟩ := g2 (by omega)
    subst g4 g5
    have hput : ∀ b, (⟨insert M.l id b, E.k⟩ : Mem) = M.put id b := fun b => by rw [Mem.put, hg.k]
    have hlenx : blk.xs.length = len := by omega
    by_cases hcp : 0 < q.cp
    · obtain ⟨hb0, hb⟩ := q5 hcp
      have hlt := backed_lt hb
      obtain ⟨hmax, arr, a1, a2, a3⟩ := hb
      have hfit : len * ti.sz + news.length ≤ arr.size := by
        rw [n1, a2, ← Nat.add_mul, q2, rfl']
        exact Nat.mul_le_mul_right _ (by omega)
      have hone : ∀ u ∈ news, u.oneCell' = true := fun u hu => by
        obtain ⟨k, hk', rfl⟩ := List.mem_iff_getElem.1 hu
        have hd : k / ti.sz < ys.length := Nat.div_lt_of_lt_mul (by rw [Nat.mul_comm, ← n1]; exact hk')
        have hmd : k % ti.sz < ti.sz := Nat.mod_lt _ hsz0
        obtain ⟨c1, c2⟩ := n3 _ hd
        obtain ⟨y, b1, b2, _⟩ := c2 (k % ti.sz) (by rw [c1]; exact hmd)
        have e1 : k / ti.sz * ti.sz + k % ti.sz = k := by rw [Nat.mul_comm]; exact Nat.div_add_mod k ti.sz
        rw [e1, List.getElem?_eq_getElem hk'] at b1
        cases b1
        exact b2
      have hst := run_storeCells_at P q.b (len * ti.sz) blk.T news 0 arr E.w a1 (by simpa using hfit) hone
      simp only [Nat.add_zero] at hst
      have hrun := run_append_stay (P := P) E.w ty ht hti h2 hd2 (some ⟨q.b, 0, none⟩) len q.cp ys.length v news (hsrc.len E.w) (n2 E.w rfl) (by omega) _ (by simp only [addr_add, Nat.zero_add]; exact hst)
      have hA : ∀ k, ((arr.toList.take (len * ti.sz) ++ news ++ arr.toList.drop (len * ti.sz + news.length)).toArray)[k]? =
          if len * ti.sz ≤ k ∧ k < len * ti.sz + news.length then news[k - len * ti.sz]? else arr[k]? := fun k => by
        rw [List.getElem?_toArray, take_drop_get? _ _ _ (by simpa using hfit)]
        simp
      have hup := Good.upd hg (E.w.setRow q.b (arr.toList.take (len * ti.sz) ++ news ++ arr.toList.drop (len * ti.sz + news.length)).toArray) id E.k ⟨q.b, q.sz, q.n + ys.length, q.cp⟩
        ⟨e, ti.sz, blk.xs ++ ys⟩ (Nat.le_refl _) (hg.lt id q q1)
        ⟨⟨hg.below.os, hg.below.tape, hg.below.output, by simpa using hg.below.size, fun k hk => by rw [setRow_other _ _ _ _ (by omega)]; exact hg.below.block k hk⟩, hg.below.glob⟩
        (by simp) (fun b hb hne => setRow_other _ _ _ _ (fun e => hne q q1 (by omega) e.symm)) (by simp [q2, rfl']) (by simp [q3]) (by simp only; omega) (fun _ => ⟨hb0, .inr ⟨q, q1, by omega, rfl⟩⟩)
        (fun q' hq' => by
          rw [q1] at hq'; cases hq'
          refine ⟨by simp, fun hz => ?_, fun _ _ => ⟨rfl, rfl⟩⟩
          simp only at hz
          have : ys.length = 0 := by omega
          simp [this]) (fun _ => ⟨q, q1⟩) (fun hl _ => by
          refine ⟨hmax, _, by rw [← rfl'']; exact setRow_heap _ _ _ _ _ _ a1, ?_, fun i hi => ?_⟩
          · simp only [List.size_toArray, List.length_append, List.length_take, List.length_drop, Array.length_toList]
            rw [← a2]; omega
          · simp only [List.length_append] at hi
            by_cases hlt : i < blk.xs.length
            · simp only [List.getElem_append_left hlt]
              refine ⟨by rw [← rfl']; exact (a3 i hlt).1, fun j hj => ?_⟩
              obtain ⟨y, b1, b2, b3⟩ := (a3 i hlt).2 j hj
              rw [(a3 i hlt).1] at hj
              refine ⟨y, ?_, b2, b3.later hl⟩
              have hlt2 : (i + 1) * blk.sz ≤ len * blk.sz := Nat.mul_le_mul_right _ (by omega)
              rw [Nat.add_mul] at hlt2
              rw [hA, ← rfl', if_neg (by omega)]
              exact b1
            · simp only [List.getElem_append_right (Nat.le_of_not_lt hlt)]
              have hi2 : i - blk.xs.length < ys.length := by omega
              refine ⟨(n3 _ hi2).1, fun j hj => ?_⟩
              obtain ⟨y, b1, b2, b3⟩ := (n3 _ hi2).2 j hj
              have hb : (i - blk.xs.length) * ti.sz + j < news.length := (List.getElem?_eq_some_iff.1 b1).1
              refine ⟨y, ?_, b2, b3.later hl⟩
              have e1 : i * ti.sz + j = len * ti.sz + ((i - blk.xs.length) * ti.sz + j) := by
                rw [← Nat.add_assoc, ← Nat.add_mul]; congr 2; omega
              rw [hA, e1, if_pos (by omega)]
              simpa using b1)
      refine ⟨_, _, _, _, hrun, hup.1, hup.2, .s id 0 (len + ys.length) _ _ hk (fun q' hq' => ?_), ?_⟩
      · simp only [upd_self, Option.some.injEq] at hq'
        subst hq'
        exact ⟨by show 0 + (len + ys.length) ≤ q.n + ys.length; omega, fun _ => ⟨by show 0 + q.cp = q.cp; omega, fun _ => by simp⟩⟩
      · rw [hput, ← hlenx]; exact hK
    · have hy0 : ys = [] := List.eq_nil_of_length_eq_zero (by omega)
      subst hy0
      have hx0 : blk.xs = [] := List.eq_nil_of_length_eq_zero (by omega)
      have hl0 : len = 0 := by omega
      subst hl0
      have hnews : news = [] := List.eq_nil_of_length_eq_zero (by simpa using n1)
      subst hnews
      have hrun := run_append_stay (P := P) E.w ty ht hti h2 hd2 (some ⟨q.b, 0, none⟩) 0 q.cp 0 v [] (by simpa using hsrc.len E.w) (by simpa using n2 E.w rfl) (Nat.zero_le _) E.w (by rfl)
      have hup := Good.upd hg E.w id E.k q ⟨e, ti.sz, []⟩ (Nat.le_refl _) hk hg.below (Nat.le_refl _) (fun _ _ _ => rfl) (by rw [q2, rfl']) (by simp; omega) q4 (fun h => absurd h (by omega))
        (fun q' hq' => by rw [q1] at hq'; cases hq'; exact ⟨Nat.le_refl _, fun _ => rfl, fun _ _ => ⟨rfl, rfl⟩⟩) (fun _ => ⟨q, q1⟩) (fun _ h => absurd h (by omega))
      refine ⟨_, ⟨E.w, Ab.upd E.ad id (some q), E.k, E.hid⟩, _, _, hrun, hup.1, hup.2, .s id 0 0 _ _ hk (fun q' hq' => ?_), ?_⟩
      · simp only [upd_self, Option.some.injEq] at hq'
        subst hq'
        exact ⟨by omega, fun _ => ⟨by omega, fun h => absurd h (by omega)⟩⟩
      · rw [hput]
        simpa [hx0] using hK
/-- A slice of one's own, all of it, is made zero. -/
def clearK (ti : TI) (M : Mem) (a : AV) (K : AV → Mem → Prop) : Prop :=
  match a with
  | .s id off n => off = 0 ∧ 0 < n ∧ ti.k.agg = false ∧ ti.sz = 1 ∧ ∃ blk, M.get id = some blk ∧ n = blk.xs.length ∧ blk.sz = 1 ∧ K (.t []) (M.put id ⟨blk.T, 1, List.replicate n (zeroAV ti)⟩)
  | _ => False
theorem clear_out {P : Program} {w0 : World} {E : Env} {M : Mem} {t e ty : TypeId} {ti : TI} {a : AV} {u : Value} {K : AV → Mem → Prop} (hg : Good w0 E M)
    (ht : P.underlying t = some (.slice e)) (hti : TOk P e ti) (hr : Rep E a u) (h : clearK ti M a K) : Out P w0 E (Builtin.clear_ #[t] ty #[u]) K := by
  cases hr <;> try exact h.elim
  rename_i id off n A cap hk hrel
  obtain ⟨rfl, hn0, hag, hs1, blk, hM, hn, hsz, hK⟩ := h
  obtain ⟨q, h1, h2, h3, h4, h5⟩ := hg.held id blk hM
  have hcp : 0 < q.cp := by omega
  obtain ⟨hb0, hb⟩ := h5 hcp
  obtain ⟨hmax, arr, a1, a2, a3⟩ := hb
  obtain ⟨hc1, hA⟩ := (hrel q h1).2 (by omega)
  have hA := hA (by omega)
  simp only [Nat.zero_mul] at hA
  subst hA
  -- the zero
  obtain ⟨z, hz⟩ := List.length_eq_one_iff.1 (show ti.z.length = 1 by rw [hti.z, hs1])
  have hz0 : ti.zero = z := by simp [TI.zero, hag, hz]
  have hzA : zeroAV ti = .c z := by simp [zeroAV, hag, hz]
  have hone : One z := hti.one z (by rw [hz]; simp)
  have hzc : z.cells = #[z] := by
    have : z.oneCell' = true := hone
    cases z <;> simp_all [Value.cells, Value.oneCell']
  have hrun : (Builtin.clear_ #[t] ty #[.slice (some ⟨q.b, 0, none⟩) n cap]).run P E.w = .ok (.tuple #[]) (E.w.setRow q.b ((List.replicate n z) ++ arr.toList.drop n).toArray) := by
    have hle : 0 + 0 + (List.replicate n z).length ≤ arr.size := by
      rw [List.length_replicate, a2, h2, hsz]; omega
    have hst := run_storeCells_at P q.b 0 blk.T (List.replicate n z) 0 arr E.w a1 hle (fun v hv => by rw [List.eq_of_mem_replicate hv]; exact hone)
    simp only [Nat.add_zero, Nat.zero_add, List.take_zero, List.nil_append, List.length_replicate] at hst
    have hzc2 : (Builtin.zeroCells z.cells n).toList = List.replicate n z := by
      rw [hzc]
      simp [Builtin.zeroCells]
      apply List.ext_getElem
      · simp
      · intro i h1 h2
        simp [Nat.mod_one]
    have hv := hti.run_zero
    rw [hz0] at hv
    obtain ⟨m, rfl⟩ : ∃ m, n = m + 1 := ⟨n - 1, by omega⟩
    simp [Builtin.clear_, run_underlying ht, hv, hzc2, hst, Result.andThen]
  have hget : ∀ k, ((List.replicate n z) ++ arr.toList.drop n).toArray[k]? = if k < n then some z else arr[k]? := fun k => by
    rw [List.getElem?_toArray]
    by_cases hk : k < n
    · rw [List.getElem?_append_left (by simpa using hk), if_pos hk, List.getElem?_replicate, if_pos hk]
    · rw [List.getElem?_append_right (by simpa using hk), if_neg hk, List.length_replicate, List.getElem?_drop, show n + (k - n) = k by omega]
      simp
  have hup := Good.upd hg (E.w.setRow q.b ((List.replicate n z) ++ arr.toList.drop n).toArray) id E.k q
    ⟨blk.T, 1, List.replicate n (zeroAV ti)⟩ (Nat.le_refl _) (hg.lt id q h1)
    ⟨⟨hg.below.os, hg.below.tape, hg.below.output, by simpa using hg.below.size, fun k hk => by rw [setRow_other _ _ _ _ (by omega)]; exact hg.below.block k hk⟩, hg.below.glob⟩
    (by simp) (fun b hb hne => setRow_other _ _ _ _ (fun e => hne q h1 hcp e.symm)) (by rw [h2, hsz]) (by simp; omega) h4 (fun _ => ⟨hb0, .inr ⟨q, h1, hcp, rfl⟩⟩)
    (fun q' hq' => by rw [h1] at hq'; cases hq'; exact ⟨Nat.le_refl _, fun _ => rfl, fun _ _ => ⟨rfl, rfl⟩⟩) (fun _ => ⟨q, h1⟩) (fun hl _ => by
      refine ⟨hmax, _, setRow_heap _ _ _ _ _ _ a1, by
        rw [← a2]; simp [a2, h2, hsz]; omega, fun i' hi' => ?_⟩
      simp only [List.length_replicate] at hi'
      simp only [List.getElem_replicate, hzA, AV.cells, List.length_singleton, true_and]
      intro j hj
      have hj0 : j = 0 := by omega
      subst hj0
      refine ⟨z, ?_, hone, .c z hone⟩
      rw [hget, if_pos (by omega)])
  have hm : (⟨insert M.l id ⟨blk.T, 1, List.replicate n (zeroAV ti)⟩, E.k⟩ : Mem) = M.put id ⟨blk.T, 1, List.replicate n (zeroAV ti)⟩ := by
    rw [Mem.put, hg.k]
  exact ⟨.tuple #[], _, _, .t [], hrun, hup.1, hup.2, .t [] #[] rfl (fun i h1 h2 => absurd h1 (by simp)), by rw [hm]; exact hK⟩
end Go.Ab

set_option linter.unusedVariables false
set_option linter.unusedSimpArgs false
set_option linter.constructorNameAsVariable false
namespace Go.Ab
open Go Go.RowKit

theorem Out.mono {P : Program} {w0 : World} {E : Env} {s : Sem Value} {K K' : AV → Mem → Prop} (h : Out P w0 E s K) (hk : ∀ a M, K a M → K' a M) : Out P w0 E s K' := by
  obtain ⟨v, E', M', a, h1, h2, h3, h4, h5⟩ := h
  exact ⟨v, E', M', a, h1, h2, h3, h4, hk _ _ h5⟩

/-- A part of a struct's value. -/
def fieldVK (fs : List (Nat × TypeId)) (ti : TI) (f : Nat) : AV → (AV → Prop) → Prop
  | .g cs, K => (fs.getD f (0, 0)).1 + ti.sz ≤ cs.length ∧ (fs.getD f (0, 0)).1 < cs.length ∧ K (part ti (cs.drop (fs.getD f (0, 0)).1))
  | _, _ => False
theorem part_run {P : Program} {E : Env} {t : TypeId} {ti : TI} (ht : TOk P t ti) (ho : ti.k.known = true) {cs : List AV} {ys : Array Value} {o : Nat} (hl : ys.size = cs.length)
    (hr : ∀ i (h1 : i < cs.length) (h2 : i < ys.size), Rep E cs[i] ys[i]) (h1 : o + ti.sz ≤ cs.length) (h2 : o < cs.length) :
    ∃ v, (Go.part t ys o).run P E.w = .ok v E.w ∧ Rep E (part ti (cs.drop o)) v := by
  unfold part
  cases ha : ti.k.agg with
  | true =>
    refine ⟨_, by simp only [Go.part, Sem.run_bind, ht.run_agg ho, ha, Result.andThen, if_true, ht.run_size, Sem.run_pure]; rfl, ?_⟩
    refine .g _ _ (by simp; omega) (fun k h3 h4 => ?_)
    simp only [List.getElem_take, List.getElem_drop, Array.getElem_extract]
    exact hr _ _ _
  | false =>
    have h3 : o < ys.size := by omega
    refine ⟨ys[o], by simp [Go.part, ht.run_agg ho, ha, Result.andThen, h3], ?_⟩
    have : (cs.drop o).headD .x = cs[o] := by
      rw [List.drop_eq_getElem_cons h2]; rfl
    simp only [cond_false, this]
    exact hr _ _ _
theorem fieldV_out {P : Program} {w0 : World} {E : Env} {M : Mem} {S : TypeId} {fs : List (Nat × TypeId)} {ti : TI} {f : Nat} {a : AV} {v : Value} {K : AV → Mem → Prop} (hg : Good w0 E M)
    (hS : KOk P S (.st fs)) (hf : f < fs.length) (ht : TOk P (fs.getD f (0, 0)).2 ti) (ho : ti.k.known = true) (hr : Rep E a v) (h : fieldVK fs ti f a fun a => K a M) : Out P w0 E (Instr.field S v f) K := by
  obtain ⟨A, hA, hfs⟩ := hS
  have hfl : f < A.size := by rw [← hfs] at hf; simpa using hf
  have hfd : fs.getD f (0, 0) = (A[f].offset, A[f].type) := by
    subst hfs
    simp [List.getD, hfl]
  rw [hfd] at ht
  cases hr <;> try exact h.elim
  rename_i cs ys hl hr
  obtain ⟨h1, h2, hK⟩ := h
  rw [hfd] at h1 h2 hK
  obtain ⟨v, hv, hrv⟩ := part_run (P := P) (E := E) ht ho hl hr h1 h2
  exact .val hg (by simp only [Instr.field, Sem.run_bind, run_underlying hA, Result.andThen, Array.getElem?_eq_getElem hfl, asAgg, Sem.run_pure]; exact hv) hrv hK

/-- One result of several. -/
def extractK (i : Nat) : AV → (AV → Prop) → Prop
  | .t vs, K => Elem vs i K
  | _, _ => False
theorem extract_out {P : Program} {w0 : World} {E : Env} {M : Mem} {i : Nat} {a : AV} {v : Value} {K : AV → Mem → Prop} (hg : Good w0 E M) (hr : Rep E a v) (h : extractK i a fun a => K a M) :
    Out P w0 E (Instr.extract v i) K := by
  cases hr <;> try exact h.elim
  rename_i cs ys hl hr
  obtain ⟨hi, hK⟩ := h
  have hi2 : i < ys.size := by omega
  exact .val hg (by simp [Instr.extract, hi2]) (hr i hi hi2) hK

/-- How many. -/
def lenK : TK → AV → (AV → Prop) → Prop
  | .sl _, .s _ _ n, K => K (.c (.int .i64 n))
  | .sl _, .l _ xs, K => K (.c (.int .i64 xs.length))
  | .sl _, .c (.slice _ n _), K => K (.c (.int .i64 n))
  | .str, .c (.string s), K => K (.c (.int .i64 s.size))
  | _, _, _ => False
theorem len_out {P : Program} {w0 : World} {E : Env} {M : Mem} {t ty : TypeId} {k : TK} {a : AV} {v : Value} {K : AV → Mem → Prop} (hg : Good w0 E M)
    (ht : KOk P t k) (hr : Rep E a v) (h : lenK k a fun a => K a M) : Out P w0 E (Builtin.len_ #[t] ty #[v]) K := by
  have e1 : ∀ s, P.underlying t = some .string → (Builtin.len_ #[t] ty #[.string s]).run P E.w = .ok (.int .i64 s.size) E.w := fun s h => by
    simp [Builtin.len_, run_underlying h, goInt]
  have e2 : ∀ A n c e, P.underlying t = some (.slice e) → (Builtin.len_ #[t] ty #[.slice A n c]).run P E.w = .ok (.int .i64 n) E.w := fun A n c e h => by
    simp [Builtin.len_, run_underlying h, goInt]
  cases k <;> try exact h.elim
  · -- a text
    cases hr <;> try exact h.elim
    cases v <;> first | exact h.elim | exact .val hg (e1 _ ht) (.c _ rfl) h
  · cases hr <;> try exact h.elim
    case c => cases v <;> first | exact h.elim | exact .val hg (e2 _ _ _ _ ht) (.c _ rfl) h
    all_goals exact .val hg (e2 _ _ _ _ ht) (.c _ rfl) h

/-- A struct's value out of its parts. -/
def fillA (tab : Tab) (fs : List (Nat × TypeId)) : List AV → List (Nat × AV) → (List AV → Prop) → Prop
  | cs, [], K => K cs
  | cs, (i, a) :: r, K => i < fs.length ∧ (∃ ti, assoc tab (fs.getD i (0, 0)).2 = some ti ∧ a.cells.length = ti.sz ∧ (fs.getD i (0, 0)).1 + ti.sz ≤ cs.length) ∧ Cells a ∧
      fillA tab fs (splice cs (fs.getD i (0, 0)).1 a.cells) r K

theorem fold_get? (off : Nat) : ∀ (l : List Value) (n : Nat) (cs : Array Value) (k : Nat), off + n + l.length ≤ cs.size →
    ((l.zipIdx n).foldl (fun cs p => cs.setIfInBounds (off + p.2) p.1) cs)[k]? = if off + n ≤ k ∧ k < off + n + l.length then l[k - (off + n)]? else cs[k]?
  | [], n, cs, k, _ => by rw [if_neg (by simp only [List.length_nil]; omega)]; rfl
  | v :: r, n, cs, k, h => by
    simp only [List.zipIdx_cons, List.foldl_cons, List.length_cons] at h ⊢
    rw [fold_get? off r (n + 1) _ k (by simp; omega)]
    by_cases h1 : k = off + n
    · subst h1
      rw [if_neg (by omega), if_pos (by omega)]
      simp only [Array.getElem?_setIfInBounds, if_true, Nat.sub_self, List.getElem?_cons_zero]
      rw [if_pos (by omega)]
    · by_cases h2 : off + n ≤ k ∧ k < off + n + (r.length + 1)
      · rw [if_pos h2, if_pos (by omega)]
        have : k - (off + n) = (k - (off + (n + 1))) + 1 := by omega
        rw [this, List.getElem?_cons_succ]
      · rw [if_neg h2, if_neg (by omega)]
        simp only [Array.getElem?_setIfInBounds]
        rw [if_neg (by omega)]
theorem fold_size (off : Nat) : ∀ (l : List Value) (n : Nat) (cs : Array Value), ((l.zipIdx n).foldl (fun cs p => cs.setIfInBounds (off + p.2) p.1) cs).size = cs.size
  | [], n, cs => rfl
  | v :: r, n, cs => by simp [List.zipIdx_cons, fold_size off r (n + 1)]

/-- The parts of a literal, as they are told. -/
def RepP (E : Env) : List (Nat × AV) → List (Nat × Value) → Prop
  | [], [] => True
  | (i, a) :: r, (j, v) :: s => i = j ∧ Rep E a v ∧ RepP E r s
  | _, _ => False

theorem fill_rep {P : Program} {E : Env} {tab : Tab} (hT : TabOk P tab) {fs : List (Nat × TypeId)} {place : Nat → Option (Nat × Nat)}
    (hp : ∀ i ti, i < fs.length → assoc tab (fs.getD i (0, 0)).2 = some ti → place i = some ((fs.getD i (0, 0)).1, ti.sz)) {K : List AV → Prop} :
    ∀ (ps : List (Nat × AV)) (vs : List (Nat × Value)) (cs : List AV) (ys : Array Value), RepP E ps vs → ys.size = cs.length → (∀ i (h1 : i < cs.length) (h2 : i < ys.size), Rep E cs[i] ys[i]) →
      fillA tab fs cs ps K → ∃ cs' ys', Instr.fill place ys vs = some ys' ∧ ys'.size = cs'.length ∧ (∀ i (h1 : i < cs'.length) (h2 : i < ys'.size), Rep E cs'[i] ys'[i]) ∧ K cs'
  | [], [], cs, ys, _, hl, hr, h => ⟨cs, ys, rfl, hl, hr, h⟩
  | (i, a) :: r, (j, v) :: s, cs, ys, hrp, hl, hr, h => by
    obtain ⟨rfl, hav, hrs⟩ := hrp
    obtain ⟨hi, ⟨ti, hti, hsz, hle⟩, hc, h⟩ := h
    obtain ⟨g1, g2⟩ := hav.cells hc
    have hpl := hp i ti hi hti
    obtain ⟨o, ho⟩ : ∃ o, o = (fs.getD i (0, 0)).1 := ⟨_, rfl⟩
    rw [← ho] at hpl hle h
    have hvl : v.cells.toList.length = v.cells.size := by simp
    have hfit : o + a.cells.length ≤ cs.length := by omega
    have hfold : v.cells.zipIdx.foldl (fun cs x => cs.setIfInBounds (o + x.2) x.1) ys = (v.cells.toList.zipIdx 0).foldl (fun cs p => cs.setIfInBounds (o + p.2) p.1) ys := by
      rw [← Array.foldl_toList, Array.toList_zipIdx]
    obtain ⟨cs', ys', f1, f2, f3, f4⟩ := fill_rep hT hp r s (splice cs o a.cells) ((v.cells.toList.zipIdx 0).foldl (fun cs p => cs.setIfInBounds (o + p.2) p.1) ys) hrs
      (by rw [fold_size, splice_length hfit, hl]) (fun k h1 h2 => by
        have h3 : k < cs.length := by rw [splice_length hfit] at h1; exact h1
        have h4 := fold_get? o v.cells.toList 0 ys k (by omega)
        rw [splice_get hfit h1 h3]
        rw [Array.getElem?_eq_getElem h2] at h4
        split
        · rename_i hin
          rw [if_pos (by omega)] at h4
          have h5 : k - o < v.cells.size := by omega
          have h6 := (g2 (k - o) (by omega) h5).2
          have h7 : v.cells.toList[k - (o + 0)]? = some v.cells[k - o] := by simp [h5]
          rw [h7] at h4
          injection h4 with h4
          rw [h4]; exact h6
        · rename_i hin
          rw [if_neg (by omega)] at h4
          have h5 : k < ys.size := by omega
          rw [Array.getElem?_eq_getElem h5] at h4
          injection h4 with h4
          rw [h4]; exact hr k h3 h5) h
    refine ⟨cs', ys', ?_, f2, f3, f4⟩
    rw [Instr.fill, hpl]
    simp only
    rw [if_neg (by simp only [Bool.or_eq_true, decide_eq_true_eq, not_or]; omega), hfold]
    exact f1
  | [], _ :: _, _, _, h, _, _, _ => h.elim
  | _ :: _, [], _, _, h, _, _, _ => h.elim
end Go.Ab

set_option linter.unusedVariables false
set_option linter.unusedSimpArgs false
set_option linter.constructorNameAsVariable false
namespace Go.Ab
open Go Go.RowKit

def AllVP (M : Mem) : List (Nat × AV) → Prop
  | [] => True
  | (_, a) :: r => VOkA M a ∧ AllVP M r
def viewP (M : Mem) : List (Nat × AV) → List (Nat × AV)
  | [] => []
  | (i, a) :: r => (i, viewA M a) :: viewP M r
def idsP : List (Nat × AV) → List Nat
  | [] => []
  | (_, a) :: r => idsA a ++ idsP r
theorem rep_viewP {w0 : World} {E : Env} {M : Mem} (hg : Good w0 E M) {ids : List Nat} : ∀ (ps : List (Nat × AV)) (vs : List (Nat × Value)), RepP E ps vs → AllVP M ps → (∀ id ∈ idsP ps, id ∈ ids) → RepP (E.without ids) (viewP M ps) vs
  | [], [], _, _, _ => trivial
  | (i, a) :: r, (j, v) :: s, h, hv, hi => ⟨h.1, rep_viewA hg h.2.1 hv.1 (fun id hid => hi id (by simp [idsP, hid])), rep_viewP hg r s h.2.2 hv.2 (fun id hid => hi id (by simp [idsP, hid]))⟩
  | [], _ :: _, h, _, _ => h.elim
  | _ :: _, [], h, _, _ => h.elim

def AllKnown (tab : Tab) : List (Nat × TypeId) → Prop
  | [] => True
  | (_, t) :: r => (∃ ti, assoc tab t = some ti) ∧ AllKnown tab r
/-- A struct's literal. -/
def buildK (tab : Tab) (ti : TI) (fs : List (Nat × TypeId)) (M : Mem) (ps : List (Nat × AV)) (K : AV → Mem → Prop) : Prop :=
  AllKnown tab fs ∧ fillA tab fs (ti.z.map .c) ps fun cs => K (.g cs) M

theorem places_of {P : Program} {tab : Tab} (hT : TabOk P tab) : ∀ (fields : List Field), AllKnown tab (fields.map fun f => (f.offset, f.type)) →
    ∃ places, fields.mapM (fun f => (P.info? f.type).map fun i => (f.offset, i.size)) = some places ∧
      ∀ i ti, i < fields.length → assoc tab ((fields.map fun f => (f.offset, f.type)).getD i (0, 0)).2 = some ti → places[i]? = some (((fields.map fun f => (f.offset, f.type)).getD i (0, 0)).1, ti.sz)
  | [], _ => ⟨[], rfl, fun i ti h _ => absurd h (by simp)⟩
  | f :: r, h => by
    obtain ⟨⟨ti0, h0⟩, h1⟩ := h
    obtain ⟨places, p1, p2⟩ := places_of hT r h1
    obtain ⟨g, g1, g2, g3, g4⟩ := (hT _ _ h0).ex
    refine ⟨(f.offset, ti0.sz) :: places, by simp [List.mapM_cons, g1, g3, p1], fun i ti hi ha => ?_⟩
    cases i with
    | zero =>
      simp only [List.map_cons, List.getD_cons_zero] at ha ⊢
      rw [h0] at ha
      cases ha
      rfl
    | succ i =>
      simp only [List.map_cons, List.getD_cons_succ, List.getElem?_cons_succ] at ha ⊢
      exact p2 i ti (by simpa using hi) ha

theorem build_out {P : Program} {w0 : World} {E : Env} {M : Mem} {tab : Tab} {t : TypeId} {ti : TI} {fs : List (Nat × TypeId)} {ps : List (Nat × AV)} {vs : Array (Nat × Value)} {K : AV → Mem → Prop}
    (hg : Good w0 E M) (hT : TabOk P tab) (ht : TOk P t ti) (hk : ti.k = .st fs) (hr : RepP E ps vs.toList) (h : buildK tab ti fs M ps K) : Out P w0 E (Instr.build t vs) K := by
  obtain ⟨h1, h3⟩ := h
  have hS := ht.k
  rw [hk] at hS
  obtain ⟨A, hA, hfs⟩ := hS
  obtain ⟨places, p1, p2⟩ := places_of hT A.toList (by rw [hfs]; exact h1)
  obtain ⟨f, g1, g2, g3, g4⟩ := ht.ex
  have hz : ti.zero = .agg ti.z.toArray := by simp [TI.zero, hk, TK.agg]
  obtain ⟨cs, ys, f1, f2, f3, f4⟩ := fill_rep (E := E) hT (fs := fs) (place := (places.toArray[·]?)) (fun i ti hi ha => by
      subst hfs
      simpa using p2 i ti (by simpa using hi) ha) ps vs.toList (ti.z.map .c) ti.z.toArray hr (by simp) (fun i h1 h2 => by
      simp only [List.getElem_map, List.getElem_toArray]
      exact .c _ (ht.one _ (List.getElem_mem _))) h3
  have hb : P.built t vs.toList = some ys := by
    unfold Program.built
    rw [g1, hA]
    simp only [g2, p1, hz, Value.cells]
    exact f1
  exact ⟨.agg ys, E, M, .g cs, run_build E.w t vs ys hb, hg, .refl E, .g cs ys f2 f3, f4⟩

/-- A slice's literal: all its elements. -/
def AllSz (sz : Nat) : List AV → Prop
  | [] => True
  | a :: r => Cells a ∧ a.cells.length = sz ∧ AllSz sz r
theorem AllSz.get {sz : Nat} : ∀ {l : List AV}, AllSz sz l → ∀ i (h : i < l.length), Cells l[i] ∧ l[i].cells.length = sz
  | a :: r, h, 0, _ => ⟨h.1, h.2.1⟩
  | a :: r, h, i + 1, hi => h.2.2.get i (by simpa using hi)
def sliceK (e : TypeId) (ti : TI) (M : Mem) (ps : List (Nat × AV)) (K : AV → Mem → Prop) : Prop :=
  0 < ti.sz ∧ ps.length * ti.sz ≤ 16777216 ∧ AllSz ti.sz (ps.map (·.2)) ∧ K (.s M.k 0 ps.length) (newMem M ⟨e, ti.sz, ps.map (·.2)⟩)

theorem fill_list (sz : Nat) : ∀ (vs : List Value) (i0 : Nat) (arr : Array Value), (∀ v ∈ vs, v.cells.size = sz) → (i0 + vs.length) * sz ≤ arr.size →
    ∃ arr', Instr.fill (fun i => some (i * sz, sz)) arr ((vs.zipIdx i0).map fun p => (p.2, p.1)) = some arr' ∧ arr'.size = arr.size ∧
      (∀ k, k < i0 * sz → arr'[k]? = arr[k]?) ∧ ∀ i (hi : i < vs.length) j, j < sz → arr'[(i0 + i) * sz + j]? = vs[i].cells[j]?
  | [], i0, arr, _, _ => ⟨arr, rfl, rfl, fun _ _ => rfl, fun i hi => absurd hi (by simp)⟩
  | v :: r, i0, arr, h, hle => by
    have hv := h v (by simp)
    have e1 : (i0 + (v :: r).length) * sz = i0 * sz + sz + r.length * sz := by simp only [List.length_cons, Nat.add_mul]; omega
    have hvl : v.cells.toList.length = sz := by simpa using hv
    have hfold : v.cells.zipIdx.foldl (fun cs x => cs.setIfInBounds (i0 * sz + x.2) x.1) arr = (v.cells.toList.zipIdx 0).foldl (fun cs p => cs.setIfInBounds (i0 * sz + p.2) p.1) arr := by
      rw [← Array.foldl_toList, Array.toList_zipIdx]
    obtain ⟨arr', a1, a2, a3, a4⟩ := fill_list sz r (i0 + 1) ((v.cells.toList.zipIdx 0).foldl (fun cs p => cs.setIfInBounds (i0 * sz + p.2) p.1) arr) (fun u hu => h u (by simp [hu]))
      (by rw [fold_size]; simp only [Nat.add_mul] at hle ⊢; simp only [List.length_cons, Nat.add_mul] at hle; omega)
    have hget := fun k => fold_get? (i0 * sz) v.cells.toList 0 arr k (by omega)
    refine ⟨arr', ?_, by rw [a2, fold_size], fun k hk => ?_, fun i hi j hj => ?_⟩
    · simp only [List.zipIdx_cons, List.map_cons, Instr.fill]
      rw [if_neg (by simp only [Bool.or_eq_true, decide_eq_true_eq, not_or]; omega), hfold]
      exact a1
    · rw [a3 k (by rw [Nat.add_mul]; omega), hget k, if_neg (by omega)]
    · cases i with
      | zero =>
        simp only [Nat.add_zero, List.getElem_cons_zero]
        rw [a3 _ (by rw [Nat.add_mul]; omega), hget, if_pos (by omega)]
        have : i0 * sz + j - (i0 * sz + 0) = j := by omega
        rw [this]; simp
      | succ i =>
        have e2 : i0 + (i + 1) = i0 + 1 + i := by omega
        rw [e2]
        exact a4 i (by simpa using hi) j hj

theorem repP_map {E : Env} : ∀ (ps : List (Nat × AV)) (vs : List (Nat × Value)) (i0 : Nat), RepP E ps vs → ps.map (·.1) = List.range' i0 ps.length →
    vs = ((vs.map (·.2)).zipIdx i0).map (fun p => (p.2, p.1)) ∧ vs.length = ps.length ∧ ∀ i (h1 : i < ps.length) (h2 : i < vs.length), Rep E ps[i].2 vs[i].2
  | [], [], _, _, _ => ⟨rfl, rfl, fun i h => absurd h (by simp)⟩
  | (i, a) :: r, (j, v) :: s, i0, h, he => by
    obtain ⟨rfl, h1, h2⟩ := h
    simp only [List.map_cons, List.length_cons, List.range'_succ, List.cons.injEq] at he
    obtain ⟨g1, g2, g3⟩ := repP_map r s (i0 + 1) h2 he.2
    refine ⟨?_, by simp [g2], fun k h3 h4 => ?_⟩
    · simp only [List.map_cons, List.zipIdx_cons, he.1]
      rw [← g1]
    · cases k with
      | zero => exact h1
      | succ k => exact g3 k (by simpa using h3) (by simpa using h4)
  | [], _ :: _, _, h, _ => h.elim
  | _ :: _, [], _, h, _ => h.elim
theorem viewP_length (M : Mem) : ∀ ps, (viewP M ps).length = ps.length
  | [] => rfl
  | (_, _) :: r => by simp [viewP, viewP_length M r]
theorem viewP_fst (M : Mem) : ∀ ps, (viewP M ps).map (·.1) = ps.map (·.1)
  | [] => rfl
  | (_, _) :: r => by simp [viewP, viewP_fst M r]

/-- An array of single cells, all of them told. -/
def arrK (n : Nat) (te : TI) (M : Mem) (ps : List (Nat × AV)) (K : AV → Mem → Prop) : Prop :=
  te.sz = 1 ∧ n = ps.length ∧ (ps.map fun p => p.1) = List.range' 0 n ∧ AllCell (ps.map (·.2)) ∧ K (.g (ps.map (·.2))) M
theorem one_cells {E : Env} {a : AV} {v : Value} (hr : Rep E a v) (hc : Cell a) : v.cells = #[v] := by
  have h1 := hr.cells (show Cells a by cases a <;> first | exact hc.elim | trivial)
  have hs := h1.1
  have ha : a.cells = [a] := by cases a <;> first | exact hc.elim | rfl
  rw [ha] at hs
  have h2 := h1.2 0 (by simp [ha]) (by rw [hs]; simp)
  cases hr <;> first | exact hc.elim | skip
  all_goals first | rfl | skip
  rename_i h
  cases v <;> first | rfl | (simp [One, Value.oneCell'] at h)
theorem buildA_out {P : Program} {w0 : World} {E : Env} {M : Mem} {t e : TypeId} {ti te : TI} {n : Nat} {ps : List (Nat × AV)} {vs : Array (Nat × Value)} {K : AV → Mem → Prop}
    (hg : Good w0 E M) (ht : TOk P t ti) (hk : ti.k = .ar n e) (hte : TOk P e te) (hn : ti.sz = n) (hr : RepP E ps vs.toList) (h : arrK n te M ps K) : Out P w0 E (Instr.build t vs) K := by
  obtain ⟨hsz, hnl, hix, hcs, hK⟩ := h
  obtain ⟨q1, q2, q3⟩ := repP_map ps vs.toList 0 hr (by rw [hix, hnl])
  have hS := ht.k
  rw [hk] at hS
  obtain ⟨f, g1, g2, g3, g4⟩ := ht.ex
  obtain ⟨f', g1', g2', g3', g4'⟩ := hte.ex
  have hz : ti.zero = .agg ti.z.toArray := by simp [TI.zero, hk, TK.agg]
  have hzc : ti.z.length = n := by rw [ht.z, hn]
  have hc1 : ∀ i (h1 : i < ps.length) (h2 : i < vs.toList.length), (vs.toList[i].2).cells = #[vs.toList[i].2] := fun i h1 h2 => one_cells (q3 i h1 h2) (by
    have := AllCell.get hcs i (by simpa using h1)
    simpa using this)
  obtain ⟨arr', a1, a2, a3, a4⟩ := fill_list 1 (vs.toList.map (·.2)) 0 ti.z.toArray (fun v hv => by
    obtain ⟨p, hp, rfl⟩ := List.mem_map.1 hv
    obtain ⟨i, hi, rfl⟩ := List.getElem_of_mem hp
    rw [hc1 i (by omega) hi]; rfl) (by simp [hzc, q2, hnl])
  have hb : P.built t vs.toList = some arr' := by
    unfold Program.built
    rw [g1, hS]
    simp only [g2, g1', hz, Value.cells, g3', hsz]
    rw [q1]
    exact a1
  refine ⟨.agg arr', E, M, .g (ps.map (·.2)), run_build E.w t vs arr' hb, hg, .refl E, .g _ _ (by rw [a2]; simp [hzc, hnl]) (fun i h1 h2 => ?_), hK⟩
  have hi : i < ps.length := by simpa using h1
  have hi2 : i < vs.toList.length := by omega
  have := a4 i (by simpa using hi2) 0 (by omega)
  simp only [List.getElem_map, Nat.zero_add, Nat.mul_one, Nat.add_zero] at this
  rw [hc1 i hi hi2] at this
  have e : arr'[i] = vs.toList[i].2 := by
    rw [Array.getElem?_eq_getElem h2] at this
    simpa using this
  rw [e, List.getElem_map]
  exact q3 i hi hi2

theorem bslice_out {P : Program} {w0 : World} {E : Env} {M : Mem} {t e : TypeId} {ti : TI} {n : Nat} {ps : List (Nat × AV)} {vs : Array (Nat × Value)} {K : AV → Mem → Prop}
    (hg : Good w0 E M) (hS : KOk P t (.sl e)) (ht : TOk P e ti) (hr : RepP E ps vs.toList) (hn : n = ps.length) (hix : ps.map (·.1) = List.range' 0 ps.length) (h : sliceK e ti M ps K) : Out P w0 E (Instr.buildSlice t n vs) K := by
  obtain ⟨hsz, hmax, h2, h3⟩ := h
  have hrv := hr
  obtain ⟨q1, q2, q3⟩ := repP_map ps vs.toList 0 hrv hix
  have hvs : ∀ i (hi : i < vs.toList.length), (vs.toList[i].2).cells.size = ti.sz := fun i hi => by
    have hi2 : i < ps.length := by omega
    obtain ⟨c1, c2⟩ := h2.get i (by simpa using hi2)
    have := (q3 i hi2 hi).cells (by simpa using c1)
    rw [this.1]; simpa using c2
  have hzl : ti.z.toArray.size = ti.sz := by simpa using ht.z
  have hzc : ti.zero.cells.size = ti.sz := ht.zc
  obtain ⟨arr, a1, a2, a3, a4⟩ := fill_list ti.sz (vs.toList.map (·.2)) 0 ((Array.range (n * ti.sz)).map (ti.zero.cells[· % ti.zero.cells.size]!)) (fun v hv => by
      obtain ⟨p, hp, rfl⟩ := List.mem_map.1 hv
      obtain ⟨i, hi, rfl⟩ := List.mem_iff_getElem.1 hp
      exact hvs i hi) (by simp [hn]; rw [← q2]; simp)
  rw [← q1] at a1
  have hrun : (Instr.buildSlice t n vs).run P E.w = .ok (.slice (some ⟨E.w.heap.size, 0, none⟩) n n) (E.w.alloc (.cells arr e)) := by
    simp only [KOk] at hS
    have hm : ¬ n * ti.sz > 2 ^ 24 := by rw [hn]; omega
    by_cases hn0 : n * ti.sz = 0
    · have hn1 : n = 0 := by
        rcases Nat.mul_eq_zero.1 hn0 with h | h <;> omega
      have hvs0 : vs.toList = [] := List.eq_nil_of_length_eq_zero (by omega)
      rw [hvs0] at a1
      simp only [Instr.fill, Option.some.injEq] at a1
      subst a1
      subst hn1
      obtain rfl : vs = #[] := Array.toList_eq_nil_iff.1 hvs0
      simp [Instr.buildSlice, run_underlying hS, ht.run_size, Result.andThen, Instr.fill, newRow]
      have e0 : ∀ f : Nat → Value, (Array.range 0).map f = #[] := fun f => by simp
      rw [e0, e0]
    · simp only [Instr.buildSlice, Sem.run_bind, run_underlying hS, ht.run_size, Result.andThen]
      simp only [hm, hn0, if_false, Sem.run_bind, ht.run_zero, Result.andThen, Sem.run_pure, a1, newRow, run_newObj_alloc]
  have hnew := Good.new hg (E.w.alloc (.cells arr e)) e ti.sz n (ps.map (·.2)) arr rfl rfl rfl rfl (by rw [a2]; simp) (by simp [hn]) (by
      have : n ≤ n * ti.sz := Nat.le_mul_of_pos_right _ hsz
      simp only [maxLen]; rw [← hn] at hmax; omega) (fun i hi => by
      have hi1 : i < ps.length := by simpa using hi
      have hi2 : i < vs.toList.length := by omega
      obtain ⟨c1, c2⟩ := h2.get i hi
      refine ⟨c2, fun j hj => ?_⟩
      simp only [List.getElem_map] at c1 c2 hj ⊢
      obtain ⟨g1, g2⟩ := (q3 i hi1 hi2).cells c1
      have hj2 : j < (vs.toList[i].2).cells.size := by rw [g1]; exact hj
      refine ⟨(vs.toList[i].2).cells[j], ?_, (g2 j hj hj2).1, (g2 j hj hj2).2⟩
      have := a4 i (by simpa using hi2) j (by rw [← c2]; exact hj)
      simp only [Nat.zero_add, List.getElem_map] at this
      rw [this]; simp)
  refine ⟨_, _, _, _, hrun, hnew.1, hnew.2, .s E.k 0 n _ _ (by show E.k < E.k + 1; omega) (fun q hq => ?_), ?_⟩
  · simp only [upd_self, Option.some.injEq] at hq
    subst hq
    simp only [List.length_map]
    exact ⟨by omega, fun _ => ⟨by omega, fun _ => by simp⟩⟩
  · rw [← hg.k, hn]
    simpa [newMem] using h3
end Go.Ab

set_option linter.unusedVariables false
set_option linter.unusedSimpArgs false
set_option linter.constructorNameAsVariable false
namespace Go.Ab
open Go Go.RowKit

/-- make([]T, n), make([]T, 0, c). -/
def makeK (e : TypeId) (ti : TI) (M : Mem) : AV → AV → (AV → Mem → Prop) → Prop
  | .c (.int _ n), .c (.int _ c), K => (ti.k.agg = true ∨ 0 < ti.sz) ∧ 0 ≤ c ∧ ti.by' * c.toNat ≤ 281474976710656 ∧ c ≤ 9223372036854775807 ∧
      ((n = c ∧ K (.s M.k 0 n.toNat) (newMem M ⟨e, ti.sz, List.replicate n.toNat (zeroAV ti)⟩)) ∨ (n = 0 ∧ K (.s M.k 0 0) (newMem M ⟨e, ti.sz, []⟩)))
  | _, _, _ => False
theorem Good.owned {w0 : World} {E : Env} {M : Mem} (hg : Good w0 E M) {w' : World} {e : TypeId} {sz g n cap : Nat} {vals : List Value} {xs : List AV}
    (hgr : E.w.grownBy w' none) (ho : w'.ownsRow E.w.heap.size e sz (.slice (some ⟨g, 0, none⟩) n cap) n vals) (hx : xs.length = n)
    (hc : ∀ i (hi : i < xs.length), xs[i].cells.length = sz ∧ ∀ j (hj : j < xs[i].cells.length), ∃ y, vals[i * sz + j]? = some y ∧ One y ∧ Rep E xs[i].cells[j] y) :
    Good w0 ⟨w', Ab.upd E.ad E.k (some ⟨g, sz, n, cap⟩), E.k + 1, E.hid⟩ ⟨insert M.l M.k ⟨e, sz, xs⟩, M.k + 1⟩ ∧ Later E ⟨w', Ab.upd E.ad E.k (some ⟨g, sz, n, cap⟩), E.k + 1, E.hid⟩ := by
  have hnone : E.ad E.k = none := by
    cases hq : E.ad E.k with
    | none => rfl
    | some q => exact absurd (hg.lt _ _ hq) (by omega)
  obtain ⟨ho1, ho2⟩ := ho
  rcases ho2 with ⟨h, _⟩ | ⟨g', cap', cur, h, hb, hh, hnc, hcm, hcs, htk⟩
  · simp at h
  · simp only [Value.slice.injEq, Option.some.injEq, Addr.mk.injEq, and_true, true_and] at h
    obtain ⟨rfl, rfl⟩ := h
    rw [hg.k]
    refine Good.upd hg w' E.k (E.k + 1) ⟨g, sz, n, cap⟩ ⟨e, sz, xs⟩ (by omega) (by omega)
      (hg.below.trans ⟨hgr.os, hgr.tape, hgr.output, hgr.size, fun b hb => hgr.block b (Nat.lt_of_lt_of_le hb hg.below.size) (by simp)⟩) hgr.size (fun b hb _ => hgr.block b hb (by simp)) rfl hx.symm hnc
      (fun _ => ⟨Nat.le_trans hg.below.size hb, .inl hb⟩) (fun q hq => by rw [hnone] at hq; cases hq) (fun h => absurd h (by omega)) (fun hl _ => ?_)
    refine ⟨hcm, cur, hh, hcs, fun i hi => ⟨(hc i hi).1, fun j hj => ?_⟩⟩
    obtain ⟨y, a, b, c⟩ := (hc i hi).2 j hj
    refine ⟨y, ?_, b, c.later hl⟩
    have hlt : i * sz + j < vals.length := (List.getElem?_eq_some_iff.1 a).1
    rw [← htk, List.getElem?_take_of_lt (by omega)] at a
    simpa using a
theorem rep_made {P : Program} {t : TypeId} {ti : TI} (ht : TOk P t ti) (hs : ti.k.agg = true ∨ 0 < ti.sz) (E : Env) (n : Nat) :
    ∀ i (hi : i < (List.replicate n (zeroAV ti)).length), (List.replicate n (zeroAV ti))[i].cells.length = ti.sz ∧
      ∀ j (hj : j < (List.replicate n (zeroAV ti))[i].cells.length), ∃ y, (madeCells ti.zero.cells (n * ti.sz)).toList[i * ti.sz + j]? = some y ∧ One y ∧ Rep E (List.replicate n (zeroAV ti))[i].cells[j] y := by
  intro i hi
  have hi' : i < n := by simpa using hi
  have hz := rep_zero ht hs E
  have hcl : Cells (zeroAV ti) := by
    unfold zeroAV
    cases ha : ti.k.agg with
    | true =>
      simp only [cond_true, Cells]
      generalize ti.z = z
      induction z with
      | nil => trivial
      | cons a r ih => exact ⟨trivial, ih⟩
    | false => trivial
  obtain ⟨g1, g2⟩ := hz.cells hcl
  have hzc := ht.zc
  simp only [List.getElem_replicate]
  refine ⟨by omega, fun j hj => ?_⟩
  have hj2 : j < ti.zero.cells.size := by omega
  refine ⟨ti.zero.cells[j], ?_, (g2 j hj hj2).1, (g2 j hj hj2).2⟩
  have h1 : i * ti.sz + j < n * ti.sz := by
    have : (i + 1) * ti.sz ≤ n * ti.sz := Nat.mul_le_mul_right _ hi'
    rw [Nat.add_mul] at this; omega
  have h3 : (i * ti.sz + j) % ti.zero.cells.size = j := by
    rw [hzc, Nat.mul_comm, Nat.mul_add_mod]; exact Nat.mod_eq_of_lt (by omega)
  simp [madeCells, h1, h3, hj2]
theorem make_out {P : Program} {w0 : World} {E : Env} {M : Mem} {t e : TypeId} {ti : TI} {a b : AV} {u v : Value} {K : AV → Mem → Prop} (hg : Good w0 E M)
    (hS : KOk P t (.sl e)) (ht : TOk P e ti) (hr : Rep E a u) (hx : Rep E b v) (h : makeK e ti M a b K) : Out P w0 E (Instr.makeSlice t u v) K := by
  obtain ⟨f, g1, g2, g3, g4⟩ := ht.ex
  cases hr <;> try exact h.elim
  cases hx <;> (cases u <;> try exact h.elim)
  cases v <;> try exact h.elim
  rename_i k n _ k' c _
  obtain ⟨hs, h0, hby, hmx, hK⟩ := h
  have hc : ((c.toNat : Nat) : Int) = c := Int.toNat_of_nonneg h0
  rcases hK with ⟨rfl, hK⟩ | ⟨rfl, hK⟩
  · obtain ⟨w', r1, r2, r3⟩ := run_make_full (P := P) E.w E.w.heap.size t e f ti.zero ti.sz hS g1 g2 g3 k k' n.toNat (by rw [g4]; exact hby) (by simp only [maxLen]; omega) (Nat.le_refl _)
    rw [hc] at r1
    have hgd := Good.owned hg r3 r2 (xs := List.replicate n.toNat (zeroAV ti)) (by simp) (rep_made ht hs E n.toNat)
    refine ⟨_, _, _, _, r1, hgd.1, hgd.2, .s E.k 0 n.toNat _ _ (by show E.k < E.k + 1; omega) (fun q hq => ?_), ?_⟩
    · simp only [upd_self, Option.some.injEq] at hq
      subst hq
      exact ⟨by simp, fun _ => ⟨by simp, fun _ => by simp⟩⟩
    · simpa [newMem, hg.k] using hK
  · obtain ⟨w', r1, r2, r3⟩ := run_make_own (P := P) E.w E.w.heap.size t e f ti.zero ti.sz hS g1 g2 g3 k k' c.toNat (by rw [g4]; exact hby) (by simp only [maxLen]; omega) (Nat.le_refl _)
    rw [hc] at r1
    have hgd := Good.owned hg r3 r2 (xs := []) rfl (fun i hi => absurd hi (by simp))
    refine ⟨_, _, _, _, r1, hgd.1, hgd.2, .s E.k 0 0 _ _ (by show E.k < E.k + 1; omega) (fun q hq => ?_), ?_⟩
    · simp only [upd_self, Option.some.injEq] at hq
      subst hq
      exact ⟨by simp, fun _ => ⟨by simp, fun _ => by simp⟩⟩
    · simpa [newMem, hg.k] using hK
end Go.Ab

set_option linter.unusedVariables false
set_option linter.unusedSimpArgs false
set_option linter.constructorNameAsVariable false
namespace Go.Ab
open Go Go.RowKit

/-- A bound that is given, or not. -/
def bnd (d : Int) : Option AV → (Int → Prop) → Prop
  | none, K => K d
  | some (.c (.int _ i)), K => K i
  | _, _ => False
inductive RepO (E : Env) : Option AV → Option Value → Prop where
  | none : RepO E none none
  | some (a : AV) (v : Value) (h : Rep E a v) : RepO E (some a) (some v)
/-- The bounds that hold: 0 ≤ l ≤ h (≤ m) ≤ n. -/
def bnds (n : Nat) (lo hi mx : Option AV) (K : Nat → Nat → Prop) : Prop :=
  bnd 0 lo fun l => bnd n hi fun h => bnd n mx fun m => (mx.isSome = true → hi.isSome = true) ∧ 0 ≤ l ∧ l ≤ h ∧ h ≤ m ∧ m ≤ n ∧ K l.toNat h.toNat
/-- What a bound's run gives. -/
theorem bound_run {P : Program} (w : World) (k : IntKind) (i : Int) (y : Nat) (c : BoundsCode) (a : 0 ≤ i) (b : i ≤ y) : (Instr.sliceBound (.int k i) y c).run P w = .ok i.toNat w := by
  simp [Instr.sliceBound, asIntOf, a, b]
theorem bnd_val {E : Env} {d : Int} {o : Option AV} {ov : Option Value} {K : Int → Prop} (hr : RepO E o ov) (h : bnd d o K) : ∃ i, K i ∧ ((o = none ∧ ov = none ∧ i = d) ∨ ∃ k a, o = some a ∧ ov = some (.int k i)) := by
  cases hr with
  | none => exact ⟨d, h, .inl ⟨rfl, rfl, rfl⟩⟩
  | some a v hr =>
    cases hr <;> try exact h.elim
    cases v <;> try exact h.elim
    exact ⟨_, h, .inr ⟨_, _, rfl, rfl⟩⟩
theorem bnds_run {P : Program} {E : Env} {n cap : Nat} {lo hi mx : Option AV} {lv hv mv : Option Value} {K : Nat → Nat → Prop} (hn : n ≤ cap) (h1 : RepO E lo lv) (h2 : RepO E hi hv) (h3 : RepO E mx mv)
    (h : bnds n lo hi mx K) : ∃ l h m : Nat, (∀ b, (Instr.sliceBounds b n cap lv hv mv).run P E.w = .ok (l, h, m) E.w) ∧ l ≤ h ∧ h ≤ n ∧ h ≤ m ∧ m ≤ cap ∧ (hi = none → h = n) ∧ (mx = none → m = cap) ∧ (mx.isSome = true → hi.isSome = true) ∧ K l h := by
  unfold bnds at h
  obtain ⟨l, h, e1⟩ := bnd_val h1 h
  obtain ⟨i, h, e2⟩ := bnd_val h2 h
  obtain ⟨m, ⟨hm, a1, a2, a3, a4, hK⟩, e3⟩ := bnd_val h3 h
  have eh : ((i.toNat : Nat) : Int) = i := Int.toNat_of_nonneg (by omega)
  have em : ((m.toNat : Nat) : Int) = m := Int.toNat_of_nonneg (by omega)
  rcases e3 with ⟨rfl, rfl, rfl⟩ | ⟨km, am, rfl, rfl⟩
  · refine ⟨l.toNat, i.toNat, cap, fun b => ?_, by omega, by omega, by omega, by omega, fun e => ?_, fun _ => rfl, hm, hK⟩
    · rcases e2 with ⟨rfl, rfl, h2'⟩ | ⟨k2, a2', rfl, rfl⟩ <;> rcases e1 with ⟨rfl, rfl, h1'⟩ | ⟨k1, a1', rfl, rfl⟩ <;>
        simp only [Instr.sliceBounds, Sem.run_bind, Sem.run_pure, Result.andThen, bound_run (P := P) E.w _ _ _ _ a1 (by omega : l ≤ (i.toNat : Int)), bound_run (P := P) E.w _ _ n _ a1 (by omega), bound_run (P := P) E.w _ _ cap _ (by omega : 0 ≤ i) (by omega : i ≤ (cap : Int))] <;> simp [*]
    · rcases e2 with ⟨_, _, rfl⟩ | ⟨k2, a2', h, _⟩
      · simp
      · rw [h] at e; cases e
  · obtain ⟨k2, a2', rfl, rfl⟩ : ∃ k a, hi = some a ∧ hv = some (.int k i) := by
      rcases e2 with ⟨h, _⟩ | h
      · rw [h] at hm; exact absurd (hm rfl) (by simp)
      · exact h
    refine ⟨l.toNat, i.toNat, m.toNat, fun b => ?_, by omega, by omega, by omega, by omega, fun e => by (cases e), fun e => by (cases e), fun _ => rfl, hK⟩
    rcases e1 with ⟨rfl, rfl, h1'⟩ | ⟨k1, a1', rfl, rfl⟩ <;>
      simp only [Instr.sliceBounds, Sem.run_bind, Sem.run_pure, Result.andThen, bound_run (P := P) E.w _ _ cap _ (by omega : 0 ≤ m) (by omega : m ≤ (cap : Int)), bound_run (P := P) E.w _ _ m.toNat _ (by omega : 0 ≤ i) (by omega : i ≤ (m.toNat : Int)), bound_run (P := P) E.w _ _ i.toNat _ a1 (by omega : l ≤ (i.toNat : Int))] <;> simp [*]
theorem cut_l {E : Env} {sz : Nat} {xs : List AV} {A : Option Addr} {n cap l h m : Nat} (hr : Rep E (.l sz xs) (.slice A n cap)) (h1 : l ≤ h) (h2 : h ≤ n) (h3 : h ≤ m) (h4 : m ≤ cap) :
    Rep E (.l sz ((xs.drop l).take (h - l))) (.slice (if m = l then A else A.map (·.add (l * sz))) (h - l) (m - l)) := by
  cases hr with
  | l _ _ b off _ y hcap hz hs hc hr =>
    have hlen : ((xs.drop l).take (h - l)).length = h - l := by simp; omega
    by_cases he : m = l
    · have : h - l = 0 := by omega
      rw [if_pos he, this]
      exact .l0 _ _ _
    · rw [if_neg he]
      simp only [Option.map_some, addr_add]
      have := Rep.l (E := E) sz ((xs.drop l).take (h - l)) b (off + l * sz) (m - l) (fun i j => y (l + i) j) (by omega) hz (fun i hi => ?_) (fun i j hi hj => ?_) (fun i hi j hj => ?_)
      · rw [hlen] at this; exact this
      · simp only [List.getElem_take, List.getElem_drop]; exact hs _ _
      · rw [hlen] at hi
        have e : off + l * sz + (i * sz + j) = off + ((l + i) * sz + j) := by rw [Nat.add_mul]; omega
        rw [e]; exact hc _ _ (by omega) hj
      · simp only [List.getElem_take, List.getElem_drop]; exact hr _ _ _ _
  | l0 =>
    have e0 : h - l = 0 := by omega
    rw [e0]
    simp only [List.drop_nil, List.take_nil]
    exact .l0 _ _ _
/-- A piece of a slice, or of a text. -/
def cutK (k : TK) (tab : Tab) (M : Mem) (lo hi mx : Option AV) : AV → (AV → Mem → Prop) → Prop
  | .s id off n, K => match k with
    | .sl e => (∃ ti, assoc tab e = some ti ∧ blkK M id (off + n) fun blk => blk.sz = ti.sz ∧ bnds n lo hi mx fun l h =>
        if hi.isNone then K (.s id (off + l) (n - l)) M else PureL blk.xs ∧ K (.l ti.sz ((blk.xs.drop (off + l)).take (h - l))) (M.drop id))
    | _ => False
  | .l sz xs, K => match k with
    | .sl e => (∃ ti, assoc tab e = some ti ∧ sz = ti.sz ∧ bnds xs.length lo hi mx fun l h => K (.l sz ((xs.drop l).take (h - l))) M)
    | _ => False
  | .c (.slice none 0 0), K => match k with
    | .sl e => (∃ ti, assoc tab e = some ti ∧ bnds 0 lo hi mx fun _ _ => K (.c (.slice none 0 0)) M)
    | _ => False
  | .c (.string s), K => match k with
    | .str => mx.isNone = true ∧ bnds s.size lo hi mx fun l h => K (.c (.string (s.extract l h))) M
    | _ => False
  | .e cs, K => match k with
    | .ar m e => lo = none ∧ hi = none ∧ mx = none ∧ (∃ ti, assoc tab e = some ti ∧ ti.sz = 1) ∧ cs.length = m ∧ 0 < m ∧ AllCell cs ∧ K (.l 1 cs) M
    | _ => False
  | _, _ => False
theorem cut_out {P : Program} {w0 : World} {E : Env} {M : Mem} {t : TypeId} {k : TK} {tab : Tab} {a : AV} {v : Value} {lo hi mx : Option AV} {lv hv mv : Option Value} {K : AV → Mem → Prop} (hg : Good w0 E M)
    (hT : TabOk P tab) (hk : KOk P t k) (hr : Rep E a v) (h1 : RepO E lo lv) (h2 : RepO E hi hv) (h3 : RepO E mx mv) (h : cutK k tab M lo hi mx a K) : Out P w0 E (Instr.sliceAt t v lv hv mv) K := by
  have hrun : ∀ e ti, k = .sl e → assoc tab e = some ti → ∀ A n cap l h m, (∀ b, (Instr.sliceBounds b n cap lv hv mv).run P E.w = .ok (l, h, m) E.w) →
      (Instr.sliceAt t (.slice A n cap) lv hv mv).run P E.w = .ok (.slice (if m = l then A else A.map (·.add (l * ti.sz))) (h - l) (m - l)) E.w := fun e ti hke hti A n cap l h m hb => by
    subst hke
    simp only [KOk] at hk
    simp only [Instr.sliceAt, Sem.run_bind, run_underlying hk, Result.andThen, Instr.slice, hb, (hT _ _ hti).run_size, Sem.run_pure]
  cases hr <;> try exact h.elim
  case c hv' =>
    cases v <;> try exact h.elim
    case string s =>
      cases k <;> try exact h.elim
      obtain ⟨hm, h⟩ := h
      obtain ⟨l, h', m, b1, b2, b3, b4, b5, b6, b7, b8, hK⟩ := bnds_run (P := P) (cap := s.size) (Nat.le_refl _) h1 h2 h3 h
      have hmn : mv = none := by
        cases h3 with
        | none => rfl
        | some a v _ => simp at hm
      subst hmn
      simp only [KOk] at hk
      exact .val hg (by simp only [Instr.sliceAt, Sem.run_bind, run_underlying hk, Result.andThen, Instr.slice, b1, Sem.run_pure, Option.isSome_none, Bool.false_eq_true, if_false]) (.c (.string _) rfl) hK
    case slice A n c =>
      match A, n, c, h with
      | none, 0, 0, h =>
        cases k <;> try exact h.elim
        obtain ⟨ti, hti, h⟩ := h
        obtain ⟨l, h', m, b1, b2, b3, b4, b5, b6, b7, b8, hK⟩ := bnds_run (P := P) (cap := 0) (Nat.le_refl _) h1 h2 h3 h
        have e1 : l = 0 := by omega
        have e2 : h' = 0 := by omega
        have e3 : m = 0 := by omega
        subst e1; subst e2; subst e3
        exact .val hg (by rw [hrun _ _ rfl hti _ _ _ _ _ _ b1]; rfl) (.c (.slice none 0 0) rfl) hK
  case e cs b off y hz hc hr =>
    cases k <;> try exact h.elim
    rename_i m e
    obtain ⟨rfl, rfl, rfl, ⟨ti, hti, hs1⟩, rfl, h0, hcl, hK⟩ := h
    cases h1; cases h2; cases h3
    simp only [KOk] at hk
    have hbd : (Instr.sliceBounds false cs.length cs.length none none none).run P E.w = .ok (0, cs.length, cs.length) E.w := by
      obtain ⟨l, h', m, b1, b2, b3, b4, b5, b6, b7, b8, hK2⟩ := bnds_run (P := P) (E := E) (n := cs.length) (cap := cs.length) (K := fun l h => l = 0) (Nat.le_refl _) .none .none .none (by simp [bnds, bnd])
      have e1 := b6 rfl
      have e2 := b7 rfl
      subst e1; subst e2; subst hK2
      exact b1 false
    have hun := run_underlying hk
    refine .val hg (v := .slice (some ⟨b, off, none⟩) cs.length cs.length) (by
      simp only [Instr.sliceAt, Sem.run_bind, run_underlying hk, Result.andThen, Instr.sureAddr, Sem.run_pure, hbd, (hT _ _ hti).run_size]
      rw [if_neg (by omega)]
      simp [Addr.add]) (.l 1 cs b off cs.length (fun i j => y (i + j)) (Nat.le_refl _) hz (fun i hi => ?_) (fun i j hi hj => ?_) (fun i hi j hj => ?_)) hK
    · have := hcl.get i hi
      generalize cs[i] = c at this
      cases c <;> first | rfl | exact this.elim
    · have hj0 : j = 0 := by omega
      subst hj0
      have := hc i hi
      simpa using this
    · have hce : cs[i].cells = [cs[i]] := by
        have := hcl.get i hi
        generalize cs[i] = c at this
        cases c <;> first | rfl | exact this.elim
      have hj0 : j = 0 := by rw [hce] at hj; simpa using hj
      subst hj0
      have := hr i hi
      simp only [hce, List.getElem_cons_zero, Nat.add_zero]
      exact this
  case l sz xs b off cap y hcap hz hs hc hr =>
    cases k <;> try exact h.elim
    obtain ⟨ti, hti, rfl, h⟩ := h
    obtain ⟨l, h', m, b1, b2, b3, b4, b5, b6, b7, b8, hK⟩ := bnds_run (P := P) (cap := cap) hcap h1 h2 h3 h
    exact .val hg (hrun _ _ rfl hti _ _ _ _ _ _ b1) (cut_l (.l _ xs b off cap y hcap hz hs hc hr) b2 b3 b4 b5) hK
  case l0 sz A cap =>
    cases k <;> try exact h.elim
    obtain ⟨ti, hti, rfl, h⟩ := h
    obtain ⟨l, h', m, b1, b2, b3, b4, b5, b6, b7, b8, hK⟩ := bnds_run (P := P) (cap := cap) (Nat.zero_le _) h1 h2 h3 h
    exact .val hg (hrun _ _ rfl hti _ _ _ _ _ _ b1) (cut_l (.l0 _ A cap) b2 b3 b4 b5) hK
  case s id off n A cap hk' hs =>
    cases k <;> try exact h.elim
    obtain ⟨ti, hti, blk, hM, hn, hsz, h⟩ := h
    obtain ⟨q, q1, q2, q3, q4, q5⟩ := hg.held id blk hM
    obtain ⟨g1, g2⟩ := hs q q1
    obtain ⟨g3, g4⟩ := g2 (by omega)
    obtain ⟨l, h', m, b1, b2, b3, b4, b5, b6, b7, b8, hK⟩ := bnds_run (P := P) (cap := cap) (by omega) h1 h2 h3 h
    have hr' := hrun _ _ rfl hti A n cap l h' m b1
    have hrs : Rep E (.s id (off + l) (n - l)) (.slice (if cap = l then A else A.map (·.add (l * ti.sz))) (n - l) (cap - l)) := by
      refine .s _ _ _ _ _ hk' (fun q' hq' => ?_)
      rw [q1] at hq'; cases hq'
      refine ⟨by omega, fun _ => ⟨by omega, fun hc => ?_⟩⟩
      rw [if_neg (by omega), g4 (by omega)]
      simp only [Option.map_some, addr_add, Option.some.injEq, Addr.mk.injEq, and_true, true_and]
      rw [q2, hsz, Nat.add_mul]
    cases h2 with
    | none =>
      simp only [Option.isNone_none, if_true] at hK
      have e1 := b6 rfl
      have hmx : mx = none := by
        cases mx with
        | none => rfl
        | some a => exact absurd (b8 rfl) (by simp)
      have e2 := b7 hmx
      subst e1; subst e2
      exact .val hg hr' hrs hK
    | some a0 v0 h0 =>
      simp only [Option.isNone_some, Bool.false_eq_true, if_false] at hK
      obtain ⟨hp, hK⟩ := hK
      obtain ⟨hg', hl⟩ := hg.without [id]
      have hv := rep_viewC (ids := [id]) hg (Rep.s id off n A cap hk' hs) ⟨blk, hM, by omega, hp⟩ (fun i hi => by simpa [idsC] using hi)
      simp only [viewC, hM] at hv
      have hc := cut_l (l := l) (h := h') (m := m) hv b2 b3 b4 b5
      rw [List.drop_drop, hsz] at hc
      exact ⟨_, E.without [id], M.drop id, _, hr', hg', hl, hc, hK⟩
end Go.Ab
