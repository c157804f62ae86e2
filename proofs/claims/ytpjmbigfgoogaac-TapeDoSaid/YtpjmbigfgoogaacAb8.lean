/- append; what is read out of slices. -/
import Derived.Test.YtpjmbigfgoogaacAb7
set_option linter.unusedVariables false
set_option linter.unusedSimpArgs false
set_option linter.constructorNameAsVariable false
namespace Go.Ab
open Go Go.RowKit

def encB (b : UInt8) : AV := .c (.int .u8 b.toNat)
/-- What an append takes from. -/
def srcK (sz : Nat) (M : Mem) : AV → (List AV → Prop) → Prop
  | .l sz' xs, K => sz' = sz ∧ K xs
  | .s id off n, K => blkK M id (off + n) fun blk => blk.sz = sz ∧ K (blk.xs.drop off)
  | .c (.slice none 0 0), K => K []
  | .c (.string s), K => sz = 1 ∧ K (s.data.toList.map encB)
  | _, _ => False

theorem cells_run {P : Program} {w w' : World} (hw : w'.heap = w.heap) {A : Addr} {sz n : Nat} {ys : Nat → Nat → Value}
    (h : ∀ i j, i < n → j < sz → w.cell? (A.add (i * sz + j)) = some (ys i j)) :
    (loadCells A (n * sz)).run P w' = .ok ((List.range (n * sz)).map fun k => ys (k / sz) (k % sz)).toArray w' := by
  refine run_loadCells (P := P) w' A (n * sz) _ (fun k hk => ?_)
  have hs : 0 < sz := by
    rcases Nat.eq_zero_or_pos sz with h | h
    · subst h; simp at hk
    · exact h
  have hd : k / sz < n := Nat.div_lt_of_lt_mul (by rw [Nat.mul_comm]; exact hk)
  have hm : k % sz < sz := Nat.mod_lt _ hs
  have e : k / sz * sz + k % sz = k := by rw [Nat.mul_comm]; exact Nat.div_add_mod k sz
  have := h (k / sz) (k % sz) hd hm
  rw [e] at this
  have hc : w'.cell? (A.add k) = w.cell? (A.add k) := by simp only [World.cell?, hw]
  rw [hc]; exact this

/-- What is read of a slice or a text: as many elements as it is told, each cell by cell. -/
structure Src (P : Program) (E : Env) (sz : Nat) (v : Value) (xs : List AV) : Prop where
  len : ∀ w, (Builtin.lenOf v).run P w = .ok xs.length w
  first : ∃ news : List Value, news.length = xs.length * sz ∧ (∀ w, w.heap = E.w.heap → (Builtin.firstCells sz xs.length v).run P w = .ok news.toArray w) ∧
    (∀ i (hi : i < xs.length), xs[i].cells.length = sz ∧ ∀ j (hj : j < xs[i].cells.length), ∃ y, news[i * sz + j]? = some y ∧ One y ∧ Rep E xs[i].cells[j] y)

theorem range_get? {sz n i j : Nat} (hi : i < n) (hj : j < sz) (f : Nat → Nat → Value) : ((List.range (n * sz)).map fun k => f (k / sz) (k % sz))[i * sz + j]? = some (f i j) := by
  have h1 : i * sz + j < n * sz := by
    have : (i + 1) * sz ≤ n * sz := Nat.mul_le_mul_right _ hi
    rw [Nat.add_mul] at this; omega
  have h2 : (i * sz + j) / sz = i := by
    rw [Nat.mul_comm, Nat.mul_add_div (by omega)]
    rw [Nat.div_eq_of_lt hj]; rfl
  have h3 : (i * sz + j) % sz = j := by
    rw [Nat.mul_comm, Nat.mul_add_mod]; exact Nat.mod_eq_of_lt hj
  simp [h1, h2, h3]

theorem src_of {P : Program} {w0 : World} {E : Env} {M : Mem} (hg : Good w0 E M) {sz : Nat} {a : AV} {v : Value} {K : List AV → Prop} (hr : Rep E a v) (h : srcK sz M a K) :
    ∃ xs, Src P E sz v xs ∧ K xs := by
  cases hr <;> try exact h.elim
  case c hv =>
    cases v <;> try exact h.elim
    case string s =>
      obtain ⟨rfl, hK⟩ := h
      have hsz : s.data.toList.length = s.size := by simp
      refine ⟨_, ⟨fun w => by simp [Builtin.lenOf], s.data.toList.map (fun b => .int .u8 b.toNat), by simp, fun w _ => ?_, fun i hi => ?_⟩, hK⟩
      · simp only [Builtin.firstCells, List.length_map, hsz, Sem.run_pure]
        congr 2
        apply Array.ext'
        have : (s.extract 0 s.size) = s := by
          apply ByteArray.ext
          rw [ByteArray.data_extract, ← ByteArray.size_data]
          simp
        rw [this]; simp
      · simp only [List.length_map] at hi
        simp only [List.getElem_map, encB, AV.cells]
        refine ⟨rfl, fun j hj => ?_⟩
        have h0 : j = 0 := by simpa using hj
        subst h0
        exact ⟨.int .u8 (s.data.toList[i].toNat), by rw [Nat.mul_one, Nat.add_zero, List.getElem?_map, List.getElem?_eq_getElem hi]; rfl, rfl, .c _ rfl⟩
    case slice A n c =>
      match A, n, c, h with
      | none, 0, 0, h => exact ⟨[], ⟨fun w => rfl, [], by simp, fun w _ => by simp [Builtin.firstCells], fun i hi => by simp at hi⟩, h⟩
  case l sz' xs b off cap y hcap hz hs hc hr =>
    obtain ⟨rfl, hK⟩ := h
    refine ⟨xs, ⟨fun w => rfl, _, by simp, fun w hw => ?_, fun i hi => ⟨hs i hi, fun j hj => ⟨y i j, range_get? hi (by rw [← hs i hi]; exact hj) y, (hc i j hi (by rw [← hs i hi]; exact hj)).2, hr i hi j hj⟩⟩⟩, hK⟩
    simp only [Builtin.firstCells]
    exact cells_run (P := P) hw (fun i j hi hj => by rw [addr_add]; exact (hc i j hi hj).1)
  case l0 sz' A cap =>
    obtain ⟨rfl, hK⟩ := h
    refine ⟨[], ⟨fun w => rfl, [], by simp, fun w _ => ?_, fun i hi => by simp at hi⟩, hK⟩
    cases A <;> simp [Builtin.firstCells, loadCells, loadCellsFrom]
  case s id off n A cap hk h' =>
    obtain ⟨blk, hM, hn, rfl, hK⟩ := h
    obtain ⟨q, h1, h2, h3, h4, h5⟩ := hg.held id blk hM
    obtain ⟨g1, g2⟩ := h' q h1
    obtain ⟨g3, g4⟩ := g2 (by omega)
    have hlen : (blk.xs.drop off).length = n := by simp; omega
    refine ⟨_, ⟨fun w => by rw [hlen]; rfl, ?_⟩, hK⟩
    by_cases hcp : 0 < cap
    · obtain ⟨_, hb⟩ := h5 (by omega)
      obtain ⟨_, arr, a1, a2, a3⟩ := hb
      have hA := g4 hcp
      subst hA
      refine ⟨(List.range ((blk.xs.drop off).length * blk.sz)).map fun k => (arr[(off + k / blk.sz) * blk.sz + k % blk.sz]?).getD undef, by simp, fun w hw => ?_, fun i hi => ?_⟩
      · simp only [Builtin.firstCells]
        exact cells_run (P := P) (ys := fun i j => (arr[(off + i) * blk.sz + j]?).getD undef) hw (fun i j hi hj => by
          rw [hlen] at hi
          obtain ⟨y, b1, b2, b3⟩ := (a3 (off + i) (by omega)).2 j (by rw [(a3 (off + i) (by omega)).1]; exact hj)
          have e : off * q.sz + (i * blk.sz + j) = (off + i) * blk.sz + j := by rw [h2, Nat.add_mul]; omega
          rw [addr_add]
          simp [World.cell?, a1, e, b1])
      · simp only [List.length_drop] at hi
        simp only [List.getElem_drop]
        refine ⟨(a3 _ _).1, fun j hj => ?_⟩
        obtain ⟨y, b1, b2, b3⟩ := (a3 (off + i) (by omega)).2 j hj
        refine ⟨y, ?_, b2, b3⟩
        have := range_get? (n := (blk.xs.drop off).length) (sz := blk.sz) (i := i) (j := j) (by simp; omega) (by rw [← (a3 (off + i) (by omega)).1]; exact hj) (fun i j => (arr[(off + i) * blk.sz + j]?).getD undef)
        rw [this, b1]
        rfl
    · have hn0 : n = 0 := by omega
      subst hn0
      have he : blk.xs.drop off = [] := List.eq_nil_of_length_eq_zero hlen
      rw [he]
      refine ⟨[], by simp, fun w _ => ?_, fun i hi => by simp at hi⟩
      cases A <;> simp [Builtin.firstCells, loadCells, loadCellsFrom]

/-- What an append is behind: the elements, and which block they lie in (none: nil). -/
def dstK (e : TypeId) (sz : Nat) (M : Mem) : AV → (List AV → (Blk → Nat × Mem) → Prop) → Prop
  | .s id off n, K => off = 0 ∧ blkK M id n fun blk => blk.sz = sz ∧ blk.T = e ∧ K blk.xs fun b => (id, M.put id b)
  | .c (.slice none 0 0), K => K [] fun b => (M.k, newMem M b)
  | _, _ => False
def appendK (e : TypeId) (ti : TI) (M : Mem) (a b : AV) (K : AV → Mem → Prop) : Prop :=
  dstK e ti.sz M a fun xs f => srcK ti.sz M b fun ys => (xs.length + ys.length) * ti.by' ≤ 140737488355328 ∧ 0 < ti.by' ∧ 0 < ti.sz ∧
    K (.s (f ⟨e, ti.sz, xs ++ ys⟩).1 0 (xs.length + ys.length)) (f ⟨e, ti.sz, xs ++ ys⟩).2
theorem append_out {P : Program} {w0 : World} {E : Env} {M : Mem} {t t2 e ty : TypeId} {ti : TI} {d2 : TypeDesc} {a b : AV} {u v : Value} {K : AV → Mem → Prop} (hg : Good w0 E M)
    (ht : P.underlying t = some (.slice e)) (hti : TOk P e ti) (h2 : P.underlying t2 = some d2) (hd2 : d2 = .string ∨ ∃ e2, d2 = .slice e2)
    (hr : Rep E a u) (hx : Rep E b v) (h : appendK e ti M a b K) : Out P w0 E (Builtin.append_ #[t, t2] ty #[u, v]) K := by
  -- the new block, where it must grow
  have grow : ∀ (id : Nat) (xs ys : List AV) (k' : Nat) (n cap : Nat) (olds news : List Value), n = xs.length →
      (n + ys.length) * ti.by' ≤ 140737488355328 → 0 < ti.by' → ¬ n + ys.length ≤ cap →
      olds.length = xs.length * ti.sz → news.length = ys.length * ti.sz →
      (∀ i (hi : i < xs.length), xs[i].cells.length = ti.sz ∧ ∀ j (hj : j < xs[i].cells.length), ∃ y, olds[i * ti.sz + j]? = some y ∧ One y ∧ Rep E xs[i].cells[j] y) →
      (∀ i (hi : i < ys.length), ys[i].cells.length = ti.sz ∧ ∀ j (hj : j < ys[i].cells.length), ∃ y, news[i * ti.sz + j]? = some y ∧ One y ∧ Rep E ys[i].cells[j] y) →
      E.k ≤ k' → id < k' → (id < E.k → ∃ q, E.ad id = some q) → (∀ q, E.ad id = some q → q.n ≤ n + ys.length ∧ (n + ys.length = q.n → False)) →
      Good w0 ⟨E.w.drew.alloc (.cells (olds.toArray ++ news.toArray ++ Builtin.zeroCells ti.zero.cells (grownCap E.w (n + ys.length) cap e - (n + ys.length))) e), upd E.ad id (some ⟨E.w.heap.size, ti.sz, n + ys.length, grownCap E.w (n + ys.length) cap e⟩), k', E.hid⟩
        ⟨insert M.l id ⟨e, ti.sz, xs ++ ys⟩, k'⟩ ∧
      Later E ⟨E.w.drew.alloc (.cells (olds.toArray ++ news.toArray ++ Builtin.zeroCells ti.zero.cells (grownCap E.w (n + ys.length) cap e - (n + ys.length))) e), upd E.ad id (some ⟨E.w.heap.size, ti.sz, n + ys.length, grownCap E.w (n + ys.length) cap e⟩), k', E.hid⟩ := by
    intro id xs ys k' n cap olds news hn hby hby0 hroom hol hnl hox hny hk' hid hex hnew
    subst hn
    have hge := grownCap_ge E.w (xs.length + ys.length) cap e
    have hle : xs.length + ys.length ≤ maxLen := by
      have : xs.length + ys.length ≤ (xs.length + ys.length) * ti.by' := Nat.le_mul_of_pos_right _ hby0
      simp only [maxLen]; omega
    have hcm := grownCap_le_maxLen E.w (xs.length + ys.length) cap e hle
    have hzs := hti.zc
    refine Good.upd hg _ id k' ⟨E.w.heap.size, ti.sz, xs.length + ys.length, grownCap E.w (xs.length + ys.length) cap e⟩ ⟨e, ti.sz, xs ++ ys⟩ hk' hid
      (hg.below.trans ⟨rfl, rfl, rfl, by simp, fun b hb => by
        have := hg.below.size
        exact Below.heap_alloc _ _ _ (by simp; omega)⟩) (by simp) (fun b hb _ => Below.heap_alloc E.w.drew _ _ (by simpa using hb)) rfl (by simp) hge
      (fun _ => ⟨hg.below.size, .inl (Nat.le_refl _)⟩) (fun q hq => ⟨(hnew q hq).1, fun h => ((hnew q hq).2 h).elim⟩) hex (fun hl _ => ?_)
    refine ⟨hcm, _, heap_alloc_new E.w.drew _, ?_, fun i hi => ?_⟩
    · simp only [Array.size_append, List.size_toArray, size_zeroCells, hzs, hol, hnl, ← Nat.add_mul]
      congr 1
      omega
    · simp only [List.length_append] at hi
      have hget : ∀ k, k < (olds ++ news).length → (olds.toArray ++ news.toArray ++ Builtin.zeroCells ti.zero.cells (grownCap E.w (xs.length + ys.length) cap e - (xs.length + ys.length)))[k]? = (olds ++ news)[k]? := fun k hk => by
        rw [Array.getElem?_append_left (by simpa using hk)]
        simp
      by_cases hlt : i < xs.length
      · simp only [List.getElem_append_left hlt]
        refine ⟨(hox i hlt).1, fun j hj => ?_⟩
        obtain ⟨y, b1, b2, b3⟩ := (hox i hlt).2 j hj
        have hb : i * ti.sz + j < olds.length := (List.getElem?_eq_some_iff.1 b1).1
        refine ⟨y, ?_, b2, b3.later hl⟩
        rw [hget _ (by simp; omega), List.getElem?_append_left hb]
        exact b1
      · simp only [List.getElem_append_right (Nat.le_of_not_lt hlt)]
        have hi2 : i - xs.length < ys.length := by omega
        refine ⟨(hny _ hi2).1, fun j hj => ?_⟩
        obtain ⟨y, b1, b2, b3⟩ := (hny _ hi2).2 j hj
        have hb : (i - xs.length) * ti.sz + j < news.length := (List.getElem?_eq_some_iff.1 b1).1
        refine ⟨y, ?_, b2, b3.later hl⟩
        have e1 : i * ti.sz + j = olds.length + ((i - xs.length) * ti.sz + j) := by
          rw [hol, ← Nat.add_assoc, ← Nat.add_mul]; congr 2; omega
        rw [hget _ (by simp; omega), e1, List.getElem?_append_right (by omega)]
        simpa using b1
  have hx' := hx
  cases hr <;> try exact h.elim
  case c hv =>
    cases u <;> try exact h.elim
    case slice A n cap =>
      match A, n, cap, h with
      | none, 0, 0, h =>
        obtain ⟨ys, hsrc, hby, hby0, hsz0, hK⟩ := src_of (P := P) hg hx h
        obtain ⟨news, n1, n2, n3⟩ := hsrc.first
        have hnone : E.ad E.k = none := by
          cases hq : E.ad E.k with
          | none => rfl
          | some q => exact absurd (hg.lt _ _ hq) (by omega)
        simp only [List.nil_append, List.length_nil, Nat.zero_add] at hK hby
        by_cases hm : ys.length = 0
        · have hys : ys = [] := List.eq_nil_of_length_eq_zero hm
          subst hys
          have hnews : news = [] := List.eq_nil_of_length_eq_zero (by simpa using n1)
          subst hnews
          have hrun := run_append_stay (P := P) E.w ty ht hti h2 hd2 none 0 0 0 v [] (by simpa using hsrc.len E.w) (by simpa using n2 E.w rfl) (Nat.le_refl _) E.w rfl
          have hup := Good.upd hg E.w E.k (E.k + 1) ⟨0, ti.sz, 0, 0⟩ ⟨e, ti.sz, []⟩ (by omega) (by omega) hg.below (Nat.le_refl _) (fun _ _ _ => rfl) rfl rfl (Nat.le_refl _) (fun h => absurd h (by simp))
            (fun q hq => by rw [hnone] at hq; cases hq) (fun h => absurd h (by omega)) (fun _ h => absurd h (by simp))
          refine ⟨_, ⟨E.w, Ab.upd E.ad E.k (some ⟨0, ti.sz, 0, 0⟩), E.k + 1, E.hid⟩, _, _, hrun, hup.1, hup.2, .s E.k 0 0 none 0 (by show E.k < E.k + 1; omega) (fun q hq => ?_), ?_⟩
          · simp only [upd_self, Option.some.injEq] at hq
            subst hq
            exact ⟨Nat.le_refl _, fun _ => ⟨rfl, fun h => absurd h (by omega)⟩⟩
          · simpa [newMem, hg.k] using hK
        · have hrun := run_append_more (P := P) E.w ty ht hti h2 hd2 none 0 0 ys.length v [] news (hsrc.len E.w) (n2 E.w.drew rfl) (by simp [Builtin.firstCells]) (by omega) (by simpa using hby) hby0
          have hgr := grow E.k [] ys (E.k + 1) 0 0 [] news rfl (by simpa using hby) hby0 (by omega) (by simp) n1 (fun i hi => absurd hi (by simp)) n3 (by omega) (by omega) (fun h => absurd h (by omega)) (fun q hq => by rw [hnone] at hq; cases hq)
          rw [Nat.zero_add] at hrun hgr
          refine ⟨_, _, _, _, hrun, hgr.1, hgr.2, .s E.k 0 ys.length _ _ (by show E.k < E.k + 1; omega) (fun q hq => ?_), ?_⟩
          · simp only [upd_self, Option.some.injEq] at hq
            subst hq
            exact ⟨by simp, fun _ => ⟨by simp, fun _ => by simp⟩⟩
          · simpa [newMem, hg.k] using hK
  case s id off n A cap hk h' =>
    obtain ⟨rfl, blk, hM, hn, rfl', rfl'', h⟩ := h
    obtain ⟨ys, hsrc, hby, hby0, hsz0, hK⟩ := src_of (P := P) hg hx h
    obtain ⟨news, n1, n2, n3⟩ := hsrc.first
    obtain ⟨q, q1, q2, q3, q4, q5⟩ := hg.held id blk hM
    obtain ⟨g1, g2⟩ := h' q q1
    obtain ⟨g3, g4⟩ := g2 (by omega)
    have hput : ∀ b, (⟨insert M.l id b, E.k⟩ : Mem) = M.put id b := fun b => by rw [Mem.put, hg.k]
    obtain ⟨xs', hsrc', hx1⟩ := src_of (P := P) (sz := ti.sz) (K := fun l => l = blk.xs) hg (Rep.s id 0 n A cap hk h') ⟨blk, hM, by omega, rfl', rfl⟩
    subst hx1
    obtain ⟨olds, o1, o2, o3⟩ := hsrc'.first
    have hlenx : blk.xs.length = n := by omega
    by_cases hroom : n + ys.length ≤ cap
    · by_cases hcp : 0 < cap
      · obtain ⟨hb0, hb⟩ := q5 (by omega)
        have hlt := backed_lt hb
        obtain ⟨hmax, arr, a1, a2, a3⟩ := hb
        have hA := g4 hcp
        subst hA
        have hfit : n * ti.sz + news.length ≤ arr.size := by
          rw [n1, a2, ← Nat.add_mul, q2, rfl']
          exact Nat.mul_le_mul_right _ (by omega)
        have hone : ∀ u ∈ news, u.oneCell' = true := fun u hu => by
          obtain ⟨k, hk', rfl⟩ := List.mem_iff_getElem.1 hu
          have hd : k / ti.sz < ys.length := Nat.div_lt_of_lt_mul (by rw [Nat.mul_comm, ← n1]; exact hk')
          have hmd : k % ti.sz < ti.sz := Nat.mod_lt _ hsz0
          obtain ⟨c1, c2⟩ := n3 _ hd
          obtain ⟨y, b1, b2, _⟩ := c2 (k % ti.sz) (by rw [c1]; exact hmd)
          have e1 : k / ti.sz * ti.sz + k % ti.sz = k := by rw [Nat.mul_comm]; exact Nat.div_add_mod k ti.sz
          rw [e1, List.getElem?_eq_getElem hk'] at b1
          cases b1
          exact b2
        have hst := run_storeCells_at P q.b (n * ti.sz) blk.T news 0 arr E.w a1 (by simpa using hfit) hone
        simp only [Nat.add_zero] at hst
        have hrun := run_append_stay (P := P) E.w ty ht hti h2 hd2 (some ⟨q.b, 0 * q.sz, none⟩) n cap ys.length v news (hsrc.len E.w) (n2 E.w rfl) hroom _ (by simp only [addr_add, Nat.zero_mul, Nat.zero_add]; exact hst)
        have hA : ∀ k, ((arr.toList.take (n * ti.sz) ++ news ++ arr.toList.drop (n * ti.sz + news.length)).toArray)[k]? =
            if n * ti.sz ≤ k ∧ k < n * ti.sz + news.length then news[k - n * ti.sz]? else arr[k]? := fun k => by
          rw [List.getElem?_toArray, take_drop_get? _ _ _ (by simpa using hfit)]
          simp
        have hup := Good.upd hg (E.w.setRow q.b (arr.toList.take (n * ti.sz) ++ news ++ arr.toList.drop (n * ti.sz + news.length)).toArray) id E.k ⟨q.b, q.sz, q.n + ys.length, q.cp⟩
          ⟨e, ti.sz, blk.xs ++ ys⟩ (Nat.le_refl _) (hg.lt id q q1)
          ⟨hg.below.os, hg.below.tape, hg.below.output, by simpa using hg.below.size, fun k hk => by rw [setRow_other _ _ _ _ (by omega)]; exact hg.below.block k hk⟩
          (by simp) (fun b hb hne => setRow_other _ _ _ _ (fun e => hne q q1 (by omega) e.symm)) (by simp [q2, rfl']) (by simp [q3]) (by simp only; omega) (fun _ => ⟨hb0, .inr ⟨q, q1, by omega, rfl⟩⟩)
          (fun q' hq' => by
            rw [q1] at hq'; cases hq'
            refine ⟨by simp, fun hz => ?_⟩
            simp only at hz
            have : ys.length = 0 := by omega
            simp [this]) (fun _ => ⟨q, q1⟩) (fun hl _ => by
            refine ⟨hmax, _, by rw [← rfl'']; exact setRow_heap _ _ _ _ _ _ a1, ?_, fun i hi => ?_⟩
            · simp only [List.size_toArray, List.length_append, List.length_take, List.length_drop, Array.length_toList]
              rw [← a2]; omega
            · simp only [List.length_append] at hi
              by_cases hlt : i < blk.xs.length
              · simp only [List.getElem_append_left hlt]
                refine ⟨by rw [← rfl']; exact (a3 i hlt).1, fun j hj => ?_⟩
                obtain ⟨y, b1, b2, b3⟩ := (a3 i hlt).2 j hj
                rw [(a3 i hlt).1] at hj
                refine ⟨y, ?_, b2, b3.later hl⟩
                have hlt2 : (i + 1) * blk.sz ≤ n * blk.sz := Nat.mul_le_mul_right _ (by omega)
                rw [Nat.add_mul] at hlt2
                rw [hA, ← rfl', if_neg (by omega)]
                exact b1
              · simp only [List.getElem_append_right (Nat.le_of_not_lt hlt)]
                have hi2 : i - blk.xs.length < ys.length := by omega
                refine ⟨(n3 _ hi2).1, fun j hj => ?_⟩
                obtain ⟨y, b1, b2, b3⟩ := (n3 _ hi2).2 j hj
                have hb : (i - blk.xs.length) * ti.sz + j < news.length := (List.getElem?_eq_some_iff.1 b1).1
                refine ⟨y, ?_, b2, b3.later hl⟩
                have e1 : i * ti.sz + j = n * ti.sz + ((i - blk.xs.length) * ti.sz + j) := by
                  rw [← Nat.add_assoc, ← Nat.add_mul]; congr 2; omega
                rw [hA, e1, if_pos (by omega)]
                simpa using b1)
        refine ⟨_, _, _, _, hrun, hup.1, hup.2, .s id 0 (n + ys.length) _ _ hk (fun q' hq' => ?_), ?_⟩
        · simp only [upd_self, Option.some.injEq] at hq'
          subst hq'
          exact ⟨by show 0 + (n + ys.length) ≤ q.n + ys.length; omega, fun _ => ⟨by show 0 + cap = q.cp; omega, fun _ => rfl⟩⟩
        · rw [hput, ← hlenx]; exact hK
      · have hy0 : ys = [] := List.eq_nil_of_length_eq_zero (by omega)
        subst hy0
        have hx0 : blk.xs = [] := List.eq_nil_of_length_eq_zero (by omega)
        have hn0 : n = 0 := by omega
        subst hn0
        have hnews : news = [] := List.eq_nil_of_length_eq_zero (by simpa using n1)
        subst hnews
        have hcap0 : cap = 0 := by omega
        subst hcap0
        have hrun := run_append_stay (P := P) E.w ty ht hti h2 hd2 A 0 0 0 v [] (by simpa using hsrc.len E.w) (by simpa using n2 E.w rfl) (Nat.le_refl _) E.w (by cases A <;> rfl)
        have hup := Good.upd hg E.w id E.k q ⟨e, ti.sz, blk.xs⟩ (Nat.le_refl _) hk hg.below (Nat.le_refl _) (fun _ _ _ => rfl) (by rw [q2, rfl']) q3 q4 (fun h => absurd h (by omega))
          (fun q' hq' => by rw [q1] at hq'; cases hq'; exact ⟨Nat.le_refl _, fun _ => rfl⟩) (fun _ => ⟨q, q1⟩) (fun _ h => absurd h (by omega))
        refine ⟨_, ⟨E.w, Ab.upd E.ad id (some q), E.k, E.hid⟩, _, _, hrun, hup.1, hup.2, .s id 0 0 A 0 hk (fun q' hq' => ?_), ?_⟩
        · simp only [upd_self, Option.some.injEq] at hq'
          subst hq'
          exact ⟨by omega, fun _ => ⟨by omega, fun h => absurd h (by omega)⟩⟩
        · rw [hput]
          simpa [hx0] using hK
    · have hrun := run_append_more (P := P) E.w ty ht hti h2 hd2 A n cap ys.length v olds news (hsrc.len E.w) (n2 E.w.drew rfl) (by have := o2 E.w.drew rfl; rw [hlenx] at this; exact this) hroom (by rw [← hlenx]; exact hby) hby0
      have hgr := grow id blk.xs ys E.k n cap olds news hlenx.symm (by rw [← hlenx]; exact hby) hby0 hroom o1 n1 o3 n3 (Nat.le_refl _) hk (fun _ => ⟨q, q1⟩) (fun q' hq' => by
        rw [q1] at hq'; cases hq'; exact ⟨by omega, fun h => by omega⟩)
      refine ⟨_, _, _, _, hrun, hgr.1, hgr.2, .s id 0 (n + ys.length) _ _ hk (fun q' hq' => ?_), ?_⟩
      · simp only [upd_self, Option.some.injEq] at hq'
        subst hq'
        exact ⟨by simp, fun _ => ⟨by simp, fun _ => by simp⟩⟩
      · rw [hput, ← hlenx]; exact hK
end Go.Ab
