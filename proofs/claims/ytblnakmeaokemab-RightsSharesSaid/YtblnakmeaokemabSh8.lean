/- Rows: joined, by the program. -/
import Derived.Test.YtblnakmeaokemabSh7
import Derived.Test.YtblnakmeaokemabAbG6
set_option linter.unusedSimpArgs false
set_option linter.unusedVariables false
set_option linter.constructorNameAsVariable false
set_option maxRecDepth 100000
namespace Go.Ab
open Go Go.Proofs Go.RowKit Go.Shelf

/-- A row that nobody writes any more. -/
def RowE (i u : Int) (o : List Int) : AV := .e [.c (.int .i64 i), .c (.int .i64 u), .l 1 (o.map encI)]
theorem under_row {k : Nat} {i u : Int} {o : List Int} : Under k (RowE i u o) := .e _ fun j hj => by
  match j, hj with
  | 0, _ => exact .c _
  | 1, _ => exact .c _
  | 2, _ => exact .l _ _ (by rw [← UnderL, underL_I]; trivial)
theorem rep_rowE {E : Env} {b : Nat} {i u : Int} {o : List Int} {v : Value} (hz : E.Z b) (hb : E.w.heap[b]? = some (.cells #[.int .i64 i, .int .i64 u, v] 49 (0, 0))) (hv : Rep E (.l 1 (o.map encI)) v) (h1 : One v) : Rep E (RowE i u o) (.pointer (some ⟨b, 0, none⟩)) := by
  refine .e _ b 0 (fun j => #[.int .i64 i, .int .i64 u, v].getD j undef) hz (fun j hj => ?_) fun j hj => ?_
  · match j, hj with
    | 0, _ => exact ⟨by simp [World.cell?, hb], rfl⟩
    | 1, _ => exact ⟨by simp [World.cell?, hb], rfl⟩
    | 2, _ => exact ⟨by simp [World.cell?, hb], h1⟩
  · match j, hj with
    | 0, _ => exact .c _ rfl
    | 1, _ => exact .c _ rfl
    | 2, _ => exact hv
theorem pairs_call (i u j v : Int) (o p : List Int) : PCall Try.prog 54 [RowA i u o, RowA j v p] (.f 56 [RowE i u o, RowE j v p]) := by
  refine pcall_pure ⟨_, Try.func54, rfl, rfl⟩ (.f _ _ fun k hk => ?_) fun E vs hs hr => ?_
  · match k, hk with
    | 0, _ => exact under_row
    | 1, _ => exact under_row
  · match vs, hs, hr with
    | ⟨[a, b]⟩, _, hr =>
      have h0 := hr 0 (by simp) (by simp)
      have h1 := hr 1 (by simp) (by simp)
      simp only [List.getElem_cons_zero, List.getElem_cons_succ, List.getElem_toArray] at h0 h1
      have k0 := h0
      have k1 := h1
      obtain ⟨A1, c1, rfl, g1⟩ := row_inv h0
      obtain ⟨A2, c2, rfl, g2⟩ := row_inv h1
      unfold RowA at k0 k1
      cases k0 with | g _ _ _ k0 =>
      cases k1 with | g _ _ _ k1 =>
      have m0 := k0 2 (by simp) (by simp)
      have m1 := k1 2 (by simp) (by simp)
      simp only [List.getElem_cons_zero, List.getElem_cons_succ, List.getElem_toArray] at m0 m1
      refine Calls.mono' ((callsIn_wide (n := 3)).1 (pairs_in 3 _ _ _ _ _ _ E.w)) ?_
      rintro e w' ⟨rfl, rfl⟩
      have hbel : Below E.w.heap.size E.w ((E.w.alloc (.cells #[.int .i64 i, .int .i64 u, .slice A1 o.length c1] 49)).alloc (.cells #[.int .i64 j, .int .i64 v, .slice A2 p.length c2] 49)) := ((Below.refl _ _).alloc (Nat.le_refl _) _).alloc (by simp) _
      refine ⟨_, rfl, hbel, fun E' hw hz hn => ?_⟩
      have hzz : ∀ b, E.w.heap.size ≤ b → b < E.w.heap.size + 2 → E'.Z b := fun b h1 h2 => hn b h1 (by simp; omega)
      have hrl : ∀ {zs : List Int} {A : Option Addr} {c : Nat}, Rep E (.l 1 (zs.map encI)) (.slice A zs.length c) → Rep E' (.l 1 (zs.map encI)) (.slice A zs.length c) := fun h => h.pure hz (.l _ _ (by rw [← UnderL, underL_I]; trivial))
      refine .f _ _ _ rfl fun k hk1 hk2 => ?_
      match k, hk1, hk2 with
      | 0, _, _ =>
        refine rep_rowE (hzz _ (Nat.le_refl _) (by omega)) ?_ (hrl m0) rfl
        rw [hw]
        exact (Below.heap_alloc _ _ _ (by simp)).trans (World.alloc_heap_new _ _)
      | 1, _, _ =>
        refine rep_rowE (hzz _ (by omega) (by omega)) ?_ (hrl m1) rfl
        rw [hw]
        have := World.alloc_heap_new (E.w.alloc (.cells #[.int .i64 i, .int .i64 u, .slice A1 o.length c1] 49)) (.cells #[.int .i64 j, .int .i64 v, .slice A2 p.length c2] 49)
        rwa [World.size_alloc] at this

def encL (x : Int × Int) : List Value := [.int .i64 x.1, .int .i64 x.2]
theorem rowE_inv {E : Env} {i u : Int} {o : List Int} {v : Value} (h : Rep E (RowE i u o) v) : ∃ b off A c, v = .pointer (some ⟨b, off, none⟩) ∧ E.Z b ∧ E.w.cell? ⟨b, off, none⟩ = some (.int .i64 i) ∧ E.w.cell? ⟨b, off + 1, none⟩ = some (.int .i64 u) ∧
    E.w.cell? ⟨b, off + 2, none⟩ = some (.slice A o.length c) ∧ Ints E.Z E.w A o := by
  unfold RowE at h
  cases h with
  | e cs b off y hz hc hr =>
    have h0 := hr 0 (by simp)
    have h1 := hr 1 (by simp)
    have h2 := hr 2 (by simp)
    have c0 := (hc 0 (by simp)).1
    have c1 := (hc 1 (by simp)).1
    have c2 := (hc 2 (by simp)).1
    simp only [List.getElem_cons_zero, List.getElem_cons_succ] at h0 h1 h2
    generalize y 0 = y0 at h0 c0
    generalize y 1 = y1 at h1 c1
    generalize y 2 = y2 at h2 c2
    cases h0
    cases h1
    obtain ⟨A, cp, rfl, h3⟩ := list_inv h2
    exact ⟨b, off, A, cp, rfl, hz, c0, c1, c2, h3⟩
theorem pairs_seq {i u j v : Int} {o p : List Int} (hlen : o.length = p.length) (hl : o.length < 1000000000) (E : Env) (lb : Array Value) (hs : lb.size = [RowE i u o, RowE j v p].length)
    (hr : ∀ k (h1 : k < [RowE i u o, RowE j v p].length) (h2 : k < lb.size), Rep E [RowE i u o, RowE j v p][k] lb[k]) :
    SeqStopsK (FF none) 1 Try.prog 56 lb (fun x => (encL x).toArray) (KZ E.Z) (fun ys => ys = prs i u j v o p o.length) (fun pre => ∃ rest, prs i u j v o p o.length = pre ++ rest) (o.length + 2) E.w := by
  match lb, hs, hr with
  | ⟨[a, b]⟩, _, hr =>
    have h0 := hr 0 (by simp) (by simp)
    have h1 := hr 1 (by simp) (by simp)
    simp only [List.getElem_cons_zero, List.getElem_cons_succ, List.getElem_toArray] at h0 h1
    obtain ⟨b1, o1, A1, c1, rfl, z1, k1, k2, k3, k4⟩ := rowE_inv h0
    obtain ⟨b2, o2, A2, c2, rfl, z2, m1, m2, m3, m4⟩ := rowE_inv h1
    intro l J Jx W hW _ _ hY hJ
    have hsame : ∀ b, E.Z b → W.heap[b]? = E.w.heap[b]? := fun b hb => hW.block b hb.1
    have hcell : ∀ b k, E.Z b → W.cell? ⟨b, k, none⟩ = E.w.cell? ⟨b, k, none⟩ := fun b k hb => cell_same (hsame b hb) k none
    exact pairs1_in 1 l b1 b2 o1 o2 (by omega) E.Z i u j v o p A1 A2 c1 c2 hlen hl J Jx hY W z1 z2 ((hcell _ _ z1).trans k1) ((hcell _ _ z1).trans k2) ((hcell _ _ z1).trans k3)
      ((hcell _ _ z2).trans m1) ((hcell _ _ z2).trans m2) ((hcell _ _ z2).trans m3) (k4.mono fun b h => ⟨h, hsame b h⟩) (m4.mono fun b h => ⟨h, hsame b h⟩) hJ
end Go.Ab
