/- Rights: put, taken, moved: by the document. -/
import Derived.Test.YtblnakmeaokemadRt8
set_option linter.unusedSimpArgs false
set_option linter.unusedVariables false
set_option linter.constructorNameAsVariable false
set_option maxRecDepth 100000
namespace Go.Ab
open Go Go.Proofs Go.RowKit

theorem rn_W {f : Nat → Nat} {l : List RowD} {w a : Nat} : (rowsW l w a).map (rnE f) = rowsW l w (f a) := by
  have h : (l.map RowV).map (rnE f) = l.map RowV := rn_data fun x hx => by
    obtain ⟨r, _, rfl⟩ := List.mem_map.1 hx
    rfl
  rw [rowsW, List.map_set, h]
  rfl
theorem hd_W {n : Nat} {l : List RowD} {w a : Nat} (h : a < n) : ∀ x ∈ rowsW l w a, HdE n x := fun x hx => by
  have := mem_rowsW (k := (rowsW l w a).length) (by rw [List.take_length]; exact hx)
  rcases this with ⟨r, rfl⟩ | rfl
  · intro c hc
    simp only [List.mem_cons, List.not_mem_nil, or_false] at hc
    rcases hc with rfl | rfl | rfl
    · exact .c _
    · exact .c _
    · exact .l _ _ (pureI _)
  · intro c hc
    simp only [List.mem_cons, List.not_mem_nil, or_false] at hc
    rcases hc with rfl | rfl | rfl
    · exact .c _
    · exact .c _
    · exact h
theorem elem_W {l : List RowD} {w a : Nat} {K : AV → Prop} : Elem (rowsW l w a) w K = (w < l.length ∧ K (.g [.c (.int .i64 (rowAt l w).i), .c (.int .i64 (rowAt l w).u), .s a 0 (rowAt l w).o.length])) := by
  rw [rowsW, elem_set, List.length_map]
theorem set_W {l : List RowD} {w a : Nat} {x : AV} : (rowsW l w a).set w x = (l.map RowV).set w x := List.set_set ..
/-- A row is given up that was the call's own: data from now on. -/
theorem exp_setR {M0 M : Mem} {l : List RowD} {w o a n : Nat} {i u e : Int} {os : List Int} {p : List RowD × Int} (h : M.get o = some ⟨88, 3, ((l.map RowV).set w (.g [.c (.int .i64 i), .c (.int .i64 u), .s a 0 os.length])).map (frzE M0 a)⟩)
    (ha : M0.get a = some ⟨2, 1, os.map encI⟩) (hn : n = l.length) (hp : p = (l.set w ⟨i, u, os⟩, e)) : Exp M (.t [.s o 0 n, .c (.int .i64 e)]) (BooksC p) := by
  subst hp hn
  have hx : frzE M0 a (.g [.c (.int .i64 i), .c (.int .i64 u), .s a 0 os.length]) = RowV ⟨i, u, os⟩ := by
    simp [frzE, frzC, frz0, ha, RowV, RowA]
  rw [List.map_set, frz_R, hx, ← List.map_set] at h
  exact exp_tA (xT_cons (xA_frz h (by simp) rfl (pureR _)) (xT_cons xA_c xT_nil))
theorem bok_S {M : Mem} {l : List RowD} {w a n : Nat} {i u : Int} {os : List Int} (h : M.get a = some ⟨2, 1, os.map encI⟩) (hn : n = os.length) : (∀ x ∈ (l.map RowV).set w (.g [.c (.int .i64 i), .c (.int .i64 u), .s a 0 n]), ∀ c ∈ x.cells, FOk M a c) := fun x hx c hc => by
  rcases List.mem_or_eq_of_mem_set hx with hx | rfl
  · have := (bok_R (M := M) (id := a) (l := l)).mpr trivial
    exact this x hx c hc
  · simp only [AV.cells, List.mem_cons, List.not_mem_nil, or_false] at hc
    rcases hc with rfl | rfl | rfl
    · trivial
    · trivial
    · exact fun _ => ⟨_, h, by simpa using hn, pureI _⟩
theorem bok_conf {M : Mem} {id : Nat} {c : Conf} : ∀ x ∈ [AV.g [.c (.int .i64 c.n), .c (.int .i64 c.q), .c (.int .i64 c.r), .c (.int .i64 c.p), .c (.int .i64 c.k), .c (.int .i64 c.c)]], ∀ d ∈ x.cells, FOk M id d := fun x hx d hd => by
  simp only [List.mem_singleton] at hx
  subst hx
  simp only [AV.cells, List.mem_cons, List.not_mem_nil, or_false] at hd
  rcases hd with rfl | rfl | rfl | rfl | rfl | rfl <;> trivial
theorem fokR_ne {M : Mem} {o a n : Nat} {v : Value} (h : o ≠ a) : FOkR M a (.t [.s o 0 n, .c v]) := fun x hx => by
  simp only [List.mem_cons, List.not_mem_nil, or_false] at hx
  rcases hx with rfl | rfl
  · exact fun e => absurd e h
  · trivial
end Go.Ab
