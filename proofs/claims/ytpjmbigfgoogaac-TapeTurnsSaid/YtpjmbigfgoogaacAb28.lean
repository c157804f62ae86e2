/- Rows of whole numbers. -/
import Derived.Test.YtpjmbigfgoogaacAb27
set_option linter.constructorNameAsVariable false
set_option linter.unusedSimpArgs false
set_option linter.unusedVariables false
namespace Go.Ab
open Go Go.RowKit

/-- Whole numbers of 64 bits in a row. -/
def encI (n : Int) : AV := .c (.int .i64 n)
theorem encI_eq {n : Int} : encI n = .c (.int .i64 n) := rfl
theorem elem_I {l : List Int} {i : Nat} {K : AV → Prop} : Elem (l.map encI) i K = (i < l.length ∧ K (encI (l.getD i 0))) := by
  simp only [Elem, List.length_map, List.getElem_map, eq_iff_iff]
  constructor
  · rintro ⟨h, k⟩
    refine ⟨h, ?_⟩
    rw [List.getD_eq_getElem?_getD, List.getElem?_eq_getElem h]; exact k
  · rintro ⟨h, k⟩
    refine ⟨h, ?_⟩
    rw [List.getD_eq_getElem?_getD, List.getElem?_eq_getElem h] at k; exact k
theorem underL_I {k : Nat} {l : List Int} : UnderL k (l.map encI) = True := by
  induction l with
  | nil => simp [underL_nil]
  | cons a l ih => simp only [List.map_cons, underL_cons, ih, encI, AV.cells, List.mem_singleton, forall_eq, under_c, and_self]
theorem pureI (l : List Int) : PureL (l.map encI) := by rw [pureL_eq, underL_I]; trivial
theorem mapI_take {l : List Int} {n : Nat} : (l.map encI).take n = (l.take n).map encI := by rw [List.map_take]
theorem mapI_drop {l : List Int} {n : Nat} : (l.map encI).drop n = (l.drop n).map encI := by rw [List.map_drop]
theorem mapI_snoc {l : List Int} {n : Int} : l.map encI ++ [encI n] = (l ++ [n]).map encI := by simp
theorem under_g {k : Nat} {cs : List AV} : Under k (.g cs) = ∀ a ∈ cs, Under k a := propext ⟨fun h => by
    cases h with | g _ h =>
    intro a ha
    obtain ⟨i, hi, rfl⟩ := List.getElem_of_mem ha
    exact h i hi, fun h => .g _ fun i hi => h _ (List.getElem_mem hi)⟩
theorem under_t {k : Nat} {cs : List AV} : Under k (.t cs) = ∀ a ∈ cs, Under k a := propext ⟨fun h => by
    cases h with | t _ h =>
    intro a ha
    obtain ⟨i, hi, rfl⟩ := List.getElem_of_mem ha
    exact h i hi, fun h => .t _ fun i hi => h _ (List.getElem_mem hi)⟩
theorem max_if {a b : Int} : (if b > a then b else a) = max a b := by
  simp only [Int.max_def]; split <;> split <;> omega
theorem min_if {a b : Int} : (if b < a then b else a) = min a b := by
  simp only [Int.min_def]; split <;> split <;> omega
theorem take_snoc_eq {α : Type} {o p : List α} {k : Nat} {d : α} (h : k < o.length) (h' : k < p.length) : o.take (k + 1) = p.take (k + 1) ↔ o.take k = p.take k ∧ o.getD k d = p.getD k d := by
  rw [List.take_add_one, List.take_add_one, List.getElem?_eq_getElem h, List.getElem?_eq_getElem h', List.getD_eq_getElem?_getD, List.getD_eq_getElem?_getD, List.getElem?_eq_getElem h, List.getElem?_eq_getElem h']
  simp only [Option.toList_some, Option.getD_some]
  constructor
  · intro e
    have hl : (o.take k).length = (p.take k).length := by simp; omega
    have := List.append_inj e hl
    exact ⟨this.1, by simpa using this.2⟩
  · rintro ⟨e1, e2⟩; rw [e1, e2]
/-- One operation of a drawn region that changes memory, by rules for simp. -/
def pinK (r : AV) (M' : Mem) (a : AV) (M : Mem) : Prop := a = r ∧ M = M'
theorem r_pin {r a : AV} {M M' : Mem} : pinK r M' a M = (a = r ∧ M = M') := rfl
section
variable {P : Program} {tab : Tab} {K : ASt → Prop} {dst : Option Tmp} {op : Op} {sl : Slots} {m M' : Mem} {N : Nat} {r : AV} {KX : AV → Mem → Prop} {x' y : Operand} {T : TypeId}
theorem d_heavyX (h1 : opX P tab ⟨sl, m, N⟩ (pinK r M') op) (h2 : setT sl N K dst r M') : stepS P tab 1 K dst op ⟨sl, m, N⟩ := d_heavy h1 h2
theorem x_alloc : opX P tab ⟨sl, m, N⟩ KX (.alloc T) = tiK tab T fun ti => allocK T ti m KX := rfl
theorem x_box : opX P tab ⟨sl, m, N⟩ KX (.box T x') = boxK T m (ev sl x') KX := rfl
theorem x_build {ps : Array (Nat × Operand)} : opX P tab ⟨sl, m, N⟩ KX (.build T ps) = tiK tab T fun ti => stK ti.k fun fs => buildK tab ti fs m (ps.toList.map fun p => (p.1, ev sl p.2)) KX := rfl
theorem x_buildSlice {n : Nat} {ps : Array (Nat × Operand)} : opX P tab ⟨sl, m, N⟩ KX (.buildSlice T n ps) = tiK tab T fun tt => slK tt.k fun e => tiK tab e fun ti =>
    n = ps.toList.length ∧ (ps.toList.map fun p => p.1) = List.range' 0 n ∧ sliceK e ti m (ps.toList.map fun p => (p.1, ev sl p.2)) KX := rfl
theorem x_load : opX P tab ⟨sl, m, N⟩ KX (.load T x') = tiK tab T fun ti => ti.k.known = true ∧ loadK ti m (ev sl x') KX := rfl
theorem x_conv {S : TypeId} : opX P tab ⟨sl, m, N⟩ KX (.convert S T x') = tiK tab S fun ta => tiK tab T fun tb => ta.k.known = true ∧ cvK (Nat.beq S T) ta.k tb.k tab m (ev sl x') KX := rfl
theorem x_makeSlice {l c : Operand} : opX P tab ⟨sl, m, N⟩ KX (.makeSlice T l c) = tiK tab T fun tt => slK tt.k fun e => tiK tab e fun ti => makeK e ti m (ev sl l) (ev sl c) KX := rfl
theorem x_slice {lo hi mx : Option Operand} : opX P tab ⟨sl, m, N⟩ KX (.slice T x' lo hi mx) = tiK tab T fun tt => cutK tt.k tab m (lo.map (ev sl)) (hi.map (ev sl)) (mx.map (ev sl)) (ev sl x') KX := rfl
theorem x_append {t t2 : TypeId} : opX P tab ⟨sl, m, N⟩ KX (.call ⟨.builtin .append, #[x', y], #[t, t2]⟩) = tiK tab t fun tt => slK tt.k fun e => tiK tab e fun ti => (tiK tab t2 fun t2i => t2i.k = .str ∨ ∃ e2, t2i.k = .sl e2) ∧ appendK e ti m (ev sl x') (ev sl y) KX := rfl
theorem x_store : opX P tab ⟨sl, m, N⟩ KX (.store T x' y) = tiK tab T fun ti => storeK ti m (ev sl x') (ev sl y) (KX .x) := rfl
theorem x_callF {f : FuncId} {as : Array Operand} {ts : Array TypeId} : opX P tab ⟨sl, m, N⟩ KX (.call ⟨.value (.func f), as, ts⟩) = ICall P f (as.toList.map (ev sl)) m KX := by
  show ICall P f (as.toList.map (fun o => ev sl o) ++ []) m _ = _
  rw [List.append_nil]
end
end Go.Ab
