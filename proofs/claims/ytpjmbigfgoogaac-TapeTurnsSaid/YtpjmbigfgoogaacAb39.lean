/- Openers: bytes; more arguments. -/
import Derived.Test.YtpjmbigfgoogaacAb38
set_option linter.unusedVariables false
set_option linter.constructorNameAsVariable false
set_option linter.unusedSimpArgs false
namespace Go.Ab
open Go Go.RowKit Go.ChangeShapes Go.WideShapes Go.ChangeAt

section
variable {P : Program}
theorem Opener.map {t : TypeId} {α β : Type} {enc : α → AV} {Q : α → Prop} {enc' : β → AV} {R : β → Prop} (h : Opener P t enc Q) (g : α → β) (hg : ∀ a, Q a → enc a = enc' (g a) ∧ R (g a)) : Opener P t enc' R := fun H encH W fuel cs x hd => by
  obtain ⟨a, ha, ho⟩ := h H encH W fuel cs x hd
  obtain ⟨h1, h2⟩ := hg a ha
  exact ⟨g a, h2, h1 ▸ ho⟩
theorem Opener.bytes {t e : TypeId} {ti : TI} (h : P.underlying t = some (.slice e)) (he : P.underlying e = some (.int .u8)) (ht : TOk P e ti) (hs : ti.sz = 1) : Opener P t (fun l : List UInt8 => .l 1 (l.map encB)) (fun _ => True) :=
  (Opener.slice h (.int he) ht (by omega)).map (fun l => l.map fun n => UInt8.ofNat n.toNat) fun l hl => by
    refine ⟨?_, trivial⟩
    rw [hs, List.map_map]
    congr 1
    refine List.map_congr_left fun n hn => ?_
    obtain ⟨a, rfl, b⟩ := wf_u8 (hl n hn)
    simp only [Function.comp, encB, Int.toNat_natCast]
    congr 2
    rw [UInt8.toNat_ofNat_of_lt' (by omega)]
end
theorem wf_i64 {n : Int} (h : (Lit.int .i64 n).wf = true) : -9223372036854775808 ≤ n ∧ n < 9223372036854775808 := by
  simp only [Lit.wf, Bool.and_eq_true, decide_eq_true_eq, IntKind.min, IntKind.max, IntKind.signed, IntKind.bits] at h
  simp at h
  omega
theorem rep4 {E : Env} {a b c d : AV} {v u w z : Value} (h : Rep E a v) (h' : Rep E b u) (h'' : Rep E c w) (h3 : Rep E d z) : ∀ i (h1 : i < [a, b, c, d].length) (h2 : i < #[v, u, w, z].size), Rep E [a, b, c, d][i] #[v, u, w, z][i]
  | 0, _, _ => h
  | 1, _, _ => h'
  | 2, _, _ => h''
  | 3, _, _ => h3
theorem rep5 {E : Env} {a b c d e : AV} {v u w z y : Value} (h : Rep E a v) (h' : Rep E b u) (h'' : Rep E c w) (h3 : Rep E d z) (h4 : Rep E e y) : ∀ i (h1 : i < [a, b, c, d, e].length) (h2 : i < #[v, u, w, z, y].size), Rep E [a, b, c, d, e][i] #[v, u, w, z, y][i]
  | 0, _, _ => h
  | 1, _, _ => h'
  | 2, _, _ => h''
  | 3, _, _ => h3
  | 4, _, _ => h4
end Go.Ab
