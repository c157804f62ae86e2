/- Books: short ones. Books: two frames of a book's bytes are within the bound .. -/
import Derived.Test.YtkikaagieknpdaaGreatTCl4
import Derived.Test.YtkikaagieknpdaaGreatTRt2
import Derived.Test.YtkikaagieknpdaaGreatTMl9
set_option linter.unusedSimpArgs false
set_option linter.unusedVariables false
set_option linter.constructorNameAsVariable false
set_option maxRecDepth 100000
open Nat (reduceAdd reduceMul reduceEqDiff reduceLeDiff)
open Int (reduceLE reduceLT reduceEq reduceNe)
namespace Go.Ab
open Go Go.Proofs Go.RowKit
def ShortK (k : BookD) : Prop := ShortB k.r ∧ k.l.length ≤ 40 ∧ k.o.length ≤ 40 ∧ k.n.length ≤ 40 ∧ k.a.told.length ≤ 40 ∧ k.a.use.length ≤ 40 ∧ k.a.inc.length ≤ 40
instance (k : BookD) : Decidable (ShortK k) := by unfold ShortK; infer_instance
set_option maxHeartbeats 2000000 in
theorem rbkshort_call (k : BookD) (hw : Wide k.r) : PCall Tryz.prog 10 [BookV k] (.c (.bool (decide (ShortK k)))) := by
 refine pcall_body tabOk Tryz.func10 rfl rfl (by rw [Tryz.ntmps10]; simp) ?_
 simp only [Tryz.ntmps10, BookV]
 simp only [↓wt, wz, reduceAdd, reduceMul, reduceEqDiff, reduceLeDiff, Nat.reduceLT, reduceLE, reduceLT, reduceEq, reduceNe]
 refine icall_drop [] (short_call k.r hw) ⟨arg_books, trivial⟩ (.c _) ?_
 cases e1 : decide (ShortB k.r)
 · simp only [↓wt, wz, reduceAdd, reduceMul, reduceEqDiff, reduceLeDiff, Nat.reduceLT, reduceLE, reduceLT, reduceEq, reduceNe, e1, Tryz.results10]
   exact exp_bF (p := ShortK k) fun h => of_decide_eq_false e1 h.1
 simp only [↓wt, wz, reduceAdd, reduceMul, reduceEqDiff, reduceLeDiff, Nat.reduceLT, reduceLE, reduceLT, reduceEq, reduceNe, e1]
 cases e2 : decide ((k.l.length : Int) ≤ 40)
 · simp only [↓wt, wz, reduceAdd, reduceMul, reduceEqDiff, reduceLeDiff, Nat.reduceLT, reduceLE, reduceLT, reduceEq, reduceNe, e2, Tryz.results10]
   exact exp_bF (p := ShortK k) fun h => by have := of_decide_eq_false e2; have := h.2.1; omega
 simp only [↓wt, wz, reduceAdd, reduceMul, reduceEqDiff, reduceLeDiff, Nat.reduceLT, reduceLE, reduceLT, reduceEq, reduceNe, e2]
 cases e3 : decide ((k.o.length : Int) ≤ 40)
 · simp only [↓wt, wz, reduceAdd, reduceMul, reduceEqDiff, reduceLeDiff, Nat.reduceLT, reduceLE, reduceLT, reduceEq, reduceNe, e3, Tryz.results10]
   exact exp_bF (p := ShortK k) fun h => by have := of_decide_eq_false e3; have := h.2.2.1; omega
 simp only [↓wt, wz, reduceAdd, reduceMul, reduceEqDiff, reduceLeDiff, Nat.reduceLT, reduceLE, reduceLT, reduceEq, reduceNe, e3]
 cases e4 : decide ((k.n.length : Int) ≤ 40)
 · simp only [↓wt, wz, reduceAdd, reduceMul, reduceEqDiff, reduceLeDiff, Nat.reduceLT, reduceLE, reduceLT, reduceEq, reduceNe, e4, Tryz.results10]
   exact exp_bF (p := ShortK k) fun h => by have := of_decide_eq_false e4; have := h.2.2.2.1; omega
 simp only [↓wt, wz, reduceAdd, reduceMul, reduceEqDiff, reduceLeDiff, Nat.reduceLT, reduceLE, reduceLT, reduceEq, reduceNe, e4]
 cases e5 : decide ((k.a.told.length : Int) ≤ 40)
 · simp only [↓wt, wz, reduceAdd, reduceMul, reduceEqDiff, reduceLeDiff, Nat.reduceLT, reduceLE, reduceLT, reduceEq, reduceNe, e5, Tryz.results10]
   exact exp_bF (p := ShortK k) fun h => by have := of_decide_eq_false e5; have := h.2.2.2.2.1; omega
 simp only [↓wt, wz, reduceAdd, reduceMul, reduceEqDiff, reduceLeDiff, Nat.reduceLT, reduceLE, reduceLT, reduceEq, reduceNe, e5]
 cases e6 : decide ((k.a.use.length : Int) ≤ 40)
 · simp only [↓wt, wz, reduceAdd, reduceMul, reduceEqDiff, reduceLeDiff, Nat.reduceLT, reduceLE, reduceLT, reduceEq, reduceNe, e6, Tryz.results10]
   exact exp_bF (p := ShortK k) fun h => by have := of_decide_eq_false e6; have := h.2.2.2.2.2.1; omega
 simp (maxSteps := 10000000) only [↓wt, wz, reduceAdd, reduceMul, reduceEqDiff, reduceLeDiff, Nat.reduceLT, reduceLE, reduceLT, reduceEq, reduceNe, e6, Tryz.results10]
 exact exp_bE ⟨fun h => ⟨of_decide_eq_true e1, by have := of_decide_eq_true e2; omega, by have := of_decide_eq_true e3; omega, by have := of_decide_eq_true e4; omega, by have := of_decide_eq_true e5; omega, by have := of_decide_eq_true e6; omega, by omega⟩, fun h => by have := h.2.2.2.2.2.2; omega⟩
theorem short_small {k : BookD} (h : ShortK k) : SmallK k ∧ BLens k := by
 obtain ⟨h1, h2, h3, h4, h5, h6, h7⟩ := h
 have hn := short_nums h1
 exact ⟨⟨by omega, by omega, by omega, by omega, by omega, by omega, by omega, by omega⟩, short_lens h1, by omega, by omega, by omega, by omega, by omega, by omega⟩
theorem enc_small {k : BookD} (h : SmallK k) : (encBk k).length ≤ 500000000 := by
 have h1 := encN_len (numsK k)
 have h2 : (audL k.a).length ≤ 2 + 3 * k.a.told.length + 1 := by
  unfold audL
  split
  · simp only [List.append_nil, List.length_cons, List.length_nil]; omega
  · simp only [List.length_append, List.length_cons, List.length_nil, triL_len]; omega
 obtain ⟨s1, s2, s3, s4, s5, s6, s7, s8⟩ := h
 have h3 : (numsK k).length ≤ 30000000 := by
  simp only [numsK, List.length_append, List.length_cons, List.length_nil, lineL_len, outsL_len, notesL_len]
  omega
 exact Nat.le_trans h1 (by omega)
theorem okR_bs {k : BookD} {v : Value} : OkR (Under 0) (.t [BookV k, .c v]) :=
 ⟨⟨.c _, .l _ _ (pureR _), .l _ _ (pureQ _), .l _ _ (pureU _), .c _, .l _ _ (pureN _), .c _, .c _, .l _ _ (pureO _), .l _ _ (pureI _), .l _ _ (pureI _), .c _, trivial⟩, .c _, trivial⟩
end Go.Ab
namespace Go.Ab
open Go Go.Proofs Go.RowKit
def B8 (v : Int) : Prop := 0 ≤ v ∧ v < 72057594037927936
theorem encN_len8 : ∀ ns : List Int, (∀ v ∈ ns, B8 v) → (encN ns).length ≤ 8 * ns.length
 | [], _ => by simp [encN]
 | v :: r, h => by
  have ih := encN_len8 r fun w hw => h w (by simp [hw])
  have hv := h v (by simp)
  unfold B8 at hv
  have h1 : uNat v < 128 ^ 8 := by unfold uNat; omega
  have h2 := putL_len 7 (uNat v) h1
  simp only [encN, List.length_append, List.length_cons]
  omega
theorem numsB_mem : ∀ (l : List RowD) (v : Int), v ∈ numsB l → ∃ r ∈ l, v ∈ numsR r
 | [], v, h => by cases h
 | r :: l, v, h => by
  simp only [numsB, List.mem_append] at h
  rcases h with h | h
  · exact ⟨r, by simp, h⟩
  · obtain ⟨r', h1, h2⟩ := numsB_mem l v h
    exact ⟨r', by simp [h1], h2⟩
theorem right_b8 {c : Conf} {l : List RowD} (h : RightB c l) : ∀ v ∈ numsB l, B8 v := fun v hv => by
 obtain ⟨r, hr, hv⟩ := numsB_mem l v hv
 obtain ⟨w, hw, e⟩ := getD_mem (d := (⟨0, 0, []⟩ : RowD)) hr
 have e' : rowAt l w = r := by rw [← e]; rfl
 obtain ⟨h1, h2, h3, h4, h5, h6, h7⟩ := h.2.1.row h.1 hw
 rw [e'] at h3 h4 h5
 simp only [numsR, List.mem_cons] at hv
 unfold B8
 rcases hv with rfl | rfl | hv
 · omega
 · omega
 · have := h5 v hv
   unfold Within at this; omega
theorem sum_n {n : Nat} : ∀ (l : List RowD), (∀ r ∈ l, r.o.length = n) → (l.map fun r => r.o.length).sum = n * l.length
 | [], _ => by simp
 | r :: l, h => by
  have h1 := h r (by simp)
  have h2 := sum_n l fun x hx => h x (by simp [hx])
  simp only [List.map_cons, List.sum_cons, List.length_cons, Nat.mul_add]
  omega
theorem right_len {c : Conf} {l : List RowD} (h : RightB c l) : (numsB l).length = 2 * c.n.toNat + c.n.toNat * c.n.toNat := by
 have hn := h.2.1.1
 have hm := h.1
 unfold MayC at hm
 have e : l.length = c.n.toNat := by omega
 rw [numsB_len, sum_n l fun r hr => (right_mem h hr).1, e]
theorem may_b8 {c : Conf} {who : Int} {k : BookD} (h : MayK c who k) : ∀ v ∈ numsK k, B8 v := fun v hv => by
 have hm := may_len h
 have hm' := hm.1
 unfold MayC at hm'
 simp only [numsK, List.mem_append, List.mem_cons, List.not_mem_nil, or_false] at hv
 rcases hv with (((((((hv | hv) | hv) | hv) | hv) | hv) | hv) | hv) | hv
 · have := h.2.1; unfold B8; omega
 · exact right_b8 h.2.2.1 v hv
 · unfold B8; omega
 · obtain ⟨x, hx, hv⟩ := List.mem_flatMap.1 hv
   obtain ⟨i, hi, rfl⟩ := getD_mem (d := default) hx
   obtain ⟨⟨⟨g1, g2⟩, g3⟩, _⟩ := h.2.2.2.1.2.2 i hi
   unfold MaySt reqAt at g1
   unfold Amt reqAt at g3
   simp only [List.mem_cons, List.not_mem_nil, or_false] at hv
   unfold B8
   rcases hv with rfl | rfl <;> omega
 · unfold B8; omega
 · obtain ⟨x, hx, hv⟩ := List.mem_flatMap.1 hv
   have := List.any_eq_false.1 h.2.2.2.2.2.2.1 x hx
   simp only [decide_eq_true_eq, Decidable.not_not] at this
   obtain ⟨⟨g1, g2⟩, g3, g4⟩ := this
   unfold MaySt at g1
   simp only [List.mem_cons, List.not_mem_nil, or_false] at hv
   unfold B8
   rcases hv with rfl | rfl <;> omega
 · have := h.2.2.2.2.2.2.2.1; unfold B8; omega
 · obtain ⟨n, hn, hv⟩ := List.mem_flatMap.1 hv
   obtain ⟨i, hi, rfl⟩ := getD_mem (d := note0) hn
   obtain ⟨g1, g2, g3, g4⟩ := (h.2.2.2.2.2.2.2.2.1.2.2 i hi).1
   unfold noteAt at g1 g2 g3 g4
   unfold HeadOk MaySt at g2
   unfold LookOk at g4
   simp only [List.mem_cons, List.not_mem_nil, or_false] at hv
   unfold B8
   rcases hv with rfl | rfl | rfl | rfl | rfl | rfl | rfl <;> omega
 · have hf : ∀ b, B8 (flagI b) := fun b => by cases b <;> exact ⟨by decide, by decide⟩
   have hg : ∀ {l : List Int} {i : Nat}, Amts l → B8 (l.getD i 0) := fun {l i} ha => by
    rw [List.getD_eq_getElem?_getD]
    rcases Nat.lt_or_ge i l.length with hi | hi
    · rw [List.getElem?_eq_getElem hi]
      have := ha _ (List.getElem_mem hi)
      unfold Within at this
      exact ⟨this.1, by have := this.2; simp only [Option.getD_some]; omega⟩
    · rw [List.getElem?_eq_none hi]; exact ⟨by decide, by decide⟩
   simp only [audL, List.mem_append, List.mem_cons, List.not_mem_nil, or_false] at hv
   rcases h.2.2.2.2.2.2.2.2.2.1.2 with hn | hr
   · have := hn.1
     rw [if_pos hn] at hv
     simp only [List.not_mem_nil, or_false] at hv
     unfold B8
     rcases hv with rfl | rfl <;> omega
   · obtain ⟨⟨g1, g2, g3, g4⟩, _, g8, g9, g10⟩ := hr
     have hne : ¬ NoneA k.a := fun hn => by have := hn.1; omega
     rw [if_neg hne] at hv
     rcases hv with (rfl | rfl) | hv
     · unfold B8; omega
     · unfold B8; omega
     · rcases List.mem_append.1 hv with hv | hv
       · obtain ⟨i, hi, hv⟩ := List.mem_flatMap.1 hv
         simp only [List.mem_cons, List.not_mem_nil, or_false] at hv
         rcases hv with rfl | rfl | rfl
         · exact hf _
         · exact hg g9
         · exact hg g10
       · rw [List.mem_singleton.1 hv]; exact hf _
theorem audL_len {c : Conf} {who : Int} {a : AudD} (h : MayA c who a) : (audL a).length ≤ 3 * c.n.toNat + 3 := by
 have hm := h.1.1
 unfold MayC at hm
 unfold audL
 split
 · simp
 · rename_i hn
   rcases h.2 with h2 | h2
   · exact absurd h2 hn
   · have := h2.2.1.1
     simp only [List.length_append, List.length_cons, List.length_nil, triL_len]
     omega
theorem nums_len {c : Conf} {who : Int} {k : BookD} (h : MayK c who k) : (numsK k).length ≤ c.n.toNat * c.n.toNat + 12 * c.n.toNat + 4 * c.q.toNat + 9 := by
 have hm := may_len h
 have h1 := right_len h.2.2.1
 have h2 := audL_len h.2.2.2.2.2.2.2.2.2.1
 have hm' := hm.1
 unfold MayC at hm'
 simp only [numsK, List.length_append, List.length_cons, List.length_nil, h1, lineL_len, outsL_len, notesL_len]
 omega
theorem enc_len8 {c : Conf} {who : Int} {k : BookD} (h : MayK c who k) : (encBk k).length ≤ 8 * (c.n.toNat * c.n.toNat + 12 * c.n.toNat + 4 * c.q.toNat + 9) := by
 have h1 := encN_len8 (numsK k) (may_b8 h)
 have h2 := nums_len h
 have : 8 * (numsK k).length ≤ 8 * (c.n.toNat * c.n.toNat + 12 * c.n.toNat + 4 * c.q.toNat + 9) := Nat.mul_le_mul_left _ h2
 exact Nat.le_trans h1 this
theorem two_frames {c : Conf} {who : Int} {k : BookD} (h : MayK c who k) : 2 * (((putL (encBk k).length).length + (encBk k).length + 4 : Nat) : Int) ≤ boundK c ∧ (encBk k).length ≤ 10000 := by
 have hm := (may_len h).1
 have h8 := enc_len8 h
 have hm' := hm
 unfold MayC at hm'
 obtain ⟨n, hn⟩ : ∃ n : Nat, c.n = n := ⟨c.n.toNat, by omega⟩
 obtain ⟨q, hq⟩ : ∃ q : Nat, c.q = q := ⟨c.q.toNat, by omega⟩
 have en : c.n.toNat = n := by omega
 have eq : c.q.toNat = q := by omega
 rw [en, eq] at h8
 have hnn : n * n ≤ 256 := by
  have : n * n ≤ 16 * 16 := Nat.mul_le_mul (by omega) (by omega)
  omega
 have hb : boundK c = 16 * (((n * n : Nat) : Int) + 12 * n + 6 * q + 20) := by
  have e1 : (n : Int) * ((n : Int) + 12) = (n : Int) * n + n * 12 := Int.mul_add _ _ _
  have e2 : ((n * n : Nat) : Int) = (n : Int) * n := Int.natCast_mul _ _
  rw [boundK, if_pos hm, hn, hq, e1, e2]
  generalize (n : Int) * n = x
  omega
 have hle : (encBk k).length ≤ 10000 := by omega
 have hp := putL_len10 (n := (encBk k).length) (by omega)
 refine ⟨?_, hle⟩
 rw [hb]
 omega
end Go.Ab
namespace Go.Ab
open Go Go.Proofs Go.RowKit
def EndsOk (c : Conf) (who : Int) (a : AudD) (l : List RowD) : Prop := MayA c who a ∧ RightB c l ∧ a.p = 2 ∧ AllA who a
noncomputable instance (c : Conf) (who : Int) (a : AudD) (l : List RowD) : Decidable (EndsOk c who a l) := Classical.propDecidable _
theorem AllA.run {c : Conf} {who : Int} {a : AudD} (h : MayA c who a) (h2 : AllA who a) : RunA c who a := h.2.resolve_left h2.2
theorem amts_getD {l : List Int} (h : Amts l) (k : Nat) : 0 ≤ l.getD k 0 ∧ l.getD k 0 ≤ 1099511627776 := by
 rw [List.getD_eq_getElem?_getD]
 by_cases hk : k < l.length
 · rw [List.getElem?_eq_getElem hk]; exact h _ (List.getElem_mem hk)
 · rw [List.getElem?_eq_none (by omega)]; exact ⟨by decide, by decide⟩
end Go.Ab
