/- Mail: the reference's numbers, and what it puts. Mail: the reference's .. -/
import Derived.Test.YtkikaagieknpdaaGreatTMl2
import Derived.Test.YtkikaagieknpdaaGreatTNb5
import Derived.Test.YtkikaagieknpdaaGreatTBk15
import Derived.Test.YtkikaagieknpdaaGreatAd1
import Derived.Test.YtkikaagieknpdaaGreatAbG7
set_option linter.unusedSimpArgs false
set_option linter.unusedVariables false
set_option linter.constructorNameAsVariable false
set_option maxRecDepth 100000
open Nat (reduceAdd reduceMul reduceEqDiff reduceLeDiff)
open Int (reduceLE reduceLT reduceEq reduceNe)
namespace Go.Ab
open Go Go.Proofs Go.RowKit
end Go.Ab
namespace Go.Ab
open Go Go.Proofs Go.RowKit
noncomputable def someT (n : Nat) (b : List UInt8) : List Int × List UInt8 × Bool := if (manyL (num B62) n b).1.length = n then ((manyL (num B62) n b).1, (manyL (num B62) n b).2, true) else ([], [], false)
def SomeV (p : List Int × List UInt8 × Bool) : AV := .t [.l 1 (p.1.map encI), Bs p.2.1, .c (.bool p.2.2)]
theorem okR_some {p : List Int × List UInt8 × Bool} : OkR (Under 0) (SomeV p) := ⟨.l _ _ (pureI _), okR_Bs, .c _, trivial⟩
theorem exp_someN {M : Mem} {p : List Int × List UInt8 × Bool} (h : p = ([], [], false)) : Exp M (.t [.c (.slice none 0 0), .c (.slice none 0 0), .c (.bool false)]) (SomeV p) := by
 subst h; exact exp_take0
theorem exp_someY {M : Mem} {T : TypeId} {id : Nat} {xs : List Int} {r : List UInt8} {p : List Int × List UInt8 × Bool} {n : Nat} (h : p = (xs, r, true)) (hn : n = xs.length) (hm : M.get id = some ⟨T, 1, xs.map encI⟩) :
 Exp M (.t [.s id 0 n, .l 1 (r.map encB), .c (.bool true)]) (SomeV p) := by
 subst h; exact exp_tA (xT_cons (xA_frz hm (by rw [hn, List.length_map, Nat.zero_add]) rfl (pureI _)) (xT_cons xA_Bs (xT_cons xA_c xT_nil)))
set_option maxHeartbeats 4000000 in
theorem mrsome_call (b : List UInt8) (n : Nat) (hl : b.length ≤ 1000000000) (hn : n ≤ 1000) : PCall Tryz.prog 21 [Bs b, .c (.int .i64 n)] (SomeV (someT n b)) := by
 refine pcall_body tabOk Tryz.func21 rfl rfl (by rw [Tryz.ntmps21]; simp) ?_
 simp only [Tryz.ntmps21, Bs]
 simp only [↓wt, wz, reduceAdd, reduceMul, reduceEqDiff, reduceLeDiff, Nat.reduceLT, reduceLE, reduceLT, reduceEq, reduceNe]
 refine adopt_rule 7 2 1 rfl ?_
 simp only [↓wt, wz, reduceAdd, reduceMul, reduceEqDiff, reduceLeDiff, Nat.reduceLT, reduceLE, reduceLT, reduceEq, reduceNe]
 refine loop_ruleM tabOk [1] (fun x : List Int × List UInt8 => [(0, Bs x.2), (7, .s 0 0 x.1.length), (8, .c (.int .i64 x.1.length))]) (fun x => ⟨[(0, ⟨2, 1, x.1.map encI⟩)], 1⟩) (fun x => Tk (num B62) b x.1 x.2 ∧ x.1.length ≤ n) (fun x => n - x.1.length) ([], b) ⟨.nil, by simp⟩ (fun _ => rfl) ?_ ?_
 · simp only [↓wt, wz, wkf, reduceAdd, reduceMul, reduceEqDiff, reduceLeDiff, Nat.reduceLT, reduceLE, reduceLT, reduceEq, reduceNe, Bs]
   try trivial
 · rintro ⟨xs, r⟩ ⟨h1, h2⟩
   dsimp only at h1 h2
   have hr := h1.len num_len
   have e3 := wi_succ (k := xs.length) (by omega)
   simp only [↓wt, wz, reduceAdd, reduceMul, reduceEqDiff, reduceLeDiff, Nat.reduceLT, reduceLE, reduceLT, reduceEq, reduceNe, Bs]
   repeat' (first | ((first | refine r_casesD (fun hp hb => ?_) (fun hp hb => ?_) | refine r_casesN (fun hp hb => ?_) (fun hp hb => ?_) | refine r_casesM (fun hp hb => ?_) (fun hp hb => ?_) | refine r_casesB (fun hp hb => ?_) (fun hp hb => ?_) | refine r_gcasesD (fun hp hb => ?_) (fun hp hb => ?_) | refine r_gcasesN (fun hp hb => ?_) (fun hp hb => ?_) | refine r_gcasesM (fun hp hb => ?_) (fun hp hb => ?_) | refine r_gcasesB (fun hp hb => ?_) (fun hp hb => ?_)) <;> simp only [↓wt, wz, reduceAdd, reduceMul, reduceEqDiff, reduceLeDiff, Nat.reduceLT, reduceLE, reduceLT, reduceEq, reduceNe, Bs, hb]) | ((with_reducible refine And.intro ?_ ?_); omega) | fail)
   · have h3 : xs.length < n := by omega
     refine icall_drop [] (nrtake_call r (by omega) (tk_is r)) ⟨arg_l (pureB _), trivial⟩ okR_take ?_
     have e : decide ((((tk r).1 : Nat) : Int) > 4611686018427387903) = !decide ((tk r).1 < 4611686018427387904) := by rw [← decide_not]; exact decide_eq_decide.2 (by omega)
     have hm := h1.many (n - xs.length)
     rw [show xs.length + (n - xs.length) = n by omega, show n - xs.length = (n - xs.length - 1) + 1 by omega] at hm
     have stop : (num B62 r).2.2 = false → someT n b = ([], [], false) := fun ho => by
      simp only [manyL, ho, Bool.false_eq_true, if_false, List.append_nil] at hm
      rw [someT, hm, if_neg (by show ¬ xs.length = n; omega)]
     simp only [↓wt, wz, reduceAdd, reduceMul, reduceEqDiff, reduceLeDiff, Nat.reduceLT, reduceLE, reduceLT, reduceEq, reduceNe, Bs]
     cases ho : (tk r).2.2
     · have hno : (num B62 r).2.2 = false := by simp [num, ho]
       simp only [↓wt, wz, reduceAdd, reduceMul, reduceEqDiff, reduceLeDiff, Nat.reduceLT, reduceLE, reduceLT, reduceEq, reduceNe, ho, Bs, Tryz.results21]
       exact exp_someN (stop hno)
     · by_cases hv : (tk r).1 < 4611686018427387904
       · have hyes : (num B62 r).2.2 = true := by simp [num, ho, hv]
         have e0 : IntKind.i64.wrap ((tk r).1 : Int) = (num B62 r).1 := rfl
         simp only [↓wt, wz, reduceAdd, reduceMul, reduceEqDiff, reduceLeDiff, Nat.reduceLT, reduceLE, reduceLT, reduceEq, reduceNe, ho, hv, e, e0, e3, Bs, Cell]
         refine ⟨by omega, (xs ++ [(num B62 r).1], (num B62 r).2.1), ⟨h1.snoc hyes, by simp; omega⟩, by simp; omega, ?_⟩
         simp only [↓wt, wz, wkf, reduceAdd, reduceMul, reduceEqDiff, reduceLeDiff, Nat.reduceLT, reduceLE, reduceLT, reduceEq, reduceNe, Bs, e3, List.length_append, List.map_append, underL_append, underL_I, encI_eq]
         try trivial
       · have hno : (num B62 r).2.2 = false := by simp [num, ho, hv]
         simp only [↓wt, wz, reduceAdd, reduceMul, reduceEqDiff, reduceLeDiff, Nat.reduceLT, reduceLE, reduceLT, reduceEq, reduceNe, ho, hv, e, Bs, Tryz.results21]
         exact exp_someN (stop hno)
   · have hn2 : xs.length = n := by omega
     have hm := h1.many 0
     simp only [manyL, Nat.add_zero, List.append_nil, hn2] at hm
     simp only [↓wt, wz, reduceAdd, reduceMul, reduceEqDiff, reduceLeDiff, Nat.reduceLT, reduceLE, reduceLT, reduceEq, reduceNe, Bs, Tryz.results21]
     exact exp_someY (by rw [someT, hm, if_pos hn2]) rfl rfl
end Go.Ab
namespace Go.Ab
open Go Go.Proofs Go.RowKit
theorem b62_le : B62 ≤ M63 := by unfold B62 M63; decide
theorem some_put (xs : List Int) (r : List UInt8) (h : ∀ v ∈ xs, 0 ≤ v ∧ v < 4611686018427387904) : someT xs.length (encN xs ++ r) = (xs, r, true) := by
 rw [someT, many_put b62_le xs r fun v hv => ⟨(h v hv).1, (h v hv).2⟩, if_pos rfl]
theorem many_rng {B : Nat} (hB : B ≤ M63) : ∀ n b, ∀ v ∈ (manyL (num B) n b).1, 0 ≤ v ∧ v < B
 | 0, b => by simp [manyL]
 | n + 1, b => by
  simp only [manyL]
  split
  · rename_i h
    have h1 := num_ok hB h
    have ih := many_rng hB n (num B b).2.1
    intro v hv
    rcases List.mem_cons.1 hv with rfl | hv
    · exact h1.2
    · exact ih v hv
  · simp
theorem some_of {n : Nat} {b r : List UInt8} {xs : List Int} (h : someT n b = (xs, r, true)) : b = encN xs ++ r ∧ xs.length = n ∧ ∀ v ∈ xs, 0 ≤ v ∧ v < 4611686018427387904 := by
 unfold someT at h
 split at h
 · rename_i hl
   simp only [Prod.mk.injEq, and_true] at h
   obtain ⟨rfl, rfl⟩ := h
   exact ⟨many_of b62_le n b, hl, many_rng b62_le n b⟩
 · simp at h
theorem some_cases (n : Nat) (b : List UInt8) : someT n b = ([], [], false) ∨ ∃ xs r, someT n b = (xs, r, true) := by
 unfold someT
 split
 · exact .inr ⟨_, _, rfl⟩
 · exact .inl rfl
theorem some_1 {b r : List UInt8} {xs : List Int} (h : someT 1 b = (xs, r, true)) : ∃ v, xs = [v] ∧ 0 ≤ v ∧ v < 4611686018427387904 ∧ b = encN [v] ++ r := by
 obtain ⟨h1, h2, h3⟩ := some_of h
 match xs, h2 with
 | [v], _ => exact ⟨v, rfl, (h3 v (by simp)).1, (h3 v (by simp)).2, h1⟩
def audT (a : AudD) : List Int := if NoneA a then [] else triL a a.told.length ++ [flagI a.mv]
def tl7 (k : BookD) : List UInt8 := encN (audT k.a)
def midL (k : BookD) : List Int := [k.k] ++ notesL k.n ++ [k.a.y, k.a.p]
def tl6 (k : BookD) : List UInt8 := encN (midL k) ++ tl7 k
def tl5 (k : BookD) : List UInt8 := encN (outsL k.o) ++ tl6 k
def tl4 (k : BookD) : List UInt8 := encN [(k.o.length : Int)] ++ tl5 k
def tl3 (k : BookD) : List UInt8 := encN (lineL k.l) ++ tl4 k
def tl2 (k : BookD) : List UInt8 := encN [(k.l.length : Int)] ++ tl3 k
def tl1 (k : BookD) : List UInt8 := encN (numsB k.r) ++ tl2 k
theorem tl0 (k : BookD) : encBk k = encN [k.ck] ++ tl1 k := by
 simp only [encBk, numsK, tl1, tl2, tl3, tl4, tl5, tl6, tl7, midL, audL, audT, encN_append, List.append_assoc]
theorem lineL_len (l : List ReqD) : (lineL l).length = 2 * l.length := flat_len _ 2 (fun _ => rfl) l
theorem outsL_len (l : List OutD) : (outsL l).length = 2 * l.length := flat_len _ 2 (fun _ => rfl) l
theorem notesL_len (l : List NoteD) : (notesL l).length = 7 * l.length := flat_len _ 7 (fun _ => rfl) l
def Nn (v : Int) : Prop := 0 ≤ v ∧ v < 4611686018427387904
theorem may_line {c : Conf} {who : Int} {k : BookD} (h : MayK c who k) : ∀ x ∈ k.l, x.w = who ∧ Nn x.t ∧ Nn x.a := fun x hx => by
 obtain ⟨i, hi, rfl⟩ := getD_mem (d := default) hx
 obtain ⟨⟨⟨g1, g2⟩, g3⟩, _⟩ := h.2.2.2.1.2.2 i hi
 unfold MaySt reqAt at g1
 unfold Amt reqAt at g3
 unfold reqAt at g2
 exact ⟨g2, ⟨by omega, by omega⟩, ⟨by omega, by omega⟩⟩
theorem may_outs {c : Conf} {who : Int} {k : BookD} (h : MayK c who k) : ∀ x ∈ k.o, x.w = who ∧ Nn x.t ∧ (x.c = 0 ∨ x.c = 7) := fun x hx => by
 have := List.any_eq_false.1 h.2.2.2.2.2.2.1 x hx
 simp only [decide_eq_true_eq, Decidable.not_not] at this
 obtain ⟨⟨g1, g2⟩, g3, g4⟩ := this
 unfold MaySt at g1
 exact ⟨g2, ⟨by omega, by omega⟩, g4⟩
theorem noteOk_n {c : Conf} (hm : MayC c) {k : Int} {n : NoteD} (h : NoteOk c k n) : Nn n.ck ∧ Nn n.t ∧ Nn n.w ∧ Nn n.a ∧ Nn n.k ∧ Nn n.y ∧ Nn n.p := by
 unfold MayC at hm
 obtain ⟨h1, h2, h3, h4⟩ := h
 unfold HeadOk MaySt at h2
 unfold LookOk at h4
 unfold Nn
 omega
theorem t1 {c : Conf} {who : Int} {k : BookD} (h : MayK c who k) : someT 1 (encBk k) = ([k.ck], tl1 k, true) := by
 rw [tl0]
 exact some_put [k.ck] _ fun v hv => by rw [List.mem_singleton.1 hv]; have := h.2.1; omega
theorem t2 {c : Conf} {who : Int} {k : BookD} (h : MayK c who k) : takeB M63 c (tl1 k) = (k.r, tl2 k, true) := books_put (Nat.le_refl M63) (by decide) h.2.2.1
theorem may_len {c : Conf} {who : Int} {k : BookD} (h : MayK c who k) : MayC c ∧ k.l.length ≤ 8 ∧ (k.l.length : Int) ≤ c.q ∧ k.o.length ≤ 9 ∧ (k.o.length : Int) ≤ c.q + 1 ∧ (k.n.length : Int) = c.n := by
 have hm := h.2.2.1.1
 have h1 := h.2.2.2.1.2.1
 have h2 := h.2.2.2.2.1
 have h3 := h.2.2.2.2.2.2.2.2.1.2.1
 have hm' := hm
 unfold MayC at hm'
 exact ⟨hm, by omega, h1, by omega, h2, h3⟩
theorem t3 {c : Conf} {who : Int} {k : BookD} (h : MayK c who k) : someT 1 (tl2 k) = ([(k.l.length : Int)], tl3 k, true) :=
 some_put [(k.l.length : Int)] _ fun v hv => by rw [List.mem_singleton.1 hv]; have := may_len h; omega
theorem t4 {c : Conf} {who : Int} {k : BookD} (h : MayK c who k) : someT (2 * k.l.length) (tl3 k) = (lineL k.l, tl4 k, true) := by
 rw [← lineL_len]
 refine some_put (lineL k.l) _ fun v hv => ?_
 obtain ⟨x, hx, hv⟩ := List.mem_flatMap.1 hv
 have := may_line h x hx
 unfold Nn at this
 simp only [List.mem_cons, List.not_mem_nil, or_false] at hv
 rcases hv with rfl | rfl <;> omega
theorem t5 {c : Conf} {who : Int} {k : BookD} (h : MayK c who k) : someT 1 (tl4 k) = ([(k.o.length : Int)], tl5 k, true) :=
 some_put [(k.o.length : Int)] _ fun v hv => by rw [List.mem_singleton.1 hv]; have := may_len h; omega
theorem t6 {c : Conf} {who : Int} {k : BookD} (h : MayK c who k) : someT (2 * k.o.length) (tl5 k) = (outsL k.o, tl6 k, true) := by
 rw [← outsL_len]
 refine some_put (outsL k.o) _ fun v hv => ?_
 obtain ⟨x, hx, hv⟩ := List.mem_flatMap.1 hv
 have := may_outs h x hx
 unfold Nn at this
 simp only [List.mem_cons, List.not_mem_nil, or_false] at hv
 rcases hv with rfl | rfl <;> omega
theorem may_aud {c : Conf} {who : Int} {k : BookD} (h : MayK c who k) : (k.a = aud00 ∧ NoneA k.a) ∨ (¬ NoneA k.a ∧ (k.a.y ≠ 0 ∨ k.a.p ≠ 0) ∧ Nn k.a.y ∧ Nn k.a.p ∧ (k.a.told.length : Int) = c.n ∧ (k.a.use.length : Int) = c.n ∧ (k.a.inc.length : Int) = c.n ∧ (∀ v ∈ k.a.use, Nn v) ∧ ∀ v ∈ k.a.inc, Nn v) := by
 have hm := h.2.2.1.1
 unfold MayC at hm
 rcases h.2.2.2.2.2.2.2.2.2.1.2 with hn | ⟨⟨g1, g2, g3, g4⟩, ⟨g5, g6, g7⟩, g8, g9, g10⟩
 · refine .inl ⟨?_, hn⟩
   obtain ⟨⟨g1, g2⟩, g3, g4, g5, g6⟩ := hn
   have := List.length_eq_zero_iff.1 g3
   have := List.length_eq_zero_iff.1 g4
   have := List.length_eq_zero_iff.1 g5
   cases ha : k.a
   simp only [ha] at *
   simp_all [aud00]
 · refine .inr ⟨fun hn => by have := hn.1; omega, .inl (by omega), ⟨by omega, by omega⟩, ⟨by omega, by omega⟩, by omega, by omega, by omega, fun v hv => ?_, fun v hv => ?_⟩
   · have := g9 v hv
     unfold Within at this
     exact ⟨this.1, by omega⟩
   · have := g10 v hv
     unfold Within at this
     exact ⟨this.1, by omega⟩
theorem midL_len {c : Conf} {who : Int} {k : BookD} (h : MayK c who k) : (midL k).length = 1 + 7 * c.n.toNat + 2 := by
 have := may_len h
 simp only [midL, List.length_append, List.length_cons, List.length_nil, notesL_len]
 omega
theorem t7 {c : Conf} {who : Int} {k : BookD} (h : MayK c who k) : someT (1 + 7 * c.n.toNat + 2) (tl6 k) = (midL k, tl7 k, true) := by
 rw [← midL_len h]
 refine some_put (midL k) _ fun v hv => ?_
 have hm := may_len h
 have hm' := hm.1
 unfold MayC at hm'
 simp only [midL, List.mem_append, List.mem_cons, List.not_mem_nil, or_false] at hv
 have hk := h.2.2.2.2.2.2.2.1
 have ha : Nn k.a.y ∧ Nn k.a.p := by
  rcases may_aud h with ⟨g1, g2⟩ | g
  · have := g2.1; exact ⟨⟨by omega, by omega⟩, ⟨by omega, by omega⟩⟩
  · exact ⟨g.2.2.1, g.2.2.2.1⟩
 unfold Nn at ha
 rcases hv with (rfl | hv) | rfl | rfl
 · omega
 · obtain ⟨n, hn, hv⟩ := List.mem_flatMap.1 hv
   obtain ⟨i, hi, rfl⟩ := getD_mem (d := note0) hn
   have := noteOk_n hm.1 (h.2.2.2.2.2.2.2.2.1.2.2 i hi).1
   unfold Nn noteAt at this
   simp only [List.mem_cons, List.not_mem_nil, or_false] at hv
   rcases hv with rfl | rfl | rfl | rfl | rfl | rfl | rfl <;> omega
 · omega
 · omega
theorem t8n {c : Conf} {who : Int} {k : BookD} (h : MayK c who k) (h0 : k.a.y = 0 ∧ k.a.p = 0) : tl7 k = [] ∧ k.a = aud00 := by
 rcases may_aud h with ⟨g1, g2⟩ | g
 · exact ⟨by rw [tl7, audT, if_pos g2]; rfl, g1⟩
 · have := g.2.1; omega
theorem getD_nn {l : List Int} {i : Nat} (h : ∀ v ∈ l, Nn v) : Nn (l.getD i 0) := by
 rw [List.getD_eq_getElem?_getD]
 rcases Nat.lt_or_ge i l.length with hi | hi
 · rw [List.getElem?_eq_getElem hi]; exact h _ (List.getElem_mem hi)
 · rw [List.getElem?_eq_none hi]; exact ⟨by decide, by decide⟩
theorem t8 {c : Conf} {who : Int} {k : BookD} (h : MayK c who k) (h0 : k.a.y ≠ 0 ∨ k.a.p ≠ 0) : someT (3 * c.n.toNat + 1) (tl7 k) = (triL k.a c.n.toNat ++ [flagI k.a.mv], [], true) ∧ k.a.told.length = c.n.toNat ∧ k.a.use.length = c.n.toNat ∧ k.a.inc.length = c.n.toNat := by
 rcases may_aud h with ⟨g1, g2⟩ | ⟨g1, g2, g3, g4, g5, g6, g7, g8, g9⟩
 · have := g2.1; omega
 · have hm := (may_len h).1
   unfold MayC at hm
   have e : k.a.told.length = c.n.toNat := by omega
   refine ⟨?_, e, by omega, by omega⟩
   have hl : (triL k.a c.n.toNat ++ [flagI k.a.mv]).length = 3 * c.n.toNat + 1 := by simp [triL_len]
   rw [tl7, audT, if_neg g1, e, ← hl]
   have := some_put (triL k.a c.n.toNat ++ [flagI k.a.mv]) [] fun v hv => by
    have hf : ∀ b, 0 ≤ flagI b ∧ flagI b < 4611686018427387904 := fun b => by cases b <;> exact ⟨by decide, by decide⟩
    rcases List.mem_append.1 hv with hv | hv
    · obtain ⟨i, hi, hv⟩ := List.mem_flatMap.1 hv
      simp only [List.mem_cons, List.not_mem_nil, or_false] at hv
      rcases hv with rfl | rfl | rfl
      · exact hf _
      · exact getD_nn g8
      · exact getD_nn g9
    · rw [List.mem_singleton.1 hv]; exact hf _
   rwa [List.append_nil] at this
end Go.Ab
namespace Go.Ab
open Go Go.Proofs Go.RowKit
theorem chunk_take (l : List Int) (d : Nat) : ∀ m, d * m ≤ l.length → (List.range m).flatMap (fun i => (List.range d).map fun j => l.getD (d * i + j) 0) = l.take (d * m)
 | 0, _ => by simp
 | m + 1, h => by
  rw [Nat.mul_succ] at h
  rw [List.range_succ, List.flatMap_append, chunk_take l d m (by omega), Nat.mul_succ, List.take_add]
  congr 1
  simp only [List.flatMap_cons, List.flatMap_nil, List.append_nil]
  refine List.ext_getElem (by simp; omega) fun i h1 h2 => ?_
  simp only [List.length_map, List.length_range] at h1
  simp only [List.getElem_map, List.getElem_range, List.getElem_take, List.getElem_drop, List.getD_eq_getElem?_getD]
  rw [List.getElem?_eq_getElem (by omega)]
  rfl
theorem flat_getD {α : Type} (dα : α) (f : α → List Int) (d : Nat) (hf : ∀ x, (f x).length = d) : ∀ (l : List α) (i j : Nat), i < l.length → j < d → (l.flatMap f).getD (d * i + j) 0 = (f (l.getD i dα)).getD j 0
 | [], i, j, h, _ => by cases h
 | a :: r, 0, j, _, hj => by
  simp only [List.flatMap_cons, List.getD_eq_getElem?_getD, Nat.mul_zero, Nat.zero_add, List.getElem?_cons_zero, Option.getD_some]
  rw [List.getElem?_append_left (by rw [hf]; exact hj)]
 | a :: r, i + 1, j, h, hj => by
  have ih := flat_getD dα f d hf r i j (by simpa using h) hj
  simp only [List.getD_eq_getElem?_getD] at ih ⊢
  rw [List.flatMap_cons, List.getElem?_append_right (by rw [hf, Nat.mul_succ]; omega), hf, show d * (i + 1) + j - d = d * i + j by rw [Nat.mul_succ]; omega, ih]
  simp
def rqOf (who : Int) (l : List Int) (m : Nat) : List ReqD := (List.range m).map fun i => ⟨l.getD (2 * i) 0, who, l.getD (2 * i + 1) 0⟩
def ocOf (who : Int) (l : List Int) (m : Nat) : List OutD := (List.range m).map fun i => ⟨l.getD (2 * i) 0, who, l.getD (2 * i + 1) 0⟩
def ntOf (l : List Int) (m : Nat) : List NoteD := (List.range m).map fun i => ⟨l.getD (7 * i + 1) 0, l.getD (7 * i + 2) 0, l.getD (7 * i + 3) 0, l.getD (7 * i + 4) 0, l.getD (7 * i + 5) 0, l.getD (7 * i + 6) 0, l.getD (7 * i + 7) 0⟩
def tdOf (l : List Int) (m : Nat) : List Bool := (List.range m).map fun i => decide (l.getD (3 * i) 0 = 1)
def usOf (l : List Int) (m : Nat) : List Int := (List.range m).map fun i => l.getD (3 * i + 1) 0
def icOf (l : List Int) (m : Nat) : List Int := (List.range m).map fun i => l.getD (3 * i + 2) 0
theorem rqOf_succ (who : Int) (l : List Int) (m : Nat) : rqOf who l (m + 1) = rqOf who l m ++ [⟨l.getD (2 * m) 0, who, l.getD (2 * m + 1) 0⟩] := by simp [rqOf, List.range_succ]
theorem ocOf_succ (who : Int) (l : List Int) (m : Nat) : ocOf who l (m + 1) = ocOf who l m ++ [⟨l.getD (2 * m) 0, who, l.getD (2 * m + 1) 0⟩] := by simp [ocOf, List.range_succ]
theorem ntOf_succ (l : List Int) (i : Nat) : ntOf l (i + 1) = ntOf l i ++ [⟨l.getD (7 * i + 1) 0, l.getD (7 * i + 2) 0, l.getD (7 * i + 3) 0, l.getD (7 * i + 4) 0, l.getD (7 * i + 5) 0, l.getD (7 * i + 6) 0, l.getD (7 * i + 7) 0⟩] := by simp [ntOf, List.range_succ]
theorem tdOf_succ (l : List Int) (m : Nat) : tdOf l (m + 1) = tdOf l m ++ [decide (l.getD (3 * m) 0 = 1)] := by simp [tdOf, List.range_succ]
theorem usOf_succ (l : List Int) (m : Nat) : usOf l (m + 1) = usOf l m ++ [l.getD (3 * m + 1) 0] := by simp [usOf, List.range_succ]
theorem icOf_succ (l : List Int) (m : Nat) : icOf l (m + 1) = icOf l m ++ [l.getD (3 * m + 2) 0] := by simp [icOf, List.range_succ]
theorem rqOf_len (who : Int) (l : List Int) (m : Nat) : (rqOf who l m).length = m := by simp [rqOf]
theorem ocOf_len (who : Int) (l : List Int) (m : Nat) : (ocOf who l m).length = m := by simp [ocOf]
theorem ntOf_len (l : List Int) (m : Nat) : (ntOf l m).length = m := by simp [ntOf]
theorem tdOf_len (l : List Int) (m : Nat) : (tdOf l m).length = m := by simp [tdOf]
theorem usOf_len (l : List Int) (m : Nat) : (usOf l m).length = m := by simp [usOf]
theorem icOf_len (l : List Int) (m : Nat) : (icOf l m).length = m := by simp [icOf]
theorem map_range_eq {α : Type} {d : α} {l : List α} {f : Nat → α} (h : ∀ i, i < l.length → f i = l.getD i d) : (List.range l.length).map f = l := by
 refine List.ext_getElem (by simp) fun i h1 h2 => ?_
 simp only [List.getElem_map, List.getElem_range]
 rw [h i h2, List.getD_eq_getElem?_getD, List.getElem?_eq_getElem h2]; rfl
theorem rqOf_back {who : Int} {l : List ReqD} (h : ∀ x ∈ l, x.w = who) : rqOf who (lineL l) l.length = l := by
 refine map_range_eq (d := default) fun i hi => ?_
 have e0 := flat_getD (default : ReqD) (fun x : ReqD => [x.t, x.a]) 2 (fun _ => rfl) l i 0 hi (by decide)
 have e1 := flat_getD (default : ReqD) (fun x : ReqD => [x.t, x.a]) 2 (fun _ => rfl) l i 1 hi (by decide)
 have e2 : (l.getD i default).w = who := h _ (by rw [List.getD_eq_getElem?_getD, List.getElem?_eq_getElem hi]; exact List.getElem_mem hi)
 rw [lineL, show 2 * i = 2 * i + 0 from rfl, e0, show 2 * i + 0 + 1 = 2 * i + 1 from rfl, e1, ← e2]
 rfl
theorem ocOf_back {who : Int} {l : List OutD} (h : ∀ x ∈ l, x.w = who) : ocOf who (outsL l) l.length = l := by
 refine map_range_eq (d := default) fun i hi => ?_
 have e0 := flat_getD (default : OutD) (fun x : OutD => [x.t, x.c]) 2 (fun _ => rfl) l i 0 hi (by decide)
 have e1 := flat_getD (default : OutD) (fun x : OutD => [x.t, x.c]) 2 (fun _ => rfl) l i 1 hi (by decide)
 have e2 : (l.getD i default).w = who := h _ (by rw [List.getD_eq_getElem?_getD, List.getElem?_eq_getElem hi]; exact List.getElem_mem hi)
 rw [outsL, show 2 * i = 2 * i + 0 from rfl, e0, show 2 * i + 0 + 1 = 2 * i + 1 from rfl, e1, ← e2]
 rfl
theorem outs_code {l : List OutD} {i : Nat} (hi : i < l.length) : (outsL l).getD (2 * i + 1) 0 = (l.getD i default).c :=
 flat_getD (default : OutD) (fun x : OutD => [x.t, x.c]) 2 (fun _ => rfl) l i 1 hi (by decide)
theorem getD_app1 {a b : List Int} {i : Nat} (h : i < a.length) : (a ++ b).getD i 0 = a.getD i 0 := by
 rw [List.getD_eq_getElem?_getD, List.getD_eq_getElem?_getD, List.getElem?_append_left h]
theorem getD_app2 {a b : List Int} {i : Nat} (h : a.length ≤ i) : (a ++ b).getD i 0 = b.getD (i - a.length) 0 := by
 rw [List.getD_eq_getElem?_getD, List.getD_eq_getElem?_getD, List.getElem?_append_right h]
theorem mid_0 (k : BookD) : (midL k).getD 0 0 = k.k := rfl
theorem mid_n (k : BookD) {i j : Nat} (hi : i < k.n.length) (hj : j < 7) : (midL k).getD (7 * i + (j + 1)) 0 = ([(k.n.getD i default).ck, (k.n.getD i default).t, (k.n.getD i default).w, (k.n.getD i default).a, (k.n.getD i default).k, (k.n.getD i default).y, (k.n.getD i default).p] : List Int).getD j 0 := by
 have e := flat_getD (default : NoteD) (fun n : NoteD => [n.ck, n.t, n.w, n.a, n.k, n.y, n.p]) 7 (fun _ => rfl) k.n i j hi hj
 have hl := notesL_len k.n
 have h7 : 7 * i + 7 ≤ 7 * k.n.length := by omega
 rw [midL, getD_app1 (by simp only [List.length_append, List.length_cons, List.length_nil, hl]; omega), getD_app2 (by simp only [List.length_cons, List.length_nil]; omega)]
 simp only [List.length_cons, List.length_nil]
 rw [show 7 * i + (j + 1) - (0 + 1) = 7 * i + j by omega]
 exact e
theorem mid_y (k : BookD) : (midL k).getD (7 * k.n.length + 1) 0 = k.a.y ∧ (midL k).getD (7 * k.n.length + 2) 0 = k.a.p := by
 have hl := notesL_len k.n
 constructor
 · rw [midL, getD_app2 (by simp only [List.length_append, List.length_cons, List.length_nil, hl]; omega)]
   simp only [List.length_append, List.length_cons, List.length_nil, hl]
   rw [show 7 * k.n.length + 1 - (0 + 1 + 7 * k.n.length) = 0 by omega]; rfl
 · rw [midL, getD_app2 (by simp only [List.length_append, List.length_cons, List.length_nil, hl]; omega)]
   simp only [List.length_append, List.length_cons, List.length_nil, hl]
   rw [show 7 * k.n.length + 2 - (0 + 1 + 7 * k.n.length) = 1 by omega]; rfl
theorem ntOf_back (k : BookD) : ntOf (midL k) k.n.length = k.n := by
 refine map_range_eq (d := default) fun i hi => ?_
 rw [mid_n k hi (j := 0) (by decide), mid_n k hi (j := 1) (by decide), mid_n k hi (j := 2) (by decide), mid_n k hi (j := 3) (by decide), mid_n k hi (j := 4) (by decide), mid_n k hi (j := 5) (by decide), mid_n k hi (j := 6) (by decide)]
 rfl
theorem tri_at (a : AudD) (v : Int) {n i j : Nat} (hi : i < n) (hj : j < 3) : (triL a n ++ [v]).getD (3 * i + j) 0 = ([flagI (a.told.getD i false), a.use.getD i 0, a.inc.getD i 0] : List Int).getD j 0 := by
 have hl := triL_len a n
 rw [getD_app1 (by omega)]
 have e := flat_getD (0 : Nat) (fun i : Nat => [flagI (a.told.getD i false), a.use.getD i 0, a.inc.getD i 0]) 3 (fun _ => rfl) (List.range n) i j (by simpa using hi) hj
 rw [triL, e]
 have : (List.range n).getD i 0 = i := by simp [List.getD_eq_getElem?_getD, hi]
 rw [this]
theorem tri_end (a : AudD) (v : Int) (n : Nat) : (triL a n ++ [v]).getD (3 * n) 0 = v := by
 have hl := triL_len a n
 rw [getD_app2 (by omega), show 3 * n - (triL a n).length = 0 by omega]; rfl
theorem flag01 (b : Bool) : flagI b = 0 ∨ flagI b = 1 := by cases b <;> simp [flagI]
theorem tdOf_back {a : AudD} {n : Nat} (v : Int) (h : a.told.length = n) : tdOf (triL a n ++ [v]) n = a.told := by
 subst h
 refine map_range_eq (d := false) fun i hi => ?_
 rw [show 3 * i = 3 * i + 0 from rfl, tri_at a v hi (j := 0) (by decide)]
 exact flagI_1 _
theorem usOf_back {a : AudD} {n : Nat} (v : Int) (h : a.use.length = n) : usOf (triL a n ++ [v]) n = a.use := by
 subst h
 refine map_range_eq (d := 0) fun i hi => ?_
 rw [tri_at a v hi (j := 1) (by decide)]
 rfl
theorem icOf_back {a : AudD} {n : Nat} (v : Int) (h : a.inc.length = n) : icOf (triL a n ++ [v]) n = a.inc := by
 subst h
 refine map_range_eq (d := 0) fun i hi => ?_
 rw [tri_at a v hi (j := 2) (by decide)]
 rfl
def audOf (y p : Int) (l : List Int) (n : Nat) : AudD := ⟨y, p, tdOf l n, usOf l n, icOf l n, decide (l.getD (3 * n) 0 = 1)⟩
def bkOf (who v : Int) (r : List RowD) (l1 : List Int) (n1 : Nat) (l2 : List Int) (n2 : Nat) (l3 : List Int) (n : Nat) (a : AudD) : BookD := ⟨v, r, rqOf who l1 n1, ocOf who l2 n2, l3.getD 0 0, ntOf l3 n, a⟩
theorem bkOf_back {c : Conf} {who : Int} {k : BookD} (h : MayK c who k) : bkOf who k.ck k.r (lineL k.l) k.l.length (outsL k.o) k.o.length (midL k) c.n.toNat k.a = k := by
 have e : c.n.toNat = k.n.length := by have := may_len h; omega
 rw [e, bkOf, rqOf_back fun x hx => (may_line h x hx).1, ocOf_back fun x hx => (may_outs h x hx).1, ntOf_back, mid_0]
theorem audOf_back {c : Conf} {who : Int} {k : BookD} (h : MayK c who k) (h0 : k.a.y ≠ 0 ∨ k.a.p ≠ 0) : audOf k.a.y k.a.p (triL k.a c.n.toNat ++ [flagI k.a.mv]) c.n.toNat = k.a := by
 obtain ⟨_, h1, h2, h3⟩ := t8 h h0
 rw [audOf, tdOf_back _ h1, usOf_back _ h2, icOf_back _ h3, tri_end, flagI_1]
theorem chunk_all {l : List Int} {d m : Nat} (h : l.length = d * m) : (List.range m).flatMap (fun i => (List.range d).map fun j => l.getD (d * i + j) 0) = l := by
 rw [chunk_take l d m (by omega), ← h, List.take_length]
theorem rqOf_forth {who : Int} {l : List Int} {m : Nat} (h : l.length = 2 * m) : lineL (rqOf who l m) = l := by
 have := chunk_all h
 rw [lineL, rqOf, List.flatMap_map]
 exact this
theorem ocOf_forth {who : Int} {l : List Int} {m : Nat} (h : l.length = 2 * m) : outsL (ocOf who l m) = l := by
 have := chunk_all h
 rw [outsL, ocOf, List.flatMap_map]
 exact this
theorem ntOf_forth {l : List Int} {n : Nat} (h : l.length = 1 + 7 * n + 2) : [l.getD 0 0] ++ notesL (ntOf l n) ++ [l.getD (7 * n + 1) 0, l.getD (7 * n + 2) 0] = l := by
 match l, h with
 | a :: r, h =>
  have hr : r.length = 7 * n + 2 := by simp only [List.length_cons] at h; omega
  have e1 := chunk_take r 7 n (by omega)
  have e2 : notesL (ntOf (a :: r) n) = r.take (7 * n) := by
   rw [← e1, notesL, ntOf, List.flatMap_map]
   rfl
  rw [e2]
  have e3 : r.drop (7 * n) = [r.getD (7 * n) 0, r.getD (7 * n + 1) 0] := by
   refine List.ext_getElem (by simp only [List.length_drop, List.length_cons, List.length_nil]; omega) fun i h1 h2 => ?_
   simp only [List.length_cons, List.length_nil] at h2
   rw [List.getElem_drop]
   rcases i with _ | _ | i
   · simp only [Nat.add_zero, List.getElem_cons_zero]
     rw [List.getD_eq_getElem?_getD, List.getElem?_eq_getElem (by omega)]; rfl
   · simp only [List.getElem_cons_succ, List.getElem_cons_zero]
     rw [List.getD_eq_getElem?_getD, List.getElem?_eq_getElem (by omega)]; rfl
   · omega
  have e4 := List.take_append_drop (7 * n) r
  rw [e3] at e4
  show [a] ++ r.take (7 * n) ++ [r.getD (7 * n) 0, r.getD (7 * n + 1) 0] = a :: r
  rw [List.append_assoc, e4]
  rfl
theorem triOf_forth {y p : Int} {l : List Int} {n : Nat} (h : l.length = 3 * n + 1) (hf : ∀ i, i < n → l.getD (3 * i) 0 = 0 ∨ l.getD (3 * i) 0 = 1) (hm : l.getD (3 * n) 0 = 0 ∨ l.getD (3 * n) 0 = 1) : triL (audOf y p l n) n ++ [flagI (audOf y p l n).mv] = l := by
 have fl : ∀ t : Int, t = 0 ∨ t = 1 → flagI (decide (t = 1)) = t := fun t ht => by rcases ht with rfl | rfl <;> rfl
 have e1 := chunk_take l 3 n (by omega)
 have e2 : triL (audOf y p l n) n = l.take (3 * n) := by
  rw [← e1, triL, List.flatMap_def, List.flatMap_def]
  congr 1
  refine List.map_congr_left fun i hi => ?_
  have hi := List.mem_range.1 hi
  have g1 : (tdOf l n).getD i false = decide (l.getD (3 * i) 0 = 1) := by simp [tdOf, List.getD_eq_getElem?_getD, hi]
  have g2 : (usOf l n).getD i 0 = l.getD (3 * i + 1) 0 := by simp [usOf, List.getD_eq_getElem?_getD, hi]
  have g3 : (icOf l n).getD i 0 = l.getD (3 * i + 2) 0 := by simp [icOf, List.getD_eq_getElem?_getD, hi]
  show [flagI ((tdOf l n).getD i false), (usOf l n).getD i 0, (icOf l n).getD i 0] = [l.getD (3 * i + 0) 0, l.getD (3 * i + 1) 0, l.getD (3 * i + 2) 0]
  rw [g1, g2, g3, fl _ (hf i hi)]
  rfl
 have e3 : l.drop (3 * n) = [l.getD (3 * n) 0] := by
  refine List.ext_getElem (by simp only [List.length_drop, List.length_cons, List.length_nil]; omega) fun i h1 h2 => ?_
  simp only [List.length_cons, List.length_nil] at h2
  have : i = 0 := by omega
  subst this
  rw [List.getElem_drop, List.getElem_cons_zero, List.getD_eq_getElem?_getD, List.getElem?_eq_getElem (by omega)]; rfl
 rw [e2, show (audOf y p l n).mv = decide (l.getD (3 * n) 0 = 1) from rfl, fl _ hm, ← e3, List.take_append_drop]
theorem bkOf_forth {who v : Int} {r : List RowD} {l1 l2 l3 : List Int} {n1 n2 n : Nat} {a : AudD} (h1 : l1.length = 2 * n1) (h2 : l2.length = 2 * n2) (h3 : l3.length = 1 + 7 * n + 2) (hy : a.y = l3.getD (7 * n + 1) 0) (hp : a.p = l3.getD (7 * n + 2) 0) :
 encBk (bkOf who v r l1 n1 l2 n2 l3 n a) = encN [v] ++ (encN (numsB r) ++ (encN [(n1 : Int)] ++ (encN l1 ++ (encN [(n2 : Int)] ++ (encN l2 ++ (encN l3 ++ encN (audT a))))))) := by
 have e := ntOf_forth h3
 rw [tl0]
 simp only [tl1, tl2, tl3, tl4, tl5, tl6, tl7, bkOf, midL, rqOf_forth h1, ocOf_forth h2, rqOf_len, ocOf_len, hy, hp, e]
end Go.Ab
namespace Go.Ab
open Go Go.Proofs Go.RowKit
def boundK (c : Conf) : Int := if MayC c then 16 * (c.n * (c.n + 12) + 6 * c.q + 20) else 0
theorem bound_mul {n : Int} (h1 : 1 ≤ n) (h2 : n ≤ 16) : 13 ≤ n * (n + 12) ∧ n * (n + 12) ≤ 448 := by
 obtain ⟨m, rfl⟩ : ∃ m : Nat, n = m := ⟨n.toNat, by omega⟩
 have : m = 1 ∨ m = 2 ∨ m = 3 ∨ m = 4 ∨ m = 5 ∨ m = 6 ∨ m = 7 ∨ m = 8 ∨ m = 9 ∨ m = 10 ∨ m = 11 ∨ m = 12 ∨ m = 13 ∨ m = 14 ∨ m = 15 ∨ m = 16 := by omega
 rcases this with rfl | rfl | rfl | rfl | rfl | rfl | rfl | rfl | rfl | rfl | rfl | rfl | rfl | rfl | rfl | rfl <;> decide
theorem bkbound_call (c : Conf) : PCall Tryz.prog 15 [ConfA c] (.c (.int .i64 (boundK c))) := by
 refine pcall_body tabOk Tryz.func15 rfl rfl (by rw [Tryz.ntmps15]; simp) ?_
 simp only [Tryz.ntmps15, ConfA]
 simp only [↓wt, wz, reduceAdd, reduceMul, reduceEqDiff, reduceLeDiff, Nat.reduceLT, reduceLE, reduceLT, reduceEq, reduceNe]
 refine icall_drop [] (rtmay_call c) ⟨arg_conf', trivial⟩ (.c _) ?_
 cases hm : decide (MayC c)
 · simp only [↓wt, wz, reduceAdd, reduceMul, reduceEqDiff, reduceLeDiff, Nat.reduceLT, reduceLE, reduceLT, reduceEq, reduceNe, hm, Tryz.results15]
   rw [boundK, if_neg (of_decide_eq_false hm)]
   exact exp_c
 · have h := of_decide_eq_true hm
   have hb := bound_mul h.1.1 h.1.2
   have hq := h.2.1
   have e1 : IntKind.i64.wrap (c.n + 12) = c.n + 12 := int_add (by have := h.1; omega) (by have := h.1; omega)
   have e2 : IntKind.i64.wrap (c.n * (c.n + 12)) = c.n * (c.n + 12) := wrap_i64 (by omega) (by omega)
   have e3 : IntKind.i64.wrap (6 * c.q) = 6 * c.q := wrap_i64 (by omega) (by omega)
   have e4 : IntKind.i64.wrap (c.n * (c.n + 12) + 6 * c.q) = c.n * (c.n + 12) + 6 * c.q := wrap_i64 (by omega) (by omega)
   have e5 : IntKind.i64.wrap (c.n * (c.n + 12) + 6 * c.q + 20) = c.n * (c.n + 12) + 6 * c.q + 20 := wrap_i64 (by omega) (by omega)
   have e6 : IntKind.i64.wrap (16 * (c.n * (c.n + 12) + 6 * c.q + 20)) = 16 * (c.n * (c.n + 12) + 6 * c.q + 20) := wrap_i64 (by omega) (by omega)
   simp only [↓wt, wz, reduceAdd, reduceMul, reduceEqDiff, reduceLeDiff, Nat.reduceLT, reduceLE, reduceLT, reduceEq, reduceNe, hm, e1, e2, e3, e4, e5, e6, Tryz.results15]
   rw [boundK, if_pos h]
   exact exp_c
end Go.Ab
namespace Go.Ab
open Go Go.Proofs Go.RowKit
end Go.Ab
