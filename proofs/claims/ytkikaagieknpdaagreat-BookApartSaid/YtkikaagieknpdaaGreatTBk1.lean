/- Books as bytes: what is read, plainly. Books as bytes: what is put, plainly. .. -/
import Derived.Test.YtkikaagieknpdaaGreatTRt12
import Derived.Test.YtkikaagieknpdaaGreatTRt15
import Derived.Test.YtkikaagieknpdaaGreatAd1
import Derived.Test.YtkikaagieknpdaaGreatAbG8
set_option linter.unusedSimpArgs false
set_option linter.unusedVariables false
set_option linter.constructorNameAsVariable false
set_option maxRecDepth 100000
open Nat (reduceAdd reduceMul reduceEqDiff reduceLeDiff)
open Int (reduceLE reduceLT reduceEq reduceNe)
namespace Go.Ab
open Go Go.Proofs Go.RowKit
structure ReqD where
 t : Int
 w : Int
 a : Int
 deriving DecidableEq, Inhabited
structure OutD where
 t : Int
 w : Int
 c : Int
 deriving DecidableEq, Inhabited
structure BookD where
 ck : Int
 r : List RowD
 l : List ReqD
 o : List OutD
 k : Int
 n : List NoteD
 a : AudD
 deriving DecidableEq
def aud00 : AudD := ⟨0, 0, [], [], [], false⟩
def k00 : BookD := ⟨0, [], [], [], 0, [], aud00⟩
instance : Inhabited BookD := ⟨k00⟩
instance : Inhabited NoteD := ⟨⟨0, 0, 0, 0, 0, 0, 0⟩⟩
instance : Inhabited AudD := ⟨aud00⟩
abbrev Rd (α : Type) := List UInt8 → Option (α × List UInt8)
def pv {α : Type} [Inhabited α] (P : Rd α) (s : List UInt8) : α := match P s with | some p => p.1 | none => default
def ps {α : Type} (P : Rd α) (s : List UInt8) : List UInt8 := match P s with | some p => p.2 | none => []
theorem pv_eq {α : Type} [Inhabited α] {P : Rd α} {s r : List UInt8} {x : α} (h : P s = some (x, r)) : pv P s = x := by simp [pv, h]
theorem ps_eq {α : Type} {P : Rd α} {s r : List UInt8} {x : α} (h : P s = some (x, r)) : ps P s = r := by simp [ps, h]
def bindP {α β : Type} (P : Rd α) (Q : α → Rd β) : Rd β := fun b => match P b with | some p => Q p.1 p.2 | none => none
def pureP {α : Type} (x : α) : Rd α := fun b => some (x, b)
theorem bindP_s {α β : Type} {P : Rd α} {Q : α → Rd β} {b s : List UInt8} {x : α} (h : P b = some (x, s)) : bindP P Q b = Q x s := by simp [bindP, h]
theorem bindP_n {α β : Type} {P : Rd α} {Q : α → Rd β} {b : List UInt8} (h : P b = none) : bindP P Q b = none := by simp [bindP, h]
theorem bindP_some {α β : Type} {P : Rd α} {Q : α → Rd β} {b r : List UInt8} {y : β} (h : bindP P Q b = some (y, r)) : ∃ x s, P b = some (x, s) ∧ Q x s = some (y, r) := by
 unfold bindP at h
 split at h
 · rename_i p hp; exact ⟨p.1, p.2, hp, h⟩
 · cases h
theorem pureP_eq {α : Type} {x : α} {b : List UInt8} : pureP x b = some (x, b) := rfl
noncomputable def rd (m : Nat) : Rd Int := fun b => if (num (m + 1) b).2.2 = true then some ((num (m + 1) b).1, (num (m + 1) b).2.1) else none
def BW : Nat := 4611686018427387904
def BS : Nat := 1048576
theorem rd_put {m : Nat} (hm : m ≤ BW) {v : Int} {r : List UInt8} (h1 : 0 ≤ v) (h2 : v ≤ m) : rd m (putL (uNat v) ++ r) = some (v, r) := by
 have hB : m + 1 ≤ M63 := by unfold BW at hm; unfold M63; omega
 have := num_put hB (r := r) h1 (by omega : v < ((m + 1 : Nat) : Int))
 rw [rd, this, if_pos rfl]
theorem rd_of {m : Nat} (hm : m ≤ BW) {b r : List UInt8} {v : Int} (h : rd m b = some (v, r)) : b = putL (uNat v) ++ r ∧ 0 ≤ v ∧ v ≤ m := by
 have hB : m + 1 ≤ M63 := by unfold BW at hm; unfold M63; omega
 unfold rd at h
 split at h
 · rename_i g
   obtain ⟨g1, g2, g3⟩ := num_ok hB g
   simp only [Option.some.injEq, Prod.mk.injEq] at h
   obtain ⟨rfl, rfl⟩ := h
   exact ⟨g1, g2, by omega⟩
 · cases h
theorem rd_len {m : Nat} {b r : List UInt8} {v : Int} (h : rd m b = some (v, r)) : r.length ≤ b.length := by
 unfold rd at h
 split at h
 · simp only [Option.some.injEq, Prod.mk.injEq] at h
   obtain ⟨_, rfl⟩ := h
   exact num_len b
 · cases h
noncomputable def lookP : Rd (Int × Int) := bindP (rd BW) fun y => bindP (rd BS) fun p => pureP (y, p)
noncomputable def noteP : Rd NoteD := bindP (rd BW) fun ck => bindP (rd BW) fun t => bindP (rd BS) fun w => bindP (rd BW) fun a => bindP (rd BS) fun k => bindP lookP fun y => pureP ⟨ck, t, w, a, k, y.1, y.2⟩
noncomputable def reqP (who : Int) : Rd ReqD := bindP (rd BW) fun t => bindP (rd BW) fun a => pureP ⟨t, who, a⟩
noncomputable def outP (who : Int) : Rd OutD := bindP (rd BW) fun t => bindP (rd BS) fun c => pureP ⟨t, who, c⟩
def manyP {α : Type} (P : Rd α) : Nat → Rd (List α)
 | 0 => pureP []
 | n + 1 => bindP (manyP P n) fun l => bindP P fun x => pureP (l ++ [x])
noncomputable def triP : Rd (Int × Int × Int) := bindP (rd 1) fun t => bindP (rd BW) fun u => bindP (rd BW) fun i => pureP (t, u, i)
noncomputable def audP (n : Nat) : Rd AudD := bindP lookP fun y => if y = (0, 0) then pureP ⟨0, 0, [], [], [], false⟩ else
 bindP (manyP triP n) fun l => bindP (rd 1) fun v => pureP ⟨y.1, y.2, l.map fun x => decide (x.1 = 1), l.map fun x => x.2.1, l.map fun x => x.2.2, decide (v = 1)⟩
noncomputable def rowsP (c : Conf) : Rd (List RowD) := fun b => if (takeB M63 c b).2.2 = true then some ((takeB M63 c b).1, (takeB M63 c b).2.1) else none
noncomputable def bookP (c : Conf) (who : Int) : Rd BookD := bindP (rd BW) fun ck => bindP (rowsP c) fun r => bindP (rd c.q.toNat) fun n => bindP (manyP (reqP who) n.toNat) fun l =>
 bindP (rd (c.q.toNat + 1)) fun m => bindP (manyP (outP who) m.toNat) fun o => bindP (rd BS) fun k => bindP (manyP noteP c.n.toNat) fun ns => bindP (audP c.n.toNat) fun a => pureP ⟨ck, r, l, o, k, ns, a⟩
end Go.Ab
namespace Go.Ab
open Go Go.Proofs Go.RowKit
def flagI (b : Bool) : Int := if b = true then 1 else 0
def lineL (l : List ReqD) : List Int := l.flatMap fun x => [x.t, x.a]
def outsL (l : List OutD) : List Int := l.flatMap fun x => [x.t, x.c]
def notesL (l : List NoteD) : List Int := l.flatMap fun n => [n.ck, n.t, n.w, n.a, n.k, n.y, n.p]
def triL (a : AudD) (k : Nat) : List Int := (List.range k).flatMap fun i => [flagI (a.told.getD i false), a.use.getD i 0, a.inc.getD i 0]
def audL (a : AudD) : List Int := [a.y, a.p] ++ if NoneA a then [] else triL a a.told.length ++ [flagI a.mv]
def numsK (k : BookD) : List Int := [k.ck] ++ numsB k.r ++ [(k.l.length : Int)] ++ lineL k.l ++ [(k.o.length : Int)] ++ outsL k.o ++ [k.k] ++ notesL k.n ++ audL k.a
theorem flat_take {α : Type} [Inhabited α] (f : α → List Int) {l : List α} {k : Nat} (h : k < l.length) : (l.take (k + 1)).flatMap f = (l.take k).flatMap f ++ f (l.getD k default) := by
 rw [List.take_add_one, List.getElem?_eq_getElem h, List.getD_eq_getElem?_getD, List.getElem?_eq_getElem h, Option.toList_some, List.flatMap_append]
 simp
theorem flat_len {α : Type} (f : α → List Int) (m : Nat) (hf : ∀ x, (f x).length = m) (l : List α) : (l.flatMap f).length = m * l.length := by
 induction l with
 | nil => simp
 | cons a r ih => rw [List.flatMap_cons, List.length_append, hf, ih, List.length_cons]; rw [Nat.mul_add]; omega
theorem triL_succ (a : AudD) (k : Nat) : triL a (k + 1) = triL a k ++ [flagI (a.told.getD k false), a.use.getD k 0, a.inc.getD k 0] := by
 unfold triL
 rw [List.range_succ, List.flatMap_append]
 simp
theorem triL_len (a : AudD) (k : Nat) : (triL a k).length = 3 * k := by
 unfold triL
 induction k with
 | zero => rfl
 | succ k ih => rw [List.range_succ, List.flatMap_append, List.length_append, ih]; simp; omega
def st1 (k : BookD) : List UInt8 := encN [k.ck] ++ encN (numsB k.r)
def st2 (k : BookD) (i : Nat) : List UInt8 := st1 k ++ encN [(k.l.length : Int)] ++ encN (lineL (k.l.take i))
def st3 (k : BookD) (i : Nat) : List UInt8 := st2 k k.l.length ++ encN [(k.o.length : Int)] ++ encN (outsL (k.o.take i))
def st4 (k : BookD) (i : Nat) : List UInt8 := st3 k k.o.length ++ encN [k.k] ++ encN (notesL (k.n.take i))
def st5 (k : BookD) : List UInt8 := st4 k k.n.length ++ encN [k.a.y, k.a.p]
def st6 (k : BookD) (i : Nat) : List UInt8 := st5 k ++ encN (triL k.a i)
def encBk (k : BookD) : List UInt8 := encN (numsK k)
theorem st2_succ {k : BookD} {i : Nat} (h : i < k.l.length) : st2 k (i + 1) = st2 k i ++ encN [(k.l.getD i default).t, (k.l.getD i default).a] := by
 unfold st2 lineL
 rw [flat_take _ h, encN_append]
 simp only [List.append_assoc]
theorem st3_succ {k : BookD} {i : Nat} (h : i < k.o.length) : st3 k (i + 1) = st3 k i ++ encN [(k.o.getD i default).t, (k.o.getD i default).c] := by
 unfold st3 outsL
 rw [flat_take _ h, encN_append]
 simp only [List.append_assoc]
theorem st4_succ {k : BookD} {i : Nat} (h : i < k.n.length) : st4 k (i + 1) = st4 k i ++ encN [(noteAt k.n i).ck, (noteAt k.n i).t, (noteAt k.n i).w, (noteAt k.n i).a, (noteAt k.n i).k, (noteAt k.n i).y, (noteAt k.n i).p] := by
 unfold st4 notesL
 rw [flat_take _ h, encN_append]
 simp only [List.append_assoc]
 rfl
theorem st6_succ {k : BookD} {i : Nat} : st6 k (i + 1) = st6 k i ++ encN [flagI (k.a.told.getD i false), k.a.use.getD i 0, k.a.inc.getD i 0] := by
 unfold st6
 rw [triL_succ, encN_append]
 simp only [List.append_assoc]
theorem st_none {k : BookD} (h : NoneA k.a) : st5 k = encBk k := by
 simp only [encBk, numsK, audL, if_pos h, st5, st4, st3, st2, st1, List.take_length, encN_append, List.append_assoc, List.append_nil]
theorem st_some {k : BookD} (h : ¬ NoneA k.a) : st6 k k.a.told.length ++ encN [flagI k.a.mv] = encBk k := by
 simp only [encBk, numsK, audL, if_neg h, st6, st5, st4, st3, st2, st1, List.take_length, encN_append, List.append_assoc]
def SmallK (k : BookD) : Prop := (numsB k.r).length ≤ 10000000 ∧ k.r.length < 1000000000 ∧ k.l.length ≤ 1000000 ∧ k.o.length ≤ 1000000 ∧ k.n.length ≤ 1000000 ∧ k.a.told.length ≤ 1000000 ∧ k.a.use.length ≤ 1000000 ∧ k.a.inc.length ≤ 1000000
theorem st1_len (k : BookD) (h : SmallK k) : (st1 k).length ≤ 100000010 := by
 have h1 := encN_len [k.ck]
 have h2 := encN_len (numsB k.r)
 have := h.1
 simp only [st1, List.length_append, List.length_cons, List.length_nil] at *
 omega
theorem st2_len (k : BookD) (h : SmallK k) (i : Nat) : (st2 k i).length ≤ 120000020 := by
 have h0 := st1_len k h
 have h1 := encN_len [(k.l.length : Int)]
 have h2 := encN_len (lineL (k.l.take i))
 have h3 := flat_len (fun x : ReqD => [x.t, x.a]) 2 (fun _ => rfl) (k.l.take i)
 have h4 : (k.l.take i).length ≤ k.l.length := by rw [List.length_take]; omega
 have := h.2.2.1
 unfold lineL at *
 simp only [st2, List.length_append, List.length_cons, List.length_nil, lineL] at *
 omega
theorem st3_len (k : BookD) (h : SmallK k) (i : Nat) : (st3 k i).length ≤ 140000030 := by
 have h0 := st2_len k h k.l.length
 have h1 := encN_len [(k.o.length : Int)]
 have h2 := encN_len (outsL (k.o.take i))
 have h3 := flat_len (fun x : OutD => [x.t, x.c]) 2 (fun _ => rfl) (k.o.take i)
 have h4 : (k.o.take i).length ≤ k.o.length := by rw [List.length_take]; omega
 have := h.2.2.2.1
 unfold outsL at *
 simp only [st3, List.length_append, List.length_cons, List.length_nil, outsL] at *
 omega
theorem st4_len (k : BookD) (h : SmallK k) (i : Nat) : (st4 k i).length ≤ 210000040 := by
 have h0 := st3_len k h k.o.length
 have h1 := encN_len [k.k]
 have h2 := encN_len (notesL (k.n.take i))
 have h3 := flat_len (fun n : NoteD => [n.ck, n.t, n.w, n.a, n.k, n.y, n.p]) 7 (fun _ => rfl) (k.n.take i)
 have h4 : (k.n.take i).length ≤ k.n.length := by rw [List.length_take]; omega
 have := h.2.2.2.2.1
 unfold notesL at *
 simp only [st4, List.length_append, List.length_cons, List.length_nil, notesL] at *
 omega
theorem st5_len (k : BookD) (h : SmallK k) : (st5 k).length ≤ 210000060 := by
 have h0 := st4_len k h k.n.length
 have h1 := encN_len [k.a.y, k.a.p]
 simp only [st5, List.length_append, List.length_cons, List.length_nil] at *
 omega
theorem st6_len (k : BookD) (h : SmallK k) (i : Nat) (hi : i ≤ k.a.told.length) : (st6 k i).length ≤ 240000060 := by
 have h0 := st5_len k h
 have h1 := encN_len (triL k.a i)
 have h2 := triL_len k.a i
 have := h.2.2.2.2.2.1
 simp only [st6, List.length_append] at *
 omega
end Go.Ab
namespace Go.Ab
open Go Go.Proofs Go.RowKit
variable {pf : Value → Mem → Prop}
def RkB (s : List UInt8) : Blk := ⟨57, 1, [.g [Bs s]]⟩
def wrongV : Value := .iface 53 (.agg #[])
set_option maxHeartbeats 2000000 in
theorem bknum_call (m : Nat) (s : List UInt8) (hm : m ≤ BW) (hl : s.length ≤ 1000000000) (hpf : rd m s = none → ∀ M, pf wrongV M) : ICallG pf Tryz.prog 62 [.p 0 0 0 1, .c (.int .i64 m)] ⟨mkMem 0 [RkB s], 1⟩
 (fun a M' => rd m s = some (pv (rd m) s, ps (rd m) s) ∧ a = encI (pv (rd m) s) ∧ M' = ⟨[(0, RkB (ps (rd m) s))], 1⟩) := by
 have m1 := ntake_call s hl (tk_is s)
 unfold BW at hm
 refine icall_bodyP tabOk Tryz.func62 rfl rfl (by rw [Tryz.ntmps62]; simp) (aw_sound tabOk _ _ _ ?_)
 simp only [Tryz.ntmps62, mkMem, RkB, Bs]
 simp only [↓wt, wz, reduceAdd, reduceMul, reduceEqDiff, reduceLeDiff, Nat.reduceLT, reduceLE, reduceLT, reduceEq, reduceNe, wpn]
 refine ICall.up (icall_drop [] m1 ⟨arg_l (pureB _), trivial⟩ okR_take ?_)
 have e1 : IntKind.u64.wrap (m : Int) = m := wrap_u64 (by omega)
 simp only [↓wt, wz, reduceAdd, reduceMul, reduceEqDiff, reduceLeDiff, Nat.reduceLT, reduceLE, reduceLT, reduceEq, reduceNe, wpn, Bs, Cell, e1]
 cases ho : (tk s).2.2
 · have hn : rd m s = none := by simp [rd, num, ho]
   simp only [↓wt, wz, reduceAdd, reduceMul, reduceEqDiff, reduceLeDiff, Nat.reduceLT, reduceLE, reduceLT, reduceEq, reduceNe, wpn, ho]
   exact hpf hn _
 · by_cases hv : (tk s).1 < m + 1
   · have hr : rd m s = some (IntKind.i64.wrap ((tk s).1 : Int), (tk s).2.1) := by simp [rd, num, ho, hv]
     have e2 : decide ((((tk s).1 : Nat) : Int) > (m : Int)) = false := decide_eq_false (by omega)
     simp only [↓wt, wz, reduceAdd, reduceMul, reduceEqDiff, reduceLeDiff, Nat.reduceLT, reduceLE, reduceLT, reduceEq, reduceNe, wpn, ho, e1, e2, Cell, Tryz.results62]
     rw [pv_eq hr, ps_eq hr]
     exact ⟨hr, rfl, rfl⟩
   · have hn : rd m s = none := by simp [rd, num, ho, hv]
     have e2 : decide ((((tk s).1 : Nat) : Int) > (m : Int)) = true := decide_eq_true (by omega)
     simp only [↓wt, wz, reduceAdd, reduceMul, reduceEqDiff, reduceLeDiff, Nat.reduceLT, reduceLE, reduceLT, reduceEq, reduceNe, wpn, ho, e1, e2, Cell]
     exact hpf hn _
def RC {α : Type} [Inhabited α] (pf : Value → Mem → Prop) (f : FuncId) (args : List AV) (P : Rd α) (enc : α → AV) (s : List UInt8) : Prop :=
 ICallG pf Tryz.prog f (.p 0 0 0 1 :: args) ⟨mkMem 0 [RkB s], 1⟩ (fun a M' => P s = some (pv P s, ps P s) ∧ a = enc (pv P s) ∧ M' = ⟨[(0, RkB (ps P s))], 1⟩)
theorem hd_Rk {n : Nat} {s : List UInt8} : ∀ x ∈ (RkB s).xs, HdE n x := fun x hx => by
 simp only [RkB, List.mem_singleton] at hx
 subst hx
 exact fun c hc => by
  rw [List.mem_singleton.1 hc]
  exact (under_Bs (k := 0) (l := s)).mpr trivial
theorem under_Rk {n : Nat} {s : List UInt8} : UnderL n (RkB s).xs := underL_mem fun x hx c hc => by
 simp only [RkB, List.mem_singleton] at hx
 subst hx
 rw [List.mem_singleton.1 hc]
 exact (under_Bs (k := n) (l := s)).mpr trivial
theorem rn_Rk {f : Nat → Nat} {s : List UInt8} : rnB f (RkB s) = RkB s := rfl
def PureR (a : AV) : Prop := (∀ f, rnR f a = a) ∧ ∀ n, HdR n a
def PureAs (l : List AV) : Prop := ∀ a ∈ l, Under 0 a
theorem argsF_pure {f : Nat → Nat} {n : Nat} : ∀ {l : List AV}, PureAs l → ArgsF f n l l
 | [], _ => trivial
 | a :: r, h => ⟨.inr ⟨by unfold Weak; split <;> first | exact .refl _ | exact Weak1.refl _, h a (by simp)⟩, argsF_pure fun x hx => h x (by simp [hx])⟩
theorem RC.lend {α : Type} [Inhabited α] {f : FuncId} {args : List AV} {P : Rd α} {enc : α → AV} {s : List UInt8} {M : Mem} {K : AV → Mem → Prop} (h : RC pf f args P enc s) (a : Nat) (ha : M.get a = some (RkB s)) (hp : PureAs args) (he : PureR (enc (pv P s))) (hI : Indep pf)
 (hK : P s = some (pv P s, ps P s) → K (enc (pv P s)) ⟨putAll (rnI [a] M.k) (M.without [a]).l [(0, RkB (ps P s))], M.k⟩) : ICallG pf Tryz.prog f (.p a 0 0 1 :: args) M K :=
 icall_lendG [a] [RkB s] h (by simp) ⟨⟨by rw [ha, rn_Rk], hd_Rk⟩, trivial⟩ ⟨.inl ⟨rfl, show 0 < 1 by decide⟩, argsF_pure hp⟩ (he.2 _) ⟨hd_Rk, trivial⟩ (fun hG => by rw [he.1]; exact hK hG) hI
theorem pureR_c {v : Value} : PureR (.c v) := ⟨fun _ => rfl, fun _ => .c _⟩
end Go.Ab
namespace Go.Ab
open Go Go.Proofs Go.RowKit
variable {pf : Value → Mem → Prop}
theorem rc_end {α : Type} [Inhabited α] {P : Rd α} {enc : α → AV} {s r : List UInt8} {x : α} {M1 : Mem} {a : AV} (hG : P s = some (x, r)) (hm : M1.get 0 = some (RkB r)) (ha : a = enc x) (hu : Under 1 (enc x)) :
 ∃ M' : Mem, 1 ≤ M'.k ∧ Under M'.k a ∧ memFit M1 M'.k M'.l ∧ P s = some (pv P s, ps P s) ∧ a = enc (pv P s) ∧ M' = ⟨[(0, RkB (ps P s))], 1⟩ := by
 subst ha
 refine ⟨⟨[(0, RkB r)], 1⟩, Nat.le_refl _, hu, ⟨⟨Nat.zero_lt_one, hm, under_Rk⟩, trivial⟩, ?_⟩
 rw [pv_eq hG, ps_eq hG]
 exact ⟨hG, rfl, rfl⟩
theorem under_flat {k : Nat} {cs : List Value} : Under k (.g (cs.map AV.c)) := .g _ fun i hi => by simp only [List.getElem_map]; exact .c _
theorem pureR_g {cs : List AV} (h : ∀ c ∈ cs, ∃ v, c = .c v) : PureR (.g cs) := by
 refine ⟨fun f => ?_, fun n c hc => ?_⟩
 · show AV.g (cs.map (rnC f)) = .g cs
   rw [List.map_congr_left (g := fun x => x) (fun c hc => by obtain ⟨v, rfl⟩ := h c hc; rfl), List.map_id']
 · obtain ⟨v, rfl⟩ := h c hc; exact .c _
theorem bkwide_call (s : List UInt8) (hl : s.length ≤ 1000000000) (hpf : rd BW s = none → ∀ M, pf wrongV M) (hI : Indep pf) : RC pf 59 [] (rd BW) encI s := by
 refine icall_bodyP tabOk Tryz.func59 rfl rfl (by rw [Tryz.ntmps59]; simp) (aw_sound tabOk _ _ _ ?_)
 simp only [Tryz.ntmps59, mkMem]
 simp only [↓wt, wz, reduceAdd, reduceMul, reduceEqDiff, reduceLeDiff, Nat.reduceLT, reduceLE, reduceLT, reduceEq, reduceNe, wpn]
 refine RC.lend (args := [.c (.int .i64 4611686018427387904)]) (bknum_call BW s (Nat.le_refl _) hl hpf) 0 rfl (by intro a ha; rw [List.mem_singleton.1 ha]; exact .c _) pureR_c hI fun hG => ?_
 simp only [↓wt, wz, reduceAdd, reduceMul, reduceEqDiff, reduceLeDiff, Nat.reduceLT, reduceLE, reduceLT, reduceEq, reduceNe, wpn, Tryz.results59, rnI, nblt, rn0, rnC, rnE, rnR, rnB, putAll, Nat.reduceSub, Nat.sub_zero, Nat.not_lt_zero, Nat.zero_sub, Nat.sub_self, rn_I, rn_B]
 first | exact ⟨hG, rfl, rfl⟩ | exact ⟨hG, rfl⟩
theorem bksmall_call (s : List UInt8) (hl : s.length ≤ 1000000000) (hpf : rd BS s = none → ∀ M, pf wrongV M) (hI : Indep pf) : RC pf 66 [] (rd BS) encI s := by
 refine icall_bodyP tabOk Tryz.func66 rfl rfl (by rw [Tryz.ntmps66]; simp) (aw_sound tabOk _ _ _ ?_)
 simp only [Tryz.ntmps66, mkMem]
 simp only [↓wt, wz, reduceAdd, reduceMul, reduceEqDiff, reduceLeDiff, Nat.reduceLT, reduceLE, reduceLT, reduceEq, reduceNe, wpn]
 refine RC.lend (args := [.c (.int .i64 1048576)]) (bknum_call BS s (by decide) hl hpf) 0 rfl (by intro a ha; rw [List.mem_singleton.1 ha]; exact .c _) pureR_c hI fun hG => ?_
 simp only [↓wt, wz, reduceAdd, reduceMul, reduceEqDiff, reduceLeDiff, Nat.reduceLT, reduceLE, reduceLT, reduceEq, reduceNe, wpn, Tryz.results66, rnI, nblt, rn0, rnC, rnE, rnR, rnB, putAll, Nat.reduceSub, Nat.sub_zero, Nat.not_lt_zero, Nat.zero_sub, Nat.sub_self, rn_I, rn_B]
 first | exact ⟨hG, rfl, rfl⟩ | exact ⟨hG, rfl⟩
def LookA (y : Int × Int) : AV := .g [.c (.int .i64 y.1), .c (.int .i64 y.2)]
theorem bklook_call (s : List UInt8) (hl : s.length ≤ 1000000000) (hpf : lookP s = none → ∀ M, pf wrongV M) (hI : Indep pf) : RC pf 99 [] lookP LookA s := by
 refine ICallG.trim (icall_bodyP tabOk Tryz.func99 rfl rfl (by rw [Tryz.ntmps99]; simp) (aw_sound tabOk _ _ _ ?_))
 simp only [Tryz.ntmps99, mkMem]
 simp only [↓wt, wz, reduceAdd, reduceMul, reduceEqDiff, reduceLeDiff, Nat.reduceLT, reduceLE, reduceLT, reduceEq, reduceNe, wpn]
 refine RC.lend (bkwide_call s hl (fun h => hpf (bindP_n h)) hI) 0 rfl (by intro a ha; cases ha) pureR_c hI fun hG1 => ?_
 simp only [↓wt, wz, reduceAdd, reduceMul, reduceEqDiff, reduceLeDiff, Nat.reduceLT, reduceLE, reduceLT, reduceEq, reduceNe, wpn, rnI, nblt, rn0, rnC, rnE, rnR, rnB, putAll, Nat.reduceSub, Nat.sub_zero, Nat.not_lt_zero, Nat.zero_sub, Nat.sub_self, rn_I, rn_B]
 have hs1 := rd_len hG1
 generalize pv (rd BW) s = v1 at *
 generalize ps (rd BW) s = s1 at *
 refine RC.lend (bksmall_call s1 (by omega) (fun h => hpf (by rw [lookP, bindP_s hG1, bindP_n h])) hI) 0 rfl (by intro a ha; cases ha) pureR_c hI fun hG2 => ?_
 simp only [↓wt, wz, reduceAdd, reduceMul, reduceEqDiff, reduceLeDiff, Nat.reduceLT, reduceLE, reduceLT, reduceEq, reduceNe, wpn, rnI, nblt, rn0, rnC, rnE, rnR, rnB, putAll, Nat.reduceSub, Nat.sub_zero, Nat.not_lt_zero, Nat.zero_sub, Nat.sub_self, rn_I, rn_B]
 generalize pv (rd BS) s1 = v2 at *
 generalize ps (rd BS) s1 = s2 at *
 have hG : lookP s = some ((v1, v2), s2) := by rw [lookP, bindP_s hG1, bindP_s hG2]; rfl
 simp only [↓wt, wz, reduceAdd, reduceMul, reduceEqDiff, reduceLeDiff, Nat.reduceLT, reduceLE, reduceLT, reduceEq, reduceNe, wpn, Cell, Tryz.results99]
 exact rc_end hG rfl rfl (under_flat (cs := [.int .i64 v1, .int .i64 v2]))
theorem look_len {b r : List UInt8} {y : Int × Int} (h : lookP b = some (y, r)) : r.length ≤ b.length := by
 obtain ⟨_, _, h1, h⟩ := bindP_some h
 obtain ⟨_, _, h2, h⟩ := bindP_some h
 have := rd_len h1
 have := rd_len h2
 cases h
 omega
theorem pureR_look {y : Int × Int} : PureR (LookA y) := pureR_g (by simp)
set_option maxHeartbeats 2000000 in
theorem bknote_call (s : List UInt8) (hl : s.length ≤ 1000000000) (hpf : noteP s = none → ∀ M, pf wrongV M) (hI : Indep pf) : RC pf 68 [] noteP NoteV s := by
 refine ICallG.trim (icall_bodyP tabOk Tryz.func68 rfl rfl (by rw [Tryz.ntmps68]; simp) (aw_sound tabOk _ _ _ ?_))
 simp only [Tryz.ntmps68, mkMem]
 simp only [↓wt, wz, reduceAdd, reduceMul, reduceEqDiff, reduceLeDiff, Nat.reduceLT, reduceLE, reduceLT, reduceEq, reduceNe, wpn]
 refine RC.lend (bkwide_call s hl (fun h => hpf (bindP_n h)) hI) 0 rfl (by intro a ha; cases ha) pureR_c hI fun g1 => ?_
 simp only [↓wt, wz, reduceAdd, reduceMul, reduceEqDiff, reduceLeDiff, Nat.reduceLT, reduceLE, reduceLT, reduceEq, reduceNe, wpn, Cell, rnI, nblt, rn0, rnC, rnE, rnR, rnB, putAll, Nat.reduceSub, Nat.sub_zero, Nat.not_lt_zero, Nat.zero_sub, Nat.sub_self, rn_I, rn_B]
 have l1 := rd_len g1
 generalize pv (rd BW) s = v1 at *
 generalize ps (rd BW) s = s1 at *
 refine RC.lend (bkwide_call s1 (by omega) (fun h => hpf (by rw [noteP, bindP_s g1, bindP_n h])) hI) 0 rfl (by intro a ha; cases ha) pureR_c hI fun g2 => ?_
 simp only [↓wt, wz, reduceAdd, reduceMul, reduceEqDiff, reduceLeDiff, Nat.reduceLT, reduceLE, reduceLT, reduceEq, reduceNe, wpn, Cell, rnI, nblt, rn0, rnC, rnE, rnR, rnB, putAll, Nat.reduceSub, Nat.sub_zero, Nat.not_lt_zero, Nat.zero_sub, Nat.sub_self, rn_I, rn_B]
 have l2 := rd_len g2
 generalize pv (rd BW) s1 = v2 at *
 generalize ps (rd BW) s1 = s2 at *
 refine RC.lend (bksmall_call s2 (by omega) (fun h => hpf (by rw [noteP, bindP_s g1, bindP_s g2, bindP_n h])) hI) 0 rfl (by intro a ha; cases ha) pureR_c hI fun g3 => ?_
 simp only [↓wt, wz, reduceAdd, reduceMul, reduceEqDiff, reduceLeDiff, Nat.reduceLT, reduceLE, reduceLT, reduceEq, reduceNe, wpn, Cell, rnI, nblt, rn0, rnC, rnE, rnR, rnB, putAll, Nat.reduceSub, Nat.sub_zero, Nat.not_lt_zero, Nat.zero_sub, Nat.sub_self, rn_I, rn_B]
 have l3 := rd_len g3
 generalize pv (rd BS) s2 = v3 at *
 generalize ps (rd BS) s2 = s3 at *
 refine RC.lend (bkwide_call s3 (by omega) (fun h => hpf (by rw [noteP, bindP_s g1, bindP_s g2, bindP_s g3, bindP_n h])) hI) 0 rfl (by intro a ha; cases ha) pureR_c hI fun g4 => ?_
 simp only [↓wt, wz, reduceAdd, reduceMul, reduceEqDiff, reduceLeDiff, Nat.reduceLT, reduceLE, reduceLT, reduceEq, reduceNe, wpn, Cell, rnI, nblt, rn0, rnC, rnE, rnR, rnB, putAll, Nat.reduceSub, Nat.sub_zero, Nat.not_lt_zero, Nat.zero_sub, Nat.sub_self, rn_I, rn_B]
 have l4 := rd_len g4
 generalize pv (rd BW) s3 = v4 at *
 generalize ps (rd BW) s3 = s4 at *
 refine RC.lend (bksmall_call s4 (by omega) (fun h => hpf (by rw [noteP, bindP_s g1, bindP_s g2, bindP_s g3, bindP_s g4, bindP_n h])) hI) 0 rfl (by intro a ha; cases ha) pureR_c hI fun g5 => ?_
 simp only [↓wt, wz, reduceAdd, reduceMul, reduceEqDiff, reduceLeDiff, Nat.reduceLT, reduceLE, reduceLT, reduceEq, reduceNe, wpn, Cell, rnI, nblt, rn0, rnC, rnE, rnR, rnB, putAll, Nat.reduceSub, Nat.sub_zero, Nat.not_lt_zero, Nat.zero_sub, Nat.sub_self, rn_I, rn_B]
 have l5 := rd_len g5
 generalize pv (rd BS) s4 = v5 at *
 generalize ps (rd BS) s4 = s5 at *
 refine RC.lend (bklook_call s5 (by omega) (fun h => hpf (by rw [noteP, bindP_s g1, bindP_s g2, bindP_s g3, bindP_s g4, bindP_s g5, bindP_n h])) hI) 0 rfl (by intro a ha; cases ha) pureR_look hI fun g6 => ?_
 generalize pv lookP s5 = v6 at *
 generalize ps lookP s5 = s6 at *
 have hG : noteP s = some (⟨v1, v2, v3, v4, v5, v6.1, v6.2⟩, s6) := by rw [noteP, bindP_s g1, bindP_s g2, bindP_s g3, bindP_s g4, bindP_s g5, bindP_s g6]; rfl
 simp only [↓wt, wz, reduceAdd, reduceMul, reduceEqDiff, reduceLeDiff, Nat.reduceLT, reduceLE, reduceLT, reduceEq, reduceNe, wpn, LookA, Cell, Tryz.results68, rnI, nblt, rn0, rnC, rnE, rnR, rnB, putAll, Nat.reduceSub, Nat.sub_zero, Nat.not_lt_zero, Nat.zero_sub, Nat.sub_self, rn_I, rn_B]
 exact rc_end hG rfl rfl (under_flat (cs := [.int .i64 v1, .int .i64 v2, .int .i64 v3, .int .i64 v4, .int .i64 v5, .int .i64 v6.1, .int .i64 v6.2]))
end Go.Ab
namespace Go.Ab
open Go Go.Proofs Go.RowKit
variable {pf : Value → Mem → Prop}
def RkBox : Blk := ⟨55, 1, [.p 0 0 0 1]⟩
def Rk3 (s : List UInt8) : Mem := ⟨[(0, RkB s), (1, RkBox)], 2⟩
def RC3 {α : Type} [Inhabited α] (pf : Value → Mem → Prop) (f : FuncId) (w : Int) (P : Rd α) (enc : α → AV) (s : List UInt8) : Prop :=
 ICallG pf Tryz.prog f [.p 1 0 0 1, .e [.c (.int .i64 w)]] (Rk3 s) (fun a M' => P s = some (pv P s, ps P s) ∧ a = enc (pv P s) ∧ M' = Rk3 (ps P s))
def ReqA (r : ReqD) : AV := .g [.c (.int .i64 r.t), .c (.int .i64 r.w), .c (.int .i64 r.a)]
def OutA (r : OutD) : AV := .g [.c (.int .i64 r.t), .c (.int .i64 r.w), .c (.int .i64 r.c)]
theorem rc3_end {α : Type} [Inhabited α] {P : Rd α} {enc : α → AV} {s r : List UInt8} {x : α} {M1 : Mem} {a : AV} (hG : P s = some (x, r)) (hm : M1.get 0 = some (RkB r)) (hm1 : M1.get 1 = some RkBox) (ha : a = enc x) (hu : Under 2 (enc x)) :
 ∃ M' : Mem, 2 ≤ M'.k ∧ Under M'.k a ∧ memFit M1 M'.k M'.l ∧ P s = some (pv P s, ps P s) ∧ a = enc (pv P s) ∧ M' = Rk3 (ps P s) := by
 subst ha
 refine ⟨Rk3 r, Nat.le_refl _, hu, ⟨⟨(show 0 < 2 by decide), hm, under_Rk⟩, ⟨(show 1 < 2 by decide), hm1, underL_mem fun x hx c hc => ?_⟩, trivial⟩, ?_⟩
 · rw [List.mem_singleton.1 hx] at hc
   rw [List.mem_singleton.1 hc]
   exact .p _ _ _ _ (show 0 < 2 by decide)
 · rw [pv_eq hG, ps_eq hG]
   exact ⟨hG, rfl, rfl⟩
theorem mem_none {α : Type} {x : α} {p : Prop} (h : x ∈ ([] : List α)) : p := by cases h
theorem RC.dies {α : Type} [Inhabited α] {f : FuncId} {args : List AV} {P : Rd α} {enc : α → AV} {s : List UInt8} {M : Mem} (h : RC pf f args P enc s) (hn : P s = none) (a : Nat) (ha : M.get a = some (RkB s)) (hp : PureAs args) (he : PureR (enc (pv P s))) (hI : Indep pf) :
 ICallG pf Tryz.prog f (.p a 0 0 1 :: args) M (fun _ _ => False) := RC.lend h a ha hp he hI fun hG => by rw [hn] at hG; cases hG
theorem pureAs0 : PureAs [] := fun _ h => mem_none h
theorem pureAs1 {v : Value} : PureAs [.c v] := fun a h => by rw [List.mem_singleton.1 h]; exact .c _
set_option maxHeartbeats 4000000 in
theorem bkreq_call (w : Int) (s : List UInt8) (hl : s.length ≤ 1000000000) (hpf : reqP w s = none → ∀ M, pf wrongV M) (hI : Indep pf) : RC3 pf 63 w (reqP w) ReqA s := by
 refine ICallG.trim (icall_bodyP tabOk Tryz.func63 rfl rfl (by rw [Tryz.ntmps63]; simp) (aw_sound tabOk _ _ _ ?_))
 simp only [Tryz.ntmps63, Rk3, RkBox]
 simp only [↓wt, wz, reduceAdd, reduceMul, reduceEqDiff, reduceLeDiff, Nat.reduceLT, reduceLE, reduceLT, reduceEq, reduceNe, wpn]
 cases g1 : rd BW s with
 | none =>
  have hn : reqP w s = none := bindP_n g1
  refine draw_die tabOk mixed [(66, 0)] [2, 9, 0, 8, 4, 8] [0, 0, 0, 0, 3, 0] [[], [0], [], [0, 1, 2], [], [0, 1, 2, 3, 4]] (by kernel_rfl) (by kernel_rfl) (by kernel_rfl) ?_
  simp only [↓wt, wz, reduceAdd, reduceMul, reduceEqDiff, reduceLeDiff, Nat.reduceLT, reduceLE, reduceLT, reduceEq, reduceNe, wdd]
  refine d4_readX (fun β => by simp only [↓wt, wz, reduceAdd, reduceMul, reduceEqDiff, reduceLeDiff, Nat.reduceLT, reduceLE, reduceLT, reduceEq, reduceNe]; (repeat (first | refine And.intro (by omega) ?_ | refine And.intro (pureB _) ?_ | refine And.intro (pureI _) ?_ | refine And.intro ⟨pureB _, pureB _⟩ ?_ | refine And.intro ⟨pureB _, pureI _⟩ ?_ | refine And.intro ⟨pureI _, pureB _⟩ ?_ | refine And.intro ⟨pureI _, pureI _⟩ ?_)); exact ⟨rfl, rfl⟩) ?_
  simp only [↓wt, wz, reduceAdd, reduceMul, reduceEqDiff, reduceLeDiff, Nat.reduceLT, reduceLE, reduceLT, reduceEq, reduceNe, wdd]
  refine ⟨fun β => RC.dies (bkwide_call s hl (fun _ => hpf hn) hI) g1 0 rfl pureAs0 pureR_c hI, ?_⟩
  first | exact ⟨rfl, rfl, trivial⟩ | exact ⟨rfl, rfl⟩ | exact rfl
 | some p =>
  obtain ⟨v1, s1⟩ := p
  have l1 := rd_len g1
  refine draw_rule4 tabOk mixed [(66, 0)] [2, 1, 0, 3, 4, 1] [0, 0, 0, 0, 3, 0] [[], [0], [], [0, 1, 2], [], [0, 1, 2, 3, 4]] (by kernel_rfl) (by kernel_rfl) ?_
  simp only [↓wt, wz, reduceAdd, reduceMul, reduceEqDiff, reduceLeDiff, Nat.reduceLT, reduceLE, reduceLT, reduceEq, reduceNe]
  refine d4_readX (fun β => by simp only [↓wt, wz, reduceAdd, reduceMul, reduceEqDiff, reduceLeDiff, Nat.reduceLT, reduceLE, reduceLT, reduceEq, reduceNe]; (repeat (first | refine And.intro (by omega) ?_ | refine And.intro (pureB _) ?_ | refine And.intro (pureI _) ?_ | refine And.intro ⟨pureB _, pureB _⟩ ?_ | refine And.intro ⟨pureB _, pureI _⟩ ?_ | refine And.intro ⟨pureI _, pureB _⟩ ?_ | refine And.intro ⟨pureI _, pureI _⟩ ?_)); exact ⟨rfl, rfl⟩) ?_
  simp only [↓wt, wz, reduceAdd, reduceMul, reduceEqDiff, reduceLeDiff, Nat.reduceLT, reduceLE, reduceLT, reduceEq, reduceNe]
  refine d4_heavyC (r := .c (.int .i64 v1)) (fun β => RC.lend (bkwide_call s hl (fun h => absurd h (by rw [g1]; nofun)) hI) 0 rfl pureAs0 pureR_c hI fun _ => ⟨by rw [pv_eq g1]; rfl, rfl⟩) (fun β => by rfl) ?_
  simp only [↓wt, wz, reduceAdd, reduceMul, reduceEqDiff, reduceLeDiff, Nat.reduceLT, reduceLE, reduceLT, reduceEq, reduceNe, rnI, nblt, rn0, rnC, rnE, rnR, rnB, putAll, Nat.reduceSub, Nat.sub_zero, Nat.not_lt_zero, Nat.zero_sub, Nat.sub_self, rn_I, rn_B]
  refine d_pureX (fun M0 => by simp only [↓wt, wz, reduceAdd, reduceMul, reduceEqDiff, reduceLeDiff, Nat.reduceLT, reduceLE, reduceLT, reduceEq, reduceNe, zx_build]; rfl) ?_
  simp only [↓wt, wz, reduceAdd, reduceMul, reduceEqDiff, reduceLeDiff, Nat.reduceLT, reduceLE, reduceLT, reduceEq, reduceNe]
  refine d_heavyX (by simp only [↓wt, wz, reduceAdd, reduceMul, reduceEqDiff, reduceLeDiff, Nat.reduceLT, reduceLE, reduceLT, reduceEq, reduceNe, Cell]; (repeat (first | refine And.intro (by omega) ?_ | refine And.intro (pureB _) ?_ | refine And.intro (pureI _) ?_ | refine And.intro ⟨pureB _, pureB _⟩ ?_ | refine And.intro ⟨pureB _, pureI _⟩ ?_ | refine And.intro ⟨pureI _, pureB _⟩ ?_ | refine And.intro ⟨pureI _, pureI _⟩ ?_)); exact ⟨rfl, rfl⟩) ?_
  simp only [↓wt, wz, reduceAdd, reduceMul, reduceEqDiff, reduceLeDiff, Nat.reduceLT, reduceLE, reduceLT, reduceEq, reduceNe, Cell]
  have e1 := ps_eq g1
  simp only [e1, rnB, RkB, Bs, rn_B]
  simp only [↓wt, wz, reduceAdd, reduceMul, reduceEqDiff, reduceLeDiff, Nat.reduceLT, reduceLE, reduceLT, reduceEq, reduceNe, rnI, nblt, rn0, rnC, rnE, rnR, rnB, putAll, Nat.reduceSub, Nat.sub_zero, Nat.not_lt_zero, Nat.zero_sub, Nat.sub_self, rn_I, rn_B]
  refine freeze_rule 3 [0, 2, 3] (by simp only [↓wt, wz, reduceAdd, reduceMul, reduceEqDiff, reduceLeDiff, Nat.reduceLT, reduceLE, reduceLT, reduceEq, reduceNe]; (try (repeat' (first | (exact fun _ => by simp only [pureL_eq, underL_cons, underL_nil, AV.cells, under_l, under_c, under_g, under_e, under_f, underL_B, underL_I, underL_Bs, under_Bs, List.mem_cons, List.not_mem_nil, or_false, forall_eq_or_imp, forall_eq, and_self, and_true, true_and]) | ((with_reducible refine And.intro ?_ ?_)) | (intro _) | omega | (simp only [pureL_eq, underL_cons, underL_nil, AV.cells, under_l, under_c, under_g, under_e, under_f, underL_B, underL_I, underL_Bs, under_Bs, List.mem_cons, List.not_mem_nil, or_false, forall_eq_or_imp, forall_eq, and_self, and_true, true_and])))); done) (by simp only [↓wt, wz, reduceAdd, reduceMul, reduceEqDiff, reduceLeDiff, Nat.reduceLT, reduceLE, reduceLT, reduceEq, reduceNe]; (try (repeat' (first | (exact fun _ => by simp only [pureL_eq, underL_cons, underL_nil, AV.cells, under_l, under_c, under_g, under_e, under_f, underL_B, underL_I, underL_Bs, under_Bs, List.mem_cons, List.not_mem_nil, or_false, forall_eq_or_imp, forall_eq, and_self, and_true, true_and]) | ((with_reducible refine And.intro ?_ ?_)) | (intro _) | omega | (simp only [pureL_eq, underL_cons, underL_nil, AV.cells, under_l, under_c, under_g, under_e, under_f, underL_B, underL_I, underL_Bs, under_Bs, List.mem_cons, List.not_mem_nil, or_false, forall_eq_or_imp, forall_eq, and_self, and_true, true_and])))); done) ?_; simp only [↓wt, wz, reduceAdd, reduceMul, reduceEqDiff, reduceLeDiff, Nat.reduceLT, reduceLE, reduceLT, reduceEq, reduceNe]
  cases g2 : rd BW s1 with
  | none =>
   have hn : reqP w s = none := by rw [reqP, bindP_s g1, bindP_n g2]
   refine draw_die tabOk mixed [] [0, 2, 9, 8, 8] [0, 0, 0, 0, 0] [[], [], [1], [0, 1, 2], [0, 1, 2, 3]] (by kernel_rfl) (by kernel_rfl) (by kernel_rfl) ?_
   simp only [↓wt, wz, reduceAdd, reduceMul, reduceEqDiff, reduceLeDiff, Nat.reduceLT, reduceLE, reduceLT, reduceEq, reduceNe, wdd]
   refine ⟨fun β => RC.dies (bkwide_call s1 (by omega) (fun _ => hpf hn) hI) g2 0 rfl pureAs0 pureR_c hI, ?_⟩
   first | exact ⟨rfl, rfl, trivial⟩ | exact ⟨rfl, rfl⟩ | exact rfl
  | some p =>
   obtain ⟨v2, s2⟩ := p
   have hG : reqP w s = some (⟨v1, w, v2⟩, s2) := by rw [reqP, bindP_s g1, bindP_s g2]; rfl
   refine draw_rule4 tabOk mixed [] [0, 2, 1, 3, 1] [0, 0, 0, 0, 0] [[], [], [1], [0, 1, 2], [0, 1, 2, 3]] (by kernel_rfl) (by kernel_rfl) ?_
   simp only [↓wt, wz, reduceAdd, reduceMul, reduceEqDiff, reduceLeDiff, Nat.reduceLT, reduceLE, reduceLT, reduceEq, reduceNe]
   refine d_heavyC (r := .c (.int .i64 v2)) (RC.lend (bkwide_call s1 (by omega) (fun h => absurd h (by rw [g2]; nofun)) hI) 0 rfl pureAs0 pureR_c hI fun _ => ⟨by rw [pv_eq g2]; rfl, rfl⟩) ?_
   simp only [↓wt, wz, reduceAdd, reduceMul, reduceEqDiff, reduceLeDiff, Nat.reduceLT, reduceLE, reduceLT, reduceEq, reduceNe, rnI, nblt, rn0, rnC, rnE, rnR, rnB, putAll, Nat.reduceSub, Nat.sub_zero, Nat.not_lt_zero, Nat.zero_sub, Nat.sub_self, rn_I, rn_B]
   refine d_pureX (fun M0 => by simp only [↓wt, wz, reduceAdd, reduceMul, reduceEqDiff, reduceLeDiff, Nat.reduceLT, reduceLE, reduceLT, reduceEq, reduceNe, zx_build]; rfl) ?_
   simp only [↓wt, wz, reduceAdd, reduceMul, reduceEqDiff, reduceLeDiff, Nat.reduceLT, reduceLE, reduceLT, reduceEq, reduceNe]
   refine d_heavyX (by simp only [↓wt, wz, reduceAdd, reduceMul, reduceEqDiff, reduceLeDiff, Nat.reduceLT, reduceLE, reduceLT, reduceEq, reduceNe, Cell]; (repeat (first | refine And.intro (by omega) ?_ | refine And.intro (pureB _) ?_ | refine And.intro (pureI _) ?_ | refine And.intro ⟨pureB _, pureB _⟩ ?_ | refine And.intro ⟨pureB _, pureI _⟩ ?_ | refine And.intro ⟨pureI _, pureB _⟩ ?_ | refine And.intro ⟨pureI _, pureI _⟩ ?_)); exact ⟨rfl, rfl⟩) ?_
   simp only [↓wt, wz, reduceAdd, reduceMul, reduceEqDiff, reduceLeDiff, Nat.reduceLT, reduceLE, reduceLT, reduceEq, reduceNe, wpn, Cell, Tryz.results63]
   refine rc3_end hG ?_ rfl rfl (under_flat (cs := [.int .i64 v1, .int .i64 w, .int .i64 v2]))
   rw [← ps_eq g2]; rfl
set_option maxHeartbeats 4000000 in
theorem bkout_call (w : Int) (s : List UInt8) (hl : s.length ≤ 1000000000) (hpf : outP w s = none → ∀ M, pf wrongV M) (hI : Indep pf) : RC3 pf 65 w (outP w) OutA s := by
 refine ICallG.trim (icall_bodyP tabOk Tryz.func65 rfl rfl (by rw [Tryz.ntmps65]; simp) (aw_sound tabOk _ _ _ ?_))
 simp only [Tryz.ntmps65, Rk3, RkBox]
 simp only [↓wt, wz, reduceAdd, reduceMul, reduceEqDiff, reduceLeDiff, Nat.reduceLT, reduceLE, reduceLT, reduceEq, reduceNe, wpn]
 cases g1 : rd BW s with
 | none =>
  have hn : outP w s = none := bindP_n g1
  refine draw_die tabOk mixed [(66, 0)] [2, 9, 0, 8, 4, 8] [0, 0, 0, 0, 3, 0] [[], [0], [], [0, 1, 2], [], [0, 1, 2, 3, 4]] (by kernel_rfl) (by kernel_rfl) (by kernel_rfl) ?_
  simp only [↓wt, wz, reduceAdd, reduceMul, reduceEqDiff, reduceLeDiff, Nat.reduceLT, reduceLE, reduceLT, reduceEq, reduceNe, wdd]
  refine d4_readX (fun β => by simp only [↓wt, wz, reduceAdd, reduceMul, reduceEqDiff, reduceLeDiff, Nat.reduceLT, reduceLE, reduceLT, reduceEq, reduceNe]; (repeat (first | refine And.intro (by omega) ?_ | refine And.intro (pureB _) ?_ | refine And.intro (pureI _) ?_ | refine And.intro ⟨pureB _, pureB _⟩ ?_ | refine And.intro ⟨pureB _, pureI _⟩ ?_ | refine And.intro ⟨pureI _, pureB _⟩ ?_ | refine And.intro ⟨pureI _, pureI _⟩ ?_)); exact ⟨rfl, rfl⟩) ?_
  simp only [↓wt, wz, reduceAdd, reduceMul, reduceEqDiff, reduceLeDiff, Nat.reduceLT, reduceLE, reduceLT, reduceEq, reduceNe, wdd]
  refine ⟨fun β => RC.dies (bkwide_call s hl (fun _ => hpf hn) hI) g1 0 rfl pureAs0 pureR_c hI, ?_⟩
  first | exact ⟨rfl, rfl, trivial⟩ | exact ⟨rfl, rfl⟩ | exact rfl
 | some p =>
  obtain ⟨v1, s1⟩ := p
  have l1 := rd_len g1
  refine draw_rule4 tabOk mixed [(66, 0)] [2, 1, 0, 3, 4, 1] [0, 0, 0, 0, 3, 0] [[], [0], [], [0, 1, 2], [], [0, 1, 2, 3, 4]] (by kernel_rfl) (by kernel_rfl) ?_
  simp only [↓wt, wz, reduceAdd, reduceMul, reduceEqDiff, reduceLeDiff, Nat.reduceLT, reduceLE, reduceLT, reduceEq, reduceNe]
  refine d4_readX (fun β => by simp only [↓wt, wz, reduceAdd, reduceMul, reduceEqDiff, reduceLeDiff, Nat.reduceLT, reduceLE, reduceLT, reduceEq, reduceNe]; (repeat (first | refine And.intro (by omega) ?_ | refine And.intro (pureB _) ?_ | refine And.intro (pureI _) ?_ | refine And.intro ⟨pureB _, pureB _⟩ ?_ | refine And.intro ⟨pureB _, pureI _⟩ ?_ | refine And.intro ⟨pureI _, pureB _⟩ ?_ | refine And.intro ⟨pureI _, pureI _⟩ ?_)); exact ⟨rfl, rfl⟩) ?_
  simp only [↓wt, wz, reduceAdd, reduceMul, reduceEqDiff, reduceLeDiff, Nat.reduceLT, reduceLE, reduceLT, reduceEq, reduceNe]
  refine d4_heavyC (r := .c (.int .i64 v1)) (fun β => RC.lend (bkwide_call s hl (fun h => absurd h (by rw [g1]; nofun)) hI) 0 rfl pureAs0 pureR_c hI fun _ => ⟨by rw [pv_eq g1]; rfl, rfl⟩) (fun β => by rfl) ?_
  simp only [↓wt, wz, reduceAdd, reduceMul, reduceEqDiff, reduceLeDiff, Nat.reduceLT, reduceLE, reduceLT, reduceEq, reduceNe, rnI, nblt, rn0, rnC, rnE, rnR, rnB, putAll, Nat.reduceSub, Nat.sub_zero, Nat.not_lt_zero, Nat.zero_sub, Nat.sub_self, rn_I, rn_B]
  refine d_pureX (fun M0 => by simp only [↓wt, wz, reduceAdd, reduceMul, reduceEqDiff, reduceLeDiff, Nat.reduceLT, reduceLE, reduceLT, reduceEq, reduceNe, zx_build]; rfl) ?_
  simp only [↓wt, wz, reduceAdd, reduceMul, reduceEqDiff, reduceLeDiff, Nat.reduceLT, reduceLE, reduceLT, reduceEq, reduceNe]
  refine d_heavyX (by simp only [↓wt, wz, reduceAdd, reduceMul, reduceEqDiff, reduceLeDiff, Nat.reduceLT, reduceLE, reduceLT, reduceEq, reduceNe, Cell]; (repeat (first | refine And.intro (by omega) ?_ | refine And.intro (pureB _) ?_ | refine And.intro (pureI _) ?_ | refine And.intro ⟨pureB _, pureB _⟩ ?_ | refine And.intro ⟨pureB _, pureI _⟩ ?_ | refine And.intro ⟨pureI _, pureB _⟩ ?_ | refine And.intro ⟨pureI _, pureI _⟩ ?_)); exact ⟨rfl, rfl⟩) ?_
  simp only [↓wt, wz, reduceAdd, reduceMul, reduceEqDiff, reduceLeDiff, Nat.reduceLT, reduceLE, reduceLT, reduceEq, reduceNe, Cell]
  have e1 := ps_eq g1
  simp only [e1, rnB, RkB, Bs, rn_B]
  simp only [↓wt, wz, reduceAdd, reduceMul, reduceEqDiff, reduceLeDiff, Nat.reduceLT, reduceLE, reduceLT, reduceEq, reduceNe, rnI, nblt, rn0, rnC, rnE, rnR, rnB, putAll, Nat.reduceSub, Nat.sub_zero, Nat.not_lt_zero, Nat.zero_sub, Nat.sub_self, rn_I, rn_B]
  refine freeze_rule 3 [0, 2, 3] (by simp only [↓wt, wz, reduceAdd, reduceMul, reduceEqDiff, reduceLeDiff, Nat.reduceLT, reduceLE, reduceLT, reduceEq, reduceNe]; (try (repeat' (first | (exact fun _ => by simp only [pureL_eq, underL_cons, underL_nil, AV.cells, under_l, under_c, under_g, under_e, under_f, underL_B, underL_I, underL_Bs, under_Bs, List.mem_cons, List.not_mem_nil, or_false, forall_eq_or_imp, forall_eq, and_self, and_true, true_and]) | ((with_reducible refine And.intro ?_ ?_)) | (intro _) | omega | (simp only [pureL_eq, underL_cons, underL_nil, AV.cells, under_l, under_c, under_g, under_e, under_f, underL_B, underL_I, underL_Bs, under_Bs, List.mem_cons, List.not_mem_nil, or_false, forall_eq_or_imp, forall_eq, and_self, and_true, true_and])))); done) (by simp only [↓wt, wz, reduceAdd, reduceMul, reduceEqDiff, reduceLeDiff, Nat.reduceLT, reduceLE, reduceLT, reduceEq, reduceNe]; (try (repeat' (first | (exact fun _ => by simp only [pureL_eq, underL_cons, underL_nil, AV.cells, under_l, under_c, under_g, under_e, under_f, underL_B, underL_I, underL_Bs, under_Bs, List.mem_cons, List.not_mem_nil, or_false, forall_eq_or_imp, forall_eq, and_self, and_true, true_and]) | ((with_reducible refine And.intro ?_ ?_)) | (intro _) | omega | (simp only [pureL_eq, underL_cons, underL_nil, AV.cells, under_l, under_c, under_g, under_e, under_f, underL_B, underL_I, underL_Bs, under_Bs, List.mem_cons, List.not_mem_nil, or_false, forall_eq_or_imp, forall_eq, and_self, and_true, true_and])))); done) ?_; simp only [↓wt, wz, reduceAdd, reduceMul, reduceEqDiff, reduceLeDiff, Nat.reduceLT, reduceLE, reduceLT, reduceEq, reduceNe]
  cases g2 : rd BS s1 with
  | none =>
   have hn : outP w s = none := by rw [outP, bindP_s g1, bindP_n g2]
   refine draw_die tabOk mixed [] [0, 2, 9, 8, 8] [0, 0, 0, 0, 0] [[], [], [1], [0, 1, 2], [0, 1, 2, 3]] (by kernel_rfl) (by kernel_rfl) (by kernel_rfl) ?_
   simp only [↓wt, wz, reduceAdd, reduceMul, reduceEqDiff, reduceLeDiff, Nat.reduceLT, reduceLE, reduceLT, reduceEq, reduceNe, wdd]
   refine ⟨fun β => RC.dies (bksmall_call s1 (by omega) (fun _ => hpf hn) hI) g2 0 rfl pureAs0 pureR_c hI, ?_⟩
   first | exact ⟨rfl, rfl, trivial⟩ | exact ⟨rfl, rfl⟩ | exact rfl
  | some p =>
   obtain ⟨v2, s2⟩ := p
   have hG : outP w s = some (⟨v1, w, v2⟩, s2) := by rw [outP, bindP_s g1, bindP_s g2]; rfl
   refine draw_rule4 tabOk mixed [] [0, 2, 1, 3, 1] [0, 0, 0, 0, 0] [[], [], [1], [0, 1, 2], [0, 1, 2, 3]] (by kernel_rfl) (by kernel_rfl) ?_
   simp only [↓wt, wz, reduceAdd, reduceMul, reduceEqDiff, reduceLeDiff, Nat.reduceLT, reduceLE, reduceLT, reduceEq, reduceNe]
   refine d_heavyC (r := .c (.int .i64 v2)) (RC.lend (bksmall_call s1 (by omega) (fun h => absurd h (by rw [g2]; nofun)) hI) 0 rfl pureAs0 pureR_c hI fun _ => ⟨by rw [pv_eq g2]; rfl, rfl⟩) ?_
   simp only [↓wt, wz, reduceAdd, reduceMul, reduceEqDiff, reduceLeDiff, Nat.reduceLT, reduceLE, reduceLT, reduceEq, reduceNe, rnI, nblt, rn0, rnC, rnE, rnR, rnB, putAll, Nat.reduceSub, Nat.sub_zero, Nat.not_lt_zero, Nat.zero_sub, Nat.sub_self, rn_I, rn_B]
   refine d_pureX (fun M0 => by simp only [↓wt, wz, reduceAdd, reduceMul, reduceEqDiff, reduceLeDiff, Nat.reduceLT, reduceLE, reduceLT, reduceEq, reduceNe, zx_build]; rfl) ?_
   simp only [↓wt, wz, reduceAdd, reduceMul, reduceEqDiff, reduceLeDiff, Nat.reduceLT, reduceLE, reduceLT, reduceEq, reduceNe]
   refine d_heavyX (by simp only [↓wt, wz, reduceAdd, reduceMul, reduceEqDiff, reduceLeDiff, Nat.reduceLT, reduceLE, reduceLT, reduceEq, reduceNe, Cell]; (repeat (first | refine And.intro (by omega) ?_ | refine And.intro (pureB _) ?_ | refine And.intro (pureI _) ?_ | refine And.intro ⟨pureB _, pureB _⟩ ?_ | refine And.intro ⟨pureB _, pureI _⟩ ?_ | refine And.intro ⟨pureI _, pureB _⟩ ?_ | refine And.intro ⟨pureI _, pureI _⟩ ?_)); exact ⟨rfl, rfl⟩) ?_
   simp only [↓wt, wz, reduceAdd, reduceMul, reduceEqDiff, reduceLeDiff, Nat.reduceLT, reduceLE, reduceLT, reduceEq, reduceNe, wpn, Cell, Tryz.results65]
   refine rc3_end hG ?_ rfl rfl (under_flat (cs := [.int .i64 v1, .int .i64 w, .int .i64 v2]))
   rw [← ps_eq g2]; rfl
end Go.Ab
