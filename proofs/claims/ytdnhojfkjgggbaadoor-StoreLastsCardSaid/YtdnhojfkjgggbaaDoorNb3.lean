/- pack.Take: what is taken. -/
import Derived.Test.YtdnhojfkjgggbaaDoorNb2
set_option linter.unusedSimpArgs false
set_option linter.unusedVariables false
set_option maxRecDepth 100000
namespace Go.Ab
open Go Go.Proofs

theorem take_end {p s : List UInt8} (h : High p) (hn : s = []) : TakeIs (p ++ s) 0 [] false := by
  refine .inr ⟨rfl, rfl, rfl, fun v' r' _ he => ?_⟩
  obtain ⟨y, h1, h2, h3⟩ := putL_conv p h v' r' s he
  rw [hn] at h2
  exact putL_ne y (List.append_eq_nil_iff.1 h2).1
theorem take_no {p s : List UInt8} {c : UInt8} (h : High p) (hp : p.length ≤ 9) (hb : (p.length = 9 ∧ 1 < c.toNat) ∨ (0 < p.length ∧ c.toNat = 0)) : TakeIs (p ++ c :: s) 0 [] false := by
  refine .inr ⟨rfl, rfl, rfl, fun v' r' hv he => ?_⟩
  obtain ⟨y, h1, h2, h3⟩ := putL_conv p h v' r' _ he
  rcases hb with ⟨h4, h5⟩ | ⟨h4, h5⟩
  · rw [h4] at h1
    have hy : y < 2 := by
      have : (128 : Nat) ^ 9 = 9223372036854775808 := by decide
      rw [this] at h1; omega
    rw [putL_low (by omega)] at h2
    simp only [List.cons_append, List.cons.injEq] at h2
    have := congrArg UInt8.toNat h2.1
    rw [toNat_ofNat8 (by omega)] at this
    omega
  · have := (putL_head_low h2 (by omega)).1
    have := h3 (by intro e; rw [e] at h4; simp at h4)
    omega
theorem take_yes {p s : List UInt8} {c : UInt8} (h : High p) (hp : p.length ≤ 9) (hc : c.toNat < 128) (h9 : p.length = 9 → c.toNat ≤ 1) (h0 : 0 < p.length → 0 < c.toNat) : TakeIs (p ++ c :: s) (valL (p ++ [c])) s true := by
  have hv := valL_lt p
  have hval : valL (p ++ [c]) = valL p + 128 ^ p.length * c.toNat := by rw [valL_snoc, Nat.mod_eq_of_lt hc, Nat.mul_comm]
  refine .inl ⟨rfl, ?_, ?_⟩
  · rw [hval]
    have : p.length = 0 ∨ p.length = 1 ∨ p.length = 2 ∨ p.length = 3 ∨ p.length = 4 ∨ p.length = 5 ∨ p.length = 6 ∨ p.length = 7 ∨ p.length = 8 ∨ p.length = 9 := by omega
    rcases this with e | e | e | e | e | e | e | e | e | e <;> rw [e] at hv ⊢ <;> simp at hv ⊢ <;> (try have := h9 e) <;> omega
  · rw [hval]
    cases p with
    | nil => simp [valL, putL_low hc]
    | cons d p =>
      rw [putL_pre _ h _ (h0 (by simp)), putL_low hc, ofNat_toNat8, List.append_assoc]; rfl

theorem pow128 (k : Nat) : (128 : Nat) ^ k = 2 ^ (7 * k) := by rw [Nat.pow_mul]
theorem take_or {p : List UInt8} {c : UInt8} (hp : p.length ≤ 9) (h9 : p.length = 9 → c.toNat % 128 ≤ 1) :
    IntKind.u64.wrap ((BitVec.ofInt IntKind.u64.bits ((valL p : Nat) : Int) ||| BitVec.ofInt IntKind.u64.bits (IntKind.u64.wrap (((c.toNat % 128 : Nat) : Int) * 2 ^ min (7 * p.length) IntKind.u64.bits))).toNat : Nat) = ((valL (p ++ [c]) : Nat) : Int) := by
  have hv := valL_lt p
  have hm : min (7 * p.length) IntKind.u64.bits = 7 * p.length := Nat.min_eq_left (by simp only [IntKind.bits]; omega)
  have hb : c.toNat % 128 * 2 ^ (7 * p.length) < 18446744073709551616 ∧ 2 ^ (7 * p.length) ≤ 18446744073709551616 := by
    have : p.length = 0 ∨ p.length = 1 ∨ p.length = 2 ∨ p.length = 3 ∨ p.length = 4 ∨ p.length = 5 ∨ p.length = 6 ∨ p.length = 7 ∨ p.length = 8 ∨ p.length = 9 := by omega
    rcases this with e | e | e | e | e | e | e | e | e | e <;> rw [e] <;> (try have := h9 e) <;> simp <;> omega
  have hw : IntKind.u64.wrap (((c.toNat % 128 : Nat) : Int) * 2 ^ (7 * p.length)) = ((c.toNat % 128 * 2 ^ (7 * p.length) : Nat) : Int) := by
    have : (((c.toNat % 128 : Nat) : Int) * 2 ^ (7 * p.length)) = ((c.toNat % 128 * 2 ^ (7 * p.length) : Nat) : Int) := by push_cast; rfl
    rw [this, wrap_u64 hb.1]
  rw [hm, hw, or_u64 (by rw [pow128] at hv; omega) hb.1, or_add (by rw [← pow128]; exact hv), valL_snoc, pow128]
theorem take_rest {p s b : List UInt8} {c : UInt8} (h : p ++ c :: s = b) : List.drop (p.length + 1) b = s := by
  subst h
  have e : p ++ c :: s = (p ++ [c]) ++ s := by simp
  rw [e]
  have hl : p.length + 1 = (p ++ [c]).length := by simp
  rw [hl, List.drop_left]
/-- Where the loop is: what is behind it, what is ahead. -/
def take_I (b : List UInt8) (p : List UInt8 × List UInt8) : ASt :=
  ⟨[(0, Bs b), (2, .c (.int .u64 (valL p.1 : Nat))), (3, .c (.slice none 0 0)), (4, .c (.bool false)), (5, .c (.int .i64 0)), (8, Bs b), (9, .c (.int .i64 b.length)), (10, .c (.int .i64 p.1.length))], ⟨[], 0⟩, 51⟩
set_option maxHeartbeats 4000000 in
theorem ntake_call (b : List UInt8) (hl : b.length ≤ 1000000000) {v : Nat} {r : List UInt8} {o : Bool} (ht : TakeIs b v r o) : PCall Tryd.prog 61 [Bs b] (.t [.c (.int .u64 v), Bs r, .c (.bool o)]) := by
  refine pcall_body tabOk Tryd.func61 rfl rfl (by rw [Tryd.ntmps61]; simp) ?_
  simp only [Tryd.ntmps61, Bs]
  simp only [↓wt, wu, wk0, wk1, wk2, wk3, Nat.reduceAdd, Nat.reduceEqDiff, Nat.reduceLeDiff, Nat.reduceLT, Nat.reduceMul, Int.reduceLE, Int.reduceLT, Int.reduceEq, Int.reduceNe, wk4, laidS, keepS]
  refine scope_rule tabOk ?_
  simp only [↓wt, wu, wk0, wk1, wk2, wk3, Nat.reduceAdd, Nat.reduceEqDiff, Nat.reduceLeDiff, Nat.reduceLT, Nat.reduceMul, Int.reduceLE, Int.reduceLT, Int.reduceEq, Int.reduceNe, wk4, laidS, keepS]
  refine loop_rule tabOk (take_I b) (fun p => p.1 ++ p.2 = b ∧ High p.1 ∧ p.1.length ≤ 9) (fun p => p.2.length) ([], b) ⟨rfl, fun c hc => by simp at hc, by simp⟩ ?_ (fun _ => rfl) ?_
  · simp only [↓wt, wu, wk0, wk1, wk2, wk3, wkf, Nat.reduceAdd, Nat.reduceEqDiff, Nat.reduceLeDiff, Nat.reduceLT, Nat.reduceMul, Int.reduceLE, Int.reduceLT, Int.reduceEq, Int.reduceNe, wk4, laidS, keepS, take_I, Bs, valL]
  · rintro ⟨p, s⟩ ⟨h1, h2, h3⟩
    simp only [take_I, Bs] at h1 h2 h3 ⊢
    simp only [↓wt, wu, wk0, wk1, wk2, wk3, Nat.reduceAdd, Nat.reduceEqDiff, Nat.reduceLeDiff, Nat.reduceLT, Nat.reduceMul, Int.reduceLE, Int.reduceLT, Int.reduceEq, Int.reduceNe, wk4, laidS, keepS]
    refine r_casesP (fun hc => ?_) (fun hc => ?_)
    · simp only [↓wt, wu, wk0, wk1, wk2, wk3, Nat.reduceAdd, Nat.reduceEqDiff, Nat.reduceLeDiff, Nat.reduceLT, Nat.reduceMul, Int.reduceLE, Int.reduceLT, Int.reduceEq, Int.reduceNe, wk4, laidS, keepS]
      refine ⟨by omega, by omega, ?_⟩
      have hs : p.length < b.length := by omega
      obtain ⟨c, s', rfl⟩ : ∃ c s', s = c :: s' := by
        cases s with
        | nil => exfalso; rw [← h1] at hs; simp at hs
        | cons c s' => exact ⟨c, s', rfl⟩
      have hg : b.getD p.length 0 = c := by rw [← h1]; simp
      have hcl := u8_lt c
      have hcl := u8_lt c
      have e1 : IntKind.u64.wrap (IntKind.u8.wrap ((BitVec.ofInt IntKind.u8.bits (c.toNat : Int) &&& BitVec.ofInt IntKind.u8.bits 127).toNat : Nat)) = ((c.toNat % 128 : Nat) : Int) := by
        rw [and127 hcl, wrap_u64 (by omega)]
      have e2 : IntKind.i64.wrap ((p.length : Int) + 1) = ((p.length + 1 : Nat) : Int) := by rw [wrap_i64 (by omega) (by omega)]; omega
      have e3 : IntKind.i64.wrap (7 * (p.length : Int)) = ((7 * p.length : Nat) : Int) := by rw [wrap_i64 (by omega) (by omega)]; omega
      simp only [↓wt, wu, wk0, wk1, wk2, wk3, Nat.reduceAdd, Nat.reduceEqDiff, Nat.reduceLeDiff, Nat.reduceLT, Nat.reduceMul, Int.reduceLE, Int.reduceLT, Int.reduceEq, Int.reduceNe, wk4, laidS, keepS, hg]
      refine ⟨hs, ?_⟩
      rcases (by omega : (p.length = 9 ∧ 1 < c.toNat) ∨ (p.length = 9 ∧ c.toNat = 0) ∨ (p.length = 9 ∧ c.toNat = 1) ∨ (p.length ≠ 9 ∧ 0 < p.length ∧ c.toNat = 0) ∨ (p.length ≠ 9 ∧ 0 < p.length ∧ 0 < c.toNat ∧ c.toNat < 128) ∨
        (p.length ≠ 9 ∧ 0 < p.length ∧ 128 ≤ c.toNat) ∨ (p.length = 0 ∧ c.toNat < 128) ∨ (p.length = 0 ∧ 128 ≤ c.toNat)) with hh | hh | hh | hh | hh | hh | hh | hh
      · have k9 : decide ((p.length : Int) = 9) = true := decide_eq_true (by omega)
        have c1 : decide ((c.toNat : Int) > 1) = true := decide_eq_true (by omega)
        simp only [↓wt, wu, wk0, wk1, wk2, wk3, Nat.reduceAdd, Nat.reduceEqDiff, Nat.reduceLeDiff, Nat.reduceLT, Nat.reduceMul, Int.reduceLE, Int.reduceLT, Int.reduceEq, Int.reduceNe, wk4, laidS, keepS, Tryd.results61, k9, c1, e1]
        obtain ⟨rfl, rfl, rfl⟩ := ht.uniq (h1 ▸ take_no h2 h3 (by omega))
        exact exp_t ⟨⟨weak_c, .c _⟩, ⟨weak_nil, under_B (l := [])⟩, ⟨weak_c, .c _⟩, trivial⟩
      · have e4 := take_or (c := c) h3 (by omega)
        have k9 : decide ((p.length : Int) = 9) = true := decide_eq_true (by omega)
        have c1 : decide ((c.toNat : Int) > 1) = false := decide_eq_false (by omega)
        have k0 : decide ((p.length : Int) > 0) = true := decide_eq_true (by omega)
        have c0 : decide ((c.toNat : Int) = 0) = true := decide_eq_true (by omega)
        simp only [↓wt, wu, wk0, wk1, wk2, wk3, Nat.reduceAdd, Nat.reduceEqDiff, Nat.reduceLeDiff, Nat.reduceLT, Nat.reduceMul, Int.reduceLE, Int.reduceLT, Int.reduceEq, Int.reduceNe, wk4, laidS, keepS, Tryd.results61, k9, c1, k0, c0, e1]
        obtain ⟨rfl, rfl, rfl⟩ := ht.uniq (h1 ▸ take_no h2 h3 (by omega))
        exact exp_t ⟨⟨weak_c, .c _⟩, ⟨weak_nil, under_B (l := [])⟩, ⟨weak_c, .c _⟩, trivial⟩
      · have e4 := take_or (c := c) h3 (by omega)
        have k9 : decide ((p.length : Int) = 9) = true := decide_eq_true (by omega)
        have c1 : decide ((c.toNat : Int) > 1) = false := decide_eq_false (by omega)
        have k0 : decide ((p.length : Int) > 0) = true := decide_eq_true (by omega)
        have c0 : decide ((c.toNat : Int) = 0) = false := decide_eq_false (by omega)
        have c8 : decide ((c.toNat : Int) < 128) = true := decide_eq_true (by omega)
        have n0 : decide (((p.length + 1 : Nat) : Int) = 0) = false := decide_eq_false (by omega)
        simp only [↓wt, wu, wk0, wk1, wk2, wk3, Nat.reduceAdd, Nat.reduceEqDiff, Nat.reduceLeDiff, Nat.reduceLT, Nat.reduceMul, Int.reduceLE, Int.reduceLT, Int.reduceEq, Int.reduceNe, wk4, laidS, keepS, Tryd.results61, k9, c1, k0, c0, c8, n0, e1, e2, e3, e4]
        refine ⟨by omega, draw_rule tabOk mixed [0, 0, 0, 0, 0, 0, 0, 0, 0, 0, 0] [[], [], [], [], [3], [], [5], [1, 2, 3, 4, 5, 6], [0], [0, 1, 2, 3, 4, 5, 6, 7, 8], [0, 1, 2, 3, 4, 5, 6, 7, 8, 9]] (by kernel_rfl) ?_⟩
        simp only [↓wt, wu, wk0, wk1, wk2, wk3, Nat.reduceAdd, Nat.reduceEqDiff, Nat.reduceLeDiff, Nat.reduceLT, Nat.reduceMul, Int.reduceLE, Int.reduceLT, Int.reduceEq, Int.reduceNe, wk4, laidS, keepS, Tryd.results61]
        refine ⟨by omega, by omega, ?_⟩
        obtain ⟨rfl, rfl, rfl⟩ := ht.uniq (h1 ▸ take_yes h2 h3 (by omega) (by omega) (by omega))
        rw [take_rest h1]
        exact exp_t ⟨⟨weak_c, .c _⟩, ⟨weak_l, under_B⟩, ⟨weak_c, .c _⟩, trivial⟩
      · have e4 := take_or (c := c) h3 (by omega)
        have k9 : decide ((p.length : Int) = 9) = false := decide_eq_false (by omega)
        have k0 : decide ((p.length : Int) > 0) = true := decide_eq_true (by omega)
        have c0 : decide ((c.toNat : Int) = 0) = true := decide_eq_true (by omega)
        simp only [↓wt, wu, wk0, wk1, wk2, wk3, Nat.reduceAdd, Nat.reduceEqDiff, Nat.reduceLeDiff, Nat.reduceLT, Nat.reduceMul, Int.reduceLE, Int.reduceLT, Int.reduceEq, Int.reduceNe, wk4, laidS, keepS, Tryd.results61, k9, k0, c0, e1]
        obtain ⟨rfl, rfl, rfl⟩ := ht.uniq (h1 ▸ take_no h2 h3 (by omega))
        exact exp_t ⟨⟨weak_c, .c _⟩, ⟨weak_nil, under_B (l := [])⟩, ⟨weak_c, .c _⟩, trivial⟩
      · have e4 := take_or (c := c) h3 (by omega)
        have k9 : decide ((p.length : Int) = 9) = false := decide_eq_false (by omega)
        have k0 : decide ((p.length : Int) > 0) = true := decide_eq_true (by omega)
        have c0 : decide ((c.toNat : Int) = 0) = false := decide_eq_false (by omega)
        have c8 : decide ((c.toNat : Int) < 128) = true := decide_eq_true (by omega)
        have n0 : decide (((p.length + 1 : Nat) : Int) = 0) = false := decide_eq_false (by omega)
        simp only [↓wt, wu, wk0, wk1, wk2, wk3, Nat.reduceAdd, Nat.reduceEqDiff, Nat.reduceLeDiff, Nat.reduceLT, Nat.reduceMul, Int.reduceLE, Int.reduceLT, Int.reduceEq, Int.reduceNe, wk4, laidS, keepS, Tryd.results61, k9, k0, c0, c8, n0, e1, e2, e3, e4]
        refine ⟨by omega, draw_rule tabOk mixed [0, 0, 0, 0, 0, 0, 0, 0, 0, 0, 0] [[], [], [], [], [3], [], [5], [1, 2, 3, 4, 5, 6], [0], [0, 1, 2, 3, 4, 5, 6, 7, 8], [0, 1, 2, 3, 4, 5, 6, 7, 8, 9]] (by kernel_rfl) ?_⟩
        simp only [↓wt, wu, wk0, wk1, wk2, wk3, Nat.reduceAdd, Nat.reduceEqDiff, Nat.reduceLeDiff, Nat.reduceLT, Nat.reduceMul, Int.reduceLE, Int.reduceLT, Int.reduceEq, Int.reduceNe, wk4, laidS, keepS, Tryd.results61]
        refine ⟨by omega, by omega, ?_⟩
        obtain ⟨rfl, rfl, rfl⟩ := ht.uniq (h1 ▸ take_yes h2 h3 (by omega) (by omega) (by omega))
        rw [take_rest h1]
        exact exp_t ⟨⟨weak_c, .c _⟩, ⟨weak_l, under_B⟩, ⟨weak_c, .c _⟩, trivial⟩
      · have e4 := take_or (c := c) h3 (by omega)
        have k9 : decide ((p.length : Int) = 9) = false := decide_eq_false (by omega)
        have k0 : decide ((p.length : Int) > 0) = true := decide_eq_true (by omega)
        have c0 : decide ((c.toNat : Int) = 0) = false := decide_eq_false (by omega)
        have c8 : decide ((c.toNat : Int) < 128) = false := decide_eq_false (by omega)
        simp only [↓wt, wu, wk0, wk1, wk2, wk3, Nat.reduceAdd, Nat.reduceEqDiff, Nat.reduceLeDiff, Nat.reduceLT, Nat.reduceMul, Int.reduceLE, Int.reduceLT, Int.reduceEq, Int.reduceNe, wk4, laidS, keepS, k9, k0, c0, c8, e1, e2, e3, e4]
        refine ⟨by omega, (p ++ [c], s'), ⟨by rw [← h1]; simp, fun d hd => ?_, by simp; omega⟩, by simp, ?_⟩
        · rcases List.mem_append.1 hd with hd | hd
          · exact h2 d hd
          · rw [List.mem_singleton.1 hd]; omega
        · simp only [↓wt, wu, wk0, wk1, wk2, wk3, wkf, Nat.reduceAdd, Nat.reduceEqDiff, Nat.reduceLeDiff, Nat.reduceLT, Nat.reduceMul, Int.reduceLE, Int.reduceLT, Int.reduceEq, Int.reduceNe, wk4, laidS, keepS, take_I, Bs, e4, e3, e2]
      · have e4 := take_or (c := c) h3 (by omega)
        have k9 : decide ((p.length : Int) = 9) = false := decide_eq_false (by omega)
        have k0 : decide ((p.length : Int) > 0) = false := decide_eq_false (by omega)
        have c8 : decide ((c.toNat : Int) < 128) = true := decide_eq_true (by omega)
        have n0 : decide (((p.length + 1 : Nat) : Int) = 0) = false := decide_eq_false (by omega)
        simp only [↓wt, wu, wk0, wk1, wk2, wk3, Nat.reduceAdd, Nat.reduceEqDiff, Nat.reduceLeDiff, Nat.reduceLT, Nat.reduceMul, Int.reduceLE, Int.reduceLT, Int.reduceEq, Int.reduceNe, wk4, laidS, keepS, Tryd.results61, k9, k0, c8, n0, e1, e2, e3, e4]
        refine ⟨by omega, draw_rule tabOk mixed [0, 0, 0, 0, 0, 0, 0, 0, 0, 0, 0] [[], [], [], [], [3], [], [5], [1, 2, 3, 4, 5, 6], [0], [0, 1, 2, 3, 4, 5, 6, 7, 8], [0, 1, 2, 3, 4, 5, 6, 7, 8, 9]] (by kernel_rfl) ?_⟩
        simp only [↓wt, wu, wk0, wk1, wk2, wk3, Nat.reduceAdd, Nat.reduceEqDiff, Nat.reduceLeDiff, Nat.reduceLT, Nat.reduceMul, Int.reduceLE, Int.reduceLT, Int.reduceEq, Int.reduceNe, wk4, laidS, keepS, Tryd.results61]
        refine ⟨by omega, by omega, ?_⟩
        obtain ⟨rfl, rfl, rfl⟩ := ht.uniq (h1 ▸ take_yes h2 h3 (by omega) (by omega) (by omega))
        rw [take_rest h1]
        exact exp_t ⟨⟨weak_c, .c _⟩, ⟨weak_l, under_B⟩, ⟨weak_c, .c _⟩, trivial⟩
      · have e4 := take_or (c := c) h3 (by omega)
        have k9 : decide ((p.length : Int) = 9) = false := decide_eq_false (by omega)
        have k0 : decide ((p.length : Int) > 0) = false := decide_eq_false (by omega)
        have c8 : decide ((c.toNat : Int) < 128) = false := decide_eq_false (by omega)
        simp only [↓wt, wu, wk0, wk1, wk2, wk3, Nat.reduceAdd, Nat.reduceEqDiff, Nat.reduceLeDiff, Nat.reduceLT, Nat.reduceMul, Int.reduceLE, Int.reduceLT, Int.reduceEq, Int.reduceNe, wk4, laidS, keepS, k9, k0, c8, e1, e2, e3, e4]
        refine ⟨by omega, (p ++ [c], s'), ⟨by rw [← h1]; simp, fun d hd => ?_, by simp; omega⟩, by simp, ?_⟩
        · rcases List.mem_append.1 hd with hd | hd
          · exact h2 d hd
          · rw [List.mem_singleton.1 hd]; omega
        · simp only [↓wt, wu, wk0, wk1, wk2, wk3, wkf, Nat.reduceAdd, Nat.reduceEqDiff, Nat.reduceLeDiff, Nat.reduceLT, Nat.reduceMul, Int.reduceLE, Int.reduceLT, Int.reduceEq, Int.reduceNe, wk4, laidS, keepS, take_I, Bs, e4, e3, e2]
    · simp only [↓wt, wu, wk0, wk1, wk2, wk3, Nat.reduceAdd, Nat.reduceEqDiff, Nat.reduceLeDiff, Nat.reduceLT, Nat.reduceMul, Int.reduceLE, Int.reduceLT, Int.reduceEq, Int.reduceNe, wk4, laidS, keepS]
      have hs : s = [] := by
        have := congrArg List.length h1
        simp only [List.length_append] at this
        exact List.eq_nil_of_length_eq_zero (by omega)
      obtain ⟨rfl, rfl, rfl⟩ := ht.uniq (h1 ▸ take_end h2 hs)
      simp only [↓wt, wu, wk0, wk1, wk2, wk3, Nat.reduceAdd, Nat.reduceEqDiff, Nat.reduceLeDiff, Nat.reduceLT, Nat.reduceMul, Int.reduceLE, Int.reduceLT, Int.reduceEq, Int.reduceNe, wk4, laidS, keepS, Tryd.results61]
      exact exp_t ⟨⟨weak_c, .c _⟩, ⟨weak_nil, under_B (l := [])⟩, ⟨weak_c, .c _⟩, trivial⟩
end Go.Ab
