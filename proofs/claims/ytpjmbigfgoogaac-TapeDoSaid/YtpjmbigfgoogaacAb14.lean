/- The abstract walk: one operation, a region, code. -/
import Derived.Test.YtpjmbigfgoogaacAb13
set_option linter.unusedVariables false
set_option linter.unusedSimpArgs false
set_option linter.constructorNameAsVariable false
namespace Go.Ab
open Go Go.RowKit

structure ASt where
  sl : Slots
  m : Mem
  N : Nat

def constAV : Value → AV
  | .agg _ => .x
  | .tuple _ => .x
  | v => .c v
def ev (s : Slots) : Operand → AV
  | .tmp t => Slots.get s t
  | .const v => constAV v
  | .global g => .c (.pointer (some ⟨g, 0, none⟩))
  | .func f => .f f []
theorem rep_ev {E : Env} {s : Slots} {a : Act} (h : RepS E s a.tmps) (x' : Operand) : Rep E (ev s x') (a.eval x') := by
  cases x' with
  | tmp t => exact h t
  | const v => cases v <;> first | exact .x _ | exact .c _ rfl
  | global g => exact .c _ rfl
  | func f => exact .f _ _ _ rfl (fun i h => absurd h (by simp))

/-- The state of the walk stands for the machine's. -/
structure St (w0 : World) (E : Env) (D : List Deferred) (s : ASt) (a : Act) : Prop where
  g : Good w0 E s.m
  r : RepS E s.sl a.tmps
  n : a.tmps.size = s.N
  d : a.defers = D
def setK (s : ASt) (K : ASt → Prop) : Option Tmp → AV → Mem → Prop
  | none, _, M => K ⟨s.sl, M, s.N⟩
  | some d, a, M => d < s.N ∧ K ⟨insert s.sl d a, M, s.N⟩
theorem St.put {w0 : World} {D : List Deferred} {E E' : Env} {s : ASt} {a : Act} {K : ASt → Prop} {dst : Option Tmp} {x' : AV} {v : Value} {M : Mem} (h : St w0 E D s a) (hg : Good w0 E' M) (hl : Later E E') (hx : Rep E' x' v) (hk : setK s K dst x' M) :
    ∃ s', St w0 E' D s' (a.put dst v) ∧ K s' := by
  cases dst with
  | none => exact ⟨⟨s.sl, M, s.N⟩, ⟨hg, h.r.later hl, h.n, h.d⟩, hk⟩
  | some d =>
    obtain ⟨hd, hK⟩ := hk
    exact ⟨⟨insert s.sl d x', M, s.N⟩, ⟨hg, (h.r.later hl).put (by rw [h.n]; exact hd) hx, by simp [Act.put, h.n], h.d⟩, hK⟩

/-- A call, by what it comes to. -/
def ICall (P : Program) (f : FuncId) (args : List AV) (M : Mem) (K : AV → Mem → Prop) : Prop :=
  (∃ fn, P.funcs[f]? = some fn ∧ fn.body.isNone = false ∧ (fn.name == "runtime.NumGoroutine") = false) ∧
  ∀ w0 E vs, Good w0 E M → vs.size = args.length → (∀ i (h1 : i < args.length) (h2 : i < vs.size), Rep E args[i] vs[i]) →
    Calls P f vs E.w fun e w' => ∃ v E' M' a, e = .returned v ∧ E'.w = w' ∧ Good w0 E' M' ∧ Later E E' ∧ Rep E' a v ∧ K a M'

def pickK : AV → AV → AV → (AV → Prop) → Prop
  | .c (.bool b), x', y, K => if b = true then K x' else K y
  | _, _, _, _ => False
def nilCheckK : AV → (AV → Prop) → Prop
  | .p id i j n, K => K (.p id i j n)
  | .e cs, K => K (.e cs)
  | .f fn caps, K => K (.f fn caps)
  | _, _ => False
def tiK (tab : Tab) (t : TypeId) (K : TI → Prop) : Prop := ∃ ti, assoc tab t = some ti ∧ K ti
def stK (k : TK) (K : List (Nat × TypeId) → Prop) : Prop := ∃ fs, k = .st fs ∧ K fs
def slK (k : TK) (K : TypeId → Prop) : Prop := ∃ e, k = .sl e ∧ K e
def callValK (P : Program) (M : Mem) (args : List AV) (K : AV → Mem → Prop) : AV → Prop
  | .f fn caps => ICall P fn (args ++ caps) M K
  | _ => False
def builtinK (tab : Tab) (M : Mem) (K : AV → Mem → Prop) : Builtin → List TypeId → List AV → Prop
  | .len, [t], [a] => tiK tab t fun ti => lenK ti.k a fun a => K a M
  | .append, [t, t2], [a, b] => tiK tab t fun tt => slK tt.k fun e => tiK tab e fun ti => (tiK tab t2 fun t2i => t2i.k = .str ∨ ∃ e2, t2i.k = .sl e2) ∧ appendK e ti M a b K
  | .max, _, [a, b] => maxK a b fun a => K a M
  | .min, _, [a, b] => minK a b fun a => K a M
  | _, _, _ => False

/-- One operation that hands back a value. -/
def opK (P : Program) (tab : Tab) (s : ASt) (K : AV → Mem → Prop) : Op → Prop
  | .move x' => K (ev s.sl x') s.m
  | .assign x' => K (ev s.sl x') s.m
  | .pick c a b => pickK (ev s.sl c) (ev s.sl a) (ev s.sl b) fun a => K a s.m
  | .alloc T => tiK tab T fun ti => allocK T ti s.m K
  | .box T x' => boxK T s.m (ev s.sl x') K
  | .build T parts => tiK tab T fun ti => stK ti.k fun fs => buildK tab ti fs s.m (parts.toList.map fun p => (p.1, ev s.sl p.2)) K
  | .buildSlice T n parts => tiK tab T fun tt => slK tt.k fun e => tiK tab e fun ti =>
      n = parts.toList.length ∧ (parts.toList.map fun p => p.1) = List.range' 0 n ∧ sliceK e ti s.m (parts.toList.map fun p => (p.1, ev s.sl p.2)) K
  | .load T x' => tiK tab T fun ti => ti.k.known = true ∧ loadK ti s.m (ev s.sl x') K
  | .nilCheck x' => nilCheckK (ev s.sl x') fun a => K a s.m
  | .binOp op T x' y _ => tiK tab T fun ti => binK P op T ti.k s.m (ev s.sl x') (ev s.sl y) K
  | .unOp op _ x' => unK op (ev s.sl x') fun a => K a s.m
  | .convert a b x' => tiK tab a fun ta => tiK tab b fun tb => ta.k.known = true ∧ cvK (Nat.beq a b) ta.k tb.k tab s.m (ev s.sl x') K
  | .makeFunc (.func f) first caps => first.toList = [] ∧ K (.f f (caps.toList.map fun c => ev s.sl c)) s.m
  | .makeSlice T l c => tiK tab T fun tt => slK tt.k fun e => tiK tab e fun ti => makeK e ti s.m (ev s.sl l) (ev s.sl c) K
  | .slice T x' lo hi mx => tiK tab T fun tt => cutK tt.k tab s.m (lo.map fun o => ev s.sl o) (hi.map fun o => ev s.sl o) (mx.map fun o => ev s.sl o) (ev s.sl x') K
  | .fieldAddr S x' f => tiK tab S fun tS => stK tS.k fun fs => f < fs.length ∧ tiK tab (fs.getD f (0, 0)).2 fun ti => fieldK fs ti f s.m (ev s.sl x') K
  | .field S x' f => tiK tab S fun tS => stK tS.k fun fs => f < fs.length ∧ tiK tab (fs.getD f (0, 0)).2 fun ti => ti.k.known = true ∧ fieldVK fs ti f (ev s.sl x') fun a => K a s.m
  | .indexAddr T x' i => tiK tab T fun tt => slK tt.k fun e => tiK tab e fun ti => idxK ti.sz s.m (ev s.sl x') (ev s.sl i) K
  | .extract x' i => extractK i (ev s.sl x') fun a => K a s.m
  | .call c => match c.callee with
    | .value f => callValK P s.m (c.args.toList.map fun o => ev s.sl o) K (ev s.sl f)
    | .builtin b => builtinK tab s.m K b c.argTypes.toList (c.args.toList.map fun o => ev s.sl o)
    | _ => False
  | _ => False

theorem Calls.mono' {P : Program} {f : FuncId} {args : Array Value} {w : World} {R R' : Ending → World → Prop} (h : Calls P f args w R) (hr : ∀ e w', R e w' → R' e w') : Calls P f args w R' :=
  fun cs => let ⟨e, w', fr, h1, h2⟩ := h cs; ⟨e, w', fr, hr _ _ h1, h2⟩

theorem repP_ev {E : Env} {s : Slots} {a : Act} (h : RepS E s a.tmps) : ∀ (ps : List (Nat × Operand)), RepP E (ps.map fun p => (p.1, ev s p.2)) (ps.map fun p => (p.1, a.eval p.2))
  | [] => trivial
  | (i, x') :: r => ⟨rfl, rep_ev h x', repP_ev h r⟩
theorem repO_ev {E : Env} {s : Slots} {a : Act} (h : RepS E s a.tmps) (o : Option Operand) : RepO E (o.map fun o => ev s o) (o.map a.eval) := by
  cases o with
  | none => exact .none
  | some x' => exact .some _ _ (rep_ev h x')

/-- What the machine does next, behind an operation that hands back a value. -/
theorem op_upon {P : Program} {tab : Tab} (hT : TabOk P tab) {w0 : World} {D : List Deferred} {E : Env} {s : ASt} {a : Act} {o : Oper} {K : AV → Mem → Prop} {next : Act → World → Prop} {Q : Exit → Act → World → Prop}
    (h : St w0 E D s a) (hop : opK P tab s K o.op) (hn : ∀ v E' M' x', Good w0 E' M' → Later E E' → Rep E' x' v → K x' M' → next (a.put o.dst v) E'.w) : o.wp P a E.w next Q := by
  have hval : ∀ {sm : Sem Value}, execOp a.eval o = (do pure (.value (← sm))) → Out P w0 E sm K → o.wp P a E.w next Q := fun {sm} he ⟨v, E', M', x', h1, h2, h3, h4, h5⟩ => by
    unfold Oper.wp
    rw [he]
    simp only [Sem.run_bind, h1, Result.andThen, Sem.run_pure, Oper.upon]
    exact hn v E' M' x' h2 h3 h4 h5
  have hpure : ∀ (x' : AV) (v : Value), execOp a.eval o = pure (.value v) → Rep E x' v → K x' s.m → o.wp P a E.w next Q := fun x' v he hr hK => by
    unfold Oper.wp
    rw [he]
    simp only [Sem.run_pure, Oper.upon]
    exact hn v E s.m x' h.g (.refl E) hr hK
  have hr := fun x' => rep_ev h.r x'
  obtain ⟨dst, op, type, pos, after, guard⟩ := o
  cases op <;> try exact hop.elim
  case move x' => exact hpure _ _ rfl (hr x') hop
  case assign x' => exact hpure _ _ rfl (hr x') hop
  case pick c x' y =>
    have hc := hr c
    have hx := hr x'
    have hy := hr y
    simp only [opK] at hop
    generalize he : ev s.sl c = ac at hop hc
    generalize hv : a.eval c = vc at hc
    cases hc <;> try exact hop.elim
    rename_i hone
    cases vc <;> try exact hop.elim
    rename_i b
    refine hval (sm := do pure (if ← asBool (a.eval c) then a.eval x' else a.eval y)) (by simp [execOp]) ?_
    simp only [pickK] at hop
    cases b with
    | true =>
      simp only [if_true] at hop
      exact .val h.g (by simp [hv, asBool]) hx hop
    | false =>
      simp only [Bool.false_eq_true, if_false] at hop
      exact .val h.g (by simp [hv, asBool]) hy hop
  case alloc T =>
    obtain ⟨ti, h1, h2⟩ := hop
    exact hval rfl (alloc_out h.g (hT _ _ h1) h2)
  case box T x' => exact hval rfl (box_out h.g (hr x') hop)
  case build T parts =>
    obtain ⟨ti, h1, fs, h2, h3⟩ := hop
    exact hval rfl (build_out h.g hT (hT _ _ h1) h2 (by simpa using repP_ev h.r parts.toList) h3)
  case buildSlice T n parts =>
    obtain ⟨tt, h1, e, h2, ti, h3, h4, h5, h6⟩ := hop
    have hk := (hT _ _ h1).k
    rw [h2] at hk
    exact hval rfl (bslice_out h.g hk (hT _ _ h3) (by simpa using repP_ev h.r parts.toList) (by simpa using h4) (by rw [List.map_map]; rw [h4] at h5; simp only [Function.comp_def, List.length_map]; exact h5) h6)
  case load T x' =>
    obtain ⟨ti, h1, h2, h3⟩ := hop
    exact hval rfl (load_out h.g (hT _ _ h1) h2 (hr x') h3)
  case nilCheck x' =>
    have hx := hr x'
    simp only [opK] at hop
    generalize he : ev s.sl x' = ac at hop hx
    generalize hv : a.eval x' = vx at hx
    cases hx <;> try exact hop.elim
    case p id i j n ad hk hp => exact hpure _ _ (by simp only [execOp, hv]) (.p id i j n ad hk hp) hop
    case e cs b off y hz hc hr' => exact hpure _ _ (by simp only [execOp, hv]) (.e cs b off y hz hc hr') hop
    case f fn caps ys hl hr' => exact hpure _ _ (by simp only [execOp, hv]) (.f fn caps ys hl hr') hop
  case binOp op T x' y yT =>
    obtain ⟨ti, h1, h2⟩ := hop
    exact hval rfl (bin_out h.g (hT _ _ h1).k (hr x') (hr y) h2)
  case unOp op T x' => exact hval rfl (un_out h.g (hr x') hop)
  case convert sa sb x' =>
    obtain ⟨ta, h1, tb, h2, h3, h4⟩ := hop
    exact hval rfl (cv_out h.g hT (hT _ _ h1).k h3 (hT _ _ h2).k (hr x') h4)
  case makeFunc fn first caps =>
    cases fn <;> try exact hop.elim
    obtain ⟨h1, h2⟩ := hop
    obtain rfl : first = #[] := Array.toList_eq_nil_iff.1 h1
    refine hval rfl (.val (a := .f _ _) h.g (v := .func (.func _) #[] (caps.map a.eval)) (by simp [Instr.makeFunc]) (.f _ _ _ (by simp) (fun i g1 g2 => ?_)) h2)
    simp only [List.getElem_map, Array.getElem_toList, Array.getElem_map]
    exact hr _
  case makeSlice T l c =>
    obtain ⟨tt, h1, e, h2, ti, h3, h4⟩ := hop
    have hk := (hT _ _ h1).k
    rw [h2] at hk
    exact hval rfl (make_out h.g hk (hT _ _ h3) (hr l) (hr c) h4)
  case slice T x' lo hi mx =>
    obtain ⟨tt, h1, h2⟩ := hop
    exact hval rfl (cut_out h.g hT (hT _ _ h1).k (hr x') (repO_ev h.r lo) (repO_ev h.r hi) (repO_ev h.r mx) h2)
  case fieldAddr S x' f =>
    obtain ⟨tS, h1, fs, h2, h3, ti, h4, h5⟩ := hop
    have hk := (hT _ _ h1).k
    rw [h2] at hk
    exact hval rfl (field_out h.g hk h3 (hT _ _ h4) (hr x') h5)
  case field S x' f =>
    obtain ⟨tS, h1, fs, h2, h3, ti, h4, h5, h6⟩ := hop
    have hk := (hT _ _ h1).k
    rw [h2] at hk
    exact hval rfl (fieldV_out h.g hk h3 (hT _ _ h4) h5 (hr x') h6)
  case indexAddr T x' i =>
    obtain ⟨tt, h1, e, h2, ti, h3, h4⟩ := hop
    have hk := (hT _ _ h1).k
    rw [h2] at hk
    exact hval rfl (idx_out h.g hk (hT _ _ h3) (hr x') (hr i) h4)
  case extract x' i => exact hval rfl (extract_out h.g (hr x') hop)
  case call c =>
    obtain ⟨callee, args, ats⟩ := c
    cases callee <;> try exact hop.elim
    case value f =>
      simp only [opK] at hop
      have hf := hr f
      generalize he : ev s.sl f = af at hop hf
      generalize hv : a.eval f = vf at hf
      cases hf <;> try exact hop.elim
      rename_i fn caps ys hl hcaps
      simp only [callValK] at hop
      obtain ⟨⟨g, g1, g2, g3⟩, hc⟩ := hop
      have g2' : ¬ g.body = none := fun e => by simp [e] at g2
      have g3' : ¬ g.name = "runtime.NumGoroutine" := by simpa using g3
      have hrun : (execOp a.eval ⟨dst, .call ⟨.value f, args, ats⟩, type, pos, after, guard⟩).run P E.w = .ok (.enter fn (args.map a.eval ++ ys)) E.w := by
        simp [execOp, resolve, hv, Deferred.ofValue, invoke, callFunc, g1, g2', g3', Result.andThen]
      unfold Oper.wp
      rw [hrun]
      simp only [Oper.upon]
      refine Calls.mono' (hc w0 E (args.map a.eval ++ ys) h.g (by simp [hl]) (fun i h1 h2 => ?_)) ?_
      · by_cases hi : i < args.size
        · rw [List.getElem_append_left (by simpa using hi), Array.getElem_append_left (by simpa using hi)]
          simp only [List.getElem_map, Array.getElem_toList, Array.getElem_map]
          exact hr _
        · rw [List.getElem_append_right (by simpa using hi), Array.getElem_append_right (by simpa using hi)]
          simp only [List.length_map, Array.length_toList, Array.size_map]
          exact hcaps _ _ _
      · rintro e w' ⟨v, E', M', x', rfl, rfl, h1, h2, h3, h4⟩
        exact hn v E' M' x' h1 h2 h3 h4
    case builtin b =>
      simp only [opK] at hop
      have hbuilt : ∀ {sm : Sem Value}, execOp a.eval ⟨dst, .call ⟨.builtin b, args, ats⟩, type, pos, after, guard⟩ = (do let d ← resolve a.eval ⟨.builtin b, args, ats⟩ type; invoke d.target d.args) := rfl
      obtain ⟨args⟩ := args
      obtain ⟨ats⟩ := ats
      simp only at hop
      cases b <;> try (simp only [builtinK] at hop)
      case len =>
        match ats, args, hop with
        | [t], [x'], hop =>
          obtain ⟨ti, h1, h2⟩ := hop
          obtain ⟨v, E', M', y, k1, k2, k3, k4, k5⟩ := len_out (P := P) (ty := type) h.g (hT _ _ h1).k (hr x') h2
          unfold Oper.wp
          have hrun : (execOp a.eval ⟨dst, .call ⟨.builtin .len, #[x'], #[t]⟩, type, pos, after, guard⟩).run P E.w = .ok (.value v) E'.w := by
            simp [execOp, resolve, invoke, builtin, k1, Result.andThen]
          rw [hrun]
          exact hn v E' M' y k2 k3 k4 k5
      case append =>
        match ats, args, hop with
        | [t, t2], [x', y], hop =>
          obtain ⟨tt, h1, e, h2, ti, h3, ⟨t2i, h4, h5⟩, h6⟩ := hop
          have hk := (hT _ _ h1).k
          rw [h2] at hk
          have hk2 := (hT _ _ h4).k
          have hd : ∃ d2, P.underlying t2 = some d2 ∧ (d2 = .string ∨ ∃ e2, d2 = .slice e2) := by
            rcases h5 with h5 | ⟨e2, h5⟩ <;> rw [h5] at hk2
            · exact ⟨_, hk2, .inl rfl⟩
            · exact ⟨_, hk2, .inr ⟨_, rfl⟩⟩
          obtain ⟨d2, d3, d4⟩ := hd
          obtain ⟨v, E', M', z, k1, k2, k3, k4, k5⟩ := append_out (P := P) (ty := type) h.g hk (hT _ _ h3) d3 d4 (hr x') (hr y) h6
          unfold Oper.wp
          have hrun : (execOp a.eval ⟨dst, .call ⟨.builtin .append, #[x', y], #[t, t2]⟩, type, pos, after, guard⟩).run P E.w = .ok (.value v) E'.w := by
            simp [execOp, resolve, invoke, builtin, k1, Result.andThen]
          rw [hrun]
          exact hn v E' M' z k2 k3 k4 k5
      case max =>
        match ats, args, hop with
        | ats, [x', y], hop =>
          obtain ⟨v, E', M', z, k1, k2, k3, k4, k5⟩ := max_out (P := P) (ts := ats.toArray) (t := type) h.g (hr x') (hr y) hop
          unfold Oper.wp
          have hrun : (execOp a.eval ⟨dst, .call ⟨.builtin .max, #[x', y], ats.toArray⟩, type, pos, after, guard⟩).run P E.w = .ok (.value v) E'.w := by
            simp [execOp, resolve, invoke, builtin, k1, Result.andThen]
          rw [hrun]
          exact hn v E' M' z k2 k3 k4 k5
      case min =>
        match ats, args, hop with
        | ats, [x', y], hop =>
          obtain ⟨v, E', M', z, k1, k2, k3, k4, k5⟩ := min_out (P := P) (ts := ats.toArray) (t := type) h.g (hr x') (hr y) hop
          unfold Oper.wp
          have hrun : (execOp a.eval ⟨dst, .call ⟨.builtin .min, #[x', y], ats.toArray⟩, type, pos, after, guard⟩).run P E.w = .ok (.value v) E'.w := by
            simp [execOp, resolve, invoke, builtin, k1, Result.andThen]
          rw [hrun]
          exact hn v E' M' z k2 k3 k4 k5

/-- One operation. -/
def aop (P : Program) (tab : Tab) (s : ASt) (K : ASt → Prop) (o : Oper) : Prop :=
  match o.op with
  | .store T x' y => tiK tab T fun ti => storeK ti s.m (ev s.sl x') (ev s.sl y) fun M => setK s K o.dst .x M
  | op => opK P tab s (fun a M => setK s K o.dst a M) op
theorem aop_sound {P : Program} {tab : Tab} (hT : TabOk P tab) {w0 : World} {D : List Deferred} {E : Env} {s : ASt} {a : Act} {o : Oper} {K : ASt → Prop} {next : Act → World → Prop} {Q : Exit → Act → World → Prop}
    (h : St w0 E D s a) (hop : aop P tab s K o) (hn : ∀ E' s' a', St w0 E' D s' a' → Later E E' → K s' → next a' E'.w) : o.wp P a E.w next Q := by
  unfold aop at hop
  split at hop
  · rename_i T x' y he
    obtain ⟨ti, h1, h2⟩ := hop
    obtain ⟨E', M', k1, k2, k3, k4⟩ := store_out (P := P) h.g (hT _ _ h1) (rep_ev h.r x') (rep_ev h.r y) h2
    unfold Oper.wp
    have hrun : (execOp a.eval o).run P E.w = .ok .skip E'.w := by
      obtain ⟨dst, op, type, pos, after, guard⟩ := o
      simp only at he
      subst he
      simp only [execOp, Sem.run_bind, k1, Result.andThen, Sem.run_pure]
    rw [hrun]
    simp only [Oper.upon]
    obtain ⟨s', h3, h4⟩ := h.put (v := undef) k2 k3 (.x _) k4
    exact hn E' s' _ h3 k3 h4
  · refine op_upon hT h hop (fun v E' M' x' k1 k2 k3 k4 => ?_)
    obtain ⟨s', h3, h4⟩ := h.put k1 k2 k3 k4
    exact hn E' s' _ h3 k2 h4

/-- Anywhere: in a function's own frame, or in a round of a range over a function. -/
def FF (ro : Option Nat) : Fence := { Fence.wide with round := ro }
theorem roomFF {ro : Option Nat} (k : Nat) : (FF ro).room k := fun _ h => by cases h
theorem callsFF {ro : Option Nat} {n : Nat} {P : Program} {f : FuncId} {args : Array Value} {w : World} {R : Ending → World → Prop} (h : Calls P f args w R) : CallsIn (FF ro) n P f args w R := by
  cases ro with
  | none => exact callsIn_wide.2 h
  | some l => exact CallsIn.inRound l (callsIn_wide.2 h)
theorem rowsFF {ro : Option Nat} {n : Nat} {P : Program} {row : String} {args : Array Value} {w : World} {R : Value → World → Prop} (h : Rows P row args w R) : RowsIn (FF ro) n P row args w R := by
  intro c cs _
  obtain ⟨v, w', h1, h2⟩ := h c cs
  exact ⟨v, w', h1, stepsIn_wide.2 h2⟩
theorem wpIn_of_wp {ro : Option Nat} {n : Nat} {P : Program} {o : Oper} {a : Act} {w : World} {next : Act → World → Prop} {Q : Exit → Act → World → Prop} (hnd : ∀ c, o.op ≠ .defer c) (h : o.wp P a w next Q) : o.wpIn (FF ro) n P a w next Q := by
  refine ⟨fun _ _ => trivial, ?_⟩
  rw [Oper.semAt_eq _ _ _ hnd]
  unfold Oper.wp at h
  generalize (execOp a.eval o).run P w = r at h
  cases r with
  | ok v w' =>
    cases v <;> first | exact h | exact False.elim h | exact ⟨(fun h => by cases h), callsFF h⟩ | exact ⟨(fun h => by cases h), rowsFF h⟩
  | halt v w' => cases v <;> first | exact h | exact False.elim h

/-- Is an operation carried out? What was not carried out itself has handed back nothing: what waits for it is not either. -/
def gv : AV → Bool → Option Bool
  | .c (.bool c), w => some (c == w)
  | .t [], _ => some false
  | _, _ => none
def gw : Value → Option Bool
  | .bool c => some c
  | _ => none
theorem gv_wanted {E : Env} {a : AV} {v : Value} {w b : Bool} (hr : Rep E a v) (h : gv a w = some b) : (gw v == some w) = b := by
  cases hr <;> try (cases h; done)
  case c h1 =>
    cases v <;> simp only [gv] at h <;> first | (cases h; done) | (injection h)
  case t cs ys h2 h3 =>
    cases cs with
    | nil => simp only [gv] at h; injection h
    | cons _ _ => cases h
def guardK (ops : Array Oper) (s : ASt) : Option (Nat × Bool) → Prop → Prop → Prop
  | none, yes, _ => yes
  | some (j, want), yes, no => ∃ d b, ((ops[j]?).bind (·.dst)) = some d ∧ d < s.N ∧ gv (Slots.get s.sl d) want = some b ∧ if b = true then yes else no
theorem rep_undef {E : Env} : Rep E (.t []) undef := .t [] #[] rfl (fun i h => absurd h (by simp))
def aops (P : Program) (tab : Tab) (ops : Array Oper) (K : ASt → Prop) : List Oper → ASt → Prop
  | [], s => K s
  | o :: r, s => guardK ops s o.guard (aop P tab s (fun s => aops P tab ops K r s) o) (setK s (fun s => aops P tab ops K r s) o.dst (.t []) s.m)
theorem aops_sound {P : Program} {tab : Tab} (hT : TabOk P tab) {ops : Array Oper} {K : ASt → Prop} {Q : Exit → Act → World → Prop} {w0 : World} {D : List Deferred} {ro : Option Nat} :
    ∀ (l : List Oper) (E : Env) (s : ASt) (a : Act), St w0 E D s a → aops P tab ops K l s → (∀ E' s' a', St w0 E' D s' a' → Later E E' → K s' → Q .normal a' E'.w) → wpListIn (FF ro) 0 P ops Q l a E.w
  | [], E, s, a, h, hk, hn => hn E s a h (.refl E) hk
  | o :: r, E, s, a, h, hk, hn => by
    unfold wpListIn
    have hyes : aop P tab s (fun s => aops P tab ops K r s) o → o.wpIn (FF ro) 0 P a E.w (wpListIn (FF ro) 0 P ops Q r) Q := fun hk =>
      wpIn_of_wp (fun c e => by unfold aop at hk; rw [e] at hk; exact hk) (aop_sound hT h hk fun E' s' a' h1 h2 h3 => aops_sound hT r E' s' a' h1 h3 fun E2 s2 a2 g1 g2 g3 => hn E2 s2 a2 g1 (h2.trans g2) g3)
    have hno : setK s (fun s => aops P tab ops K r s) o.dst (.t []) s.m → (∀ f, o.about P E.w a.eval = some f → (FF ro).fn f) ∧ wpListIn (FF ro) 0 P ops Q r (a.put o.dst undef) E.w := fun hk => by
      obtain ⟨s', h3, h4⟩ := h.put (v := undef) h.g (.refl E) rep_undef hk
      exact ⟨fun _ _ => trivial, aops_sound hT r E s' _ h3 h4 hn⟩
    have hk' := hk
    unfold aops at hk'
    cases hgd : o.guard with
    | none =>
      rw [hgd] at hk'
      rw [if_pos (by simp [Region.wanted, hgd])]
      exact hyes hk'
    | some p =>
      obtain ⟨j, want⟩ := p
      rw [hgd] at hk'
      obtain ⟨d, b, h1, h2, h3, h4⟩ := hk'
      have hv := h.r d
      have hy : (yielded ops a.tmps j == some want) = b := by
        unfold yielded
        rw [h1]
        have hd : d < a.tmps.size := by rw [h.n]; exact h2
        have : a.tmps.getD d undef = a.tmps[d] := by simp [Array.getD, hd]
        rw [this] at hv
        simp only [Option.bind_some, Array.getElem?_eq_getElem hd]
        have := gv_wanted hv h3
        generalize a.tmps[d] = v at this ⊢
        cases v <;> exact this
      have hw : Region.wanted o (yielded ops a.tmps) = b := by simp only [Region.wanted, hgd]; exact hy
      cases b with
      | true =>
        simp only [if_true] at h4
        rw [if_pos hw]
        exact hyes h4
      | false =>
        simp only [Bool.false_eq_true, if_false] at h4
        rw [if_neg (by simp [hw])]
        exact hno h4

/-- A piece of code, by what it comes to. -/
def ACode (P : Program) (c : Code) (K : Exit → ASt → Prop) (s : ASt) : Prop :=
  ∀ ro w0 E D a, St w0 E D s a → c.wpIn (FF ro) 0 P (fun ex a' w' => ∃ E' s', E'.w = w' ∧ St w0 E' D s' a' ∧ Later E E' ∧ K ex s') a E.w

def thenK (next : ASt → Prop) (K : Exit → ASt → Prop) : Exit → ASt → Prop
  | .normal, s => next s
  | e, s => K e s
def blockK (id : Nat) (K : Exit → ASt → Prop) : Exit → ASt → Prop
  | .exit j, s => if j = id then K .normal s else K (.exit j) s
  | e, s => K e s
def condK : AV → Prop → Prop → Prop
  | .c (.bool b), yes, no => if b = true then yes else no
  | _, _, _ => False
/-- Code, walked. -/
def aw (P : Program) (tab : Tab) : Code → (Exit → ASt → Prop) → ASt → Prop
  | .skip, K, s => K .normal s
  | .label _, K, s => K .normal s
  | .ret, K, s => K .ret s
  | .exit id, K, s => K (.exit id) s
  | .goto l, K, s => K (.goto l) s
  | .region id ops draw, K, s => bif draw then ACode P (.region id ops true) K s else aops P tab ops (fun s => K .normal s) ops.toList s
  | .seq x' y, K, s => aw P tab x' (thenK (fun s => aw P tab y K s) K) s
  | .cond c x' y, K, s => condK (ev s.sl c) (aw P tab x' K s) (aw P tab y K s)
  | .block id c, K, s => aw P tab c (blockK id K) s
  | .loop c, K, s => ACode P (.loop c) K s
  | .rangeFunc f p x' y, K, s => ACode P (.rangeFunc f p x' y) K s
  | .scope c, K, s => ACode P (.scope c) K s
  | .refuse _, _, _ => False

theorem ACode.mono {P : Program} {c : Code} {K K' : Exit → ASt → Prop} {s : ASt} (h : ACode P c K s) (hk : ∀ e s, K e s → K' e s) : ACode P c K' s :=
  fun ro w0 E D a hs => Code.wpIn_mono (fun _ _ _ ⟨E', s', h1, h2, h3, h4⟩ => ⟨E', s', h1, h2, h3, hk _ _ h4⟩) (h ro w0 E D a hs)

theorem aw_sound {P : Program} {tab : Tab} (hT : TabOk P tab) : ∀ (c : Code) (K : Exit → ASt → Prop) (s : ASt), aw P tab c K s → ACode P c K s
  | .skip, K, s, h => fun ro w0 E D a hs => wpIn_skip ⟨E, s, rfl, hs, .refl E, h⟩
  | .label _, K, s, h => fun ro w0 E D a hs => wpIn_label ⟨E, s, rfl, hs, .refl E, h⟩
  | .ret, K, s, h => fun ro w0 E D a hs => wpIn_ret ⟨E, s, rfl, hs, .refl E, h⟩
  | .exit id, K, s, h => fun ro w0 E D a hs => wpIn_exit ⟨E, s, rfl, hs, .refl E, h⟩
  | .goto l, K, s, h => fun ro w0 E D a hs => wpIn_goto ⟨E, s, rfl, hs, .refl E, h⟩
  | .region id ops true, K, s, h => h
  | .region id ops false, K, s, h => fun ro w0 E D a hs => wpIn_region_list (aops_sound hT _ E s a hs h fun E' s' a' h1 h2 h3 => ⟨E', s', rfl, h1, h2, h3⟩)
  | .seq x' y, K, s, h => fun ro w0 E D a hs => by
    refine wpIn_seq (Code.wpIn_mono ?_ (aw_sound hT x' _ s h ro w0 E D a hs))
    rintro e a' w' ⟨E', s', rfl, h1, h2, h3⟩
    cases e with
    | normal => exact Code.wpIn_mono (fun _ _ _ ⟨E2, s2, g1, g2, g3, g4⟩ => ⟨E2, s2, g1, g2, h2.trans g3, g4⟩) (aw_sound hT y K s' h3 ro w0 E' D a' h1)
    | _ => exact ⟨E', s', rfl, h1, h2, h3⟩
  | .cond c x' y, K, s, h => fun ro w0 E D a hs => by
    have hc := rep_ev hs.r c
    simp only [aw] at h
    generalize ev s.sl c = ac at h hc
    generalize hv : a.eval c = v at hc
    cases hc <;> try exact h.elim
    cases v <;> try exact h.elim
    rename_i b
    refine wpIn_cond_split hv (fun hb => ?_) (fun hb => ?_)
    · subst hb
      exact aw_sound hT x' K s h ro w0 E D a hs
    · subst hb
      simp only [condK, Bool.false_eq_true, if_false] at h
      exact aw_sound hT y K s h ro w0 E D a hs
  | .block id c, K, s, h => fun ro w0 E D a hs => by
    refine wpIn_block (Code.wpIn_mono ?_ (aw_sound hT c _ s h ro w0 E D a hs))
    rintro e a' w' ⟨E', s', rfl, h1, h2, h3⟩
    cases e with
    | exit j =>
      simp only [Exit.inBlock]
      simp only [blockK] at h3
      split <;> rename_i hj
      · rw [if_pos hj] at h3; exact ⟨E', s', rfl, h1, h2, h3⟩
      · rw [if_neg hj] at h3; exact ⟨E', s', rfl, h1, h2, h3⟩
    | _ => exact ⟨E', s', rfl, h1, h2, h3⟩
  | .loop c, K, s, h => h
  | .rangeFunc f p x' y, K, s, h => h
  | .scope c, K, s, h => h
  | .refuse _, _, _, h => h.elim
end Go.Ab
