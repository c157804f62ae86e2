/- Scopes without jumps; regions whose order is drawn: what an operation looks at. -/
import Derived.Test.YtpjmbigfgoogaacAb20
import Derived.Orders
import Derived.Scope
set_option linter.unusedVariables false
set_option linter.constructorNameAsVariable false
set_option linter.unusedSimpArgs false
namespace Go.Ab
open Go Go.RowKit

def noGotoK (K : Exit → ASt → Prop) : Exit → ASt → Prop
  | .goto _, _ => False
  | e, s => K e s
theorem r_noGotoN {K : Exit → ASt → Prop} {s : ASt} : noGotoK K .normal s = K .normal s := rfl
theorem r_noGotoR {K : Exit → ASt → Prop} {s : ASt} : noGotoK K .ret s = K .ret s := rfl
theorem r_noGotoE {K : Exit → ASt → Prop} {s : ASt} {j : Nat} : noGotoK K (.exit j) s = K (.exit j) s := rfl
theorem stepR_scope' {P : Program} {b : Frame} {a : Act} {k : List Item} {cs : List Frame} {w : World} {c : Code} : step P (lone (b.atR a (.code (.scope c) :: k)) cs w) = .next (lone (b.atR a (.code c :: .inScope c :: k)) cs w) :=
  step_lone_go (by simp [stepG, stepG.exec, Frame.atR])
theorem stepR_inScope' {P : Program} {b : Frame} {a : Act} {k : List Item} {cs : List Frame} {w : World} {c : Code} : step P (lone (b.atR a (.inScope c :: k)) cs w) = .next (lone (b.atR a k) cs w) :=
  step_lone_go (by simp [stepG, stepG.exec, Frame.atR])
theorem wpIn_scope_straight {F : Fence} {n : Nat} {P : Program} {Q : Exit → Act → World → Prop} {a : Act} {w : World} {c : Code} (h : c.wpIn F n P (Exit.noGoto Q) a w) : (Code.scope c).wpIn F n P Q a w := by
  intro b k cs hro hb hr
  have h0 : (lone (b.atR a (.code (.scope c) :: k)) cs w).fenced P F := fenced_calm hb hr rfl
  obtain ⟨e, a₁, w₁, hq, harr⟩ := h b (.inScope c :: k) cs hro hb hr
  cases e with
  | normal => exact ⟨.normal, a₁, w₁, hq, .head h0 stepR_scope' (StepsIn.trans harr (.one (fenced_calm hb hr rfl) stepR_inScope'))⟩
  | exit id =>
    have hx : exitTo id (.inScope c :: k) = exitTo id k := by simp [exitTo]
    exact ⟨.exit id, a₁, w₁, hq, fun k' hk => .head h0 stepR_scope' (harr.1 k' (by rw [hx]; exact hk)),
      fun hr' hk => let ⟨k₁, h1, h2⟩ := harr.2 hr' (by rw [hx]; exact hk); ⟨k₁, h1, .head h0 stepR_scope' h2⟩⟩
  | goto l => exact hq.elim
  | ret => exact ⟨_, a₁, w₁, hq, .of_steps (.one h0 stepR_scope') harr⟩
  | panic ch => exact ⟨_, a₁, w₁, hq, .of_steps (.one h0 stepR_scope') harr⟩
  | outgrown => exact ⟨_, a₁, w₁, hq, .of_steps (.one h0 stepR_scope') harr⟩
/-- A scope in which nothing jumps. -/
theorem scope_rule {P : Program} {tab : Tab} (hT : TabOk P tab) {c : Code} {K : Exit → ASt → Prop} {s : ASt} (h : aw P tab c (noGotoK K) s) : ACode P (.scope c) K s := fun ro w0 E D a hs => by
  refine wpIn_scope_straight (Code.wpIn_mono ?_ (aw_sound hT c _ s h ro w0 E D a hs))
  rintro e a' w' ⟨E', s', h1, h2, h3, h4⟩
  cases e <;> first | exact ⟨E', s', h1, h2, h3, h4⟩ | exact h4.elim

theorem opK_ev {P : Program} {tab : Tab} {sl sl' : Slots} {M : Mem} {N N' : Nat} {K : AV → Mem → Prop} {op : Op} (h : ∀ x ∈ op.operands, ev sl x = ev sl' x) :
    opK P tab ⟨sl, M, N⟩ K op = opK P tab ⟨sl', M, N'⟩ K op := by
  have hmap : ∀ ps : Array (Nat × Operand), (∀ x ∈ ps.toList.map (·.2), ev sl x = ev sl' x) → (ps.toList.map fun p => (p.1, ev sl p.2)) = ps.toList.map fun p => (p.1, ev sl' p.2) := fun ps hp =>
    List.map_congr_left fun p hm => by rw [hp p.2 (List.mem_map.2 ⟨p, hm, rfl⟩)]
  have harr : ∀ ps : Array Operand, (∀ x ∈ ps, ev sl x = ev sl' x) → (ps.toList.map fun o => ev sl o) = ps.toList.map fun o => ev sl' o := fun ps hp =>
    List.map_congr_left fun p hm => hp p (by simpa using hm)
  cases op <;> simp only [Op.operands] at h <;> try rfl
  case build T ps => simp only [opK, hmap ps fun x hx => h x (by simpa using hx)]
  case buildSlice T n ps => simp only [opK, hmap ps fun x hx => h x (by simpa using hx)]
  case makeFunc fn first caps =>
    cases fn <;> try rfl
    simp only [opK, harr caps fun x hx => h x (by simp [hx])]
  case slice T x lo hi mx =>
    have hx := h x (by simp)
    have hl : lo.map (fun o => ev sl o) = lo.map fun o => ev sl' o := by
      cases lo with
      | none => rfl
      | some o => simp only [Option.map_some]; rw [h o (by simp)]
    have hh : hi.map (fun o => ev sl o) = hi.map fun o => ev sl' o := by
      cases hi with
      | none => rfl
      | some o => simp only [Option.map_some]; rw [h o (by simp)]
    have hm : mx.map (fun o => ev sl o) = mx.map fun o => ev sl' o := by
      cases mx with
      | none => rfl
      | some o => simp only [Option.map_some]; rw [h o (by simp)]
    simp only [opK, hx, hl, hh, hm]
  case call c =>
    obtain ⟨callee, as, ts⟩ := c
    simp only [Call.operands] at h
    have ha := harr as fun x hx => h x (by simp [hx])
    cases callee with
    | value f => simp only [opK, ha, h f (by simp)]
    | invoke r m => rfl
    | builtin b => simp only [opK, ha]
  all_goals
    simp only [List.mem_toArray, List.mem_cons, List.not_mem_nil, or_false, forall_eq_or_imp, forall_eq] at h
    simp only [opK, h]
end Go.Ab
