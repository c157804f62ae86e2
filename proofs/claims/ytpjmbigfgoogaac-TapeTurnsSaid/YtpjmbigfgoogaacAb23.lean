/- Regions whose order is drawn: walked. -/
import Derived.Test.YtpjmbigfgoogaacAb22
set_option linter.constructorNameAsVariable false
set_option linter.unusedSimpArgs false
set_option linter.unusedVariables false
namespace Go.Ab
open Go Go.RowKit

def mem0 : Mem := ⟨[], 0⟩
def NoNil : AV → Prop
  | .c (.slice _ _ _) => False
  | _ => True
def freeOk (sl : Slots) : Op → Prop
  | .move _ => True
  | .assign _ => True
  | .pick _ _ _ => True
  | .unOp _ _ _ => True
  | .extract _ _ => True
  | .convert _ _ _ => True
  | .slice _ _ _ _ _ => True
  | .field _ _ _ => True
  | .load _ _ => True
  | .indexAddr _ _ _ => True
  | .fieldAddr _ _ _ => True
  | .nilCheck _ => True
  | .binOp _ _ _ y _ => NoNil (ev sl y)
  | .call c => match c.callee with
    | .builtin .len => True
    | .builtin .max => True
    | .builtin .min => True
    | _ => False
  | _ => False

theorem blk0 {id n : Nat} {K : Blk → Prop} (h : blkK mem0 id n K) : False := by
  obtain ⟨b, h, _⟩ := h
  cases h
section
variable {K : AV → Mem → Prop} {K1 : AV → Prop}
theorem pick_pin {a b c : AV} (h : pickK c a b K1) : ∃ r, K1 r ∧ pickK c a b (· = r) := by
  unfold pickK at h
  split at h
  · split at h
    · exact ⟨_, h, by simp [pickK, *]⟩
    · exact ⟨_, h, by simp [pickK, *]⟩
  · exact h.elim
theorem un_pin {op : UnOp} {a : AV} (h : unK op a K1) : ∃ r, K1 r ∧ unK op a (· = r) := by
  unfold unK at h
  split at h <;> (try split at h) <;> first | exact ⟨_, h, rfl⟩ | exact h.elim
theorem extract_pin {i : Nat} {a : AV} (h : extractK i a K1) : ∃ r, K1 r ∧ extractK i a (· = r) := by
  unfold extractK at h
  split at h
  · obtain ⟨hi, h⟩ := h; exact ⟨_, h, hi, rfl⟩
  · exact h.elim
theorem len_pin {k : TK} {a : AV} (h : lenK k a K1) : ∃ r, K1 r ∧ lenK k a (· = r) := by
  unfold lenK at h
  split at h <;> first | exact ⟨_, h, rfl⟩ | exact h.elim
theorem max_pin {a b : AV} (h : maxK a b K1) : ∃ r, K1 r ∧ maxK a b (· = r) := by
  unfold maxK at h
  split at h <;> first | exact ⟨_, h, rfl⟩ | exact h.elim
theorem min_pin {a b : AV} (h : minK a b K1) : ∃ r, K1 r ∧ minK a b (· = r) := by
  unfold minK at h
  split at h <;> first | exact ⟨_, h, rfl⟩ | exact h.elim
theorem nilCheck_pin {a : AV} (h : nilCheckK a K1) : ∃ r, K1 r ∧ nilCheckK a (· = r) := by
  unfold nilCheckK at h
  split at h <;> first | exact ⟨_, h, rfl⟩ | exact h.elim
theorem fieldV_pin {fs : List (Nat × TypeId)} {ti : TI} {f : Nat} {a : AV} (h : fieldVK fs ti f a K1) : ∃ r, K1 r ∧ fieldVK fs ti f a (· = r) := by
  unfold fieldVK at h
  split at h
  · obtain ⟨h1, h2, h3⟩ := h; exact ⟨_, h3, h1, h2, rfl⟩
  · exact h.elim
theorem bin_pin {P : Program} {op : BinOp} {t : TypeId} {k : TK} {a b : AV} (hn : NoNil b) (h : binK P op t k mem0 a b K) : ∃ r, K r mem0 ∧ ∀ M0, binK P op t k M0 a b fun x M2 => x = r ∧ M2 = M0 := by
  unfold binK at h
  split at h
  · exact ⟨_, h.2, fun _ => ⟨h.1, rfl, rfl⟩⟩
  · cases op <;> simp only [strBinK] at h <;> first | exact h.elim | exact ⟨_, h, fun _ => ⟨rfl, rfl⟩⟩ | exact ⟨_, h.2, fun _ => ⟨h.1, rfl, rfl⟩⟩
  · cases op <;> cases k <;> simp only [boolBinK] at h <;> first | exact h.elim | exact ⟨_, h, fun _ => ⟨rfl, rfl⟩⟩
  · exact hn.elim
  · exact hn.elim
  · exact hn.elim
  · cases op <;> simp only [aggBinK] at h <;> first | exact h.elim | (obtain ⟨b, h1, h2⟩ := h; exact ⟨_, h2, fun _ => ⟨b, h1, rfl, rfl⟩⟩)
  · exact h.elim
theorem src_pin {sz : Nat} {a : AV} {K2 : List AV → Prop} (h : srcK sz mem0 a K2) : ∃ r, K2 r ∧ ∀ M0, srcK sz M0 a (· = r) := by
  unfold srcK at h
  split at h
  · exact ⟨_, h.2, fun _ => ⟨h.1, rfl⟩⟩
  · exact (blk0 h).elim
  · exact ⟨_, h, fun _ => rfl⟩
  · exact ⟨_, h.2, fun _ => ⟨h.1, rfl⟩⟩
  · exact h.elim
theorem srcK_mono {sz : Nat} {M : Mem} {a : AV} {K1 K2 : List AV → Prop} (h : srcK sz M a K1) (hk : ∀ l, K1 l → K2 l) : srcK sz M a K2 := by
  unfold srcK at h ⊢
  split at h
  · exact ⟨h.1, hk _ h.2⟩
  · obtain ⟨b, h1, h2, h3, h4⟩ := h; exact ⟨b, h1, h2, h3, hk _ h4⟩
  · exact hk _ h
  · exact ⟨h.1, hk _ h.2⟩
  · exact h.elim
theorem conv_pin {ks kd : TK} {tab : Tab} {a : AV} (h : convK ks kd tab mem0 a K) : ∃ r, K r mem0 ∧ ∀ M0, convK ks kd tab M0 a fun z M2 => z = r ∧ M2 = M0 := by
  unfold convK at h
  split at h
  · cases kd <;> simp only [intConvK] at h <;> first | exact h.elim | exact ⟨_, h, fun _ => ⟨rfl, rfl⟩⟩
  · cases ks <;> cases kd <;> simp only [strConvK] at h <;> first | exact h.elim | exact ⟨_, h, fun _ => ⟨rfl, rfl⟩⟩ | exact ⟨_, h.2, fun _ => ⟨h.1, rfl, rfl⟩⟩
  · rename_i hn1 hn2
    have hk : ∀ M (K : AV → Mem → Prop), convK ks kd tab M a K = bytesStrK tab M a K ks kd := fun M K => by
      unfold convK
      split
      · exact absurd rfl (hn1 _ _)
      · exact absurd rfl (hn2 _)
      · rfl
    cases ks <;> cases kd <;> simp only [bytesStrK] at h <;> try exact h.elim
    obtain ⟨h1, h2⟩ := h
    obtain ⟨l, ⟨g1, g2⟩, g3⟩ := src_pin h2
    refine ⟨_, g2, fun M0 => ?_⟩
    rw [hk]
    exact ⟨h1, srcK_mono (g3 M0) fun l' e => by subst e; exact ⟨g1, rfl, rfl⟩⟩
theorem cv_pin {same : Bool} {ks kd : TK} {tab : Tab} {a : AV} (h : cvK same ks kd tab mem0 a K) : ∃ r, K r mem0 ∧ ∀ M0, cvK same ks kd tab M0 a fun z M2 => z = r ∧ M2 = M0 := by
  unfold cvK at h
  cases hl : litC same ks a with
  | false =>
    rw [hl] at h
    obtain ⟨r, h1, h2⟩ := conv_pin h
    exact ⟨r, h1, fun M0 => by unfold cvK; rw [hl]; exact h2 M0⟩
  | true =>
    rw [hl] at h
    simp only [cond_true] at h
    unfold constK at h
    split at h
    · exact (blk0 h.2.2.2).elim
    · exact h.elim
theorem bnds_pin {n : Nat} {lo hi mx : Option AV} {K2 : Nat → Nat → Prop} (h : bnds n lo hi mx K2) : ∃ l r, K2 l r ∧ bnds n lo hi mx fun l' r' => l' = l ∧ r' = r := by
  have hb : ∀ d o (K : Int → Prop), bnd d o K → ∃ i, K i ∧ ∀ K' : Int → Prop, K' i → bnd d o K' := fun d o K h => by
    unfold bnd at h
    split at h
    · exact ⟨_, h, fun _ h => h⟩
    · exact ⟨_, h, fun _ h => h⟩
    · exact h.elim
  obtain ⟨l, h1, g1⟩ := hb _ _ _ h
  obtain ⟨r, h2, g2⟩ := hb _ _ _ h1
  obtain ⟨m, h3, g3⟩ := hb _ _ _ h2
  obtain ⟨k1, k2, k3, k4, k5, k6⟩ := h3
  exact ⟨_, _, k6, g1 _ (g2 _ (g3 _ ⟨k1, k2, k3, k4, k5, rfl, rfl⟩))⟩
theorem bnds_mono {n : Nat} {lo hi mx : Option AV} {K1 K2 : Nat → Nat → Prop} (h : bnds n lo hi mx K1) (hk : ∀ l r, K1 l r → K2 l r) : bnds n lo hi mx K2 := by
  have hb : ∀ d o (K K' : Int → Prop), bnd d o K → (∀ i, K i → K' i) → bnd d o K' := fun d o K K' h hk => by
    unfold bnd at h ⊢
    split at h
    · exact hk _ h
    · exact hk _ h
    · exact h.elim
  refine hb _ _ _ _ h fun l h => hb _ _ _ _ h fun r h => hb _ _ _ _ h fun m ⟨k1, k2, k3, k4, k5, k6⟩ => ⟨k1, k2, k3, k4, k5, hk _ _ k6⟩
theorem cut_pin {k : TK} {tab : Tab} {lo hi mx : Option AV} {a : AV} (h : cutK k tab mem0 lo hi mx a K) : ∃ r, K r mem0 ∧ ∀ M0, cutK k tab M0 lo hi mx a fun z M2 => z = r ∧ M2 = M0 := by
  unfold cutK at h
  split at h
  · split at h
    · obtain ⟨ti, _, h⟩ := h; exact (blk0 h).elim
    · exact h.elim
  · split at h
    · obtain ⟨ti, h1, h2, h3⟩ := h
      obtain ⟨l, r, h4, h5⟩ := bnds_pin h3
      exact ⟨_, h4, fun M0 => ⟨ti, h1, h2, bnds_mono h5 fun l' r' ⟨e1, e2⟩ => by subst e1 e2; exact ⟨rfl, rfl⟩⟩⟩
    · exact h.elim
  · split at h
    · obtain ⟨ti, h1, h3⟩ := h
      obtain ⟨l, r, h4, h5⟩ := bnds_pin h3
      exact ⟨_, h4, fun M0 => ⟨ti, h1, bnds_mono h5 fun l' r' ⟨e1, e2⟩ => ⟨rfl, rfl⟩⟩⟩
    · exact h.elim
  · split at h
    · obtain ⟨h1, h3⟩ := h
      obtain ⟨l, r, h4, h5⟩ := bnds_pin h3
      exact ⟨_, h4, fun M0 => ⟨h1, bnds_mono h5 fun l' r' ⟨e1, e2⟩ => by subst e1 e2; exact ⟨rfl, rfl⟩⟩⟩
    · exact h.elim
  · exact h.elim
theorem load_pin {ti : TI} {a : AV} (h : loadK ti mem0 a K) : ∃ r, K r mem0 ∧ ∀ M0, loadK ti M0 a fun z M2 => z = r ∧ M2 = M0 := by
  unfold loadK at h
  split at h
  · exact (blk0 h).elim
  · exact ⟨_, h.2.2, fun _ => ⟨h.1, h.2.1, rfl, rfl⟩⟩
  · exact h.elim
theorem field_pin {fs : List (Nat × TypeId)} {ti : TI} {f : Nat} {a : AV} (h : fieldK fs ti f mem0 a K) : ∃ r, K r mem0 ∧ ∀ M0, fieldK fs ti f M0 a fun z M2 => z = r ∧ M2 = M0 := by
  unfold fieldK at h
  split at h
  · exact ⟨_, h.2, fun _ => ⟨h.1, rfl, rfl⟩⟩
  · exact ⟨_, h.2.2, fun _ => ⟨h.1, h.2.1, rfl, rfl⟩⟩
  · exact h.elim
theorem idx_pin {sz : Nat} {a b : AV} (h : idxK sz mem0 a b K) : ∃ r, K r mem0 ∧ ∀ M0, idxK sz M0 a b fun z M2 => z = r ∧ M2 = M0 := by
  unfold idxK at h
  split at h
  · exact (blk0 h.2).elim
  · obtain ⟨h1, h2, h3, h4, h5⟩ := h; exact ⟨_, h5, fun _ => ⟨h1, h2, h3, h4, rfl, rfl⟩⟩
  · exact h.elim
end

theorem free_pin {P : Program} {tab : Tab} {sl : Slots} {N : Nat} {K : AV → Mem → Prop} {op : Op} (hf : freeOk sl op) (h : opK P tab ⟨sl, mem0, N⟩ K op) :
    ∃ r, K r mem0 ∧ ∀ M0, opK P tab ⟨sl, M0, N⟩ (fun a M2 => a = r ∧ M2 = M0) op := by
  cases op <;> try exact hf.elim
  case move z => exact ⟨_, h, fun _ => ⟨rfl, rfl⟩⟩
  case assign z => exact ⟨_, h, fun _ => ⟨rfl, rfl⟩⟩
  case pick c a b =>
    obtain ⟨r, h1, h2⟩ := pick_pin h
    refine ⟨r, h1, fun M0 => ?_⟩
    simp only [opK, and_true]; exact h2
  case unOp op T z =>
    obtain ⟨r, h1, h2⟩ := un_pin h
    refine ⟨r, h1, fun M0 => ?_⟩
    simp only [opK, and_true]; exact h2
  case extract z i =>
    obtain ⟨r, h1, h2⟩ := extract_pin h
    refine ⟨r, h1, fun M0 => ?_⟩
    simp only [opK, and_true]; exact h2
  case nilCheck z =>
    obtain ⟨r, h1, h2⟩ := nilCheck_pin h
    refine ⟨r, h1, fun M0 => ?_⟩
    simp only [opK, and_true]; exact h2
  case field S z f =>
    obtain ⟨tS, k1, fs, k2, k3, ti, k4, k5, k6⟩ := h
    obtain ⟨r, h1, h2⟩ := fieldV_pin k6
    refine ⟨r, h1, fun M0 => ⟨tS, k1, fs, k2, k3, ti, k4, k5, ?_⟩⟩
    simp only [and_true]; exact h2
  case binOp op T z y yT =>
    obtain ⟨ti, k1, k2⟩ := h
    obtain ⟨r, h1, h2⟩ := bin_pin hf k2
    exact ⟨r, h1, fun M0 => ⟨ti, k1, h2 M0⟩⟩
  case convert a b z =>
    obtain ⟨ta, k1, tb, k2, k3, k4⟩ := h
    obtain ⟨r, h1, h2⟩ := cv_pin k4
    exact ⟨r, h1, fun M0 => ⟨ta, k1, tb, k2, k3, h2 M0⟩⟩
  case slice T z lo hi mx =>
    obtain ⟨ti, k1, k2⟩ := h
    obtain ⟨r, h1, h2⟩ := cut_pin k2
    exact ⟨r, h1, fun M0 => ⟨ti, k1, h2 M0⟩⟩
  case load T z =>
    obtain ⟨ti, k1, k2, k3⟩ := h
    obtain ⟨r, h1, h2⟩ := load_pin k3
    exact ⟨r, h1, fun M0 => ⟨ti, k1, k2, h2 M0⟩⟩
  case fieldAddr S z f =>
    obtain ⟨tS, k1, fs, k2, k3, ti, k4, k5⟩ := h
    obtain ⟨r, h1, h2⟩ := field_pin k5
    exact ⟨r, h1, fun M0 => ⟨tS, k1, fs, k2, k3, ti, k4, h2 M0⟩⟩
  case indexAddr T z i =>
    obtain ⟨tt, k1, e, k2, ti, k3, k4⟩ := h
    obtain ⟨r, h1, h2⟩ := idx_pin k4
    exact ⟨r, h1, fun M0 => ⟨tt, k1, e, k2, ti, k3, h2 M0⟩⟩
  case call c =>
    obtain ⟨callee, ⟨as⟩, ⟨ts⟩⟩ := c
    cases callee <;> try exact hf.elim
    rename_i b
    cases b <;> try exact hf.elim
    all_goals simp only [opK] at h
    case len =>
      match ts, as, h with
      | [t], [a], h =>
        obtain ⟨ti, k1, k2⟩ := h
        obtain ⟨r, h1, h2⟩ := len_pin k2
        refine ⟨r, h1, fun M0 => ⟨ti, k1, ?_⟩⟩
        simp only [and_true]; exact h2
    case max =>
      match as, h with
      | [a, b], h =>
        have hh : maxK (ev sl a) (ev sl b) (fun a => K a mem0) := by cases ts with | nil => exact h | cons _ ts => cases ts <;> exact h
        obtain ⟨r, h1, h2⟩ := max_pin hh
        refine ⟨r, h1, fun M0 => ?_⟩
        have : maxK (ev sl a) (ev sl b) (fun a => a = r ∧ M0 = M0) := by simp only [and_true]; exact h2
        cases ts with | nil => exact this | cons _ ts => cases ts <;> exact this
    case min =>
      match as, h with
      | [a, b], h =>
        have hh : minK (ev sl a) (ev sl b) (fun a => K a mem0) := by cases ts with | nil => exact h | cons _ ts => cases ts <;> exact h
        obtain ⟨r, h1, h2⟩ := min_pin hh
        refine ⟨r, h1, fun M0 => ?_⟩
        have : minK (ev sl a) (ev sl b) (fun a => a = r ∧ M0 = M0) := by simp only [and_true]; exact h2
        cases ts with | nil => exact this | cons _ ts => cases ts <;> exact this

def notOwn : AV → Prop
  | .s _ _ _ => False
  | _ => True
def readOk (sl : Slots) (op : Op) : Prop := freeOk sl op ∧ match op with
  | .slice _ z _ hi _ => notOwn (ev sl z) ∨ hi.isNone = true
  | .convert a b z => Nat.beq a b = false ∨ notOwn (ev sl z)
  | _ => True
section
variable {K : AV → Mem → Prop} {M : Mem}
theorem bin_pinM {P : Program} {op : BinOp} {t : TypeId} {k : TK} {a b : AV} (hn : NoNil b) (h : binK P op t k M a b K) : ∃ r, K r M ∧ binK P op t k M a b fun x M2 => x = r ∧ M2 = M := by
  unfold binK at h
  split at h
  · exact ⟨_, h.2, h.1, rfl, rfl⟩
  · cases op <;> simp only [strBinK] at h <;> first | exact h.elim | exact ⟨_, h, rfl, rfl⟩ | exact ⟨_, h.2, h.1, rfl, rfl⟩
  · cases op <;> cases k <;> simp only [boolBinK] at h <;> first | exact h.elim | exact ⟨_, h, rfl, rfl⟩
  · exact hn.elim
  · exact hn.elim
  · exact hn.elim
  · cases op <;> simp only [aggBinK] at h <;> first | exact h.elim | (obtain ⟨b, h1, h2⟩ := h; exact ⟨_, h2, b, h1, rfl, rfl⟩)
  · exact h.elim
theorem src_pinM {sz : Nat} {a : AV} {K2 : List AV → Prop} (h : srcK sz M a K2) : ∃ r, K2 r ∧ srcK sz M a (· = r) := by
  unfold srcK at h
  split at h
  · exact ⟨_, h.2, h.1, rfl⟩
  · obtain ⟨b, h1, h2, h3, h4⟩ := h; exact ⟨_, h4, b, h1, h2, h3, rfl⟩
  · exact ⟨_, h, rfl⟩
  · exact ⟨_, h.2, h.1, rfl⟩
  · exact h.elim
theorem conv_pinM {ks kd : TK} {tab : Tab} {a : AV} (h : convK ks kd tab M a K) : ∃ r, K r M ∧ convK ks kd tab M a fun z M2 => z = r ∧ M2 = M := by
  unfold convK at h
  split at h
  · cases kd <;> simp only [intConvK] at h <;> first | exact h.elim | exact ⟨_, h, rfl, rfl⟩
  · cases ks <;> cases kd <;> simp only [strConvK] at h <;> first | exact h.elim | exact ⟨_, h, rfl, rfl⟩ | exact ⟨_, h.2, h.1, rfl, rfl⟩
  · rename_i hn1 hn2
    have hk : ∀ (K : AV → Mem → Prop), convK ks kd tab M a K = bytesStrK tab M a K ks kd := fun K => by
      unfold convK
      split
      · exact absurd rfl (hn1 _ _)
      · exact absurd rfl (hn2 _)
      · rfl
    cases ks <;> cases kd <;> simp only [bytesStrK] at h <;> try exact h.elim
    obtain ⟨h1, h2⟩ := h
    obtain ⟨l, ⟨g1, g2⟩, g3⟩ := src_pinM h2
    refine ⟨_, g2, ?_⟩
    rw [hk]
    exact ⟨h1, srcK_mono g3 fun l' e => by subst e; exact ⟨g1, rfl, rfl⟩⟩
theorem cv_pinM {a b : TypeId} {ks kd : TK} {tab : Tab} {z : AV} (hr : Nat.beq a b = false ∨ notOwn z) (h : cvK (Nat.beq a b) ks kd tab M z K) : ∃ r, K r M ∧ cvK (Nat.beq a b) ks kd tab M z fun z M2 => z = r ∧ M2 = M := by
  have hl : litC (Nat.beq a b) ks z = false := by
    cases ks <;> cases z <;> try rfl
    rcases hr with hr | hr
    · exact hr
    · exact hr.elim
  unfold cvK at h ⊢
  rw [hl] at h ⊢
  exact conv_pinM h
theorem cut_pinM {k : TK} {tab : Tab} {lo hi mx : Option AV} {a : AV} (hn : notOwn a ∨ hi.isNone = true) (h : cutK k tab M lo hi mx a K) : ∃ r, K r M ∧ cutK k tab M lo hi mx a fun z M2 => z = r ∧ M2 = M := by
  unfold cutK at h
  split at h
  · split at h
    · obtain ⟨ti, h1, b, g1, g2, g3, h3⟩ := h
      rcases hn with hn | hn
      · exact hn.elim
      · rw [hn] at h3
        obtain ⟨l, r, h4, h5⟩ := bnds_pin h3
        simp only [if_true] at h4
        refine ⟨_, h4, ti, h1, b, g1, g2, g3, bnds_mono h5 fun l' r' ⟨e1, e2⟩ => ?_⟩
        subst e1 e2
        rw [hn]; exact ⟨rfl, rfl⟩
    · exact h.elim
  · split at h
    · obtain ⟨ti, h1, h2, h3⟩ := h
      obtain ⟨l, r, h4, h5⟩ := bnds_pin h3
      exact ⟨_, h4, ti, h1, h2, bnds_mono h5 fun l' r' ⟨e1, e2⟩ => by subst e1 e2; exact ⟨rfl, rfl⟩⟩
    · exact h.elim
  · split at h
    · obtain ⟨ti, h1, h3⟩ := h
      obtain ⟨l, r, h4, h5⟩ := bnds_pin h3
      exact ⟨_, h4, ti, h1, bnds_mono h5 fun l' r' ⟨e1, e2⟩ => ⟨rfl, rfl⟩⟩
    · exact h.elim
  · split at h
    · obtain ⟨h1, h3⟩ := h
      obtain ⟨l, r, h4, h5⟩ := bnds_pin h3
      exact ⟨_, h4, h1, bnds_mono h5 fun l' r' ⟨e1, e2⟩ => by subst e1 e2; exact ⟨rfl, rfl⟩⟩
    · exact h.elim
  · exact h.elim
theorem load_pinM {ti : TI} {a : AV} (h : loadK ti M a K) : ∃ r, K r M ∧ loadK ti M a fun z M2 => z = r ∧ M2 = M := by
  unfold loadK at h
  split at h
  · obtain ⟨b, h1, h2, h3, h4, hi, h5⟩ := h; exact ⟨_, h5, b, h1, h2, h3, h4, hi, rfl, rfl⟩
  · exact ⟨_, h.2.2, h.1, h.2.1, rfl, rfl⟩
  · exact h.elim
theorem field_pinM {fs : List (Nat × TypeId)} {ti : TI} {f : Nat} {a : AV} (h : fieldK fs ti f M a K) : ∃ r, K r M ∧ fieldK fs ti f M a fun z M2 => z = r ∧ M2 = M := by
  unfold fieldK at h
  split at h
  · exact ⟨_, h.2, h.1, rfl, rfl⟩
  · exact ⟨_, h.2.2, h.1, h.2.1, rfl, rfl⟩
  · exact h.elim
theorem idx_pinM {sz : Nat} {a b : AV} (h : idxK sz M a b K) : ∃ r, K r M ∧ idxK sz M a b fun z M2 => z = r ∧ M2 = M := by
  unfold idxK at h
  split at h
  · obtain ⟨h0, b, h1, h2, h3, h4⟩ := h; exact ⟨_, h4, h0, b, h1, h2, h3, rfl, rfl⟩
  · obtain ⟨h1, h2, h3, h4, h5⟩ := h; exact ⟨_, h5, h1, h2, h3, h4, rfl, rfl⟩
  · exact h.elim
end

theorem read_pin {P : Program} {tab : Tab} {sl : Slots} {M : Mem} {N : Nat} {K : AV → Mem → Prop} {op : Op} (hr : readOk sl op) (h : opK P tab ⟨sl, M, N⟩ K op) :
    ∃ r, K r M ∧ opK P tab ⟨sl, M, N⟩ (fun a M2 => a = r ∧ M2 = M) op := by
  obtain ⟨hf, hr⟩ := hr
  cases op <;> try exact hf.elim
  case move z => exact ⟨_, h, rfl, rfl⟩
  case assign z => exact ⟨_, h, rfl, rfl⟩
  case pick c a b =>
    obtain ⟨r, h1, h2⟩ := pick_pin h
    refine ⟨r, h1, ?_⟩
    simp only [opK, and_true]; exact h2
  case unOp op T z =>
    obtain ⟨r, h1, h2⟩ := un_pin h
    refine ⟨r, h1, ?_⟩
    simp only [opK, and_true]; exact h2
  case extract z i =>
    obtain ⟨r, h1, h2⟩ := extract_pin h
    refine ⟨r, h1, ?_⟩
    simp only [opK, and_true]; exact h2
  case nilCheck z =>
    obtain ⟨r, h1, h2⟩ := nilCheck_pin h
    refine ⟨r, h1, ?_⟩
    simp only [opK, and_true]; exact h2
  case field S z f =>
    obtain ⟨tS, k1, fs, k2, k3, ti, k4, k5, k6⟩ := h
    obtain ⟨r, h1, h2⟩ := fieldV_pin k6
    refine ⟨r, h1, tS, k1, fs, k2, k3, ti, k4, k5, ?_⟩
    simp only [and_true]; exact h2
  case binOp op T z y yT =>
    obtain ⟨ti, k1, k2⟩ := h
    obtain ⟨r, h1, h2⟩ := bin_pinM hf k2
    exact ⟨r, h1, ti, k1, h2⟩
  case convert a b z =>
    obtain ⟨ta, k1, tb, k2, k3, k4⟩ := h
    obtain ⟨r, h1, h2⟩ := cv_pinM hr k4
    exact ⟨r, h1, ta, k1, tb, k2, k3, h2⟩
  case slice T z lo hi mx =>
    obtain ⟨ti, k1, k2⟩ := h
    obtain ⟨r, h1, h2⟩ := cut_pinM (Or.imp_right (fun h => by simpa using h) hr) k2
    exact ⟨r, h1, ti, k1, h2⟩
  case load T z =>
    obtain ⟨ti, k1, k2, k3⟩ := h
    obtain ⟨r, h1, h2⟩ := load_pinM k3
    exact ⟨r, h1, ti, k1, k2, h2⟩
  case fieldAddr S z f =>
    obtain ⟨tS, k1, fs, k2, k3, ti, k4, k5⟩ := h
    obtain ⟨r, h1, h2⟩ := field_pinM k5
    exact ⟨r, h1, tS, k1, fs, k2, k3, ti, k4, h2⟩
  case indexAddr T z i =>
    obtain ⟨tt, k1, e, k2, ti, k3, k4⟩ := h
    obtain ⟨r, h1, h2⟩ := idx_pinM k4
    exact ⟨r, h1, tt, k1, e, k2, ti, k3, h2⟩
  case call c =>
    obtain ⟨callee, ⟨as⟩, ⟨ts⟩⟩ := c
    cases callee <;> try exact hf.elim
    rename_i b
    cases b <;> try exact hf.elim
    all_goals simp only [opK] at h
    case len =>
      match ts, as, h with
      | [t], [a], h =>
        obtain ⟨ti, k1, k2⟩ := h
        obtain ⟨r, h1, h2⟩ := len_pin k2
        refine ⟨r, h1, ti, k1, ?_⟩
        simp only [and_true]; exact h2
    case max =>
      match as, h with
      | [a, b], h =>
        have hh : maxK (ev sl a) (ev sl b) (fun a => K a M) := by cases ts with | nil => exact h | cons _ ts => cases ts <;> exact h
        obtain ⟨r, h1, h2⟩ := max_pin hh
        refine ⟨r, h1, ?_⟩
        have : maxK (ev sl a) (ev sl b) (fun a => a = r ∧ M = M) := by simp only [and_true]; exact h2
        cases ts with | nil => exact this | cons _ ts => cases ts <;> exact this
    case min =>
      match as, h with
      | [a, b], h =>
        have hh : minK (ev sl a) (ev sl b) (fun a => K a M) := by cases ts with | nil => exact h | cons _ ts => cases ts <;> exact h
        obtain ⟨r, h1, h2⟩ := min_pin hh
        refine ⟨r, h1, ?_⟩
        have : minK (ev sl a) (ev sl b) (fun a => a = r ∧ M = M) := by simp only [and_true]; exact h2
        cases ts with | nil => exact this | cons _ ts => cases ts <;> exact this

theorem viewC_none {M M0 : Mem} {a : AV} (h : idsC a = []) : viewC M a = viewC M0 a := by
  cases a <;> first | rfl | (simp [idsC] at h)
theorem vokC_none {M M0 : Mem} {a : AV} (h : idsC a = []) (hv : VOkC M a) : VOkC M0 a := by
  cases a <;> first | exact hv | (simp [idsC] at h)
theorem viewA_none {M M0 : Mem} {a : AV} (h : idsA a = []) : viewA M a = viewA M0 a := by
  cases a with
  | g cs =>
    simp only [viewA, AV.g.injEq]
    refine List.map_congr_left fun c hc => viewC_none ?_
    simp only [idsA, List.flatMap_eq_nil_iff] at h
    exact h c hc
  | _ =>
    simp only [viewA]
    exact viewC_none (by simpa only [idsA] using h)
theorem allV_none {M M0 : Mem} : ∀ {l : List AV}, (∀ c ∈ l, idsC c = []) → AllV M l → AllV M0 l
  | [], _, _ => trivial
  | c :: r, h, hv => ⟨vokC_none (h c (by simp)) hv.1, allV_none (fun d hd => h d (by simp [hd])) hv.2⟩
theorem vokA_none {M M0 : Mem} {a : AV} (h : idsA a = []) (hv : VOkA M a) : VOkA M0 a := by
  cases a with
  | g cs =>
    simp only [idsA, List.flatMap_eq_nil_iff] at h
    exact allV_none h hv
  | _ =>
    have h' := h
    simp only [idsA] at h'
    exact vokC_none (M := M) (M0 := M0) h' hv
theorem viewP_none {M M0 : Mem} : ∀ {ps : List (Nat × AV)}, idsP ps = [] → viewP M ps = viewP M0 ps ∧ (AllVP M ps → AllVP M0 ps)
  | [], _ => ⟨rfl, fun h => h⟩
  | (i, a) :: r, h => by
    simp only [idsP, List.append_eq_nil_iff] at h
    obtain ⟨h1, h2⟩ := viewP_none (M := M) (M0 := M0) h.2
    exact ⟨by simp only [viewP, h1, viewA_none (M := M) (M0 := M0) h.1], fun hv => ⟨vokA_none h.1 hv.1, h2 hv.2⟩⟩
theorem lit_pin {ti : TI} {ps : List (Nat × AV)} {K : AV → Mem → Prop} (h : litK ti mem0 ps K) : ∃ r, K r mem0 ∧ ∀ M0, litK ti M0 ps fun a M2 => a = r ∧ M2 = M0 := by
  obtain ⟨h1, h2, h3, h4, h5, h6⟩ := h
  refine ⟨_, h6, fun M0 => ?_⟩
  obtain ⟨g1, g2⟩ := viewP_none (M := mem0) (M0 := M0) h2
  exact ⟨g2 h1, h2, h3, h4, by rw [← g1]; exact h5, by rw [g1], rfl⟩
/-- The walk of a region whose order is drawn, by classes: 1 may change the memory, 2 looks at it, 0 does neither. -/
def backM (K : ASt → Prop) (m : Mem) (s : ASt) : Prop := K ⟨s.sl, m, s.N⟩
def stepZ (P : Program) (tab : Tab) (K : ASt → Prop) (dst : Option Tmp) (op : Op) (s : ASt) : Prop :=
  match op with
  | .buildSlice T n ps => opZ P tab ⟨s.sl, mem0, s.N⟩ (fun a _ => setK s K dst a s.m) (.buildSlice T n ps)
  | op => freeOk s.sl op ∧ aopS P tab (backM K s.m) dst op ⟨s.sl, mem0, s.N⟩
def stepS (P : Program) (tab : Tab) : Nat → (ASt → Prop) → Option Tmp → Op → ASt → Prop
  | 1, K, dst, op, s => ∃ r M', opX P tab s (fun a M2 => a = r ∧ M2 = M') op ∧ setK s K dst r M'
  | 2, K, dst, op, s => readOk s.sl op ∧ aopS P tab (backM K s.m) dst op s
  | 3, K, dst, op, s => ∃ r, (∀ M0, opZ P tab ⟨s.sl, M0, s.N⟩ (fun a M2 => a = r ∧ M2 = M0) op) ∧ setK s K dst r s.m
  | _, K, dst, op, s => stepZ P tab K dst op s
theorem stepS_else {P : Program} {tab : Tab} {c : Nat} {K : ASt → Prop} {dst : Option Tmp} {op : Op} {s : ASt} (h1 : c ≠ 1) (h2 : c ≠ 2) (h3 : c ≠ 3) :
    stepS P tab c K dst op s = stepZ P tab K dst op s := by
  unfold stepS
  split
  · exact absurd rfl h1
  · exact absurd rfl h2
  · exact absurd rfl h3
  · rfl
def drS (P : Program) (tab : Tab) (ops : Array Oper) : List Oper → List Nat → (ASt → Prop) → ASt → Prop
  | [], _, K, s => K s
  | _ :: _, [], _, _ => False
  | o :: l, c :: cs, K, s => guardK ops s o.guard (stepS P tab c (drS P tab ops l cs K) o.dst o.op s) (setK s (drS P tab ops l cs K) o.dst (.t []) s.m)
theorem setK_dst {s : ASt} {K : ASt → Prop} {dst : Option Tmp} {a : AV} {M : Mem} (h : setK s K dst a M) : (∀ d, dst = some d → d < s.N) ∧ K ⟨putO s.sl dst a, M, s.N⟩ := by
  cases dst with
  | none => exact ⟨(fun _ h => by cases h), h⟩
  | some d => exact ⟨fun d' h' => by cases h'; exact h.1, h.2⟩
theorem aopS_op {P : Program} {tab : Tab} {K : ASt → Prop} {dst : Option Tmp} {op : Op} {s : ASt} (hf : freeOk s.sl op) (h : aopS P tab K dst op s) : opK P tab s (fun a M => setK s K dst a M) op := by
  unfold aopS aop at h
  cases op <;> first | exact h | exact hf.elim
theorem opZ_of {P : Program} {tab : Tab} {K : AV → Mem → Prop} {op : Op} {s : ASt} {sl : Slots} (hf : freeOk sl op) (h : opK P tab s K op) : opZ P tab s K op := by
  cases op <;> first | exact h | exact hf.elim
theorem stepZ_pin {P : Program} {tab : Tab} {K : ASt → Prop} {dst : Option Tmp} {op : Op} {s : ASt} (h : stepZ P tab K dst op s) :
    ∃ r, setK s K dst r s.m ∧ ∀ M0, opZ P tab ⟨s.sl, M0, s.N⟩ (fun a M2 => a = r ∧ M2 = M0) op := by
  unfold stepZ at h
  split at h
  · obtain ⟨tt, h1, e, h2, ti, h3, h4, h5, h6⟩ := h
    obtain ⟨r, k1, k2⟩ := lit_pin h6
    exact ⟨r, k1, fun M0 => ⟨tt, h1, e, h2, ti, h3, h4, h5, k2 M0⟩⟩
  · obtain ⟨h0, h1⟩ := h
    obtain ⟨r, h2, h3⟩ := free_pin h0 (aopS_op h0 h1)
    refine ⟨r, ?_, fun M0 => opZ_of h0 (h3 M0)⟩
    cases dst <;> exact h2
theorem opX_of {P : Program} {tab : Tab} {K : AV → Mem → Prop} {op : Op} {s : ASt} {sl : Slots} (hf : freeOk sl op) (h : opK P tab s K op) : opX P tab s K op := by
  cases op <;> first | exact h | exact hf.elim
theorem drS_trace {P : Program} {tab : Tab} {ops : Array Oper} {K : ASt → Prop} : ∀ (l : List Oper) (hv : List Nat) (s : ASt), drS P tab ops l hv K s → TraceL P tab ops s.N l hv s.sl s.m K
  | [], hv, s, h => ⟨fun _ => s.sl, fun _ => s.m, fun _ => .x, rfl, rfl, fun i h => absurd h (by simp), h⟩
  | o :: l, [], s, h => h.elim
  | o :: l, c :: hs, s, h => by
    have hyes : stepS P tab c (drS P tab ops l hs K) o.dst o.op s → Gd ops s.N s.sl o.guard true → TraceL P tab ops s.N (o :: l) (c :: hs) s.sl s.m K := fun h hg => by
      by_cases n1 : c = 1
      · subst n1
        obtain ⟨r, M', h1, h2⟩ := h
        obtain ⟨k1, k2⟩ := setK_dst h2
        exact .cons ⟨k1, true, hg, fun _ _ => h1, (fun _ h => by cases h), (fun _ h => absurd rfl h), (fun h => by cases h)⟩ (drS_trace l hs _ k2)
      · by_cases n2 : c = 2
        · subst n2
          obtain ⟨h0, h1⟩ := h
          obtain ⟨r, h2, h3⟩ := read_pin h0 (aopS_op h0.1 h1)
          obtain ⟨k1, k2⟩ := setK_dst h2
          exact .cons ⟨k1, true, hg, (fun _ h => by cases h), (fun _ _ => ⟨rfl, opX_of h0.1 h3⟩), (fun _ _ h => absurd rfl h), (fun h => by cases h)⟩ (drS_trace l hs ⟨putO s.sl o.dst r, s.m, s.N⟩ k2)
        · have h : ∃ r, setK s (drS P tab ops l hs K) o.dst r s.m ∧ ∀ M0, opZ P tab ⟨s.sl, M0, s.N⟩ (fun a M2 => a = r ∧ M2 = M0) o.op := by
            by_cases n3 : c = 3
            · subst n3
              obtain ⟨r, h1, h2⟩ := h
              exact ⟨r, h2, h1⟩
            · rw [stepS_else n1 n2 n3] at h
              exact stepZ_pin h
          obtain ⟨r, h2, h3⟩ := h
          obtain ⟨k1, k2⟩ := setK_dst h2
          exact .cons ⟨k1, true, hg, (fun _ h => absurd h n1), (fun _ h => absurd h n2), (fun _ _ _ => ⟨rfl, h3⟩), (fun h => by cases h)⟩ (drS_trace l hs ⟨putO s.sl o.dst r, s.m, s.N⟩ k2)
    have hno : setK s (drS P tab ops l hs K) o.dst (.t []) s.m → Gd ops s.N s.sl o.guard false → TraceL P tab ops s.N (o :: l) (c :: hs) s.sl s.m K := fun h hg => by
      obtain ⟨k1, k2⟩ := setK_dst h
      exact .cons ⟨k1, false, hg, (fun h => by cases h), (fun h => by cases h), (fun h => by cases h), fun _ => ⟨rfl, rfl⟩⟩ (drS_trace l hs _ k2)
    unfold drS at h
    cases hgo : o.guard with
    | none =>
      rw [hgo] at h hyes
      exact hyes h rfl
    | some q =>
      obtain ⟨j, w⟩ := q
      rw [hgo] at h hyes hno
      obtain ⟨d, b, h1, h2, h3, h4⟩ := h
      cases b with
      | true =>
        simp only [if_true] at h4
        exact hyes h4 ⟨d, true, h1, h2, h3, rfl⟩
      | false =>
        simp only [Bool.false_eq_true, if_false] at h4
        exact hno h4 ⟨d, false, h1, h2, h3, rfl⟩
theorem draw_rule {P : Program} {tab : Tab} (hT : TabOk P tab) (hm : P.follows .mixedOrders = true) {ops : Array Oper} (hv : List Nat) (anc : List (List Nat)) (hd : drawOk ops hv anc = true) {id : Nat} {KE : Exit → ASt → Prop} {s : ASt}
    (h : drS P tab ops ops.toList hv (KE .normal) s) : ACode P (.region id ops true) KE s :=
  draw_sound hm hT hd (drS_trace _ _ _ h)

section
variable {P : Program} {tab : Tab} {ops : Array Oper} {K : ASt → Prop} {dst : Option Tmp} {sl : Slots} {m : Mem} {N : Nat} {s : ASt} {l : List Oper} {hs : List Nat} {h : Nat} {op : Op} {ty : TypeId} {pos : String} {af : Array Edge} {j : Nat} {w : Bool}
theorem d_nil {hs : List Nat} : drS P tab ops [] hs K s = K s := by unfold drS; rfl
theorem d_op : drS P tab ops (⟨dst, op, ty, pos, af, none⟩ :: l) (h :: hs) K s = stepS P tab h (drS P tab ops l hs K) dst op s := rfl
theorem d_opg : drS P tab ops (⟨dst, op, ty, pos, af, some (j, w)⟩ :: l) (h :: hs) K s = gS ((ops[j]?).bind (·.dst)) w (stepS P tab h (drS P tab ops l hs K) dst op) (skS (drS P tab ops l hs K) dst) s := rfl
theorem d_free : stepS P tab 0 K dst op ⟨sl, m, N⟩ = stepZ P tab K dst op ⟨sl, m, N⟩ := rfl
def isLit : Op → Bool
  | .buildSlice _ _ _ => true
  | _ => false
def setZ (sl : Slots) (N : Nat) (K : ASt → Prop) (dst : Option Tmp) (m : Mem) (a : AV) (_ : Mem) : Prop := setT sl N K dst a m
theorem z_free (h : isLit op = false) : stepZ P tab K dst op ⟨sl, m, N⟩ = (freeOk sl op ∧ aopS P tab (backM K m) dst op ⟨sl, mem0, N⟩) := by
  unfold stepZ
  split
  · cases h
  · rfl
theorem z_move {x1 : Operand} : stepZ P tab K dst (.move x1) ⟨sl, m, N⟩ = (freeOk sl (.move x1) ∧ aopS P tab (backM K m) dst (.move x1) ⟨sl, mem0, N⟩) := rfl
theorem z_assign {x1 : Operand} : stepZ P tab K dst (.assign x1) ⟨sl, m, N⟩ = (freeOk sl (.assign x1) ∧ aopS P tab (backM K m) dst (.assign x1) ⟨sl, mem0, N⟩) := rfl
theorem z_pick {x1 x2 x3 : Operand} : stepZ P tab K dst (.pick x1 x2 x3) ⟨sl, m, N⟩ = (freeOk sl (.pick x1 x2 x3) ∧ aopS P tab (backM K m) dst (.pick x1 x2 x3) ⟨sl, mem0, N⟩) := rfl
theorem z_unOp {u : UnOp} {T : TypeId} {x1 : Operand} : stepZ P tab K dst (.unOp u T x1) ⟨sl, m, N⟩ = (freeOk sl (.unOp u T x1) ∧ aopS P tab (backM K m) dst (.unOp u T x1) ⟨sl, mem0, N⟩) := rfl
theorem z_extract {x1 : Operand} {i : Nat} : stepZ P tab K dst (.extract x1 i) ⟨sl, m, N⟩ = (freeOk sl (.extract x1 i) ∧ aopS P tab (backM K m) dst (.extract x1 i) ⟨sl, mem0, N⟩) := rfl
theorem z_convert {T U : TypeId} {x1 : Operand} : stepZ P tab K dst (.convert T U x1) ⟨sl, m, N⟩ = (freeOk sl (.convert T U x1) ∧ aopS P tab (backM K m) dst (.convert T U x1) ⟨sl, mem0, N⟩) := rfl
theorem z_slice {T : TypeId} {x1 : Operand} {l1 l2 l3 : Option Operand} : stepZ P tab K dst (.slice T x1 l1 l2 l3) ⟨sl, m, N⟩ = (freeOk sl (.slice T x1 l1 l2 l3) ∧ aopS P tab (backM K m) dst (.slice T x1 l1 l2 l3) ⟨sl, mem0, N⟩) := rfl
theorem z_field {T : TypeId} {x1 : Operand} {i : Nat} : stepZ P tab K dst (.field T x1 i) ⟨sl, m, N⟩ = (freeOk sl (.field T x1 i) ∧ aopS P tab (backM K m) dst (.field T x1 i) ⟨sl, mem0, N⟩) := rfl
theorem z_load {T : TypeId} {x1 : Operand} : stepZ P tab K dst (.load T x1) ⟨sl, m, N⟩ = (freeOk sl (.load T x1) ∧ aopS P tab (backM K m) dst (.load T x1) ⟨sl, mem0, N⟩) := rfl
theorem z_indexAddr {T : TypeId} {x1 x2 : Operand} : stepZ P tab K dst (.indexAddr T x1 x2) ⟨sl, m, N⟩ = (freeOk sl (.indexAddr T x1 x2) ∧ aopS P tab (backM K m) dst (.indexAddr T x1 x2) ⟨sl, mem0, N⟩) := rfl
theorem z_fieldAddr {T : TypeId} {x1 : Operand} {i : Nat} : stepZ P tab K dst (.fieldAddr T x1 i) ⟨sl, m, N⟩ = (freeOk sl (.fieldAddr T x1 i) ∧ aopS P tab (backM K m) dst (.fieldAddr T x1 i) ⟨sl, mem0, N⟩) := rfl
theorem z_nilCheck {x1 : Operand} : stepZ P tab K dst (.nilCheck x1) ⟨sl, m, N⟩ = (freeOk sl (.nilCheck x1) ∧ aopS P tab (backM K m) dst (.nilCheck x1) ⟨sl, mem0, N⟩) := rfl
theorem z_binOp {b : BinOp} {T U : TypeId} {x1 x2 : Operand} : stepZ P tab K dst (.binOp b T x1 x2 U) ⟨sl, m, N⟩ = (freeOk sl (.binOp b T x1 x2 U) ∧ aopS P tab (backM K m) dst (.binOp b T x1 x2 U) ⟨sl, mem0, N⟩) := rfl
theorem z_call {c : Call} : stepZ P tab K dst (.call c) ⟨sl, m, N⟩ = (freeOk sl (.call c) ∧ aopS P tab (backM K m) dst (.call c) ⟨sl, mem0, N⟩) := rfl
theorem z_lit {T : TypeId} {n : Nat} {ps : Array (Nat × Operand)} : stepZ P tab K dst (.buildSlice T n ps) ⟨sl, m, N⟩ = tiK tab T fun tt => slK tt.k fun e => tiK tab e fun ti =>
    n = ps.toList.length ∧ (ps.toList.map fun p => p.1) = List.range' 0 n ∧ litK ti mem0 (ps.toList.map fun p => (p.1, ev sl p.2)) (setZ sl N K dst m) := by
  have : setZ sl N K dst m = fun a _ => setK ⟨sl, m, N⟩ K dst a m := by funext a _; exact setT_eq.symm
  rw [this]; rfl
theorem z_set {a : AV} {M : Mem} : setZ sl N K dst m a M = setT sl N K dst a m := rfl
theorem d_read : stepS P tab 2 K dst op ⟨sl, m, N⟩ = (readOk sl op ∧ aopS P tab (backM K m) dst op ⟨sl, m, N⟩) := rfl
theorem d_back : backM K m s = K ⟨s.sl, m, s.N⟩ := rfl
theorem d_heavy {r : AV} {M' : Mem} (h1 : opX P tab ⟨sl, m, N⟩ (fun a M2 => a = r ∧ M2 = M') op) (h2 : setT sl N K dst r M') : stepS P tab 1 K dst op ⟨sl, m, N⟩ := ⟨r, M', h1, by rw [setT_eq]; exact h2⟩
theorem d_heavyC {f : FuncId} {as : Array Operand} {ts : Array TypeId} {r : AV} {M' : Mem} (h1 : ICall P f (as.toList.map (ev sl)) m (fun a M2 => a = r ∧ M2 = M')) (h2 : setT sl N K dst r M') : stepS P tab 1 K dst (.call ⟨.value (.func f), as, ts⟩) ⟨sl, m, N⟩ :=
  d_heavy (by show ICall P f (as.toList.map (fun o => ev sl o) ++ []) m _; rw [List.append_nil]; exact h1) h2
/-- A call on data alone: when it comes is all the same. -/
theorem d_pureC {f : FuncId} {as : Array Operand} {ts : Array TypeId} {r : AV} (h1 : ∀ M0, ICall P f (as.toList.map (ev sl)) M0 (fun a M2 => a = r ∧ M2 = M0)) (h2 : setT sl N K dst r m) : stepS P tab 3 K dst (.call ⟨.value (.func f), as, ts⟩) ⟨sl, m, N⟩ :=
  ⟨r, fun M0 => by show ICall P f (as.toList.map (fun o => ev sl o) ++ []) M0 _; rw [List.append_nil]; exact h1 M0, by rw [setT_eq]; exact h2⟩
end
theorem drS_congr {P : Program} {tab : Tab} {ops : Array Oper} {K : ASt → Prop} {l : List Oper} {hs : List Nat} {s s' : ASt} (h : s = s') : drS P tab ops l hs K s = drS P tab ops l hs K s' := by rw [h]
attribute [congr] drS_congr
end Go.Ab
