/- The state of a call under the pure logic, and how each kind of step turns it. No condition beyond each lemma's own. -/
import Derived.Test.YtandclggkgmpgaaPA
set_option linter.unusedVariables false
set_option linter.unusedSimpArgs false
set_option linter.unusedSectionVars false
namespace Go.Proofs.Ytandclggkgmpgaa
open Go.RowKit

structure StM (N : Nat) (M0 : Addr → Prop) (w0 : World) (f : Frm) (H : Hp) (mu : Nat → Option Nat) (a : Act) (w : World) : Prop where
  defers : a.defers = []
  size : a.tmps.size = N
  slots : ∀ t, t < N → SRep M0 H mu w (a.tmps.getD t undef) (f t)
  below : Below w0.heap.size w0 w
  old : ∀ x, M0 x → x.block < w0.heap.size
  box : ∀ s cs, H s = .box cs → ∃ b arr e, mu s = some b ∧ w0.heap.size ≤ b ∧ w.heap[b]? = some (.cells arr e (0, 0)) ∧ arr.size = cs.length ∧
    ∀ j x, cs[j]? = some x → SRep M0 H mu w (arr.getD j undef) x ∧ (arr.getD j undef).oneCell' = true
  row : ∀ r e size k, H r = .row e size k → mu r = none ∨ ∃ g, mu r = some g ∧ w0.heap.size ≤ g ∧ g < w.heap.size
  inj : ∀ s s' b, H s ≠ .none → H s' ≠ .none → mu s = some b → mu s' = some b → s = s'
def St (N : Nat) (M0 : Addr → Prop) (w0 : World) (f : Frm) (H : Hp) (a : Act) (w : World) : Prop := ∃ mu, StM N M0 w0 f H mu a w

def updo (f : Frm) (dst : Option Tmp) (x : SV) : Frm := match dst with | some t => upd f t x | none => f
section
variable {N : Nat} {M0 : Addr → Prop} {w0 w w' : World} {f : Frm} {H H' : Hp} {mu mu' : Nat → Option Nat} {a : Act}

theorem put_getD (a : Act) (d t : Nat) (v : Value) (hd : d < a.tmps.size) : (a.put (some d) v).tmps.getD t undef = if t = d then v else a.tmps.getD t undef := by
  simp only [Act.put]
  by_cases h : t = d
  · subst h; simp [hd]
  · simp [h, Array.getElem?_setIfInBounds_ne (Ne.symm h)]
theorem put_size (a : Act) (dst : Option Tmp) (v : Value) : (a.put dst v).tmps.size = a.tmps.size := by cases dst <;> simp [Act.put]
theorem put_defers (a : Act) (dst : Option Tmp) (v : Value) : (a.put dst v).defers = a.defers := by cases dst <;> rfl

/-- The slots behind one operation. -/
theorem StM.slots_put {dst : Option Tmp} (hd : ∀ d, dst = some d → d < N) (hs : a.tmps.size = N) (hsl : ∀ t, t < N → SRep M0 H mu w (a.tmps.getD t undef) (f t)) {v : Value} {x : SV} (hv : SRep M0 H mu w v x) :
    ∀ t, t < N → SRep M0 H mu w ((a.put dst v).tmps.getD t undef) (updo f dst x t) := by
  intro t ht
  cases dst with
  | none => exact hsl t ht
  | some d =>
    rw [put_getD a d t v (by rw [hs]; exact hd d rfl)]
    simp only [updo, upd]
    split
    · exact hv
    · exact hsl t ht
/-- A step that leaves the world and the names alone. -/
theorem StM.put (h : StM N M0 w0 f H mu a w) {dst : Option Tmp} (hd : ∀ d, dst = some d → d < N) {v : Value} {x : SV} (hv : SRep M0 H mu w v x) : StM N M0 w0 (updo f dst x) H mu (a.put dst v) w :=
  { h with
    defers := by rw [put_defers]; exact h.defers
    size := by rw [put_size]; exact h.size
    slots := StM.slots_put hd h.size h.slots hv }

theorem StM.base (h : StM N M0 w0 f H mu a w) : w0.heap.size ≤ w.heap.size := h.below.size
theorem StM.mu_lt (h : StM N M0 w0 f H mu a w) {s b : Nat} (hs : H s ≠ .none) (hm : mu s = some b) : w0.heap.size ≤ b ∧ b < w.heap.size := by
  cases hh : H s with
  | none => exact absurd hh hs
  | box cs =>
    obtain ⟨b', arr, e, h1, h2, h3, _⟩ := h.box s cs hh
    rw [hm] at h1; cases h1
    exact ⟨h2, (Array.getElem?_eq_some_iff.1 h3).1⟩
  | row e size k =>
    rcases h.row s e size k hh with h1 | ⟨g, h1, h2, h3⟩
    · rw [hm] at h1; cases h1
    · rw [hm] at h1; cases h1
      exact ⟨h2, h3⟩
theorem StM.mut_lt (h : StM N M0 w0 f H mu a w) {x : Addr} (hx : Mut M0 H mu x) : x.block < w.heap.size := by
  rcases hx with hx | ⟨s, hs⟩
  · exact Nat.lt_of_lt_of_le (h.old x hx) h.base
  · cases hh : H s with
    | none => rw [hh] at hs; exact hs.elim
    | box cs => rw [hh] at hs; exact (h.mu_lt (by rw [hh]; simp) hs).2
    | row e size k => rw [hh] at hs; exact (h.mu_lt (by rw [hh]; simp) hs.1).2

/-- A world that only grows, the names the same. -/
theorem Turn.grow {w w' : World} (hb : ∀ b, b < w.heap.size → w'.heap[b]? = w.heap[b]?)
    (hr : ∀ r e size k g, H r = .row e size k → mu r = some g → g < w.heap.size) : Turn M0 H mu w H mu w' where
  stay := fun x u h1 h2 => ⟨(World.cell?_of_block (hb _ (World.block_lt_of_cell? w x h1))).trans h1, h2⟩
  box := fun s cs h => ⟨⟨cs, h⟩, rfl⟩
  row := fun r e size k h => ⟨k, Nat.le_refl _, h, fun _ => ⟨rfl, fun g hg => hb g (hr r e size k g h hg)⟩⟩
theorem StM.grow (h : StM N M0 w0 f H mu a w) (hx : Below w.heap.size w w') : StM N M0 w0 f H mu a w' := by
  have ht : Turn M0 H mu w H mu w' := Turn.grow hx.block fun r e size k g h1 h2 => (h.mu_lt (by rw [h1]; simp) h2).2
  refine { h with slots := fun t ht' => (h.slots t ht').turn ht, below := h.below.trans (hx.mono h.base), box := ?_, row := ?_ }
  · intro s cs hs
    obtain ⟨b, arr, e, h1, h2, h3, h4, h5⟩ := h.box s cs hs
    exact ⟨b, arr, e, h1, h2, (hx.block b (Array.getElem?_eq_some_iff.1 h3).1).trans h3, h4, fun j x hj => ⟨(h5 j x hj).1.turn ht, (h5 j x hj).2⟩⟩
  · intro r e size k hr
    rcases h.row r e size k hr with h1 | ⟨g, h1, h2, h3⟩
    · exact .inl h1
    · exact .inr ⟨g, h1, h2, Nat.lt_of_lt_of_le h3 hx.size⟩
theorem StM.drew (h : StM N M0 w0 f H mu a w) : StM N M0 w0 f H mu a w.drew := h.grow (Below.refl _ _).drew

theorem Turn.new (h : StM N M0 w0 f H mu a w) {s : Nat} (hs : H s = .none) (o : HO) (b : Option Nat) (hb : ∀ x, b = some x → w.heap.size ≤ x) (hw : ∀ b, b < w.heap.size → w'.heap[b]? = w.heap[b]?) :
    Turn M0 H mu w (hup H s o) (fun t => if t = s then b else mu t) w' where
  stay := by
    intro x u h1 h2
    have hlt := World.block_lt_of_cell? w x h1
    refine ⟨(World.cell?_of_block (hw _ hlt)).trans h1, fun h3 => h2 ?_⟩
    rcases h3 with h3 | ⟨t, h3⟩
    · exact .inl h3
    · by_cases hts : t = s
      · subst hts
        simp only [hup, if_true] at h3
        split at h3
        · exact h3.elim
        · have := hb _ h3; omega
        · have := hb _ h3.1; omega
      · simp only [hup, hts, if_false] at h3
        exact .inr ⟨t, h3⟩
  box := by
    intro t cs ht
    have hts : t ≠ s := by intro e; subst e; rw [hs] at ht; cases ht
    exact ⟨⟨cs, by simp [hup, hts, ht]⟩, by simp [hts]⟩
  row := by
    intro t e size k ht
    have hts : t ≠ s := by intro e; subst e; rw [hs] at ht; cases ht
    refine ⟨k, Nat.le_refl _, by simp [hup, hts, ht], fun _ => ⟨by simp [hts], fun g hg => hw g ?_⟩⟩
    exact (h.mu_lt (by rw [ht]; simp) hg).2

/-- The rest of the state when a name is laid anew. -/
theorem StM.new (h : StM N M0 w0 f H mu a w) {s : Nat} (hs : H s = .none) (o : HO) (b : Option Nat) (hb : ∀ x, b = some x → w.heap.size ≤ x ∧ x < w'.heap.size) (hx : Below w.heap.size w w')
    (hbox : ∀ cs, o = .box cs → ∃ b' arr e, b = some b' ∧ w'.heap[b']? = some (.cells arr e (0, 0)) ∧ arr.size = cs.length ∧
      ∀ j x, cs[j]? = some x → SRep M0 (hup H s o) (fun t => if t = s then b else mu t) w' (arr.getD j undef) x ∧ (arr.getD j undef).oneCell' = true) :
    StM N M0 w0 f (hup H s o) (fun t => if t = s then b else mu t) a w' := by
  have ht : Turn M0 H mu w (hup H s o) (fun t => if t = s then b else mu t) w' := Turn.new h hs o b (fun x e => (hb x e).1) hx.block
  refine { defers := h.defers, size := h.size, slots := fun t ht' => (h.slots t ht').turn ht, below := h.below.trans (hx.mono h.base), old := h.old, box := ?_, row := ?_, inj := ?_ }
  · intro t cs hcs
    by_cases hts : t = s
    · subst hts
      simp only [hup, if_true] at hcs
      obtain ⟨b', arr, e, h1, h2, h3, h4⟩ := hbox cs hcs
      exact ⟨b', arr, e, by simp [h1], Nat.le_trans h.base (hb b' h1).1, h2, h3, h4⟩
    · simp only [hup, hts, if_false] at hcs
      obtain ⟨b', arr, e, h1, h2, h3, h4, h5⟩ := h.box t cs hcs
      exact ⟨b', arr, e, by simp [hts, h1], h2, (hx.block b' (Array.getElem?_eq_some_iff.1 h3).1).trans h3, h4, fun j x hj => ⟨(h5 j x hj).1.turn ht, (h5 j x hj).2⟩⟩
  · intro t e size k hr
    by_cases hts : t = s
    · subst hts
      simp only [if_true]
      cases b with
      | none => exact .inl rfl
      | some x => exact .inr ⟨x, rfl, Nat.le_trans h.base (hb x rfl).1, (hb x rfl).2⟩
    · simp only [hup, hts, if_false] at hr ⊢
      rcases h.row t e size k hr with h1 | ⟨g, h1, h2, h3⟩
      · exact .inl h1
      · exact .inr ⟨g, h1, h2, Nat.lt_of_lt_of_le h3 hx.size⟩
  · intro t t' x h1 h2 h3 h4
    by_cases hts : t = s <;> by_cases hts' : t' = s
    · exact hts.trans hts'.symm
    · simp only [hup, hts, hts', if_true, if_false] at h1 h2 h3 h4
      have := (h.mu_lt h2 h4).2
      have := (hb x h3).1
      omega
    · simp only [hup, hts, hts', if_true, if_false] at h1 h2 h3 h4
      have := (h.mu_lt h1 h3).2
      have := (hb x h4).1
      omega
    · simp only [hup, hts, hts', if_false] at h1 h2 h3 h4
      exact h.inj t t' x h1 h2 h3 h4
end
end Go.Proofs.Ytandclggkgmpgaa
