/- The state of a call under the pure logic: a store into a name's cells; a row that grows. No condition beyond each lemma's own. -/
import Derived.Test.YtandclggkgmpgaaPB
set_option linter.unusedVariables false
set_option linter.unusedSimpArgs false
set_option linter.unusedSectionVars false
namespace Go.Proofs.Ytandclggkgmpgaa
open Go.RowKit
section
variable {N : Nat} {M0 : Addr → Prop} {w0 w w' : World} {f : Frm} {H H' : Hp} {mu mu' : Nat → Option Nat} {a : Act}

theorem setRow_size (w : World) (g : Nat) (cs : Array Value) : (w.setRow g cs).heap.size = w.heap.size := by simp [World.setRow]
theorem Below.setRow {B : Nat} {a w : World} (h : Below B a w) {g : Nat} (hg : B ≤ g) (cs : Array Value) : Below B a (w.setRow g cs) :=
  h.trans ⟨rfl, rfl, rfl, by rw [setRow_size]; exact Nat.le_refl _, fun k hk => setRow_other w g k cs (by omega)⟩

/-- A store into a name's cells. -/
theorem StM.setBox (h : StM N M0 w0 f H mu a w) {s : Nat} {cs cs' : List SV} (hs : H s = .box cs) {b : Nat} {arr : Array Value} {e : TypeId} (hm : mu s = some b) (hb : w.heap[b]? = some (.cells arr e (0, 0)))
    (arr' : Array Value) (hlen : arr'.size = cs'.length) (hc : ∀ j x, cs'[j]? = some x → SRep M0 H mu w (arr'.getD j undef) x ∧ (arr'.getD j undef).oneCell' = true) :
    StM N M0 w0 f (hup H s (.box cs')) mu a (w.setRow b arr') := by
  have hmu : ∀ x, Mut M0 (hup H s (.box cs')) mu x → Mut M0 H mu x := by
    intro x hx
    rcases hx with hx | ⟨t, hx⟩
    · exact .inl hx
    · refine .inr ⟨t, ?_⟩
      by_cases hts : t = s
      · subst hts; simp only [hup, if_true] at hx; rw [hs]; exact hx
      · simpa only [hup, hts, if_false] using hx
  have ht : Turn M0 H mu w (hup H s (.box cs')) mu (w.setRow b arr') := by
    refine ⟨fun x u h1 h2 => ?_, fun t ds hd => ?_, fun r e size k hr => ?_⟩
    · have hne : x.block ≠ b := fun e => h2 (.inr ⟨s, by rw [hs]; rw [e]; exact hm⟩)
      exact ⟨(World.cell?_of_block (setRow_other w b x.block arr' hne)).trans h1, fun h3 => h2 (hmu x h3)⟩
    · by_cases hts : t = s
      · subst hts; exact ⟨⟨cs', by simp [hup]⟩, rfl⟩
      · exact ⟨⟨ds, by simp [hup, hts, hd]⟩, rfl⟩
    · have hts : r ≠ s := by intro e; subst e; rw [hs] at hr; cases hr
      refine ⟨k, Nat.le_refl _, by simp [hup, hts, hr], fun _ => ⟨rfl, fun g hg => setRow_other w b g arr' ?_⟩⟩
      intro e
      subst e
      exact hts (h.inj r s _ (by rw [hr]; simp) (by rw [hs]; simp) hg hm)
  refine { defers := h.defers, size := h.size, slots := fun t ht' => (h.slots t ht').turn ht, below := Below.setRow h.below (h.mu_lt (by rw [hs]; simp) hm).1 arr', old := h.old, box := ?_, row := ?_, inj := ?_ }
  · intro t ds hd
    by_cases hts : t = s
    · subst hts
      simp only [hup, if_true, HO.box.injEq] at hd
      subst hd
      exact ⟨b, arr', e, hm, (h.mu_lt (by rw [hs]; simp) hm).1, setRow_heap w b arr arr' e _ hb, hlen, fun j x hj => ⟨(hc j x hj).1.turn ht, (hc j x hj).2⟩⟩
    · simp only [hup, hts, if_false] at hd
      obtain ⟨b', arr2, e2, h1, h2, h3, h4, h5⟩ := h.box t ds hd
      have hne : b' ≠ b := by intro e; subst e; exact hts (h.inj t s _ (by rw [hd]; simp) (by rw [hs]; simp) h1 hm)
      exact ⟨b', arr2, e2, h1, h2, (setRow_other w b b' arr' hne).trans h3, h4, fun j x hj => ⟨(h5 j x hj).1.turn ht, (h5 j x hj).2⟩⟩
  · intro r e size k hr
    have hts : r ≠ s := by intro e; subst e; simp [hup] at hr
    simp only [hup, hts, if_false] at hr
    rw [setRow_size]
    exact h.row r e size k hr
  · intro t t' x h1 h2 h3 h4
    refine h.inj t t' x ?_ ?_ h3 h4
    · by_cases hts : t = s
      · subst hts; rw [hs]; simp
      · simpa only [hup, hts, if_false] using h1
    · by_cases hts : t' = s
      · subst hts; rw [hs]; simp
      · simpa only [hup, hts, if_false] using h2

/-- A row that grows where it lies. -/
theorem StM.rowIn (h : StM N M0 w0 f H mu a w) {r n k : Nat} {e : TypeId} {size : Nat} (hr : H r = .row e size n) (hk : n < k) {g : Nat} (hm : mu r = some g) {cur cur' : Array Value} {et : TypeId} (hg : w.heap[g]? = some (.cells cur et (0, 0)))
    (hsame : ∀ j, j < n * size → cur'[j]? = cur[j]?) :
    StM N M0 w0 f (hup H r (.row e size k)) mu a (w.setRow g cur') := by
  have hmu : ∀ x, Mut M0 (hup H r (.row e size k)) mu x → Mut M0 H mu x := by
    intro x hx
    rcases hx with hx | ⟨t, hx⟩
    · exact .inl hx
    · refine .inr ⟨t, ?_⟩
      by_cases hts : t = r
      · subst hts
        simp only [hup, if_true] at hx
        rw [hr]
        exact ⟨hx.1, Nat.le_trans (Nat.mul_le_mul_right _ (Nat.le_of_lt hk)) hx.2⟩
      · simpa only [hup, hts, if_false] using hx
  have ht : Turn M0 H mu w (hup H r (.row e size k)) mu (w.setRow g cur') := by
    refine ⟨fun x u h1 h2 => ⟨?_, fun h3 => h2 (hmu x h3)⟩, fun t ds hd => ?_, fun t e2 size2 k2 ht => ?_⟩
    · by_cases hb : x.block = g
      · have hoff : ¬ n * size ≤ x.off := fun ho => h2 (.inr ⟨r, by rw [hr]; exact ⟨by rw [hm, hb], ho⟩⟩)
        obtain ⟨xb, xo, xs⟩ := x
        simp only at hb hoff
        subst hb
        have e1 := setRow_heap w xb cur cur' et _ hg
        simp only [World.cell?, hg] at h1
        simp only [World.cell?, e1]
        split at h1
        · cases h1
        · rename_i hsp
          rw [hsame xo (by omega), if_neg hsp]; exact h1
      · exact (World.cell?_of_block (setRow_other w g x.block cur' hb)).trans h1
    · have hts : t ≠ r := by intro e; subst e; rw [hr] at hd; cases hd
      exact ⟨⟨ds, by simp [hup, hts, hd]⟩, rfl⟩
    · by_cases hts : t = r
      · subst hts
        rw [hr] at ht
        cases ht
        exact ⟨k, Nat.le_of_lt hk, by simp [hup], fun e => by omega⟩
      · refine ⟨k2, Nat.le_refl _, by simp [hup, hts, ht], fun _ => ⟨rfl, fun b hb => setRow_other w g b cur' ?_⟩⟩
        intro e
        subst e
        exact hts (h.inj t r _ (by rw [ht]; simp) (by rw [hr]; simp) hb hm)
  refine { defers := h.defers, size := h.size, slots := fun t ht' => (h.slots t ht').turn ht, below := Below.setRow h.below (h.mu_lt (by rw [hr]; simp) hm).1 cur', old := h.old, box := ?_, row := ?_, inj := ?_ }
  · intro t ds hd
    have hts : t ≠ r := by intro e; subst e; simp [hup] at hd
    simp only [hup, hts, if_false] at hd
    obtain ⟨b', arr2, e2, h1, h2, h3, h4, h5⟩ := h.box t ds hd
    have hne : b' ≠ g := by intro e; subst e; exact hts (h.inj t r _ (by rw [hd]; simp) (by rw [hr]; simp) h1 hm)
    exact ⟨b', arr2, e2, h1, h2, (setRow_other w g b' cur' hne).trans h3, h4, fun j x hj => ⟨(h5 j x hj).1.turn ht, (h5 j x hj).2⟩⟩
  · intro t e2 size2 k2 ht2
    rw [setRow_size]
    by_cases hts : t = r
    · subst hts
      exact h.row t e size n hr
    · simp only [hup, hts, if_false] at ht2
      exact h.row t e2 size2 k2 ht2
  · intro t t' x h1 h2 h3 h4
    refine h.inj t t' x ?_ ?_ h3 h4
    · by_cases hts : t = r
      · subst hts; rw [hr]; simp
      · simpa only [hup, hts, if_false] using h1
    · by_cases hts : t' = r
      · subst hts; rw [hr]; simp
      · simpa only [hup, hts, if_false] using h2

/-- A row that goes on in a new block. -/
theorem StM.rowNew (h : StM N M0 w0 f H mu a w) {r n k : Nat} {e : TypeId} {size : Nat} (hr : H r = .row e size n) (hk : n < k) {g : Nat} (hg : w.heap.size ≤ g) (hg' : g < w'.heap.size) (hx : Below w.heap.size w w') :
    StM N M0 w0 f (hup H r (.row e size k)) (fun t => if t = r then some g else mu t) a w' := by
  have ht : Turn M0 H mu w (hup H r (.row e size k)) (fun t => if t = r then some g else mu t) w' := by
    refine ⟨fun x u h1 h2 => ?_, fun t ds hd => ?_, fun t e2 size2 k2 ht => ?_⟩
    · have hlt := World.block_lt_of_cell? w x h1
      refine ⟨(World.cell?_of_block (hx.block _ hlt)).trans h1, fun h3 => h2 ?_⟩
      rcases h3 with h3 | ⟨t, h3⟩
      · exact .inl h3
      · by_cases hts : t = r
        · subst hts
          simp only [hup, if_true, Option.some.injEq] at h3
          omega
        · simp only [hup, hts, if_false] at h3
          exact .inr ⟨t, h3⟩
    · have hts : t ≠ r := by intro e; subst e; rw [hr] at hd; cases hd
      exact ⟨⟨ds, by simp [hup, hts, hd]⟩, by simp [hts]⟩
    · by_cases hts : t = r
      · subst hts
        rw [hr] at ht
        cases ht
        exact ⟨k, Nat.le_of_lt hk, by simp [hup], fun e => by omega⟩
      · exact ⟨k2, Nat.le_refl _, by simp [hup, hts, ht], fun _ => ⟨by simp [hts], fun b hb => hx.block b (h.mu_lt (by rw [ht]; simp) hb).2⟩⟩
  refine { defers := h.defers, size := h.size, slots := fun t ht' => (h.slots t ht').turn ht, below := h.below.trans (hx.mono h.base), old := h.old, box := ?_, row := ?_, inj := ?_ }
  · intro t ds hd
    have hts : t ≠ r := by intro e; subst e; simp [hup] at hd
    simp only [hup, hts, if_false] at hd
    obtain ⟨b', arr2, e2, h1, h2, h3, h4, h5⟩ := h.box t ds hd
    exact ⟨b', arr2, e2, by simp [hts, h1], h2, (hx.block b' (Array.getElem?_eq_some_iff.1 h3).1).trans h3, h4, fun j x hj => ⟨(h5 j x hj).1.turn ht, (h5 j x hj).2⟩⟩
  · intro t e2 size2 k2 ht2
    by_cases hts : t = r
    · subst hts
      exact .inr ⟨g, by simp, Nat.le_trans h.base hg, hg'⟩
    · simp only [hup, hts, if_false] at ht2 ⊢
      rcases h.row t e2 size2 k2 ht2 with h1 | ⟨g2, h1, h2, h3⟩
      · exact .inl h1
      · exact .inr ⟨g2, h1, h2, Nat.lt_of_lt_of_le h3 hx.size⟩
  · intro t t' x h1 h2 h3 h4
    by_cases hts : t = r <;> by_cases hts' : t' = r
    · exact hts.trans hts'.symm
    · simp only [hup, hts, hts', if_true, if_false, Option.some.injEq] at h1 h2 h3 h4
      have := (h.mu_lt h2 h4).2
      omega
    · simp only [hup, hts, hts', if_true, if_false, Option.some.injEq] at h1 h2 h3 h4
      have := (h.mu_lt h1 h3).2
      omega
    · simp only [hup, hts, hts', if_false] at h1 h2 h3 h4
      exact h.inj t t' x h1 h2 h3 h4
end
end Go.Proofs.Ytandclggkgmpgaa
