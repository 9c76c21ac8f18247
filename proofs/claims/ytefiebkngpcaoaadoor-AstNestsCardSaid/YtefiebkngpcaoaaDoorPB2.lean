/- The state of a call under the pure logic: a store into a name's cells; a row that grows. No condition beyond each lemma's own. -/
import Derived.Test.YtefiebkngpcaoaaDoorPB
set_option maxRecDepth 100000
set_option linter.unusedVariables false
set_option linter.unusedSimpArgs false
set_option linter.unusedSectionVars false
namespace Go.Proofs.YtefiebkngpcaoaaDoor
open Go.RowKit
section
variable {N : Nat} {M0 : MM} {w0 : Ctx} {w w' : World} {f : Frm} {H H' : Hp} {mu mu' : Nat → Option Nat} {a : Act}

theorem hup_none {H : Hp} {s t : Nat} {o : HO} (hs : H s ≠ .none) (ht : H t = .none) : hup H s o t = .none := by
  by_cases h : t = s
  · subst h; exact absurd ht hs
  · simp [hup, h, ht]
theorem setRow_size (w : World) (g : Nat) (cs : Array Value) : (w.setRow g cs).heap.size = w.heap.size := by simp [World.setRow]
theorem setRow_keep {M M' : Addr → Prop} (w : World) (g : Nat) (cur' : Array Value) (hcell : ∀ x u, x.block = g → w.cell? x = some u → ¬ M x → (w.setRow g cur').cell? x = some u) (hmu : ∀ x, M' x → M x) (hg : ∃ x : Addr, x.block = g ∧ M x) : Keep M w M' (w.setRow g cur') where
  os := rfl
  tape := rfl
  output := rfl
  size := by rw [setRow_size]; exact Nat.le_refl _
  cell := fun x u h1 h2 => ⟨by
    by_cases hb : x.block = g
    · exact hcell x u hb h1 h2
    · exact (World.cell?_of_block (setRow_other w g x.block cur' hb)).trans h1, fun h3 => h2 (hmu x h3)⟩
  blk := fun b _ hm => ⟨setRow_other w g b cur' fun e => by subst e; obtain ⟨x, hx, hx2⟩ := hg; exact hm x hx hx2, fun y hy h3 => hm y hy (hmu y h3)⟩

/-- A store into a name's cells. -/
theorem StM.setBox (h : StM N M0 w0 f H mu a w) {s : Nat} {cs cs' : List SV} (hs : H s = .box cs) {b : Nat} {arr : Array Value} {e : TypeId} (hm : mu s = some b) (hb : w.heap[b]? = some (.cells arr e (0, 0)))
    (arr' : Array Value) (hlen : arr'.size = cs'.length) (hc : ∀ j x, cs'[j]? = some x → SRep M0 H mu w (arr'.getD j undef) x ∧ (arr'.getD j undef).oneCell' = true) :
    StM N M0 w0 f (hup H s (.box cs')) mu a (w.setRow b arr') := by
  have hmu : ∀ x, Named (hup H s (.box cs')) mu x → Named H mu x := by
    rintro x ⟨t, hx⟩
    refine ⟨t, ?_⟩
    by_cases hts : t = s
    · subst hts; simp only [hup, if_true] at hx; rw [hs]; exact hx
    · simpa only [hup, hts, if_false] using hx
  have hnb : ∀ x : Addr, x.block = b → Named H mu x := fun x hx => ⟨s, by rw [hs, hx]; exact hm⟩
  have hkp : Keep (Named H mu) w (Named (hup H s (.box cs')) mu) (w.setRow b arr') := setRow_keep w b arr' (fun x u hx _ hn => absurd (hnb x hx) hn) hmu ⟨⟨b, 0, none⟩, rfl, hnb _ rfl⟩
  have ht : Turn M0 H mu w (hup H s (.box cs')) mu (w.setRow b arr') := by
    have hvv : ∀ r e sz ver ds, H r = .vec e sz ver ds → r ≠ s ∧ ∀ g, mu r = some g → (w.setRow b arr').heap[g]? = w.heap[g]? := fun r e sz ver ds hr => by
      have hts : r ≠ s := by intro e; subst e; rw [hs] at hr; cases hr
      exact ⟨hts, fun g hg => setRow_other w b g arr' fun e => by subst e; exact hts (h.inj r s _ (by rw [hr]; simp) (by rw [hs]; simp) hg hm)⟩
    refine ⟨hkp, fun t ds hd => ?_, fun r e size k hr => ?_, fun r e sz ver ds hr => ⟨ver, ds, by simp [hup, (hvv r e sz ver ds hr).1, hr], Nat.le_refl _, fun _ => ⟨rfl, rfl, fun g cur e' hg hc => ⟨cur, ((hvv r e sz ver ds hr).2 g hg).trans hc, rfl⟩⟩⟩⟩
    · by_cases hts : t = s
      · subst hts; exact ⟨⟨cs', by simp [hup]⟩, rfl⟩
      · exact ⟨⟨ds, by simp [hup, hts, hd]⟩, rfl⟩
    · have hts : r ≠ s := by intro e; subst e; rw [hs] at hr; cases hr
      refine ⟨k, Nat.le_refl _, by simp [hup, hts, hr], fun _ => ⟨rfl, fun g hg => setRow_other w b g arr' ?_⟩⟩
      intro e
      subst e
      exact hts (h.inj r s _ (by rw [hr]; simp) (by rw [hs]; simp) hg hm)
  refine h.move hkp (Steps.of ht fun t h1 => .inl (hup_none (by rw [hs]; simp) h1)) rfl h.size (fun t b' h1 h2 => .inl ⟨t, ?_, h2⟩) (fun t ht' => (h.slots t ht').turn ht) ?_ ?_ (h.vecs ht fun r e sz ver ds hr => by
    have hts : r ≠ s := by intro e; subst e; simp [hup] at hr
    simp only [hup, hts, if_false] at hr
    exact ⟨hr, rfl, fun g hg => setRow_other w b g arr' fun e => by subst e; exact hts (h.inj r s _ (by rw [hr]; simp) (by rw [hs]; simp) hg hm)⟩) ?_ (fun _ _ => rfl) (.inl rfl)
  · by_cases hts : t = s
    · subst hts; rw [hs]; simp
    · simpa only [hup, hts, if_false] using h1
  · intro t ds hd
    by_cases hts : t = s
    · subst hts
      simp only [hup, if_true, HO.box.injEq] at hd
      subst hd
      obtain ⟨b', arr2, e2, h1, h2, -⟩ := h.box t cs hs
      have := h1.symm.trans hm
      cases this
      exact ⟨b, arr', e, hm, h2, setRow_heap w b arr arr' e _ hb, hlen, fun j x hj => ⟨(hc j x hj).1.turn ht, (hc j x hj).2⟩⟩
    · simp only [hup, hts, if_false] at hd
      obtain ⟨b', arr2, e2, h1, h2, h3, h4, h5⟩ := h.box t ds hd
      have hne : b' ≠ b := by intro e; subst e; exact hts (h.inj t s _ (by rw [hd]; simp) (by rw [hs]; simp) h1 hm)
      exact ⟨b', arr2, e2, h1, h2, (setRow_other w b b' arr' hne).trans h3, h4, fun j x hj => ⟨(h5 j x hj).1.turn ht, (h5 j x hj).2⟩⟩
  · intro r e size k hr
    have hts : r ≠ s := by intro e; subst e; simp [hup] at hr
    simp only [hup, hts, if_false] at hr
    rw [setRow_size]
    exact h.row r e size k hr
  · intro t t' x h1 h2 h3 h4
    refine h.inj t t' x ?_ ?_ h3 h4
    · by_cases hts : t = s
      · subst hts; rw [hs]; simp
      · simpa only [hup, hts, if_false] using h1
    · by_cases hts : t' = s
      · subst hts; rw [hs]; simp
      · simpa only [hup, hts, if_false] using h2

theorem rowIn_keep {r n k : Nat} {e : TypeId} {size : Nat} (hr : H r = .row e size n) (hk : n ≤ k) {g : Nat} (hm : mu r = some g) {cur cur' : Array Value} {et : TypeId} (hg : w.heap[g]? = some (.cells cur et (0, 0)))
    (hsame : ∀ j, j < n * size → cur'[j]? = cur[j]?) : Keep (Named H mu) w (Named (hup H r (.row e size k)) mu) (w.setRow g cur') := by
  have hmu : ∀ x, Named (hup H r (.row e size k)) mu x → Named H mu x := by
    rintro x ⟨t, hx⟩
    refine ⟨t, ?_⟩
    by_cases hts : t = r
    · subst hts
      simp only [hup, if_true] at hx
      rw [hr]
      exact ⟨hx.1, Nat.le_trans (Nat.mul_le_mul_right _ hk) hx.2⟩
    · simpa only [hup, hts, if_false] using hx
  refine setRow_keep w g cur' (fun x u hb h1 h2 => ?_) hmu ⟨⟨g, n * size, none⟩, rfl, r, by rw [hr]; exact ⟨hm, Nat.le_refl _⟩⟩
  have hoff : ¬ n * size ≤ x.off := fun ho => h2 ⟨r, by rw [hr]; exact ⟨by rw [hm, hb], ho⟩⟩
  obtain ⟨xb, xo, xs⟩ := x
  simp only at hb hoff
  subst hb
  have e1 := setRow_heap w xb cur cur' et _ hg
  simp only [World.cell?, hg] at h1
  simp only [World.cell?, e1]
  split at h1
  · cases h1
  · rename_i hsp
    rw [hsame xo (by omega), if_neg hsp]; exact h1
/-- A row that grows where it lies. -/
theorem StM.rowIn (h : StM N M0 w0 f H mu a w) {r n k : Nat} {e : TypeId} {size : Nat} (hr : H r = .row e size n) (hk : n < k) {g : Nat} (hm : mu r = some g) {cur cur' : Array Value} {et : TypeId} (hg : w.heap[g]? = some (.cells cur et (0, 0)))
    (hsame : ∀ j, j < n * size → cur'[j]? = cur[j]?) :
    StM N M0 w0 f (hup H r (.row e size k)) mu a (w.setRow g cur') := by
  have hkp := rowIn_keep (e := e) hr (Nat.le_of_lt hk) hm hg hsame
  have ht : Turn M0 H mu w (hup H r (.row e size k)) mu (w.setRow g cur') := by
    have hvv : ∀ t e sz ver ds, H t = .vec e sz ver ds → t ≠ r ∧ ∀ b, mu t = some b → (w.setRow g cur').heap[b]? = w.heap[b]? := fun t e sz ver ds ht => by
      have hts : t ≠ r := by intro e; subst e; rw [hr] at ht; cases ht
      exact ⟨hts, fun b hb => setRow_other w g b cur' fun e => by subst e; exact hts (h.inj t r _ (by rw [ht]; simp) (by rw [hr]; simp) hb hm)⟩
    refine ⟨hkp, fun t ds hd => ?_, fun t e2 size2 k2 ht => ?_, fun t e sz ver ds ht => ⟨ver, ds, by simp [hup, (hvv t e sz ver ds ht).1, ht], Nat.le_refl _, fun _ => ⟨rfl, rfl, fun b cur e' hb hc => ⟨cur, ((hvv t e sz ver ds ht).2 b hb).trans hc, rfl⟩⟩⟩⟩
    · have hts : t ≠ r := by intro e; subst e; rw [hr] at hd; cases hd
      exact ⟨⟨ds, by simp [hup, hts, hd]⟩, rfl⟩
    · by_cases hts : t = r
      · subst hts
        rw [hr] at ht
        cases ht
        exact ⟨k, Nat.le_of_lt hk, by simp [hup], fun e => by omega⟩
      · refine ⟨k2, Nat.le_refl _, by simp [hup, hts, ht], fun _ => ⟨rfl, fun b hb => setRow_other w g b cur' ?_⟩⟩
        intro e
        subst e
        exact hts (h.inj t r _ (by rw [ht]; simp) (by rw [hr]; simp) hb hm)
  refine h.move hkp (Steps.of ht fun t h1 => .inl (hup_none (by rw [hr]; simp) h1)) rfl h.size (fun t b' h1 h2 => .inl ⟨t, ?_, h2⟩) (fun t ht' => (h.slots t ht').turn ht) ?_ ?_ (h.vecs ht fun t e sz ver ds hq => by
    have hts : t ≠ r := by intro e; subst e; simp [hup] at hq
    simp only [hup, hts, if_false] at hq
    exact ⟨hq, rfl, fun b hb => setRow_other w g b cur' fun e => by subst e; exact hts (h.inj t r _ (by rw [hq]; simp) (by rw [hr]; simp) hb hm)⟩) ?_ (fun _ _ => rfl) (.inl rfl)
  · by_cases hts : t = r
    · subst hts; rw [hr]; simp
    · simpa only [hup, hts, if_false] using h1
  · intro t ds hd
    have hts : t ≠ r := by intro e; subst e; simp [hup] at hd
    simp only [hup, hts, if_false] at hd
    obtain ⟨b', arr2, e2, h1, h2, h3, h4, h5⟩ := h.box t ds hd
    have hne : b' ≠ g := by intro e; subst e; exact hts (h.inj t r _ (by rw [hd]; simp) (by rw [hr]; simp) h1 hm)
    exact ⟨b', arr2, e2, h1, h2, (setRow_other w g b' cur' hne).trans h3, h4, fun j x hj => ⟨(h5 j x hj).1.turn ht, (h5 j x hj).2⟩⟩
  · intro t e2 size2 k2 ht2
    rw [setRow_size]
    by_cases hts : t = r
    · subst hts
      exact h.row t e size n hr
    · simp only [hup, hts, if_false] at ht2
      exact h.row t e2 size2 k2 ht2
  · intro t t' x h1 h2 h3 h4
    refine h.inj t t' x ?_ ?_ h3 h4
    · by_cases hts : t = r
      · subst hts; rw [hr]; simp
      · simpa only [hup, hts, if_false] using h1
    · by_cases hts : t' = r
      · subst hts; rw [hr]; simp
      · simpa only [hup, hts, if_false] using h2

/-- A row that goes on in a new block. -/
theorem rowNew_keep (r : Nat) {k : Nat} {e : TypeId} {size : Nat} {g : Nat} (hg : w.heap.size ≤ g) (hx : Below w.heap.size w w') :
    Keep (Named H mu) w (Named (hup H r (.row e size k)) (fun t => if t = r then some g else mu t)) w' := by
  refine ⟨hx.os, hx.tape, hx.output, hx.size, fun x u h1 h2 => ?_, fun b hb hm => ⟨hx.block b hb, fun y hy hn => ?_⟩⟩
  · have hlt := World.block_lt_of_cell? w x h1
    refine ⟨(World.cell?_of_block (hx.block _ hlt)).trans h1, fun h3 => ?_⟩
    rcases named_new _ (some g) h3 with h4 | h4
    · exact h2 h4
    · simp at h4; omega
  · rcases named_new _ (some g) hn with h4 | h4
    · exact hm y hy h4
    · simp at h4; omega
theorem StM.rowNew (h : StM N M0 w0 f H mu a w) {r n k : Nat} {e : TypeId} {size : Nat} (hr : H r = .row e size n) (hk : n < k) {g : Nat} (hg : w.heap.size ≤ g) (hg' : g < w'.heap.size) (hx : Below w.heap.size w w') :
    StM N M0 w0 f (hup H r (.row e size k)) (fun t => if t = r then some g else mu t) a w' := by
  have hkp : Keep (Named H mu) w (Named (hup H r (.row e size k)) (fun t => if t = r then some g else mu t)) w' := rowNew_keep r hg hx
  have ht : Turn M0 H mu w (hup H r (.row e size k)) (fun t => if t = r then some g else mu t) w' := by
    refine ⟨hkp, fun t ds hd => ?_, fun t e2 size2 k2 ht => ?_, fun t e sz ver ds ht => ?_⟩
    rotate_left 2
    · have hts : t ≠ r := by intro e; subst e; rw [hr] at ht; cases ht
      exact ⟨ver, ds, by simp [hup, hts, ht], Nat.le_refl _, fun _ => ⟨rfl, by simp [hts], fun b cur e' hb hc => ⟨cur, (hx.block b (Array.getElem?_eq_some_iff.1 hc).1).trans hc, rfl⟩⟩⟩
    · have hts : t ≠ r := by intro e; subst e; rw [hr] at hd; cases hd
      exact ⟨⟨ds, by simp [hup, hts, hd]⟩, by simp [hts]⟩
    · by_cases hts : t = r
      · subst hts
        rw [hr] at ht
        cases ht
        exact ⟨k, Nat.le_of_lt hk, by simp [hup], fun e => by omega⟩
      · exact ⟨k2, Nat.le_refl _, by simp [hup, hts, ht], fun _ => ⟨by simp [hts], fun b hb => hx.block b (h.mu_lt (by rw [ht]; simp) hb)⟩⟩
  refine h.move hkp (Steps.of ht fun t h1 => .inl (hup_none (by rw [hr]; simp) h1)) rfl h.size (fun t b' h1 h2 => ?_) (fun t ht' => (h.slots t ht').turn ht) ?_ ?_ (h.vecs ht fun t e sz ver ds hq => by
    have hts : t ≠ r := by intro e; subst e; simp [hup] at hq
    simp only [hup, hts, if_false] at hq
    exact ⟨hq, by simp [hts], fun b hb => hx.block b (h.mu_lt (by rw [hq]; simp) hb)⟩) ?_ (fun _ _ => rfl) (.inl rfl)
  · by_cases hts : t = r
    · subst hts
      simp only [if_true, Option.some.injEq] at h2
      exact .inr (by omega)
    · simp only [hup, hts, if_false] at h1 h2
      exact .inl ⟨t, h1, h2⟩
  · intro t ds hd
    have hts : t ≠ r := by intro e; subst e; simp [hup] at hd
    simp only [hup, hts, if_false] at hd
    obtain ⟨b', arr2, e2, h1, h2, h3, h4, h5⟩ := h.box t ds hd
    exact ⟨b', arr2, e2, by simp [hts, h1], h2, (hx.block b' (Array.getElem?_eq_some_iff.1 h3).1).trans h3, h4, fun j x hj => ⟨(h5 j x hj).1.turn ht, (h5 j x hj).2⟩⟩
  · intro t e2 size2 k2 ht2
    by_cases hts : t = r
    · subst hts
      exact .inr ⟨g, by simp, Nat.le_trans h.base hg, hg'⟩
    · simp only [hup, hts, if_false] at ht2 ⊢
      rcases h.row t e2 size2 k2 ht2 with h1 | ⟨g2, h1, h2, h3⟩
      · exact .inl h1
      · exact .inr ⟨g2, h1, h2, Nat.lt_of_lt_of_le h3 hx.size⟩
  · intro t t' x h1 h2 h3 h4
    by_cases hts : t = r <;> by_cases hts' : t' = r
    · exact hts.trans hts'.symm
    · simp only [hup, hts, hts', if_true, if_false, Option.some.injEq] at h1 h2 h3 h4
      have := h.mu_lt h2 h4
      omega
    · simp only [hup, hts, hts', if_true, if_false, Option.some.injEq] at h1 h2 h3 h4
      have := h.mu_lt h1 h3
      omega
    · simp only [hup, hts, hts', if_false] at h1 h2 h3 h4
      exact h.inj t t' x h1 h2 h3 h4
/-- Cells that are written here and there: written where they lie. -/
theorem StM.vecIn (h : StM N M0 w0 f H mu a w) {r : Nat} {e : TypeId} {sz ver ver' : Nat} {cs cs' : List SV} (hr : H r = .vec e sz ver cs) {g : Nat} (hm : mu r = some g) {cur cur' : Array Value} {et : TypeId} (hg : w.heap[g]? = some (.cells cur et (0, 0)))
    (hv : ver ≤ ver') (hvl : ver = ver' → cs'.length = cs.length) (hsz : cur'.size = cur.size) (hlen : cs'.length ≤ cur'.size) (h1 : ∀ u ∈ cur'.toList, u.oneCell' = true) (hc : ∀ j x, cs'[j]? = some x → SRep M0 H mu w (cur'.getD j undef) x) :
    Turn M0 H mu w (hup H r (.vec e sz ver' cs')) mu (w.setRow g cur') ∧ StM N M0 w0 f (hup H r (.vec e sz ver' cs')) mu a (w.setRow g cur') := by
  have hmu : ∀ x, Named (hup H r (.vec e sz ver' cs')) mu x → Named H mu x := by
    rintro x ⟨t, hx⟩
    refine ⟨t, ?_⟩
    by_cases hts : t = r
    · subst hts; simp only [hup, if_true] at hx; rw [hr]; exact hx
    · simpa only [hup, hts, if_false] using hx
  have hnb : ∀ x : Addr, x.block = g → Named H mu x := fun x hx => ⟨r, by rw [hr, hx]; exact hm⟩
  have hkp : Keep (Named H mu) w (Named (hup H r (.vec e sz ver' cs')) mu) (w.setRow g cur') := setRow_keep w g cur' (fun x u hx _ hn => absurd (hnb x hx) hn) hmu ⟨⟨g, 0, none⟩, rfl, hnb _ rfl⟩
  have hother : ∀ t, t ≠ r → H t ≠ .none → ∀ b, mu t = some b → (w.setRow g cur').heap[b]? = w.heap[b]? := fun t ht hn b hb => setRow_other w g b cur' fun e => by
    subst e; exact ht (h.inj t r _ hn (by rw [hr]; simp) hb hm)
  have hsame : (w.setRow g cur').heap[g]? = some (.cells cur' et (0, 0)) := setRow_heap w g cur cur' et _ hg
  have ht : Turn M0 H mu w (hup H r (.vec e sz ver' cs')) mu (w.setRow g cur') := by
    refine ⟨hkp, fun t ds hd => ?_, fun t e2 size k hrr => ?_, fun t e2 sz2 ver2 ds htv => ?_⟩
    · have hts : t ≠ r := by intro e; subst e; rw [hr] at hd; cases hd
      exact ⟨⟨ds, by simp [hup, hts, hd]⟩, rfl⟩
    · have hts : t ≠ r := by intro e; subst e; rw [hr] at hrr; cases hrr
      exact ⟨k, Nat.le_refl _, by simp [hup, hts, hrr], fun _ => ⟨rfl, fun b hb => hother t hts (by rw [hrr]; simp) b hb⟩⟩
    · by_cases hts : t = r
      · subst hts
        rw [hr] at htv
        cases htv
        refine ⟨ver', cs', by simp [hup], hv, fun e1 => ⟨hvl e1, rfl, fun b cur2 e' hb hc2 => ?_⟩⟩
        rw [hm] at hb
        cases hb
        rw [hg] at hc2
        cases hc2
        exact ⟨cur', hsame, hsz⟩
      · exact ⟨ver2, ds, by simp [hup, hts, htv], Nat.le_refl _, fun _ => ⟨rfl, rfl, fun b cur2 e' hb hc2 => ⟨cur2, (hother t hts (by rw [htv]; simp) b hb).trans hc2, rfl⟩⟩⟩
  have hold := h.vec r e sz ver cs hr
  refine ⟨ht, h.move hkp (Steps.of ht fun t h1 => .inl (hup_none (by rw [hr]; simp) h1)) rfl h.size (fun t b' h1 h2 => .inl ⟨t, ?_, h2⟩) (fun t ht' => (h.slots t ht').turn ht) ?_ ?_ ?_ ?_ (fun _ _ => rfl) (.inl rfl)⟩
  · by_cases hts : t = r
    · subst hts; rw [hr]; simp
    · simpa only [hup, hts, if_false] using h1
  · intro t ds hd
    have hts : t ≠ r := by intro e; subst e; simp [hup] at hd
    simp only [hup, hts, if_false] at hd
    obtain ⟨b', arr2, e2, h1, h2, h3, h4, h5⟩ := h.box t ds hd
    exact ⟨b', arr2, e2, h1, h2, (hother t hts (by rw [hd]; simp) b' h1).trans h3, h4, fun j x hj => ⟨(h5 j x hj).1.turn ht, (h5 j x hj).2⟩⟩
  · intro t e2 size k htr
    have hts : t ≠ r := by intro e; subst e; simp [hup] at htr
    simp only [hup, hts, if_false] at htr
    rw [setRow_size]
    exact h.row t e2 size k htr
  · intro t e2 sz2 ver2 ds htv
    by_cases hts : t = r
    · subst hts
      simp only [hup, if_true, HO.vec.injEq] at htv
      obtain ⟨rfl, rfl, rfl, rfl⟩ := htv
      rcases hold with ⟨k1, -⟩ | ⟨g2, cur2, k1, k2, k3, -⟩
      · rw [hm] at k1; cases k1
      · rw [hm] at k1
        cases k1
        rw [hg] at k3
        cases k3
        exact .inr ⟨g, cur', hm, k2, hsame, hlen, h1, fun j x hj => (hc j x hj).turn ht⟩
    · simp only [hup, hts, if_false] at htv
      rcases h.vec t e2 sz2 ver2 ds htv with ⟨k1, k2⟩ | ⟨g2, cur2, k1, k2, k3, k4, k5, k6⟩
      · exact .inl ⟨k1, k2⟩
      · exact .inr ⟨g2, cur2, k1, k2, (hother t hts (by rw [htv]; simp) g2 k1).trans k3, k4, k5, fun j x hj => (k6 j x hj).turn ht⟩
  · intro t t' x h1 h2 h3 h4
    refine h.inj t t' x ?_ ?_ h3 h4
    · by_cases hts : t = r
      · subst hts; rw [hr]; simp
      · simpa only [hup, hts, if_false] using h1
    · by_cases hts : t' = r
      · subst hts; rw [hr]; simp
      · simpa only [hup, hts, if_false] using h2
/-- Cells that are written here and there: they go on in a new block. -/
theorem StM.vecNew (h : StM N M0 w0 f H mu a w) {r : Nat} {e : TypeId} {sz ver ver' : Nat} {cs cs' : List SV} (hr : H r = .vec e sz ver cs) (hv : ver < ver') {g : Nat} (hg : w.heap.size ≤ g) (hg' : g < w'.heap.size) (hx : Below w.heap.size w w') {cur' : Array Value}
    (hcur : w'.heap[g]? = some (.cells cur' e (0, 0))) (hlen : cs'.length ≤ cur'.size) (h1 : ∀ u ∈ cur'.toList, u.oneCell' = true) (hc : ∀ j x, cs'[j]? = some x → SRep M0 H mu w (cur'.getD j undef) x) :
    Turn M0 H mu w (hup H r (.vec e sz ver' cs')) (fun t => if t = r then some g else mu t) w' ∧ StM N M0 w0 f (hup H r (.vec e sz ver' cs')) (fun t => if t = r then some g else mu t) a w' := by
  have hkp : Keep (Named H mu) w (Named (hup H r (.vec e sz ver' cs')) (fun t => if t = r then some g else mu t)) w' := by
    refine ⟨hx.os, hx.tape, hx.output, hx.size, fun x u h1 h2 => ?_, fun b hb hm => ⟨hx.block b hb, fun y hy hn => ?_⟩⟩
    · have hlt := World.block_lt_of_cell? w x h1
      refine ⟨(World.cell?_of_block (hx.block _ hlt)).trans h1, fun h3 => ?_⟩
      rcases named_new _ (some g) h3 with h4 | h4
      · exact h2 h4
      · simp at h4; omega
    · rcases named_new _ (some g) hn with h4 | h4
      · exact hm y hy h4
      · simp at h4; omega
  have ht : Turn M0 H mu w (hup H r (.vec e sz ver' cs')) (fun t => if t = r then some g else mu t) w' := by
    refine ⟨hkp, fun t ds hd => ?_, fun t e2 size2 k2 ht => ?_, fun t e2 sz2 ver2 ds ht => ?_⟩
    · have hts : t ≠ r := by intro e; subst e; rw [hr] at hd; cases hd
      exact ⟨⟨ds, by simp [hup, hts, hd]⟩, by simp [hts]⟩
    · have hts : t ≠ r := by intro e; subst e; rw [hr] at ht; cases ht
      exact ⟨k2, Nat.le_refl _, by simp [hup, hts, ht], fun _ => ⟨by simp [hts], fun b hb => hx.block b (h.mu_lt (by rw [ht]; simp) hb)⟩⟩
    · by_cases hts : t = r
      · subst hts
        rw [hr] at ht
        cases ht
        exact ⟨ver', cs', by simp [hup], Nat.le_of_lt hv, fun e => by omega⟩
      · exact ⟨ver2, ds, by simp [hup, hts, ht], Nat.le_refl _, fun _ => ⟨rfl, by simp [hts], fun b cur2 e' hb hc2 => ⟨cur2, (hx.block b (Array.getElem?_eq_some_iff.1 hc2).1).trans hc2, rfl⟩⟩⟩
  refine ⟨ht, h.move hkp (Steps.of ht fun t h1 => .inl (hup_none (by rw [hr]; simp) h1)) rfl h.size (fun t b' h1 h2 => ?_) (fun t ht' => (h.slots t ht').turn ht) ?_ ?_ ?_ ?_ (fun _ _ => rfl) (.inl rfl)⟩
  · by_cases hts : t = r
    · subst hts
      simp only [if_true, Option.some.injEq] at h2
      exact .inr (by omega)
    · simp only [hup, hts, if_false] at h1 h2
      exact .inl ⟨t, h1, h2⟩
  · intro t ds hd
    have hts : t ≠ r := by intro e; subst e; simp [hup] at hd
    simp only [hup, hts, if_false] at hd
    obtain ⟨b', arr2, e2, h1, h2, h3, h4, h5⟩ := h.box t ds hd
    exact ⟨b', arr2, e2, by simp [hts, h1], h2, (hx.block b' (Array.getElem?_eq_some_iff.1 h3).1).trans h3, h4, fun j x hj => ⟨(h5 j x hj).1.turn ht, (h5 j x hj).2⟩⟩
  · intro t e2 size2 k2 ht2
    have hts : t ≠ r := by intro e; subst e; simp [hup] at ht2
    simp only [hup, hts, if_false] at ht2 ⊢
    rcases h.row t e2 size2 k2 ht2 with h1 | ⟨g2, h1, h2, h3⟩
    · exact .inl h1
    · exact .inr ⟨g2, h1, h2, Nat.lt_of_lt_of_le h3 hx.size⟩
  · intro t e2 sz2 ver2 ds htv
    by_cases hts : t = r
    · subst hts
      simp only [hup, if_true, HO.vec.injEq] at htv
      obtain ⟨rfl, rfl, rfl, rfl⟩ := htv
      exact .inr ⟨g, cur', by simp, .inl (Nat.le_trans h.base hg), hcur, hlen, h1, fun j x hj => (hc j x hj).turn ht⟩
    · simp only [hup, hts, if_false] at htv
      rcases h.vec t e2 sz2 ver2 ds htv with ⟨k1, k2⟩ | ⟨g2, cur2, k1, k2, k3, k4, k5, k6⟩
      · exact .inl ⟨by simp [hts, k1], k2⟩
      · exact .inr ⟨g2, cur2, by simp [hts, k1], k2, (hx.block g2 (Array.getElem?_eq_some_iff.1 k3).1).trans k3, k4, k5, fun j x hj => (k6 j x hj).turn ht⟩
  · intro t t' x h1 h2 h3 h4
    by_cases hts : t = r <;> by_cases hts' : t' = r
    · exact hts.trans hts'.symm
    · simp only [hup, hts, hts', if_true, if_false, Option.some.injEq] at h1 h2 h3 h4
      have := h.mu_lt h2 h4
      omega
    · simp only [hup, hts, hts', if_true, if_false, Option.some.injEq] at h1 h2 h3 h4
      have := h.mu_lt h1 h3
      omega
    · simp only [hup, hts, hts', if_false] at h1 h2 h3 h4
      exact h.inj t t' x h1 h2 h3 h4
end
end Go.Proofs.YtefiebkngpcaoaaDoor
