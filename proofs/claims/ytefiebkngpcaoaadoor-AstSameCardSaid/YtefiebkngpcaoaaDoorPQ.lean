/- What comes in at a type, as pure data. Condition: the type's parts are as each lemma names them. -/
import Derived.Test.YtefiebkngpcaoaaDoorPK
import Derived.Deep.Slices
set_option maxRecDepth 100000
set_option linter.unusedVariables false
set_option linter.unusedSimpArgs false
set_option linter.unusedSectionVars false
namespace Go.Proofs.YtefiebkngpcaoaaDoor
open Go.RowKit

/-- Whatever memory reads as a datum of a type is cells that stand for some x. -/
def Opens {α : Type} (P : Program) (t : TypeId) (toC : α → List D) (ok : α → Prop) (fuel : Nat) : Prop :=
  ∀ (H : Type) (enc : TypeId × Value → H) (w : World) (cs : List Value) (r : DataW H × List MemPlace), DataW.trod enc P w 0 (fun _ => true) true fuel t cs = some r →
    ∃ x, ok x ∧ RepL (fun _ => False) w cs (toC x) ∧ ∀ v ∈ cs, v.oneCell' = true
/-- The same of the fields from a place on. -/
def OpensF {α : Type} (P : Program) (fs : List Field) (off : Nat) (toC : α → List D) (ok : α → Prop) (n fuel : Nat) : Prop :=
  ∀ (H : Type) (enc : TypeId × Value → H) (w : World) (cs : List Value), (∀ f ∈ fs, ∃ r, DataW.trod enc P w 0 (fun _ => true) true fuel f.type ((cs.drop f.offset).take (P.cellsOf f.type)) = some r) → cs.length = n →
    ∃ x, ok x ∧ RepL (fun _ => False) w (cs.drop off) (toC x) ∧ ∀ v ∈ cs.drop off, v.oneCell' = true
section
variable {P : Program} {t : TypeId}
theorem opens_int {k : IntKind} (ht : P.underlying t = some (.int k)) (fuel : Nat) : Opens P t (fun n : Int => [.int k n]) (fun n => (Lit.int k n).wf = true) fuel := by
  intro H enc w cs r h
  obtain ⟨a, rfl, -, wa⟩ := DataW.trod_int ht h
  exact ⟨a, wa, .cons _ _ _ _ (.int _ _) .nil, fun v hv => by simp at hv; subst hv; rfl⟩
theorem opens_str (ht : P.underlying t = some .string) (fuel : Nat) : Opens P t (fun s : ByteArray => [.str s]) (fun s => s.size ≤ maxLen) fuel := by
  intro H enc w cs r h
  obtain ⟨a, rfl, -, wa⟩ := DataW.trod_string ht h
  exact ⟨a, wa, .cons _ _ _ _ (.str _) .nil, fun v hv => by simp at hv; subst hv; rfl⟩
theorem opens_bool (ht : P.underlying t = some .bool) (fuel : Nat) : Opens P t (fun b : Bool => [.bool b]) (fun _ => True) fuel := by
  intro H enc w cs r h
  obtain ⟨a, rfl, -⟩ := DataW.trod_bool ht h
  exact ⟨a, trivial, .cons _ _ _ _ (.bool _) .nil, fun v hv => by simp at hv; subst hv; rfl⟩
theorem Opens.imp {α β : Type} {toC : α → List D} {ok : α → Prop} {toC' : β → List D} {ok' : β → Prop} {fuel : Nat} (h : Opens P t toC ok fuel) (g : ∀ x, ok x → ∃ y, ok' y ∧ toC' y = toC x) : Opens P t toC' ok' fuel := by
  intro H enc w cs r hr
  obtain ⟨x, h1, h2, h3⟩ := h H enc w cs r hr
  obtain ⟨y, g1, g2⟩ := g x h1
  exact ⟨y, g1, by rw [g2]; exact h2, h3⟩
theorem opens_zero {α : Type} {toC : α → List D} {ok : α → Prop} : Opens P t toC ok 0 := by
  intro H enc w cs r hr
  simp [DataW.trod] at hr
theorem opensF_nil {n fuel : Nat} : OpensF P [] n (fun _ : Unit => []) (fun _ => True) n fuel := by
  intro H enc w cs _ hl
  rw [List.drop_eq_nil_of_le (by omega)]
  exact ⟨(), trivial, .nil, by simp⟩
theorem opensF_cons {α β : Type} {toC : α → List D} {ok : α → Prop} {toC' : β → List D} {ok' : β → Prop} {f : Field} {fs : List Field} {off k n fuel : Nat} (ho : f.offset = off) (hk : P.cellsOf f.type = k)
    (h1 : Opens P f.type toC ok fuel) (h2 : OpensF P fs (off + k) toC' ok' n fuel) : OpensF P (f :: fs) off (fun p : α × β => toC p.1 ++ toC' p.2) (fun p => ok p.1 ∧ ok' p.2) n fuel := by
  intro H enc w cs hr hl
  obtain ⟨r, hr1⟩ := hr f (by simp)
  rw [ho, hk] at hr1
  obtain ⟨x, a1, a2, a3⟩ := h1 H enc w _ r hr1
  obtain ⟨y, b1, b2, b3⟩ := h2 H enc w cs (fun g hg => hr g (by simp [hg])) hl
  have e : cs.drop off = (cs.drop off).take k ++ cs.drop (off + k) := by rw [← List.drop_drop, List.take_append_drop]
  refine ⟨(x, y), ⟨a1, b1⟩, ?_, ?_⟩
  · rw [e]; exact a2.append b2
  · intro v hv
    rw [e] at hv
    rcases List.mem_append.1 hv with hv | hv
    · exact a3 v hv
    · exact b3 v hv
theorem opens_struct {α : Type} {toC : α → List D} {ok : α → Prop} {fs : Array Field} {n fuel : Nat} (ht : P.underlying t = some (.struct fs)) (hn : P.cellsOf t = n) (h : ∀ m, m < fuel → OpensF P fs.toList 0 toC ok n m) : Opens P t toC ok fuel := by
  intro H enc w cs r hr
  obtain ⟨xs, m, rfl, -, hl, hx, hf⟩ := DataW.trod_struct ht hr
  obtain ⟨x, a1, a2, a3⟩ := h m (by omega) H enc w cs (fun f hf' => by
    obtain ⟨i, hi⟩ := List.getElem?_of_mem hf'
    have h1 := hf i f (by simpa using hi)
    have hlt : i < xs.length := by rw [hx]; simpa using (List.getElem?_eq_some_iff.1 hi).1
    exact ⟨xs[i], by rw [h1]; simp [hlt]⟩) (by rw [hl, hn])
  exact ⟨x, a1, by simpa using a2, by simpa using a3⟩
theorem elems_open {α : Type} {toC : α → List D} {ok : α → Prop} {w : World} {a : Addr} {n : Nat} : ∀ (len : Nat),
    (∀ i, i < len → ∃ cs, w.cells? 0 (a.add (i * n)) n = some cs ∧ ∃ x, ok x ∧ RepL (fun _ => False) w cs (toC x) ∧ ∀ v ∈ cs, v.oneCell' = true) →
    ∃ (xs : List α) (us : List Value), xs.length = len ∧ us.length = len * n ∧ (∀ x ∈ xs, ok x) ∧ RepL (fun _ => False) w us (xs.flatMap toC) ∧ ∀ (j : Nat) (u : Value), us[j]? = some u → w.cell? (a.add j) = some u ∧ u.oneCell' = true
  | 0, _ => ⟨[], [], rfl, by simp, by simp, .nil, by simp⟩
  | len + 1, h => by
    obtain ⟨xs, us, h1, h2, h3, h4, h5⟩ := elems_open len fun i hi => h i (by omega)
    obtain ⟨cs, c1, x, c2, c3, c4⟩ := h len (by omega)
    obtain ⟨-, d1, d2⟩ := World.cells?_some c1
    refine ⟨xs ++ [x], us ++ cs, by simp [h1], by simp [h2, d1, Nat.add_mul], ?_, ?_, ?_⟩
    · intro y hy
      rcases List.mem_append.1 hy with hy | hy
      · exact h3 y hy
      · simp at hy; subst hy; exact c2
    · simpa using h4.append c3
    · intro j u hu
      by_cases hj : j < len * n
      · rw [List.getElem?_append_left (by omega)] at hu
        exact h5 j u hu
      · rw [List.getElem?_append_right (by omega), h2] at hu
        have hlt := (List.getElem?_eq_some_iff.1 hu).1
        have := d2 (j - len * n) (by omega)
        rw [Go.Deep.add_add, show len * n + (j - len * n) = j by omega, hu] at this
        exact ⟨this, c4 u (List.mem_of_getElem? hu)⟩
theorem opens_slice {α : Type} {toC : α → List D} {ok : α → Prop} {e : TypeId} {n fuel : Nat} (ht : P.underlying t = some (.slice e)) (hn : P.cellsOf e = n) (h : ∀ m, m < fuel → Opens P e toC ok m) :
    Opens P t (fun xs : List α => [.sl xs.length (xs.flatMap toC)]) (fun xs => xs.length ≤ maxLen ∧ ∀ x ∈ xs, ok x) fuel := by
  intro H enc w cs r hr
  rcases DataW.trod_slice ht hr with ⟨rfl, -⟩ | ⟨a, len, cap, elems, rest, m, rfl, rfl, -, -, hlc, hcm, hel, he, -⟩
  · exact ⟨[], ⟨by simp, by simp⟩, .cons _ _ _ _ (.sl none 0 0 [] [] (Nat.le_refl _) (fun _ => ⟨rfl, rfl, rfl⟩) (fun a e => by cases e) .nil) .nil, fun v hv => by simp at hv; subst hv; rfl⟩
  · rw [hn] at he
    obtain ⟨xs, us, h1, h2, h3, h4, h5⟩ := elems_open (toC := toC) (ok := ok) (w := w) (a := a) (n := n) len fun i hi => by
      have h6 := he i hi
      rw [List.getElem?_eq_getElem (by omega)] at h6
      obtain ⟨cs', h7, h8⟩ := Option.bind_eq_some_iff.1 h6
      exact ⟨cs', h7, h m (by omega) H enc w cs' _ h8⟩
    refine ⟨xs, ⟨by omega, h3⟩, .cons _ _ _ _ ?_ .nil, fun v hv => by simp at hv; subst hv; rfl⟩
    rw [h1]
    refine .sl (some a) len cap us _ hlc (fun e => by cases e) (fun b hb => ?_) h4
    cases hb
    refine ⟨fun h0 => ?_, fun j u hu => ⟨(h5 j u hu).1, fun h => h, (h5 j u hu).2⟩⟩
    cases us with
    | nil => exact absurd rfl h0
    | cons u us =>
      have := World.cell?_spot (h5 0 u rfl).1
      simpa [Addr.add] using this
/-- A struct that came in. -/
theorem came_struct {α : Type} {toC : α → List D} {ok : α → Prop} {fs : Array Field} {H : Type} {enc : TypeId × Value → H} {w : World} {base : Nat} {v : Value} {d : DataW H} {p : List MemPlace} (ht : P.underlying t = some (.struct fs))
    (hv : Value.okWide P w .any base t v) (h : DataW.Trod enc P w 0 (fun _ => true) true t v d p) (ho : ∀ fuel, Opens P t toC ok fuel) : ∃ x, ok x ∧ Rep (fun _ => False) w v (.agg (toC x)) := by
  unfold Value.okWide at hv
  rw [ht] at hv
  obtain ⟨cs, rfl, -, -⟩ := hv
  obtain ⟨fuel, h⟩ := h
  obtain ⟨x, h1, h2, h3⟩ := ho fuel H enc w _ _ h
  exact ⟨x, h1, .agg _ _ h2 h3⟩
/-- A slice that came in. -/
theorem came_slice {α : Type} {toC : α → D} {ok : α → Prop} {e : TypeId} {H : Type} {enc : TypeId × Value → H} {w : World} {base : Nat} {v : Value} {d : DataW H} {p : List MemPlace} (ht : P.underlying t = some (.slice e))
    (hv : Value.okWide P w .any base t v) (h : DataW.Trod enc P w 0 (fun _ => true) true t v d p) (ho : ∀ fuel, Opens P t (fun x => [toC x]) ok fuel) : ∃ x, ok x ∧ Rep (fun _ => False) w v (toC x) := by
  unfold Value.okWide at hv
  rw [ht] at hv
  simp only [Cell.okWide, ht, Cell.ok] at hv
  obtain ⟨fuel, h⟩ := h
  have hc : v.cells.toList = [v] := by
    cases v <;> first | rfl | (simp at hv)
  rw [hc] at h
  obtain ⟨x, h1, h2, h3⟩ := ho fuel H enc w _ _ h
  cases h2 with
  | cons v d vs ds h t => exact ⟨x, h1, h⟩
end
end Go.Proofs.YtefiebkngpcaoaaDoor
