/- A slice that reads as a list of cells, wherever it lies; how it stays; what indexing it gives. No condition beyond each lemma's own. -/
import Derived.Test.YtjheegdkngkhaaaBase
import Derived.Laws.AppendOwnNone
set_option linter.unusedVariables false
set_option linter.unusedSimpArgs false
set_option linter.unusedSectionVars false
namespace Go.Proofs.Ytjheegdkngkhaaa
open Go.RowKit

/-- The i-th cell behind a slice's base. -/
def Ad (p : Option Addr) (i : Nat) : Addr := (p.getD ⟨0, 0, none⟩).add i
theorem Ad_some (b o i : Nat) : Ad (some ⟨b, o, none⟩) i = ⟨b, o + i, none⟩ := by
  unfold Ad Addr.add; simp

/-- v is a slice of n elements of so many cells each, which are xs in all. -/
structure IsL (w : World) (size : Nat) (p : Option Addr) (n cap : Nat) (xs : List Value) : Prop where
  len : xs.length = n * size
  max : n ≤ maxLen
  room : n ≤ cap
  base : 0 < n → p ≠ none
  nilz : p = none → cap = 0
  cell : ∀ j u, xs[j]? = some u → w.cell? (Ad p j) = some u

theorem IsL.mono {w w' : World} {size n cap : Nat} {p : Option Addr} {xs : List Value} (h : IsL w size p n cap xs) (hx : Ex w w') : IsL w' size p n cap xs :=
  ⟨h.len, h.max, h.room, h.base, h.nilz, fun j u hu => by
    have h1 := h.cell j u hu
    have h2 := World.block_lt_of_cell? w _ h1
    exact (Below.cell hx h2).trans h1⟩
theorem IsL.nil (w : World) (size : Nat) : IsL w size none 0 0 [] := ⟨by simp, by simp [maxLen], Nat.zero_le _, fun h => absurd h (by omega), fun _ => rfl, fun j u hu => by simp at hu⟩
theorem IsL.of_owns {w : World} {base size n : Nat} {e : TypeId} {v : Value} {xs : List Value} (h : w.ownsRow base e size v n xs) : ∃ p cap, v = .slice p n cap ∧ IsL w size p n cap xs := by
  obtain ⟨hl, h | ⟨g, cap, cur, rfl, hb, hg, hn, hm, hs, ht⟩⟩ := h
  · obtain ⟨rfl, rfl⟩ := h
    obtain rfl : xs = [] := List.eq_nil_of_length_eq_zero (by simpa using hl)
    exact ⟨none, 0, rfl, IsL.nil _ _⟩
  · refine ⟨_, _, rfl, hl, Nat.le_trans hn hm, hn, fun _ => by simp, (fun h => by cases h), fun j u hu => ?_⟩
    rw [Ad_some, Nat.zero_add, cell_of_row w g j cur e (0, 0) hg]
    rw [← ht, List.getElem?_take] at hu
    split at hu
    · simpa using hu
    · cases hu
/-- Its first elements. -/
theorem IsL.take {w : World} {size n cap : Nat} {p : Option Addr} {xs : List Value} (h : IsL w size p n cap xs) {k : Nat} (hk : k ≤ n) : IsL w size p k cap (xs.take (k * size)) :=
  ⟨by rw [List.length_take, h.len]; exact Nat.min_eq_left (Nat.mul_le_mul_right _ hk), Nat.le_trans hk h.max, Nat.le_trans hk h.room, fun h' => h.base (by omega), h.nilz,
    fun j u hu => h.cell j u (by rw [List.getElem?_take] at hu; split at hu; exact hu; cases hu)⟩
/-- The element's own cells. -/
theorem IsL.at1 {w : World} {n cap : Nat} {p : Option Addr} {xs : List Value} (h : IsL w 1 p n cap xs) {i : Nat} (hi : i < n) : w.cell? (Ad p i) = some (xs.getD i undef) := by
  have : i < xs.length := by rw [h.len]; omega
  exact h.cell i _ (by simp [List.getD, List.getElem?_eq_getElem this])

theorem run_indexAt_sl {P : Program} {t e : TypeId} {size : Nat} (ht : P.underlying t = some (.slice e)) (hs : ∀ w, (sizeOf e).run P w = .ok size w) {p : Option Addr} {n : Nat} (cap : Nat) (i : Nat) (hp : 0 < n → p ≠ none) (hi : i < n) (w : World) :
    (Instr.indexAt t (.slice p n cap) (.int .i64 i)).run P w = .ok (.pointer (some (Ad p (i * size)))) w := by
  cases p with
  | none => exact absurd rfl (hp (by omega))
  | some a =>
    simp [Instr.indexAt, run_underlying ht, asIntOf, hs, hi, Ad]

/-- 'out = append(out, x)', out nil or the call's own, x in the new block that the walk has just laid: the element's cells are cs. -/
theorem wpList_append1 {P : Program} {ops : Array Oper} {rest : List Oper} {o : Oper} {a : Act} {Q : Exit → Act → World → Prop} {w0 w : World} {s x : Operand} {t e : TypeId}
    (ht : P.underlying t = some (.slice e)) {z : Value} {size bytes : Nat}
    (hinfo : (P.info? e).map (fun i => (i.zero, i.size, i.bytes)) = some (some z, size, bytes)) {v : Value} {n : Nat} {xs : List Value} (hown : w.ownsRow w0.heap.size e size v n xs) (hex : Ex w0 w)
    (hn : n < 68719476736) {cs : Array Value}
    (hgd : o.guard = none := by rfl) (ho : o.op = .call { callee := .builtin .append, args := #[s, x], argTypes := #[t, t] } := by rfl) (hz : z.cells.size = size := by rfl) (hsz : 0 < size := by decide)
    (hs : a.eval s = v := by rfl) (hx : a.eval x = .slice (some ⟨w.heap.size, 0, none⟩) 1 1 := by rfl) (hcs : cs.size = size := by rfl) (hu : ∀ u ∈ cs.toList, u.oneCell' = true := by simp [Value.oneCell']) (hb : bytes ≤ 1024 := by decide)
    (h : ∀ v' w', w'.ownsRow w0.heap.size e size v' (n + 1) (xs ++ cs.toList) → Ex w0 w' → (w.alloc (.cells cs e)).grownBy w' v.ownBlock → wpList P ops Q rest (a.put o.dst v') w') :
    wpList P ops Q (o :: rest) a (w.alloc (.cells cs e)) := by
  obtain ⟨i0, hi, hz0, hz1, hz2⟩ := info_parts hinfo
  have hsize := hex.size
  refine wpList_append_own _ hgd _ _ t ho w0.heap.size e i0 z size bytes ht hi hz0 hz1 hz2 hz hsz v n xs hs (hown.alloc _) ⟨w.heap.size, 0, none⟩ 1 1 cs.toList hx (by simp [hcs]) ?_ hu
    (by simp only [maxLen]; omega) ?_ (by simp; omega) ?_
  · intro j u hu
    have : (⟨w.heap.size, 0, none⟩ : Addr).add j = ⟨w.heap.size, j, none⟩ := by unfold Addr.add; split <;> simp_all
    rw [this, World.cell?_alloc_at _ _ _ _ rfl]
    simpa using hu
  · have := Nat.mul_le_mul (show n + 1 ≤ 68719476736 by omega) hb
    exact Nat.le_trans this (by decide)
  · intro v' w' h1 h2 _
    refine h v' w' h1 ?_ h2
    refine Below.grown (Below.alloc hex hsize _) h2 (by simp; omega) fun k hk => ?_
    exact (hown.lt k hk).1

/-- 'out = append(out, l...)', out nil or the call's own. -/
theorem wpList_appendL {P : Program} {ops : Array Oper} {rest : List Oper} {o : Oper} {a : Act} {Q : Exit → Act → World → Prop} {w0 w : World} {s x : Operand} {t e : TypeId}
    (ht : P.underlying t = some (.slice e)) {z : Value} {size bytes : Nat}
    (hinfo : (P.info? e).map (fun i => (i.zero, i.size, i.bytes)) = some (some z, size, bytes)) {v : Value} {n : Nat} {xs : List Value} (hown : w.ownsRow w0.heap.size e size v n xs) (hex : Ex w0 w)
    {p : Option Addr} {m c : Nat} {news : List Value} (hsrc : IsL w size p m c news) (hone : ∀ u ∈ news, u.oneCell' = true) (hn : n + m < 68719476736)
    (hgd : o.guard = none := by rfl) (ho : o.op = .call { callee := .builtin .append, args := #[s, x], argTypes := #[t, t] } := by rfl) (hz : z.cells.size = size := by rfl) (hsz : 0 < size := by decide)
    (hs : a.eval s = v := by rfl) (hx : a.eval x = .slice p m c := by rfl) (hb : bytes ≤ 1024 := by decide)
    (h : ∀ v' w', w'.ownsRow w0.heap.size e size v' (n + m) (xs ++ news) → Ex w0 w' → w.grownBy w' v.ownBlock → wpList P ops Q rest (a.put o.dst v') w') :
    wpList P ops Q (o :: rest) a w := by
  obtain ⟨i0, hi, hz0, hz1, hz2⟩ := info_parts hinfo
  cases p with
  | none =>
    obtain rfl : m = 0 := Nat.eq_zero_of_not_pos fun hm => hsrc.base hm rfl
    obtain rfl := hsrc.nilz rfl
    obtain rfl : news = [] := List.eq_nil_of_length_eq_zero (by simpa using hsrc.len)
    exact wpList_append_own_none hgd s x t ho w0.heap.size e i0 size ht hi v n xs hs hown hx (h v w (by simpa using hown) hex (World.grownBy.refl _ _))
  | some ad =>
    refine wpList_append_own _ hgd s x t ho w0.heap.size e i0 z size bytes ht hi hz0 hz1 hz2 hz hsz v n xs hs hown ad m c news hx hsrc.len (fun j u hu => hsrc.cell j u hu) hone
      (by simp only [maxLen]; omega) ?_ hex.size ?_
    · have := Nat.mul_le_mul (show n + m ≤ 68719476736 by omega) hb
      exact Nat.le_trans this (by decide)
    · intro v' w' h1 h2 _
      exact h v' w' h1 (Below.grown hex h2 hex.size fun k hk => (hown.lt k hk).1) h2
/-- A new block that holds just one element, as a row of the call's own. -/
theorem owns_new {w0 w : World} {e : TypeId} (hex : Ex w0 w) (cs : Array Value) (size : Nat) (hs : cs.size = size) : (w.alloc (.cells cs e)).ownsRow w0.heap.size e size (.slice (some ⟨w.heap.size, 0, none⟩) 1 1) 1 cs.toList :=
  ⟨by simp [hs], .inr ⟨w.heap.size, 1, cs, rfl, hex.size, heap_alloc_new w _, Nat.le_refl _, by simp [maxLen], by simp [hs], by rw [Nat.one_mul]; exact List.take_of_length_le (by simp [hs])⟩⟩
/-- What is the call's own stays so while nothing old is written. -/
theorem owns_mono {w w' : World} {base : Nat} {e : TypeId} {size : Nat} {v : Value} {n : Nat} {xs : List Value} (h : w.ownsRow base e size v n xs) (hx : Ex w w') : w'.ownsRow base e size v n xs := by
  refine ⟨h.1, ?_⟩
  rcases h.2 with hn | ⟨g, cap, cur, hv, hb, hg, rest⟩
  · exact .inl hn
  · exact .inr ⟨g, cap, cur, hv, hb, by rw [Below.block hx g (Array.getElem?_eq_some_iff.1 hg).1]; exact hg, rest⟩
theorem owns_some {w : World} {base : Nat} {e : TypeId} {size : Nat} {v : Value} {n : Nat} {xs : List Value} (h : w.ownsRow base e size v n xs) (hn : 0 < n) : ∃ g cap, v = .slice (some ⟨g, 0, none⟩) n cap ∧ base ≤ g := by
  rcases h.2 with ⟨_, h0⟩ | ⟨g, cap, cur, hv, hb, _⟩
  · omega
  · exact ⟨g, cap, hv, hb⟩
theorem size_of_data (s : ByteArray) : s.size = s.data.toList.length := by rw [Array.length_toList]; rfl
/-- '+' on strings that are short. -/
theorem run_add_short (P : Program) (a b : ByteArray) (n : Nat) (h : a.size + b.size ≤ n) (hn : n ≤ 1000000000) (w : World) : (Op.stringOp .add a b).run P w = .ok (.string (a ++ b)) w :=
  run_string_add_sum w a b (by omega)
/-- 'make([]T, n)', T of one cell. -/
theorem wpList_make1 {P : Program} {ops : Array Oper} {rest : List Oper} {o : Oper} {a : Act} {Q : Exit → Act → World → Prop} {w0 w : World} {l c : Operand} {t e : TypeId}
    (ht : P.underlying t = some (.slice e)) {z : Value} {bytes : Nat}
    (hinfo : (P.info? e).map (fun i => (i.zero, i.size, i.bytes)) = some (some z, 1, bytes)) (hex : Ex w0 w) (n : Nat) (hn : n < 68719476736) {kl kc : IntKind} {L C : Int} (hL : L = n) (hC : C = n)
    (hgd : o.guard = none := by rfl) (ho : o.op = .makeSlice t l c := by rfl) (hl : a.eval l = .int kl L := by rfl) (hc : a.eval c = .int kc C := by rfl) (hzc : z.cells = #[z] := by rfl) (hb : bytes ≤ 1024 := by decide)
    (h : ∀ w', w'.ownsRow w0.heap.size e 1 (.slice (some ⟨w.heap.size, 0, none⟩) n n) n (List.replicate n z) → Ex w0 w' → w.heap.size < w'.heap.size → wpList P ops Q rest (a.put o.dst (.slice (some ⟨w.heap.size, 0, none⟩) n n)) w') :
    wpList P ops Q (o :: rest) a w := by
  obtain ⟨i0, hi, hz0, hz1, hz2⟩ := info_parts hinfo
  refine wpList_make_full _ hgd l c t ho w0.heap.size e i0 z 1 ht hi hz0 hz1 kl kc L C n hl hc hL hC ?_ (by simp only [maxLen]; omega) hex.size ?_
  · rw [hz2]
    have := Nat.mul_le_mul hb (show n ≤ 68719476736 by omega)
    exact Nat.le_trans this (by decide)
  · intro w' h1 h2
    rw [hzc, toList_madeCells_one, Nat.mul_one] at h1
    refine h w' h1 (Below.grown hex h2 hex.size fun k hk => by cases hk) ?_
    exact (h1.lt _ rfl).2
/-- A store into a row of the call's own. -/
theorem owns_stored {w0 w : World} {e : TypeId} {g n cap : Nat} {l : List Int} {k : IntKind} (h : w.ownsRow w0.heap.size e 1 (.slice (some ⟨g, 0, none⟩) n cap) n (l.map (Value.int k))) (j : Nat) (u : Int) :
    (w.setCell ⟨g, j, none⟩ (.int k u)).ownsRow w0.heap.size e 1 (.slice (some ⟨g, 0, none⟩) n cap) n ((l.set j u).map (Value.int k)) := by
  have := (h.stored j (.int k u)).1
  rwa [List.map_set]
theorem owns_int {w0 w : World} {e : TypeId} {g n cap : Nat} {l : List Int} {k : IntKind} (h : w.ownsRow w0.heap.size e 1 (.slice (some ⟨g, 0, none⟩) n cap) n (l.map (Value.int k))) (hl : l.length = n) {j : Nat} (hj : j < n) :
    w.cell? ⟨g, j, none⟩ = some (.int k (l.getD j 0)) := by
  rw [h.cellAt j (by omega)]
  simp [List.getD, hl ▸ hj]
end Go.Proofs.Ytjheegdkngkhaaa
