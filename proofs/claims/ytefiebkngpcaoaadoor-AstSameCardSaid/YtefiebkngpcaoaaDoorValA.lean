/- Rows of things as cells; how the round of a loop over one reads it. Plain, no program in sight. -/
import Derived.Test.YtefiebkngpcaoaaDoorPQ
set_option maxRecDepth 100000
set_option linter.unusedVariables false
set_option linter.unusedSimpArgs false
set_option linter.unusedSectionVars false
namespace Go.Proofs.YtefiebkngpcaoaaDoor
open Go.RowKit

/-- How things of one kind lie in a row. -/
structure Row (α : Type) where
  toC : α → List D
  n : Nat
  len : ∀ x, (toC x).length = n
def Row.cs {α : Type} (R : Row α) (l : List α) : List D := l.flatMap R.toC
section
variable {α : Type} {R : Row α} {l : List α}
theorem Row.cs_nil : R.cs [] = [] := rfl
theorem Row.cs_cons (x : α) : R.cs (x :: l) = R.toC x ++ R.cs l := by simp [Row.cs]
theorem Row.cs_append (l m : List α) : R.cs (l ++ m) = R.cs l ++ R.cs m := by simp [Row.cs]
theorem Row.cs_length (l : List α) : (R.cs l).length = l.length * R.n := by
  induction l with
  | nil => simp [Row.cs]
  | cons x l ih => rw [Row.cs_cons, List.length_append, ih, R.len]; simp [Nat.add_mul, Nat.add_comm]
theorem Row.drop (i : Nat) : (R.cs l).drop (i * R.n) = R.cs (l.drop i) := by
  induction i generalizing l with
  | zero => simp
  | succ i ih =>
    cases l with
    | nil => simp [Row.cs]
    | cons x l =>
      rw [Row.cs_cons, Nat.add_mul, Nat.one_mul, Nat.add_comm, ← List.drop_drop]
      rw [List.drop_append_of_le_length (by rw [R.len]; omega), show (R.toC x).drop R.n = [] from List.drop_eq_nil_of_le (by rw [R.len]; omega)]
      simpa using ih (l := l)
theorem Row.rd {i : Nat} {x : α} (hx : l[i]? = some x) {n : Nat} (hn : R.n = n) : (n ≤ ((R.cs l).drop (i * n)).length) ∧ ((R.cs l).drop (i * n)).take n = R.toC x := by
  subst hn
  obtain ⟨hi, rfl⟩ := List.getElem?_eq_some_iff.1 hx
  rw [Row.drop, List.drop_eq_getElem_cons hi, Row.cs_cons]
  refine ⟨by simp [R.len], ?_⟩
  rw [List.take_append_of_le_length (by rw [R.len]; omega), ← R.len l[i], List.take_length]
theorem Row.rd1 {i : Nat} {x : α} (hx : l[i]? = some x) (hn : R.n = 1) {y : D} (hy : R.toC x = [y]) : ((R.cs l).drop i).head? = some y := by
  obtain ⟨hi, rfl⟩ := List.getElem?_eq_some_iff.1 hx
  have := Row.drop (R := R) (l := l) i
  rw [hn, Nat.mul_one] at this
  rw [this, List.drop_eq_getElem_cons hi, Row.cs_cons, hy]
  rfl
theorem Row.full (x : α) {n : Nat} (hn : R.n = n) : ((R.toC x).map SV.d).take n = (R.toC x).map SV.d ∧ (R.toC x).length = n := by
  subst hn
  refine ⟨?_, R.len x⟩
  rw [← R.len x, ← List.length_map (f := SV.d), List.take_length]
theorem toDs_map (l : List D) : toDs (l.map SV.d) = some l := by
  induction l with
  | nil => rfl
  | cons x l ih => simp [toDs, SV.toD, ih]
end
/-- Facts at the head of a round: the place is within. -/
theorem at_in {i n : Nat} (h : i < n) : (decide ((i : Int) < (n : Int)) = true) ∧ ((0 : Int) ≤ (i : Int)) ∧ ((i : Int) < (n : Int)) := ⟨by simpa using h, by omega, by omega⟩
theorem at_out {i n : Nat} (h : ¬ i < n) : decide ((i : Int) < (n : Int)) = false := by simpa using h
theorem wrap_in {x : Int} (h : -9223372036854775808 ≤ x ∧ x ≤ 9223372036854775807) : IntKind.i64.wrap x = x := by
  rw [IntKind.wrap_i64]; omega
theorem wrap_succ {i n : Nat} (h : i < n) (hn : n ≤ maxLen) : IntKind.i64.wrap ((i : Int) + 1) = ((i + 1 : Nat) : Int) := by
  unfold maxLen at hn
  rw [wrap_in (by omega)]; omega
/-- All that a round's walk asks of the row that it goes through. -/
theorem rnd {α : Type} {R : Row α} {l : List α} {i n : Nat} (h : i < l.length) (hR : R.n = n) (hl : l.length ≤ maxLen) :
    (decide ((i : Int) < (l.length : Int)) = true ∧ (0 : Int) ≤ (i : Int) ∧ (i : Int) < (l.length : Int)) ∧ (n ≤ ((R.cs l).drop (i * n)).length ∧ ((R.cs l).drop (i * n)).take n = R.toC l[i]) ∧
    (((R.toC l[i]).map SV.d).take n = (R.toC l[i]).map SV.d ∧ (R.toC l[i]).length = n) ∧ IntKind.i64.wrap ((i : Int) + 1) = ((i + 1 : Nat) : Int) :=
  ⟨at_in h, Row.rd (by simp [h]) hR, Row.full _ hR, wrap_succ h hl⟩
/-- The same of a row whose things are one cell each. -/
theorem rnd1 {α : Type} {R : Row α} {l : List α} {i : Nat} {y : D} (h : i < l.length) (hR : R.n = 1) (hl : l.length ≤ maxLen) (hy : R.toC l[i] = [y]) :
    (decide ((i : Int) < (l.length : Int)) = true ∧ (0 : Int) ≤ (i : Int) ∧ (i : Int) < (l.length : Int)) ∧ ((R.cs l).drop i).head? = some y ∧ IntKind.i64.wrap ((i : Int) + 1) = ((i + 1 : Nat) : Int) :=
  ⟨at_in h, Row.rd1 (by simp [h]) hR hy, wrap_succ h hl⟩
attribute [go_sem] and_self Int.toNat_natCast List.length_map toDs_map Nat.le_refl
end Go.Proofs.YtefiebkngpcaoaaDoor
