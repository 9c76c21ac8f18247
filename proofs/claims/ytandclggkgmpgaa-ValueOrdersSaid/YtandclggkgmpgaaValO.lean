/- Texts gathered one after another, as the document does it, are the program's brackets. Plain, no program in sight. -/
import Derived.Test.YtandclggkgmpgaaValT
set_option maxRecDepth 100000
set_option linter.unusedVariables false
set_option linter.unusedSimpArgs false
set_option linter.unusedSectionVars false
namespace Go.Proofs.Ytandclggkgmpgaa
open Go.RowKit

/-- What is gathered ahead of the i-th. -/
def accS (xs : List ByteArray) : Nat → ByteArray
  | 0 => ⟨#[40]⟩
  | i + 1 => (if 0 < i then accS xs i ++ ⟨#[44, 32]⟩ else accS xs i) ++ xs.getD i ⟨#[]⟩
theorem accS_size {xs : List ByteArray} {B : Nat} (h : ∀ x ∈ xs, x.size ≤ B) : ∀ i, (accS xs i).size ≤ 1 + i * (B + 2)
  | 0 => by simp [accS]; decide
  | i + 1 => by
    have ih := accS_size h i
    have hx : (xs.getD i ⟨#[]⟩).size ≤ B := by
      by_cases hi : i < xs.length
      · simp only [List.getD, List.getElem?_eq_getElem hi, Option.getD_some]; exact h _ (List.getElem_mem hi)
      · simp only [List.getD, List.getElem?_eq_none (Nat.le_of_not_lt hi), Option.getD_none]; exact Nat.zero_le _
    have s2 : (⟨#[44, 32]⟩ : ByteArray).size = 2 := rfl
    rw [accS, ByteArray.size_append]
    rw [Nat.add_mul]
    split
    · rw [ByteArray.size_append]; omega
    · omega
theorem ba_ext {a b : ByteArray} (h : a.data.toList = b.data.toList) : a = b := by
  cases a; cases b; simp at h; rw [h]
theorem accS_join {x : ByteArray} {r : List ByteArray} : ∀ i, i ≤ r.length → (accS (x :: r) (i + 1)).data.toList = 40 :: (x.data.toList ++ Lib.joinTail [44, 32] ((r.take i).map (·.data.toList)))
  | 0, _ => by simp [accS, Lib.joinTail]
  | i + 1, h => by
    have ih := accS_join (x := x) (r := r) i (by omega)
    rw [accS, if_pos (by omega)]
    have hg : (x :: r).getD (i + 1) ⟨#[]⟩ = r[i] := by simp [List.getD, List.getElem?_eq_getElem (show i < r.length by omega)]
    have e : ∀ (A : List (List UInt8)) (b : List UInt8), Lib.joinTail [44, 32] (A ++ [b]) = Lib.joinTail [44, 32] A ++ ([44, 32] ++ b) := fun A b => by simp [Lib.joinTail]
    rw [hg, List.take_succ_eq_append_getElem (by omega), List.map_append, List.map_cons, List.map_nil, e, ByteArray.data_append, Array.toList_append, ByteArray.data_append, Array.toList_append, ih]
    simp
theorem accS_paren (xs : List ByteArray) (h : xs ≠ []) : (if xs.length = 1 then accS xs xs.length ++ ⟨#[44]⟩ else accS xs xs.length) ++ ⟨#[41]⟩ = paren xs := by
  cases xs with
  | nil => exact absurd rfl h
  | cons x r =>
    have hj := accS_join (x := x) (r := r) r.length (Nat.le_refl _)
    rw [List.take_length] at hj
    apply ba_ext
    unfold paren
    split
    · have hr : r = [] := by
        cases r with
        | nil => rfl
        | cons y r => simp at *
      subst hr
      simp [hj, accS, Lib.joinTail]
    · simp [hj, joinS, Lib.join_cons]
end Go.Proofs.Ytandclggkgmpgaa
