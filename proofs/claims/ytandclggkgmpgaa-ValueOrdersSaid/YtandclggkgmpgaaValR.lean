/- A right type's text is short. Plain, no program in sight. -/
import Derived.Test.YtandclggkgmpgaaValQ
import Derived.Test.YtandclggkgmpgaaValE
set_option maxRecDepth 100000
set_option linter.unusedVariables false
set_option linter.unusedSimpArgs false
set_option linter.unusedSectionVars false
namespace Go.Proofs.Ytandclggkgmpgaa
open Go.RowKit

theorem paren_size {xs : List ByteArray} {B : Nat} (h : ∀ x ∈ xs, x.size ≤ B) : (paren xs).size ≤ 3 + xs.length * (B + 2) := by
  cases xs with
  | nil => simp [paren, joinS, Lib.join_nil]; decide
  | cons x r =>
    rw [← accS_paren (x :: r) (by simp)]
    have := accS_size h (x :: r).length
    have s1 : (⟨#[44]⟩ : ByteArray).size = 1 := rfl
    have s2 : (⟨#[41]⟩ : ByteArray).size = 1 := rfl
    rw [ByteArray.size_append]
    split
    · rw [ByteArray.size_append]; omega
    · omega
theorem joinS_size {xs : List ByteArray} {B : Nat} (h : ∀ x ∈ xs, x.size ≤ B) : (joinS xs ⟨#[44, 32]⟩).size ≤ 3 + xs.length * (B + 2) := by
  by_cases h1 : xs.length = 1
  · match xs, h1 with
    | [x], _ =>
      have : joinS [x] ⟨#[44, 32]⟩ = x := by simp [joinS, Lib.join]
      rw [this]
      have := h x (by simp)
      simp; omega
  · have := paren_size h
    rw [paren, if_neg h1, ByteArray.size_append, ByteArray.size_append] at this
    omega
theorem right_text : ∀ (n : Nat) (x : Typ), tRight n x = true → (tText x).size ≤ 20 * 5 ^ n ∧ (n ≤ 3 → x.Tx ∧ x.Rt) := by
  have leaf : ∀ (n : Nat) (k : Int) (l : List Typ), 0 ≤ k ∧ k ≤ 2 → tRight n (.mk k l) = true → (tText (.mk k l)).size ≤ 20 * 5 ^ n ∧ (n ≤ 3 → (Typ.mk k l).Tx ∧ (Typ.mk k l).Rt) := by
    intro n k l hk h
    rw [tRight_leaf hk] at h
    have hl : l = [] := by cases l with | nil => rfl | cons x l => simp at h
    subst hl
    have hp : 1 ≤ 5 ^ n := Nat.pos_of_ne_zero (by simp)
    refine ⟨?_, fun _ => ⟨.mk _ _ (by simp) (by decide) (by simp), .mk _ _ (by omega) (by simp) (by omega) (by simp) (by simp)⟩⟩
    rw [tText]
    have : (if k = 1 then (⟨#[98, 111, 111, 108]⟩ : ByteArray) else if k = 2 then ⟨#[115, 121, 109]⟩ else if k = 3 then paren (tTextL []) else ⟨#[105, 110, 116]⟩).size ≤ 4 := by
      rw [if_neg (show ¬ k = 3 by omega)]
      split
      · decide
      · split <;> decide
    omega
  intro n
  induction n with
  | zero =>
    intro x h
    obtain ⟨k, l⟩ := x
    by_cases hk : 0 ≤ k ∧ k ≤ 2
    · exact leaf 0 k l hk h
    · by_cases h3 : k = 3
      · subst h3; rw [tRight_zero] at h; cases h
      · rw [tRight_no hk (by omega)] at h; cases h
  | succ n ih =>
    intro x h
    obtain ⟨k, l⟩ := x
    by_cases hk : 0 ≤ k ∧ k ≤ 2
    · exact leaf (n + 1) k l hk h
    · by_cases h3 : k = 3 ∧ 1 ≤ l.length ∧ l.length ≤ 4
      · obtain ⟨rfl, l1, l4⟩ := h3
        rw [tRight_succ l1 l4, List.all_eq_true] at h
        have hb : ∀ x ∈ l.map tText, x.size ≤ 20 * 5 ^ n := by
          intro y hy
          obtain ⟨x, hx, rfl⟩ := List.mem_map.1 hy
          exact (ih x (h x hx)).1
        have hs := paren_size hb
        have hj := joinS_size hb
        rw [List.length_map] at hs hj
        have hm : l.length * (20 * 5 ^ n + 2) ≤ 4 * (20 * 5 ^ n + 2) := Nat.mul_le_mul_right _ l4
        have hp : 1 ≤ 5 ^ n := Nat.pos_of_ne_zero (by simp)
        refine ⟨?_, fun hn => ?_⟩
        · rw [tText, tTextL_map, if_neg (by decide), if_neg (by decide), if_pos rfl, Nat.pow_succ]; omega
        · have h5 : 5 ^ n ≤ 5 ^ 2 := Nat.pow_le_pow_right (by omega) (by omega)
          refine ⟨.mk _ _ (by omega) (by omega) fun x hx => ((ih x (h x hx)).2 (by omega)).1, .mk _ _ (by omega) (by omega) (fun _ e => by rw [e] at l1; simp at l1) (fun x hx => ?_) fun x hx => ((ih x (h x hx)).2 (by omega)).2⟩
          have := (ih x (h x hx)).1
          omega
      · rw [tRight_no hk h3] at h; cases h
end Go.Proofs.Ytandclggkgmpgaa
