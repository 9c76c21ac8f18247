/- Values stand in one order; level are just those that are the same. Plain, no program in sight. -/
import Derived.Test.YtandclggkgmpgaaValCB
set_option maxRecDepth 100000
set_option linter.unusedVariables false
set_option linter.unusedSimpArgs false
set_option linter.unusedSectionVars false
namespace Go.Proofs.Ytandclggkgmpgaa
open Go.RowKit

theorem cmpI_anti (a b : Int) : cmpI a b = -cmpI b a := by unfold cmpI; split <;> split <;> (try split) <;> (try split) <;> omega
theorem cmpI_zero (a b : Int) : cmpI a b = 0 ↔ a = b := by unfold cmpI; split <;> (try split) <;> constructor <;> intro h <;> omega
theorem orC_anti {a b c d : Int} (h1 : a = -b) (h2 : c = -d) : orC a c = -orC b d := by unfold orC; split <;> split <;> omega
theorem orC_zero {a b : Int} : orC a b = 0 ↔ a = 0 ∧ b = 0 := by unfold orC; split <;> constructor <;> intro h <;> simp_all
theorem cb_anti : ∀ a b : List UInt8, Lib.compareBytes a b = -Lib.compareBytes b a
  | [], [] => rfl
  | [], _ :: _ => rfl
  | _ :: _, [] => rfl
  | x :: a, y :: b => by
    rw [Lib.compareBytes, Lib.compareBytes, cb_anti a b]
    by_cases h1 : x < y
    · rw [if_pos h1, if_neg (UInt8.not_lt.2 (UInt8.le_of_lt h1)), if_pos h1]
    · rw [if_neg h1]
      by_cases h2 : y < x
      · rw [if_pos h2, if_pos h2]; rfl
      · rw [if_neg h2, if_neg h2, if_neg h1]
theorem cb_zero : ∀ a b : List UInt8, Lib.compareBytes a b = 0 ↔ a = b
  | [], [] => by simp [Lib.compareBytes]
  | [], _ :: _ => by simp [Lib.compareBytes]
  | _ :: _, [] => by simp [Lib.compareBytes]
  | x :: a, y :: b => by
    rw [Lib.compareBytes]
    by_cases h1 : x < y
    · rw [if_pos h1]; simp; intro e; subst e; exact absurd h1 (UInt8.lt_irrefl _)
    · rw [if_neg h1]
      by_cases h2 : y < x
      · rw [if_pos h2]; simp; intro e; subst e; exact absurd h2 (UInt8.lt_irrefl _)
      · rw [if_neg h2, cb_zero a b]
        have : x = y := UInt8.le_antisymm (UInt8.not_lt.1 h2) (UInt8.not_lt.1 h1)
        simp [this]
/-- Three that stand to each other as three in one order do. -/
def Con (ab bc ac : Int) : Prop := (ab = 0 → ac = bc) ∧ (bc = 0 → ac = ab) ∧ (ab = -1 → bc = -1 → ac = -1)
theorem con_or {ab bc ac ab' bc' ac' : Int} (h : Con ab bc ac) (h' : Con ab' bc' ac') (i1 : In1 ab) (i2 : In1 bc) : Con (orC ab ab') (orC bc bc') (orC ac ac') := by
  unfold Con In1 at *
  obtain ⟨h1, h2, h3⟩ := h
  obtain ⟨k1, k2, k3⟩ := h'
  rcases i1 with rfl | rfl | rfl <;> rcases i2 with rfl | rfl | rfl <;> simp [orC] at * <;> simp_all
theorem con_I (a b c : Int) : Con (cmpI a b) (cmpI b c) (cmpI a c) := by
  unfold Con cmpI
  refine ⟨fun h => ?_, fun h => ?_, fun h h' => ?_⟩
  · have : a = b := (cmpI_zero a b).1 h
    subst this; rfl
  · have : b = c := (cmpI_zero b c).1 h
    subst this; rfl
  · have h1 : a < b := by
      by_cases h1 : a < b
      · exact h1
      · rw [if_neg h1] at h; split at h <;> omega
    have h2 : b < c := by
      by_cases h2 : b < c
      · exact h2
      · rw [if_neg h2] at h'; split at h' <;> omega
    rw [if_pos (by omega)]
theorem con_B : ∀ a b c : List UInt8, Con (Lib.compareBytes a b) (Lib.compareBytes b c) (Lib.compareBytes a c)
  | a, b, c => by
    refine ⟨fun h => by rw [(cb_zero a b).1 h], fun h => by rw [(cb_zero b c).1 h], ?_⟩
    intro h h'
    induction a generalizing b c with
    | nil =>
      cases c with
      | nil => cases b <;> simp [Lib.compareBytes] at h h'
      | cons z c => rfl
    | cons x a ih =>
      cases b with
      | nil => simp [Lib.compareBytes] at h
      | cons y b =>
        cases c with
        | nil => simp [Lib.compareBytes] at h'
        | cons z c =>
          rw [Lib.compareBytes] at h h' ⊢
          by_cases h1 : x < y
          · by_cases h2 : y < z
            · rw [if_pos (UInt8.lt_trans h1 h2)]
            · rw [if_neg h2] at h'
              by_cases h3 : z < y
              · rw [if_pos h3] at h'; cases h'
              · have : y = z := UInt8.le_antisymm (UInt8.not_lt.1 h3) (UInt8.not_lt.1 h2)
                subst this
                rw [if_pos h1]
          · rw [if_neg h1] at h
            by_cases h3 : y < x
            · rw [if_pos h3] at h; cases h
            · rw [if_neg h3] at h
              have : x = y := UInt8.le_antisymm (UInt8.not_lt.1 h3) (UInt8.not_lt.1 h1)
              subst this
              by_cases h2 : x < z
              · rw [if_pos h2]
              · rw [if_neg h2] at h' ⊢
                by_cases h4 : z < x
                · rw [if_pos h4] at h'; cases h'
                · rw [if_neg h4] at h' ⊢
                  exact ih b c h h'
theorem cmpVL_anti : ∀ (l l' : List Vlu), (∀ x ∈ l, ∀ y, cmpV x y = -cmpV y x) → cmpVL l l' = -cmpVL l' l
  | [], [], _ => by rw [cmpVL]; rfl
  | [], _ :: _, _ => by rw [cmpVL, cmpVL]
  | _ :: _, [], _ => by rw [cmpVL, cmpVL]; rfl
  | x :: l, y :: l', h => by
    rw [cmpVL, cmpVL]
    exact orC_anti (h x (by simp) y) (cmpVL_anti l l' fun z hz => h z (by simp [hz]))
theorem cmpV_anti : ∀ (x y : Vlu), cmpV x y = -cmpV y x
  | .mk k n s l, .mk k' n' s' l' => by
    have ih : ∀ x ∈ l, ∀ y, cmpV x y = -cmpV y x := fun x hx y => cmpV_anti x y
    rw [cmpV, cmpV]
    exact orC_anti (cmpI_anti _ _) (orC_anti (cmpI_anti _ _) (orC_anti (cb_anti _ _) (cmpVL_anti l l' ih)))
termination_by x => SizeOf.sizeOf x
decreasing_by (have := List.sizeOf_lt_of_mem hx; simp; omega)
theorem con_L : ∀ (l l' l'' : List Vlu), (∀ x ∈ l, ∀ y z, Con (cmpV x y) (cmpV y z) (cmpV x z)) → Con (cmpVL l l') (cmpVL l' l'') (cmpVL l l'')
  | [], [], [], _ => by simp [cmpVL, Con]
  | [], [], _ :: _, _ => by simp [cmpVL, Con]
  | [], _ :: _, [], _ => by simp [cmpVL, Con]
  | [], y :: l', z :: l'', _ => by simp [cmpVL, Con]
  | _ :: _, [], [], _ => by simp [cmpVL, Con]
  | _ :: _, [], _ :: _, _ => by simp [cmpVL, Con]
  | x :: l, y :: l', [], _ => by simp [cmpVL, Con]
  | x :: l, y :: l', z :: l'', h => by
    rw [cmpVL, cmpVL, cmpVL]
    exact con_or (h x (by simp) y z) (con_L l l' l'' fun w hw => h w (by simp [hw])) (cmpV_in _ _) (cmpV_in _ _)
theorem con_V : ∀ (x y z : Vlu), Con (cmpV x y) (cmpV y z) (cmpV x z)
  | .mk k n s l, .mk k' n' s' l', .mk k'' n'' s'' l'' => by
    have ih : ∀ x ∈ l, ∀ y z, Con (cmpV x y) (cmpV y z) (cmpV x z) := fun x hx y z => con_V x y z
    rw [cmpV, cmpV, cmpV]
    exact con_or (con_I _ _ _) (con_or (con_I _ _ _) (con_or (con_B _ _ _) (con_L l l' l'' ih) (compareBytes_in _ _) (compareBytes_in _ _)) (cmpI_in _ _) (cmpI_in _ _)) (cmpI_in _ _) (cmpI_in _ _)
termination_by x => SizeOf.sizeOf x
decreasing_by (have := List.sizeOf_lt_of_mem hx; simp; omega)
theorem cmpV_trans {x y z : Vlu} (h1 : cmpV x y ≤ 0) (h2 : cmpV y z ≤ 0) : cmpV x z ≤ 0 := by
  obtain ⟨c1, c2, c3⟩ := con_V x y z
  have i1 := cmpV_in x y
  have i2 := cmpV_in y z
  unfold In1 at i1 i2
  rcases i1 with h | h | h
  · rcases i2 with h' | h' | h'
    · have := c3 h h'; omega
    · have := c2 h'; omega
    · omega
  · have := c1 h; omega
  · omega
theorem cmpVL_zero : ∀ (l l' : List Vlu), (∀ x ∈ l, ∀ y, cmpV x y = 0 ↔ sameV x y = true) → (cmpVL l l' = 0 ↔ sameVL l l' = true)
  | [], [], _ => by simp [cmpVL, sameVL]
  | [], _ :: _, _ => by simp [cmpVL, sameVL]
  | _ :: _, [], _ => by simp [cmpVL, sameVL]
  | x :: l, y :: l', h => by
    rw [cmpVL, sameVL, orC_zero, h x (by simp) y, cmpVL_zero l l' fun z hz => h z (by simp [hz])]
    simp
theorem cmpV_zero : ∀ (x y : Vlu), cmpV x y = 0 ↔ sameV x y = true
  | .mk k n s l, .mk k' n' s' l' => by
    have ih : ∀ x ∈ l, ∀ y, cmpV x y = 0 ↔ sameV x y = true := fun x hx y => cmpV_zero x y
    rw [cmpV, sameV, orC_zero, orC_zero, orC_zero, cmpI_zero, cmpI_zero, cb_zero, cmpVL_zero l l' ih, toList_data, toList_data]
    simp [and_assoc]
termination_by x => SizeOf.sizeOf x
decreasing_by (have := List.sizeOf_lt_of_mem hx; simp; omega)
theorem sameVL_eq : ∀ (l l' : List Vlu), (∀ x ∈ l, ∀ y, sameV x y = true → x = y) → sameVL l l' = true → l = l'
  | [], [], _, _ => rfl
  | [], _ :: _, _, h => by simp [sameVL] at h
  | _ :: _, [], _, h => by simp [sameVL] at h
  | x :: l, y :: l', hh, h => by
    rw [sameVL, Bool.and_eq_true] at h
    rw [hh x (by simp) y h.1, sameVL_eq l l' (fun z hz => hh z (by simp [hz])) h.2]
theorem ba_eq {a b : ByteArray} (h : a.data.toList = b.data.toList) : a = b := by
  show (⟨a.data⟩ : ByteArray) = ⟨b.data⟩
  rw [Array.toList_inj.1 h]
theorem sameV_eq : ∀ (x y : Vlu), sameV x y = true → x = y
  | .mk k n s l, .mk k' n' s' l', h => by
    have ih : ∀ x ∈ l, ∀ y, sameV x y = true → x = y := fun x hx y => sameV_eq x y
    rw [sameV, Bool.and_eq_true, Bool.and_eq_true, Bool.and_eq_true, toList_data, toList_data] at h
    obtain ⟨⟨⟨h1, h2⟩, h3⟩, h4⟩ := h
    rw [eq_of_beq h1, eq_of_beq h2, ba_eq (eq_of_beq h3), sameVL_eq l l' ih h4]
termination_by x => SizeOf.sizeOf x
decreasing_by (have := List.sizeOf_lt_of_mem hx; simp; omega)
end Go.Proofs.Ytandclggkgmpgaa
