/- The plain laws of sums, differences and the order of times. No program in sight. Conditions: those that each lemma states. -/
import Derived.Test.YtjheegdkngkhaaaSpanH
set_option linter.unusedVariables false
set_option linter.unusedSimpArgs false
set_option linter.unusedSectionVars false
namespace Go.Proofs.Ytjheegdkngkhaaa
open Go.RowKit

def addT (n d n' d' : Int) : Int × Int × Int :=
  if rightB n d && rightB n' d' then
    if teq n d 1 0 || teq n' d' 1 0 then (1, 0, 0) else madeR (n.toNat * d'.toNat + n'.toNat * d.toNat) (d.toNat * d'.toNat)
  else (0, 0, 1)
def subT (n d n' d' : Int) : Int × Int × Int :=
  if rightB n d && rightB n' d' then
    if teq n' d' 1 0 || decide (cmpT n d n' d' < 0) then (0, 0, 4)
    else if teq n d 1 0 then (1, 0, 0) else madeR (n.toNat * d'.toNat - n'.toNat * d.toNat) (d.toNat * d'.toNat)
  else (0, 0, 1)
/-- A right time is without an end, or a fraction in lowest terms. -/
theorem right_cases {n d : Int} (h1 : I64 n) (h2 : I64 d) (h : rightB n d = true) : (n = 1 ∧ d = 0) ∨ ∃ a b : Nat, n = a ∧ d = b ∧ 0 < b ∧ a ≤ 9223372036854775807 ∧ b ≤ 9223372036854775807 ∧ Nat.gcd a b = 1 ∧ teq n d 1 0 = false := by
  by_cases ht : teq n d 1 0 = true
  · exact .inl (teq_eq ht)
  · simp only [Bool.not_eq_true] at ht
    simp [rightB, ht] at h
    obtain ⟨⟨h3, h4⟩, h5⟩ := h
    obtain ⟨a, rfl⟩ := Int.eq_ofNat_of_zero_le h4
    obtain ⟨b, rfl⟩ := Int.eq_ofNat_of_zero_le (Int.le_of_lt h3)
    obtain ⟨-, h1⟩ := h1
    obtain ⟨-, h2⟩ := h2
    refine .inr ⟨a, b, rfl, rfl, by omega, by omega, by omega, ?_, ht⟩
    simp only [Int.gcd_natCast_natCast] at h5
    omega
theorem teq_nat {a b : Nat} (h : 0 < b) : teq a b 1 0 = false := by
  simp [teq]
  omega
theorem right_nat {a b : Nat} (h : 0 < b) (hg : Nat.gcd a b = 1) : rightB a b = true := by
  simp [rightB, teq_nat h, hg]
  omega
theorem never_right : rightB 1 0 = true := by decide
theorem cmp_nat {a b a' b' : Nat} (h : 0 < b) (h' : 0 < b') (hg : Nat.gcd a b = 1) (hg' : Nat.gcd a' b' = 1) : cmpT a b a' b' = icmp ((a * b' : Nat) : Int) ((a' * b : Nat) : Int) := by
  simp [cmpT, right_nat h hg, right_nat h' hg', teq_nat h, teq_nat h']
/-- Lowest terms hang on the ratio alone. -/
theorem low_unique {a b a' b' : Nat} (h : Nat.gcd a b = 1) (h' : Nat.gcd a' b' = 1) (hb : 0 < b) (e : a * b' = a' * b) : a = a' ∧ b = b' := by
  have d1 : b ∣ b' := Nat.Coprime.dvd_of_dvd_mul_left (show Nat.gcd b a = 1 by rw [Nat.gcd_comm]; exact h) (show b ∣ a * b' from e ▸ Nat.dvd_mul_left b a')
  have d2 : b' ∣ b := Nat.Coprime.dvd_of_dvd_mul_left (show Nat.gcd b' a' = 1 by rw [Nat.gcd_comm]; exact h') (show b' ∣ a' * b from e ▸ Nat.dvd_mul_left b' a)
  have hbb := Nat.dvd_antisymm d1 d2
  subst hbb
  exact ⟨Nat.eq_of_mul_eq_mul_right hb e, rfl⟩
theorem madeR_eq {n d n' d' : Nat} (hd : 0 < d) (hd' : 0 < d') (e : n * d' = n' * d) : madeR n d = madeR n' d' := by
  have g1 := Nat.gcd_pos_of_pos_right n hd
  have g2 := Nat.gcd_pos_of_pos_right n' hd'
  have c1 : Nat.gcd (n / Nat.gcd n d) (d / Nat.gcd n d) = 1 := by rw [Nat.gcd_div (Nat.gcd_dvd_left _ _) (Nat.gcd_dvd_right _ _), Nat.div_self g1]
  have c2 : Nat.gcd (n' / Nat.gcd n' d') (d' / Nat.gcd n' d') = 1 := by rw [Nat.gcd_div (Nat.gcd_dvd_left _ _) (Nat.gcd_dvd_right _ _), Nat.div_self g2]
  have e1 := (Nat.div_mul_cancel (Nat.gcd_dvd_left n d)).symm
  have e2 := (Nat.div_mul_cancel (Nat.gcd_dvd_right n d)).symm
  have e3 := (Nat.div_mul_cancel (Nat.gcd_dvd_left n' d')).symm
  have e4 := (Nat.div_mul_cancel (Nat.gcd_dvd_right n' d')).symm
  have hb : 0 < d / Nat.gcd n d := Nat.div_pos (Nat.gcd_le_right n hd) g1
  have key : n / Nat.gcd n d * (d' / Nat.gcd n' d') = n' / Nat.gcd n' d' * (d / Nat.gcd n d) := by
    have hp : 0 < Nat.gcd n d * Nat.gcd n' d' := Nat.mul_pos g1 g2
    apply Nat.eq_of_mul_eq_mul_right hp
    have l : n / Nat.gcd n d * (d' / Nat.gcd n' d') * (Nat.gcd n d * Nat.gcd n' d') = n * d' := by
      conv => rhs; rw [e1, e4]
      ac_rfl
    have r : n' / Nat.gcd n' d' * (d / Nat.gcd n d) * (Nat.gcd n d * Nat.gcd n' d') = n' * d := by
      conv => rhs; rw [e3, e2]
      ac_rfl
    rw [l, r, e]
  obtain ⟨k1, k2⟩ := low_unique c1 c2 hb key
  unfold madeR
  rw [k1, k2]
theorem madeR_low {n d : Nat} (h : Nat.gcd n d = 1) (hn : n ≤ 9223372036854775807) (hd : d ≤ 9223372036854775807) : madeR n d = ((n : Int), (d : Int), 0) := by
  unfold madeR maxI
  rw [h, Nat.div_one, Nat.div_one, if_neg (by omega)]
/-- A number in lowest terms, or none that fits. -/
theorem madeR_cases {n d : Nat} (hd : 0 < d) : madeR n d = (0, 0, 2) ∨ ∃ a b : Nat, madeR n d = ((a : Int), (b : Int), 0) ∧ 0 < b ∧ a ≤ 9223372036854775807 ∧ b ≤ 9223372036854775807 ∧ Nat.gcd a b = 1 ∧ a * d = n * b := by
  have g1 := Nat.gcd_pos_of_pos_right n hd
  unfold madeR maxI
  split
  · exact .inl rfl
  · rename_i h
    refine .inr ⟨_, _, rfl, Nat.div_pos (Nat.gcd_le_right n hd) g1, by omega, by omega, ?_, ?_⟩
    · rw [Nat.gcd_div (Nat.gcd_dvd_left _ _) (Nat.gcd_dvd_right _ _), Nat.div_self g1]
    · have e1 := Nat.div_mul_cancel (Nat.gcd_dvd_left n d)
      have e2 := Nat.div_mul_cancel (Nat.gcd_dvd_right n d)
      calc n / Nat.gcd n d * d = n / Nat.gcd n d * (d / Nat.gcd n d * Nat.gcd n d) := by rw [e2]
        _ = n / Nat.gcd n d * Nat.gcd n d * (d / Nat.gcd n d) := by ac_rfl
        _ = n * (d / Nat.gcd n d) := by rw [e1]
theorem addT_nat {a b a' b' : Nat} (h : 0 < b) (h' : 0 < b') (hg : Nat.gcd a b = 1) (hg' : Nat.gcd a' b' = 1) : addT a b a' b' = madeR (a * b' + a' * b) (b * b') := by
  simp [addT, right_nat h hg, right_nat h' hg', teq_nat h, teq_nat h']
theorem subT_nat {a b a' b' : Nat} (h : 0 < b) (h' : 0 < b') (hg : Nat.gcd a b = 1) (hg' : Nat.gcd a' b' = 1) (hle : a' * b ≤ a * b') : subT a b a' b' = madeR (a * b' - a' * b) (b * b') := by
  have hc : ¬ cmpT a b a' b' < 0 := by
    rw [cmp_nat h h' hg hg']
    unfold icmp
    have : ((a' * b : Nat) : Int) ≤ ((a * b' : Nat) : Int) := Int.ofNat_le.2 hle
    split <;> omega
  simp [subT, right_nat h hg, right_nat h' hg', teq_nat h, teq_nat h', hc]
theorem addT_comm (n d n' d' : Int) : addT n d n' d' = addT n' d' n d := by
  unfold addT
  rw [Bool.and_comm, Bool.or_comm, Nat.add_comm, Nat.mul_comm d.toNat]
/-- What a sum comes to. -/
theorem addT_cases {n d n' d' : Int} (h1 : I64 n) (h2 : I64 d) (h3 : I64 n') (h4 : I64 d') : addT n d n' d' = (0, 0, 1) ∨ addT n d n' d' = (0, 0, 2) ∨
    (rightB n d = true ∧ rightB n' d' = true ∧ (addT n d n' d').2.2 = 0 ∧ rightB (addT n d n' d').1 (addT n d n' d').2.1 = true ∧ I64 (addT n d n' d').1 ∧ I64 (addT n d n' d').2.1) := by
  by_cases r1 : rightB n d = true
  · by_cases r2 : rightB n' d' = true
    · rcases right_cases h1 h2 r1 with ⟨rfl, rfl⟩ | ⟨a, b, rfl, rfl, hb, ha1, hb1, hg, ht⟩
      · exact .inr (.inr ⟨r1, r2, by simp [addT, r2, never_right, teq], by simp [addT, r2, never_right, teq], by simp [addT, r2, never_right, teq, I64], by simp [addT, r2, never_right, teq, I64]⟩)
      · rcases right_cases h3 h4 r2 with ⟨rfl, rfl⟩ | ⟨a', b', rfl, rfl, hb', ha1', hb1', hg', ht'⟩
        · exact .inr (.inr ⟨r1, r2, by simp [addT, r1, never_right, teq], by simp [addT, r1, never_right, teq], by simp [addT, r1, never_right, teq, I64], by simp [addT, r1, never_right, teq, I64]⟩)
        · rw [addT_nat hb hb' hg hg']
          rcases madeR_cases (n := a * b' + a' * b) (Nat.mul_pos hb hb') with e | ⟨x, y, e, g1, g2, g3, g4, g5⟩
          · exact .inr (.inl e)
          · rw [e]
            exact .inr (.inr ⟨r1, r2, rfl, right_nat g1 g4, ⟨by show _ ≤ (x : Int); omega, by show (x : Int) ≤ _; omega⟩, ⟨by show _ ≤ (y : Int); omega, by show (y : Int) ≤ _; omega⟩⟩)
    · exact .inl (by simp [addT, r2])
  · exact .inl (by simp [addT, r1])
theorem sub_back {n d n' d' : Int} (h1 : I64 n) (h2 : I64 d) (h3 : I64 n') (h4 : I64 d') (h0 : (addT n d n' d').2.2 = 0) :
    (teq n' d' 1 0 = true → subT (addT n d n' d').1 (addT n d n' d').2.1 n' d' = (0, 0, 4)) ∧ (teq n' d' 1 0 = false → subT (addT n d n' d').1 (addT n d n' d').2.1 n' d' = (n, d, 0)) := by
  rcases addT_cases h1 h2 h3 h4 with e | e | ⟨r1, r2, -, r3, i1, i2⟩
  · rw [e] at h0; cases h0
  · rw [e] at h0; cases h0
  refine ⟨fun ht => by simp [subT, r2, r3, ht], fun ht => ?_⟩
  rcases right_cases h3 h4 r2 with ⟨rfl, rfl⟩ | ⟨a', b', rfl, rfl, hb', ha1', hb1', hg', ht'⟩
  · simp [teq] at ht
  rcases right_cases h1 h2 r1 with ⟨rfl, rfl⟩ | ⟨a, b, rfl, rfl, hb, ha1, hb1, hg, ht1⟩
  · have e : addT 1 0 (a' : Int) (b' : Int) = (1, 0, 0) := by simp [addT, r2, never_right, teq]
    rw [e]
    have : cmpT 1 0 (a' : Int) (b' : Int) = 1 := by
      simp [cmpT, r2, never_right, show teq 1 0 1 0 = true from rfl, ht, sgn]
    simp [subT, r2, never_right, ht, this, show teq 1 0 1 0 = true from rfl]
  · rw [addT_nat hb hb' hg hg'] at h0 ⊢
    rcases madeR_cases (n := a * b' + a' * b) (Nat.mul_pos hb hb') with e | ⟨x, y, e, g1, g2, g3, g4, g5⟩
    · rw [e] at h0; cases h0
    · rw [e]
      -- x / y = a / b + a' / b'
      have hsub : x * b' * b = a * y * b' + a' * y * b := by
        have : x * (b * b') = (a * b' + a' * b) * y := g5
        calc x * b' * b = x * (b * b') := by ac_rfl
          _ = (a * b' + a' * b) * y := this
          _ = a * y * b' + a' * y * b := by rw [Nat.add_mul]; ac_rfl
      have hle : a' * y ≤ x * b' := by
        apply Nat.le_of_mul_le_mul_right _ hb
        rw [hsub]
        exact Nat.le_add_left _ _
      rw [subT_nat g1 hb' g4 hg' hle]
      rw [madeR_eq (n' := a) (d' := b) (Nat.mul_pos g1 hb') hb, madeR_low hg ha1 hb1]
      rw [Nat.sub_mul, hsub, Nat.add_sub_cancel]
      ac_rfl
end Go.Proofs.Ytjheegdkngkhaaa
