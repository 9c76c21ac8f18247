/- Plain law of a sum and a difference in lowest terms. No program in sight. -/
import Derived.Test.YtjheegdkngkhaaaRedW
import Derived.Test.YtjheegdkngkhaaaTextP
set_option linter.unusedVariables false
set_option linter.unusedSimpArgs false
set_option linter.unusedSectionVars false
namespace Go.Proofs.Ytjheegdkngkhaaa
open Go.RowKit

theorem red_law (N c e g : Nat) (hg : 0 < g) (hc : Nat.gcd N c = 1) (he : Nat.gcd N e = 1) :
    fitT (N / Nat.gcd N g) (c * (e * g / Nat.gcd N g)) = madeR (N * g) (c * g * (e * g)) := by
  have h1 : Nat.gcd N (c * (e * g)) = Nat.gcd N g := by
    rw [Nat.gcd_comm, Nat.Coprime.gcd_mul_left_cancel _ (Nat.gcd_comm N c ▸ hc : Nat.gcd c N = 1), Nat.Coprime.gcd_mul_left_cancel _ (Nat.gcd_comm N e ▸ he : Nat.gcd e N = 1), Nat.gcd_comm]
  have h2 : c * g * (e * g) = c * (e * g) * g := by rw [Nat.mul_assoc, Nat.mul_comm g, ← Nat.mul_assoc]
  have h3 : Nat.gcd (N * g) (c * g * (e * g)) = Nat.gcd N g * g := by rw [h2, Nat.gcd_mul_right, h1]
  have h4 : N * g / (Nat.gcd N g * g) = N / Nat.gcd N g := Nat.mul_div_mul_right _ _ hg
  have h5 : c * g * (e * g) / (Nat.gcd N g * g) = c * (e * g / Nat.gcd N g) := by
    rw [h2, Nat.mul_div_mul_right _ _ hg, Nat.mul_div_assoc]
    exact Nat.dvd_trans (Nat.gcd_dvd_right N g) (Nat.dvd_mul_left g e)
  rw [madeR, h3, h4, h5, fitT]

/-- Two reduced fractions' denominators, parted. -/
theorem parted {d1 d2 : Nat} (h1 : 0 < d1) : ∃ c e g, g = Nat.gcd d1 d2 ∧ 0 < g ∧ d1 = c * g ∧ d2 = e * g ∧ d1 / g = c ∧ d2 / g = e ∧ Nat.gcd c e = 1 := by
  have hg := Nat.gcd_pos_of_pos_left d2 h1
  refine ⟨d1 / Nat.gcd d1 d2, d2 / Nat.gcd d1 d2, Nat.gcd d1 d2, rfl, hg, (Nat.div_mul_cancel (Nat.gcd_dvd_left _ _)).symm, (Nat.div_mul_cancel (Nat.gcd_dvd_right _ _)).symm, rfl, rfl, ?_⟩
  rw [Nat.gcd_div (Nat.gcd_dvd_left _ _) (Nat.gcd_dvd_right _ _), Nat.div_self hg]
theorem one_of_dvd {k a b : Nat} (ha : k ∣ a) (hb : k ∣ b) (h : Nat.gcd a b = 1) : k = 1 := Nat.dvd_one.1 (h ▸ Nat.dvd_gcd ha hb)
theorem prime_to_c {n1 n2 c e g N : Nat} (hn : Nat.gcd n1 (c * g) = 1) (hce : Nat.gcd c e = 1) (h : N = n1 * e + n2 * c ∨ N + n2 * c = n1 * e) : Nat.gcd N c = 1 := by
  have k1 := Nat.gcd_dvd_left N c
  have k2 := Nat.gcd_dvd_right N c
  have k3 : Nat.gcd N c ∣ n2 * c := Nat.dvd_trans k2 (Nat.dvd_mul_left c n2)
  have k4 : Nat.gcd N c ∣ n1 * e := by
    rcases h with h | h
    · rw [h] at k1 ⊢
      exact (Nat.dvd_add_left (h ▸ k3)).1 k1
    · rw [← h]; exact Nat.dvd_add k1 k3
  have hn' : Nat.gcd n1 c = 1 := one_of_dvd (Nat.gcd_dvd_left _ _) (Nat.dvd_trans (Nat.gcd_dvd_right _ _) (Nat.dvd_mul_right c g)) hn
  have hm : Nat.gcd (n1 * e) c = 1 := Nat.Coprime.mul_left (show Nat.Coprime n1 c from hn') (show Nat.gcd e c = 1 from Nat.gcd_comm e c ▸ hce)
  exact one_of_dvd k4 k2 hm
theorem prime_to_e {n1 n2 c e g N : Nat} (hn : Nat.gcd n2 (e * g) = 1) (hce : Nat.gcd c e = 1) (h : N = n1 * e + n2 * c ∨ N + n2 * c = n1 * e) : Nat.gcd N e = 1 := by
  have k1 := Nat.gcd_dvd_left N e
  have k2 := Nat.gcd_dvd_right N e
  have k3 : Nat.gcd N e ∣ n1 * e := Nat.dvd_trans k2 (Nat.dvd_mul_left e n1)
  have k4 : Nat.gcd N e ∣ n2 * c := by
    rcases h with h | h
    · rw [h] at k1 ⊢
      exact (Nat.dvd_add_right (h ▸ k3)).1 k1
    · exact (Nat.dvd_add_right k1).1 (h ▸ k3)
  have hn' : Nat.gcd n2 e = 1 := one_of_dvd (Nat.gcd_dvd_left _ _) (Nat.dvd_trans (Nat.gcd_dvd_right _ _) (Nat.dvd_mul_right e g)) hn
  have hm : Nat.gcd (n2 * c) e = 1 := Nat.Coprime.mul_left (show Nat.Coprime n2 e from hn') (show Nat.Coprime c e from hce)
  exact one_of_dvd k4 k2 hm
/-- A sum in lowest terms. -/
theorem sum_law {n1 d1 n2 d2 : Nat} (h1 : 0 < d1) (hn1 : Nat.gcd n1 d1 = 1) (hn2 : Nat.gcd n2 d2 = 1) :
    fitT ((n1 * (d2 / Nat.gcd d1 d2) + n2 * (d1 / Nat.gcd d1 d2)) / Nat.gcd (n1 * (d2 / Nat.gcd d1 d2) + n2 * (d1 / Nat.gcd d1 d2)) (Nat.gcd d1 d2)) (d1 / Nat.gcd d1 d2 * (d2 / Nat.gcd (n1 * (d2 / Nat.gcd d1 d2) + n2 * (d1 / Nat.gcd d1 d2)) (Nat.gcd d1 d2))) = madeR (n1 * d2 + n2 * d1) (d1 * d2) := by
  obtain ⟨c, e, g, hg, hg0, e1, e2, q1, q2, hce⟩ := parted (d2 := d2) h1
  rw [← hg, q1, q2]
  rw [e1] at hn1
  rw [e2] at hn2
  have hN : Nat.gcd (n1 * e + n2 * c) c = 1 := prime_to_c hn1 hce (.inl rfl)
  have hM : Nat.gcd (n1 * e + n2 * c) e = 1 := prime_to_e hn2 hce (.inl rfl)
  have hr := red_law (n1 * e + n2 * c) c e g hg0 hN hM
  rw [e2, e1, hr]
  congr 1
  rw [Nat.add_mul, Nat.mul_assoc, Nat.mul_assoc]
/-- A difference in lowest terms. -/
theorem dif_law {n1 d1 n2 d2 : Nat} (h1 : 0 < d1) (hn1 : Nat.gcd n1 d1 = 1) (hn2 : Nat.gcd n2 d2 = 1) (hle : n2 * d1 ≤ n1 * d2) :
    n2 * (d1 / Nat.gcd d1 d2) ≤ n1 * (d2 / Nat.gcd d1 d2) ∧ fitT ((n1 * (d2 / Nat.gcd d1 d2) - n2 * (d1 / Nat.gcd d1 d2)) / Nat.gcd (n1 * (d2 / Nat.gcd d1 d2) - n2 * (d1 / Nat.gcd d1 d2)) (Nat.gcd d1 d2)) (d1 / Nat.gcd d1 d2 * (d2 / Nat.gcd (n1 * (d2 / Nat.gcd d1 d2) - n2 * (d1 / Nat.gcd d1 d2)) (Nat.gcd d1 d2))) = madeR (n1 * d2 - n2 * d1) (d1 * d2) := by
  obtain ⟨c, e, g, hg, hg0, e1, e2, q1, q2, hce⟩ := parted (d2 := d2) h1
  rw [← hg, q1, q2]
  rw [e1] at hn1
  rw [e2] at hn2
  have hle' : n2 * c ≤ n1 * e := by
    rw [e1, e2, ← Nat.mul_assoc, ← Nat.mul_assoc] at hle
    exact Nat.le_of_mul_le_mul_right hle hg0
  refine ⟨hle', ?_⟩
  have hN : Nat.gcd (n1 * e - n2 * c) c = 1 := prime_to_c hn1 hce (.inr (Nat.sub_add_cancel hle'))
  have hM : Nat.gcd (n1 * e - n2 * c) e = 1 := prime_to_e hn2 hce (.inr (Nat.sub_add_cancel hle'))
  have hr := red_law (n1 * e - n2 * c) c e g hg0 hN hM
  rw [e2, e1, hr]
  congr 1
  rw [Nat.sub_mul, Nat.mul_assoc, Nat.mul_assoc]
end Go.Proofs.Ytjheegdkngkhaaa
