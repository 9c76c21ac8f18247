/- Plain law of a division of two words by one: one digit at a time. No program in sight. -/
import Derived.Test.YtjheegdkngkhaaaSpanW1
import Derived.Laws.Bits64b
set_option linter.unusedVariables false
set_option linter.unusedSimpArgs false
set_option linter.unusedSectionVars false
namespace Go.Proofs.Ytjheegdkngkhaaa
open Go.RowKit

/-- A divisor of two digits, the upper one great. -/
structure KV (v a b : Nat) : Prop where
  eq : v = a * 4294967296 + b
  a1 : 2147483648 ≤ a
  a2 : a < 4294967296
  b2 : b < 4294967296
/-- What the loop of one digit keeps. -/
structure KAt (u v a d q r : Nat) : Prop where
  sum : q * a + r = u
  small : r < 4294967296
  top : q ≤ 4294967297
  low : (u * 4294967296 + d) / v ≤ q
theorem KV.pos {v a b : Nat} (h : KV v a b) : 0 < v := by have := h.eq; have := h.a1; omega
theorem KV.mul {v a b : Nat} (h : KV v a b) (q : Nat) : q * v = q * a * 4294967296 + q * b := by rw [h.eq, Nat.mul_add, ← Nat.mul_assoc]
theorem KV.digit {v a b u d : Nat} (h : KV v a b) (hu : u < v) (hd : d < 4294967296) : (u * 4294967296 + d) / v < 4294967296 := by
  rw [Nat.div_lt_iff_lt_mul h.pos]; omega
theorem KAt.start {v a b u d : Nat} (h : KV v a b) (hu : u < v) (hd : d < 4294967296) : KAt u v a d (u / a) (u % a) := by
  have ha := h.a1
  have ha2 := h.a2
  have hb := h.b2
  have he := h.eq
  refine ⟨by rw [Nat.mul_comm]; exact Nat.div_add_mod u a, Nat.lt_trans (Nat.mod_lt _ (by omega)) h.a2, ?_, ?_⟩
  · have : u / a < 4294967298 := by rw [Nat.div_lt_iff_lt_mul (by omega)]; omega
    omega
  · rw [Nat.le_div_iff_mul_le (by omega)]
    have h1 := Nat.div_mul_le_self (u * 4294967296 + d) v
    rw [h.mul] at h1
    generalize (u * 4294967296 + d) / v = q at *
    generalize q * a = x at *
    generalize q * b = z at *
    omega
/-- A digit that is too great. -/
theorem KAt.more {v a b u d q r : Nat} (h : KV v a b) (hu : u < v) (hd : d < 4294967296) (k : KAt u v a d q r) (ht : 4294967296 ≤ q ∨ 4294967296 * r + d < q * b) : (u * 4294967296 + d) / v < q := by
  rcases ht with ht | ht
  · exact Nat.lt_of_lt_of_le (h.digit hu hd) ht
  · rw [Nat.div_lt_iff_lt_mul h.pos, h.mul]
    have := k.sum
    generalize q * a = x at *
    generalize q * b = z at *
    omega
theorem KAt.next {v a b u d q r : Nat} (h : KV v a b) (hu : u < v) (hd : d < 4294967296) (k : KAt u v a d (q + 1) r) (ht : 4294967296 ≤ q + 1 ∨ 4294967296 * r + d < (q + 1) * b) (hr : r + a < 4294967296) : KAt u v a d q (r + a) := by
  have := k.more h hu hd ht
  refine ⟨?_, hr, by have := k.top; omega, by omega⟩
  have := k.sum
  rw [Nat.succ_mul] at this
  omega
theorem KAt.broke {v a b u d q r : Nat} (h : KV v a b) (hu : u < v) (hd : d < 4294967296) (k : KAt u v a d (q + 1) r) (ht : 4294967296 ≤ q + 1 ∨ 4294967296 * r + d < (q + 1) * b) (hr : 4294967296 ≤ r + a) : (u * 4294967296 + d) / v = q := by
  have h1 := k.more h hu hd ht
  refine Nat.le_antisymm (by omega) ?_
  rw [Nat.le_div_iff_mul_le h.pos, h.mul]
  have h2 := k.sum
  rw [Nat.succ_mul] at h2
  have h3 : q * b ≤ 4294967296 * b := Nat.mul_le_mul_right _ (by have := k.top; omega)
  have h4 := h.b2
  generalize q * a = x at *
  generalize q * b = z at *
  omega
theorem KAt.done {v a b u d q r : Nat} (h : KV v a b) (k : KAt u v a d q r) (h1 : q * b ≤ 4294967296 * r + d) : (u * 4294967296 + d) / v = q := by
  refine Nat.le_antisymm k.low ?_
  rw [Nat.le_div_iff_mul_le h.pos, h.mul]
  have := k.sum
  generalize q * a = x at *
  generalize q * b = z at *
  omega
/-- What is left behind a digit, in words. -/
theorem KV.rest {v a b u d q : Nat} (_ : KV v a b) (hv : v < 18446744073709551616) (h0 : 0 < v) (hq : (u * 4294967296 + d) / v = q) :
    IntKind.u64.wrap (IntKind.u64.wrap (IntKind.u64.wrap ((u : Int) * 4294967296) + d) - IntKind.u64.wrap ((q : Int) * v)) = (((u * 4294967296 + d) % v : Nat) : Int) := by
  have h1 := Nat.div_add_mod (u * 4294967296 + d) v
  have h2 := Nat.mod_lt (u * 4294967296 + d) h0
  rw [hq, Nat.mul_comm] at h1
  rw [← Int.natCast_mul q v]
  simp only [IntKind.wrap_u64]
  generalize q * v = x at *
  generalize (u * 4294967296 + d) % v = n at *
  omega
theorem bitLen_low : ∀ (f x : Nat), 0 < x → x < 2 ^ f → 2 ^ Lib.bitLenAux f x ≤ 2 * x ∧ x < 2 ^ Lib.bitLenAux f x := by
  intro f
  induction f with
  | zero => intro x h h'; simp at h'; omega
  | succ f ih =>
    intro x h h'
    by_cases h1 : x / 2 = 0
    · have : x = 1 := by omega
      subst this
      cases f <;> simp [Lib.bitLenAux]
    · obtain ⟨i1, i2⟩ := ih (x / 2) (by omega) (by rw [Nat.pow_succ] at h'; omega)
      have e : Lib.bitLenAux (f + 1) x = 1 + Lib.bitLenAux f (x / 2) := by rw [Lib.bitLenAux]; simp; omega
      rw [e, Nat.pow_add, Nat.pow_one]
      omega
end Go.Proofs.Ytjheegdkngkhaaa
