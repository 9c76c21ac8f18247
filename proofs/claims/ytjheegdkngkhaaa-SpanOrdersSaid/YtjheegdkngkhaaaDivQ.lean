/- Plain law of math/bits.Div64: the words that the walk meets, as numbers. -/
import Derived.Test.YtjheegdkngkhaaaDivP
set_option linter.unusedVariables false
set_option linter.unusedSimpArgs false
set_option linter.unusedSectionVars false
namespace Go.Proofs.Ytjheegdkngkhaaa
open Go.RowKit

structure DivPre (hi lo y s t v a b u l d1 d0 : Nat) : Prop where
  hs : IntKind.u64.wrap (64 - (Lib.bitLen y : Int)) = (s : Int)
  ht : IntKind.u64.wrap (64 - (s : Int)) = (t : Int)
  ms : min s 64 = s
  mt : min t 64 = t
  hv : IntKind.u64.wrap ((y : Int) * 2 ^ s) = (v : Int)
  hva : (v : Int) / 4294967296 = (a : Int)
  hvb : bits .and .u64 (v : Int) 4294967295 = (b : Int)
  hu : bits .or .u64 (IntKind.u64.wrap ((hi : Int) * 2 ^ s)) ((lo : Int) / 2 ^ t) = (u : Int)
  hl : IntKind.u64.wrap ((lo : Int) * 2 ^ s) = (l : Int)
  hl1 : (l : Int) / 4294967296 = (d1 : Int)
  hl0 : bits .and .u64 (l : Int) 4294967295 = (d0 : Int)
  kv : KV v a b
  v64 : v < 18446744073709551616
  uv : u < v
  d1b : d1 < 4294967296
  d0b : d0 < 4294967296
  fin : ∀ q1 n q0 r : Nat, (u * 4294967296 + d1) / v = q1 → (u * 4294967296 + d1) % v = n → (n * 4294967296 + d0) / v = q0 → (n * 4294967296 + d0) % v = r → q1 * 4294967296 + q0 = (hi * 18446744073709551616 + lo) / y ∧ r / 2 ^ s = (hi * 18446744073709551616 + lo) % y
theorem wrapN64 {x : Nat} (h : x < 18446744073709551616) : IntKind.u64.wrap (x : Int) = (x : Int) := by rw [IntKind.wrap_u64]; omega
theorem mask32 (x : Nat) (h : x < 18446744073709551616) : bits .and .u64 (x : Int) 4294967295 = ((x % 4294967296 : Nat) : Int) := by
  have h1 := bits_and_u64_nat x 4294967295 h (by omega)
  have e : x &&& 4294967295 = x % 4294967296 := Nat.and_two_pow_sub_one_eq_mod x 32
  rw [e] at h1
  exact h1
theorem div_pre (hi lo y : Nat) (h0 : 0 < hi) (h1 : hi < y) (h2 : y < 18446744073709551616) (h3 : lo < 18446744073709551616) :
    ∃ s t v a b u l d1 d0, DivPre hi lo y s t v a b u l d1 d0 := by
  obtain ⟨b1, b2⟩ := bitLen_low 64 y (by omega) (by simpa using h2)
  have b3 := Lib.bitLen_le y 64 (by omega) (by simpa using h2)
  change 2 ^ Lib.bitLen y ≤ 2 * y at b1
  change y < 2 ^ Lib.bitLen y at b2
  obtain ⟨s, hs⟩ : ∃ s, s + Lib.bitLen y = 64 := ⟨64 - Lib.bitLen y, by omega⟩
  have hne : Lib.bitLen y ≠ 0 := fun h => by rw [h] at b2; omega
  obtain ⟨t, ht⟩ : ∃ t, s + t = 64 := ⟨64 - s, by omega⟩
  have hp : 2 ^ s * 2 ^ Lib.bitLen y = 18446744073709551616 := by rw [← Nat.pow_add, hs]
  have hq : 2 ^ s * 2 ^ t = 18446744073709551616 := by rw [← Nat.pow_add, ht]
  have hP := Nat.two_pow_pos s
  have cast : ∀ k : Nat, ((2 : Int) ^ k) = ((2 ^ k : Nat) : Int) := fun k => by simp
  have ely : 2 ^ s * (lo / 2 ^ t) ≤ 2 ^ s * lo := Nat.mul_le_mul_left _ (Nat.div_le_self _ _)
  have v1 : y * 2 ^ s < 18446744073709551616 := by rw [← hp, Nat.mul_comm y]; exact Nat.mul_lt_mul_of_pos_left b2 hP
  have v2 : 9223372036854775808 ≤ y * 2 ^ s := by
    have := Nat.mul_le_mul_left (2 ^ s) b1
    rw [hp, Nat.mul_left_comm, Nat.mul_comm (2 ^ s) y] at this
    omega
  have u1 : lo / 2 ^ t < 2 ^ s := by rw [Nat.div_lt_iff_lt_mul (Nat.two_pow_pos t), hq]; exact h3
  have hi1 : (hi + 1) * 2 ^ s ≤ y * 2 ^ s := Nat.mul_le_mul_right _ h1
  rw [Nat.add_mul, Nat.one_mul] at hi1
  have lsp : lo * 2 ^ s = lo / 2 ^ t * 18446744073709551616 + lo * 2 ^ s % 18446744073709551616 := by
    have e := Nat.div_add_mod (lo * 2 ^ s) 18446744073709551616
    have e2 : lo * 2 ^ s / 18446744073709551616 = lo / 2 ^ t := by rw [← hq, Nat.mul_comm (2 ^ s), Nat.mul_div_mul_right _ _ hP]
    rw [e2] at e
    omega
  refine ⟨s, t, y * 2 ^ s, y * 2 ^ s / 4294967296, y * 2 ^ s % 4294967296, hi * 2 ^ s + lo / 2 ^ t, lo * 2 ^ s % 18446744073709551616, lo * 2 ^ s % 18446744073709551616 / 4294967296, lo * 2 ^ s % 18446744073709551616 % 4294967296, ?_⟩
  have hfin : (hi * 18446744073709551616 + lo) * 2 ^ s = (hi * 2 ^ s + lo / 2 ^ t) * 18446744073709551616 + lo * 2 ^ s % 18446744073709551616 := by
    have e : (hi * 18446744073709551616 + lo) * 2 ^ s = hi * 2 ^ s * 18446744073709551616 + lo * 2 ^ s := by rw [Nat.add_mul]; congr 1; rw [Nat.mul_assoc, Nat.mul_assoc, Nat.mul_comm (2 ^ s)]
    rw [e, Nat.add_mul]
    clear e hp hq
    generalize hi * 2 ^ s = A at *
    generalize lo * 2 ^ s = L at *
    generalize lo / 2 ^ t = D at *
    omega
  constructor
  · rw [IntKind.wrap_u64]; omega
  · rw [IntKind.wrap_u64]; omega
  · omega
  · omega
  · rw [cast, ← Int.natCast_mul, wrapN64 v1]
  · omega
  · exact mask32 _ v1
  · rw [cast, ← Int.natCast_mul, wrapN64 (by omega), cast, ← Int.natCast_ediv, bits_or_u64_nat _ _ (by omega) (by omega)]
    rw [Nat.mul_comm hi, Nat.two_pow_add_eq_or_of_lt u1]
  · rw [cast, ← Int.natCast_mul, IntKind.wrap_u64]; omega
  · omega
  · exact mask32 _ (Nat.mod_lt _ (by decide))
  · exact ⟨by omega, by omega, by omega, by omega⟩
  · exact v1
  · omega
  · omega
  · omega
  · rintro q1 n q0 r e1 e2 e3 e4
    have f1 := Nat.div_add_mod ((hi * 2 ^ s + lo / 2 ^ t) * 4294967296 + lo * 2 ^ s % 18446744073709551616 / 4294967296) (y * 2 ^ s)
    have f2 := Nat.div_add_mod (n * 4294967296 + lo * 2 ^ s % 18446744073709551616 % 4294967296) (y * 2 ^ s)
    have f3 := Nat.mod_lt (n * 4294967296 + lo * 2 ^ s % 18446744073709551616 % 4294967296) (show 0 < y * 2 ^ s by omega)
    rw [e1, e2] at f1
    rw [e3, e4] at f2
    rw [e4] at f3
    have hm : (hi * 18446744073709551616 + lo) * 2 ^ s = y * 2 ^ s * (q1 * 4294967296 + q0) + r := by
      rw [hfin, Nat.mul_add, ← Nat.mul_assoc]
      generalize y * 2 ^ s * q1 = m at *
      generalize y * 2 ^ s * q0 = k at *
      omega
    have g1 : (hi * 18446744073709551616 + lo) * 2 ^ s / (y * 2 ^ s) = q1 * 4294967296 + q0 := by
      rw [hm, Nat.mul_add_div (by omega), Nat.div_eq_of_lt f3, Nat.add_zero]
    have g2 : (hi * 18446744073709551616 + lo) * 2 ^ s % (y * 2 ^ s) = r := by
      rw [hm, Nat.mul_add_mod, Nat.mod_eq_of_lt f3]
    rw [Nat.mul_div_mul_right _ _ hP] at g1
    rw [Nat.mul_mod_mul_right] at g2
    exact ⟨g1.symm, by rw [← g2, Nat.mul_div_cancel _ hP]⟩
end Go.Proofs.Ytjheegdkngkhaaa
