/- Plain law of math/bits.Div64: the equations between words that each step of the walk meets. -/
import Derived.Test.YtjheegdkngkhaaaDivQ
set_option linter.unusedVariables false
set_option linter.unusedSimpArgs false
set_option linter.unusedSectionVars false
namespace Go.Proofs.Ytjheegdkngkhaaa
open Go.RowKit

theorem dig_start {v a b u d : Nat} (h : KV v a b) (hv : v < 18446744073709551616) (hu : u < v) (hd : d < 4294967296) :
    ∃ q r : Nat, Hid (KAt u v a d q r) ∧ IntKind.u64.wrap ((u : Int) / a) = (q : Int) ∧ IntKind.u64.wrap ((u : Int) - IntKind.u64.wrap ((q : Int) * a)) = (r : Int) := by
  have k := KAt.start h hu hd
  refine ⟨u / a, u % a, k, ?_, ?_⟩
  · rw [← Int.natCast_ediv]
    exact wrapN64 (by have := k.top; omega)
  · have e1 := k.sum
    generalize u / a = q at *
    generalize u % a = r at *
    rw [← Int.natCast_mul, wrapN64 (by omega), show (u : Int) - ((q * a : Nat) : Int) = (r : Int) by omega]
    exact wrapN64 (by have := k.small; omega)
theorem dig_test {v a b u d q r : Nat} (h : KV v a b) (hd : d < 4294967296) (k : KAt u v a d q r) (hq : q < 4294967296) :
    decide (IntKind.u64.wrap (IntKind.u64.wrap (4294967296 * (r : Int)) + d) < IntKind.u64.wrap ((q : Int) * b)) = decide (4294967296 * r + d < q * b) := by
  have h1 := k.small
  have h2 := h.b2
  have h3 : q * b ≤ 4294967295 * b := Nat.mul_le_mul_right _ (by omega)
  rw [← Int.natCast_mul, wrapN64 (by omega)]
  rw [show (4294967296 : Int) * r = ((4294967296 * r : Nat) : Int) by omega, wrapN64 (by omega), ← Int.natCast_add, wrapN64 (by omega)]
  rw [decide_eq_decide, Int.ofNat_lt]
theorem dig_less {q p : Nat} (h : q = p + 1) (hq : q ≤ 4294967297) : IntKind.u64.wrap ((q : Int) - 1) = (p : Int) := by
  rw [show (q : Int) - 1 = (p : Int) by omega]; exact wrapN64 (by omega)
theorem dig_more {v a b u d q r : Nat} (h : KV v a b) (k : KAt u v a d q r) : IntKind.u64.wrap ((r : Int) + a) = ((r + a : Nat) : Int) := by
  rw [← Int.natCast_add]; exact wrapN64 (by have := k.small; have := h.a2; omega)
/-- One round of a digit's loop: it goes on, breaks, or ends. -/
theorem dig_round {v a b u d q r : Nat} (h : KV v a b) (hu : u < v) (hd : d < 4294967296) (k : KAt u v a d q r) :
    (∃ p e : Nat, (decide ((4294967296 : Int) ≤ q) = true ∨ decide ((4294967296 : Int) ≤ q) = false ∧ decide (IntKind.u64.wrap (IntKind.u64.wrap (4294967296 * (r : Int)) + d) < IntKind.u64.wrap ((q : Int) * b)) = true) ∧
      IntKind.u64.wrap ((q : Int) - 1) = (p : Int) ∧ IntKind.u64.wrap ((r : Int) + a) = (e : Int) ∧
      (decide ((4294967296 : Int) ≤ e) = false ∧ Hid (KAt u v a d p e) ∧ Hid (p < q) ∨ decide ((4294967296 : Int) ≤ e) = true ∧ Hid ((u * 4294967296 + d) / v = p))) ∨
    (decide ((4294967296 : Int) ≤ q) = false ∧ decide (IntKind.u64.wrap (IntKind.u64.wrap (4294967296 * (r : Int)) + d) < IntKind.u64.wrap ((q : Int) * b)) = false ∧ Hid ((u * 4294967296 + d) / v = q)) := by
  by_cases ht : 4294967296 ≤ q ∨ 4294967296 * r + d < q * b
  · left
    have hm := k.more h hu hd ht
    have hm0 := Nat.lt_of_le_of_lt (Nat.zero_le _) hm
    clear hm
    obtain ⟨p, rfl⟩ : ∃ p, q = p + 1 := ⟨q - 1, by omega⟩
    refine ⟨p, r + a, ?_, dig_less rfl k.top, dig_more h k, ?_⟩
    · by_cases hA : 4294967296 ≤ p + 1
      · left; simp; omega
      · right
        refine ⟨by simp; omega, ?_⟩
        rw [dig_test h hd k (by omega)]
        rcases ht with ht | ht
        · exact absurd ht hA
        · simpa using ht
    · by_cases hr : r + a < 4294967296
      · left
        exact ⟨by simp; omega, k.next h hu hd ht hr, Nat.lt_succ_self p⟩
      · right
        exact ⟨by simp; omega, k.broke h hu hd ht (by omega)⟩
  · right
    have h1 : ¬ 4294967296 ≤ q := fun hh => ht (.inl hh)
    have h2 : ¬ 4294967296 * r + d < q * b := fun hh => ht (.inr hh)
    exact ⟨by simp; omega, by rw [dig_test h hd k (by omega)]; simpa using h2, k.done h (by omega)⟩
theorem div_end {hi lo y s t v a b u l d1 d0 Q n q0 : Nat} (H : DivPre hi lo y s t v a b u l d1 d0) (e1 : (u * 4294967296 + d1) / v = Q) (e2 : (u * 4294967296 + d1) % v = n) (e3 : (n * 4294967296 + d0) / v = q0) :
    ∃ r : Nat, IntKind.u64.wrap (IntKind.u64.wrap ((Q : Int) * 4294967296) + q0) = (((hi * 18446744073709551616 + lo) / y : Nat) : Int) ∧
      IntKind.u64.wrap (IntKind.u64.wrap (IntKind.u64.wrap ((n : Int) * 4294967296) + d0) - IntKind.u64.wrap ((q0 : Int) * v)) = (r : Int) ∧ (r : Int) / 2 ^ s = (((hi * 18446744073709551616 + lo) % y : Nat) : Int) := by
  obtain ⟨f1, f2⟩ := H.fin Q n q0 _ e1 e2 e3 rfl
  have hn : n < v := by rw [← e2]; exact Nat.mod_lt _ H.kv.pos
  have b1 := H.kv.digit H.uv H.d1b
  have b2 := H.kv.digit hn H.d0b
  rw [e1] at b1
  rw [e3] at b2
  refine ⟨(n * 4294967296 + d0) % v, ?_, H.kv.rest H.v64 H.kv.pos e3, ?_⟩
  · rw [← f1, show (Q : Int) * 4294967296 = ((Q * 4294967296 : Nat) : Int) by omega, wrapN64 (by omega), ← Int.natCast_add, wrapN64 (by omega)]
  · rw [← f2, show ((2 : Int) ^ s) = ((2 ^ s : Nat) : Int) by simp, ← Int.natCast_ediv]
end Go.Proofs.Ytjheegdkngkhaaa
