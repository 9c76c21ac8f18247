/- Walk of a number of two words through one. Conditions: each word lies in a word's range; the divisor is not nought. -/
import Derived.Test.YtjheegdkngkhaaaDivW
set_option linter.unusedVariables false
set_option linter.unusedSimpArgs false
set_option linter.unusedSectionVars false
namespace Go.Proofs.Ytjheegdkngkhaaa
open Go.RowKit

theorem two_div (x y : Nat) (h : y < 18446744073709551616) : (x * 18446744073709551616 + y) / 18446744073709551616 = x ∧ (x * 18446744073709551616 + y) % 18446744073709551616 = y := by omega
theorem over_plain (ah al d : Nat) (hd : 0 < d) (hl : al < 18446744073709551616) (_hd2 : d < 18446744073709551616) :
    (ah * 18446744073709551616 + al) / d / 18446744073709551616 = ah / d ∧ (ah * 18446744073709551616 + al) / d % 18446744073709551616 = (ah % d * 18446744073709551616 + al) / d ∧ (ah * 18446744073709551616 + al) % d = (ah % d * 18446744073709551616 + al) % d := by
  have e : ah * 18446744073709551616 + al = d * (ah / d * 18446744073709551616) + (ah % d * 18446744073709551616 + al) := by
    have h1 := Nat.div_add_mod ah d
    rw [← Nat.mul_assoc]
    generalize d * (ah / d) = x at *
    omega
  have hm := Nat.mod_lt ah hd
  have hlt : (ah % d * 18446744073709551616 + al) / d < 18446744073709551616 := by
    rw [Nat.div_lt_iff_lt_mul hd]
    generalize ah % d = x at *
    omega
  have hq : (ah * 18446744073709551616 + al) / d = ah / d * 18446744073709551616 + (ah % d * 18446744073709551616 + al) / d := by rw [e, Nat.mul_add_div hd]
  refine ⟨?_, ?_, ?_⟩
  · rw [hq]; exact (two_div _ _ hlt).1
  · rw [hq]; exact (two_div _ _ hlt).2
  · rw [e, Nat.mul_add_mod]

set_option maxHeartbeats 1000000 in
theorem over_any (ah al d : Nat) (hd : 0 < d) (hh : ah < 18446744073709551616) (hl : al < 18446744073709551616) (hd2 : d < 18446744073709551616) (w : World) :
    Calls Try.prog 66 #[.agg #[.int .u64 ah, .int .u64 al], .int .u64 d] w fun e w' => e = .returned (.tuple #[.agg #[.int .u64 (((ah * 18446744073709551616 + al) / d / 18446744073709551616 : Nat) : Int), .int .u64 (((ah * 18446744073709551616 + al) / d % 18446744073709551616 : Nat) : Int)], .int .u64 (((ah * 18446744073709551616 + al) % d : Nat) : Int)]) ∧ Ex w w' := by
  obtain ⟨p1, p2, p3⟩ := over_plain ah al d hd hl hd2
  rw [p1, p2, p3]
  clear p1 p2 p3
  have hD := Lib.hid (fun w => Div64_any (ah % d) al d (Nat.mod_lt _ hd) hd2 hl w)
  have e1 : IntKind.u64.wrap ((ah : Int) / d) = ((ah / d : Nat) : Int) := by
    rw [← Int.natCast_ediv]
    exact wrapN64 (Nat.lt_of_le_of_lt (Nat.div_le_self _ _) hh)
  have e2 : (ah : Int) % d = ((ah % d : Nat) : Int) := (Int.natCast_emod ah d).symm
  have c4 : d ≠ 0 := by omega
  have c3 : (d : Int) ≠ 0 := by omega
  generalize (ah % d * 18446744073709551616 + al) / d = L at *
  generalize (ah % d * 18446744073709551616 + al) % d = R at *
  generalize ah % d = B at *
  generalize ah / d = A at *
  go_enter Try.func66, Try.ntmps66
  go_wp2
  go_quiet (fail)
  go_wp2_with (go_at_call 68; refine (hD.out _).mono ?_; rintro e w1 ⟨rfl, n, rfl⟩)
  refine bodyPost_ret (v := .tuple #[.agg #[.int .u64 A, .int .u64 L], .int .u64 R]) ?_ rfl ⟨rfl, by (repeat (first | exact Ex.refl _ | assumption | apply Ex.drew | apply Ex.drewN | apply Ex.alloc | (refine Ex.setCell ?_ (by simp; try omega) _) | (refine Ex.call ?_ (by assumption))))⟩
  simp [results, Try.results66, go_sem]
end Go.Proofs.Ytjheegdkngkhaaa
