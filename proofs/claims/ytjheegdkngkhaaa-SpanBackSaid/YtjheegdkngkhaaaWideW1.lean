/- Walks of the sum and the difference of two words. Conditions: each word lies in a word's range. -/
import Derived.Test.YtjheegdkngkhaaaSpanW1
import Derived.Shelf.Spec.BitsCarry
set_option linter.unusedVariables false
set_option linter.unusedSimpArgs false
set_option linter.unusedSectionVars false
namespace Go.Proofs.Ytjheegdkngkhaaa
open Go.RowKit Go.Shelf

def carryRen : Go.Shelf.Ren := ⟨fun | 25 => 65 | 26 => 67 | n => n, fun | 22 => 46 | n => n, fun | n => n⟩
theorem lays_add : Lays7.n25 Try.prog carryRen := { mixed := by kernel_rfl, f25 := (Try.func65).trans (congrArg some (by kernel_rfl)), t22 := Try.underlying46, a22 := Try.isAgg46, z22 := Try.sizeOf46, v22 := Try.zeroValue46, i22 := by kernel_rfl }
theorem lays_sub : Lays7.n26 Try.prog carryRen := { mixed := by kernel_rfl, f26 := (Try.func67).trans (congrArg some (by kernel_rfl)), t22 := Try.underlying46, a22 := Try.isAgg46, z22 := Try.sizeOf46, v22 := Try.zeroValue46, i22 := by kernel_rfl }
theorem add64 (x y c : Int) (hx : 0 ≤ x) (hy : 0 ≤ y) (hc0 : 0 ≤ c) (hc : c ≤ 1) (w : World) : (callFunc 65 #[.int .u64 x, .int .u64 y, .int .u64 c]).run Try.prog w =
    .ok (.value (.tuple #[.int .u64 ((x + y + c) % 18446744073709551616), .int .u64 ((x + y + c) / 18446744073709551616)])) w := by
  obtain ⟨x, rfl⟩ := Int.eq_ofNat_of_zero_le hx
  obtain ⟨y, rfl⟩ := Int.eq_ofNat_of_zero_le hy
  obtain ⟨c, rfl⟩ := Int.eq_ofNat_of_zero_le hc0
  refine (Any7.bits_Add64 lays_add x y c (by omega) w).trans ?_
  congr 5 <;> omega
def bor (x y : Int) : Int := if x < y then 1 else 0
theorem sub64 (x y b : Int) (hx : 0 ≤ x) (hy : 0 ≤ y) (hy' : y < 18446744073709551616) (hb0 : 0 ≤ b) (hb : b ≤ 1) (w : World) : (callFunc 67 #[.int .u64 x, .int .u64 y, .int .u64 b]).run Try.prog w =
    .ok (.value (.tuple #[.int .u64 ((x - y - b) % 18446744073709551616), .int .u64 (bor x (y + b))])) w := by
  obtain ⟨x, rfl⟩ := Int.eq_ofNat_of_zero_le hx
  obtain ⟨y, rfl⟩ := Int.eq_ofNat_of_zero_le hy
  obtain ⟨b, rfl⟩ := Int.eq_ofNat_of_zero_le hb0
  have e1 : (((x + 18446744073709551616 - y - b) % 18446744073709551616 : Nat) : Int) = ((x : Int) - y - b) % 18446744073709551616 := by omega
  have e2 : ((if x < y + b then 1 else 0 : Nat) : Int) = bor x (y + b) := by unfold bor; split <;> split <;> omega
  rw [← e1, ← e2]
  exact Any7.bits_Sub64 lays_sub x y b (by omega) w
theorem bor_01 (x y : Int) : 0 ≤ bor x y ∧ bor x y ≤ 1 := by unfold bor; split <;> omega
def Word (x : Int) : Prop := 0 ≤ x ∧ x < 18446744073709551616

theorem plus_any (ah al bh bl : Int) (h1 : Word ah) (h2 : Word al) (h3 : Word bh) (h4 : Word bl) (w : World) :
    Calls Try.prog 53 #[.agg #[.int .u64 ah, .int .u64 al], .agg #[.int .u64 bh, .int .u64 bl]] w fun e w' => e = .returned (.agg #[.int .u64 ((ah + bh + (al + bl) / 18446744073709551616) % 18446744073709551616), .int .u64 ((al + bl) % 18446744073709551616)]) ∧ Ex w w' := by
  obtain ⟨a1, a2⟩ := h1; obtain ⟨b1, b2⟩ := h2; obtain ⟨c1, c2⟩ := h3; obtain ⟨d1, d2⟩ := h4
  obtain ⟨X, hX⟩ : ∃ X, X = (al + bl) % 18446744073709551616 := ⟨_, rfl⟩
  obtain ⟨C, hC⟩ : ∃ C, C = (al + bl) / 18446744073709551616 := ⟨_, rfl⟩
  have s1 := fun w => add64 al bl 0 b1 d1 (Int.le_refl 0) (by decide) w
  rw [Int.add_zero, ← hX, ← hC] at s1
  have s2 := fun w => add64 ah bh C a1 c1 (by omega) (by omega) w
  rw [← hX, ← hC]
  replace hX := Lib.hid hX
  replace hC := Lib.hid hC
  go_enter Try.func53, Try.ntmps53
  go_wp2
  refine bodyPost_ret (v := .agg #[.int .u64 ((ah + bh + C) % 18446744073709551616), .int .u64 X]) ?_ rfl ⟨rfl, by (repeat (first | exact Ex.refl _ | assumption | apply Ex.drew | apply Ex.drewN | apply Ex.alloc | (refine Ex.setCell ?_ (by simp; try omega) _) | (refine Ex.call ?_ (by assumption))))⟩
  simp [results, Try.results53, go_sem]

theorem minus_any (ah al bh bl : Int) (h1 : Word ah) (h2 : Word al) (h3 : Word bh) (h4 : Word bl) (w : World) :
    Calls Try.prog 55 #[.agg #[.int .u64 ah, .int .u64 al], .agg #[.int .u64 bh, .int .u64 bl]] w fun e w' => e = .returned (.agg #[.int .u64 ((ah - bh - bor al bl) % 18446744073709551616), .int .u64 ((al - bl) % 18446744073709551616)]) ∧ Ex w w' := by
  obtain ⟨a1, a2⟩ := h1; obtain ⟨b1, b2⟩ := h2; obtain ⟨c1, c2⟩ := h3; obtain ⟨d1, d2⟩ := h4
  obtain ⟨k0, k1⟩ := bor_01 al bl
  have s1 := fun w => sub64 al bl 0 b1 d1 d2 (Int.le_refl 0) (by decide) w
  rw [Int.sub_zero, Int.add_zero] at s1
  generalize bor al bl = C at *
  have s2 := fun w => sub64 ah bh C a1 c1 c2 k0 k1 w
  go_enter Try.func55, Try.ntmps55
  go_wp2
  refine bodyPost_ret (v := .agg #[.int .u64 ((ah - bh - C) % 18446744073709551616), .int .u64 ((al - bl) % 18446744073709551616)]) ?_ rfl ⟨rfl, by (repeat (first | exact Ex.refl _ | assumption | apply Ex.drew | apply Ex.drewN | apply Ex.alloc | (refine Ex.setCell ?_ (by simp; try omega) _) | (refine Ex.call ?_ (by assumption))))⟩
  simp [results, Try.results55, go_sem]
end Go.Proofs.Ytjheegdkngkhaaa
