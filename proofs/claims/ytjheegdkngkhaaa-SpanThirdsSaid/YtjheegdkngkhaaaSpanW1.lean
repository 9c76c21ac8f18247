/- Walks of span: gcd, sign, plain, Never, never, times, and the comparison of two words. Conditions: the numbers lie in their types' ranges. -/
import Derived.Test.YtjheegdkngkhaaaNumP
import Derived.Test.YtjheegdkngkhaaaShelf
set_option linter.unusedVariables false
set_option linter.unusedSimpArgs false
set_option linter.unusedSectionVars false
namespace Go.Proofs.Ytjheegdkngkhaaa
open Go.RowKit

set_option maxHeartbeats 400000 in
theorem gcd_any (a b : Int) (ha : 0 ≤ a) (ha' : a < 18446744073709551616) (hb : 0 ≤ b) (hb' : b < 18446744073709551616) (w : World) :
    Calls Try.prog 32 #[.int .u64 a, .int .u64 b] w fun e w' => e = .returned (.int .u64 (Int.gcd a b : Nat)) ∧ ∃ n, w' = w.drewN n := by
  go_enter Try.func32, Try.ntmps32
  go_wp2
  go_loopw [0, 1] (fun x y wr => ∃ p q : Nat, p < 18446744073709551616 ∧ q < 18446744073709551616 ∧ x = .int .u64 p ∧ y = .int .u64 q ∧ Hid (Int.gcd p q = Int.gcd a b) ∧ ∃ n, wr = w.drewN n) (fun _ y _ => (intOf y).toNat)
  case atStart => 
    obtain ⟨a, rfl⟩ := Int.eq_ofNat_of_zero_le ha
    obtain ⟨b, rfl⟩ := Int.eq_ofNat_of_zero_le hb
    exact ⟨a, b, by omega, by omega, rfl, rfl, rfl, 0, rfl⟩
  case round =>
    obtain ⟨p, q, hp, hq, rfl, rfl, hg, n, rfl⟩ := hrel
    by_cases hz : 0 < q
    · have h1 : q ≠ 0 := by omega
      go_wp2
      go_quiet (fail)
      go_wp2
      go_roundw
      case rel => exact ⟨q, p % q, hq, Nat.lt_trans (Nat.mod_lt _ hz) hq, rfl, by simp, by show _ = _; rw [← hg.out]; simp only [Int.gcd_natCast_natCast]; rw [Nat.gcd_comm q, ← Nat.gcd_rec, Nat.gcd_comm], n + nq, by rw [World.drewN_drewN]⟩
      case measure => simp [intOf]; have := Nat.mod_lt p hz; omega
    · have h1 : q = 0 := by omega
      subst h1
      go_wp2
      go_ret
      have := hg.out
      exact ⟨by rw [← this]; simp, n, rfl⟩

def sgn (a b : Bool) : Int := if a == b then 0 else if a then -1 else 1
theorem sign_any (a b : Bool) (w : World) :
    Calls Try.prog 37 #[.bool a, .bool b] w fun e w' => e = .returned (.int .i64 (sgn a b)) ∧ w = w' := by
  cases a <;> cases b <;> (go_enter Try.func37, Try.ntmps37; go_wp2; go_ret; exact ⟨rfl, rfl⟩)

theorem plain_any (n : Int) (h0 : -9223372036854775808 ≤ n) (h1 : n ≤ 9223372036854775807) (w : World) :
    Calls Try.prog 41 #[.int .i64 n] w fun e w' => e = .returned (.int .u64 n.natAbs) ∧ w = w' := by
  by_cases hn : n < 0
  · go_enter Try.func41, Try.ntmps41
    go_wp2
    go_ret
    refine ⟨ret_int (?_), rfl⟩
    simp only [u64_wrap]
    omega
  · go_enter Try.func41, Try.ntmps41
    go_wp2
    go_ret
    refine ⟨ret_int (?_), rfl⟩
    omega

theorem Never_any (w : World) :
    Calls Try.prog 26 #[] w fun e w' => e = .returned (.agg #[.int .i64 1, .int .i64 0]) ∧ Ex w w' := by
  go_enter Try.func26, Try.ntmps26
  go_wp2
  exact bodyPost_ret (v := .agg #[.int .i64 1, .int .i64 0]) (by simp [results, Try.results26, go_sem]) rfl ⟨rfl, by (repeat (first | exact Ex.refl _ | assumption | apply Ex.drew | apply Ex.drewN | apply Ex.alloc | (refine Ex.setCell ?_ (by simp; try omega) _) | (refine Ex.call ?_ (by assumption))))⟩

def teq (n d n' d' : Int) : Bool := n == n' && d == d'
theorem eq_time (n d n' d' : Int) (w : World) : (binOp .eql 23 (.agg #[.int .i64 n, .int .i64 d]) (.agg #[.int .i64 n', .int .i64 d'])).run Try.prog w = .ok (.bool (teq n d n' d')) w := by
  simp [binOp, Op.equal, Op.maxDepth, go_sem, teq]
  by_cases h : n = n' <;> by_cases h' : d = d' <;> simp [h, h']
theorem teq_eq {n d n' d' : Int} (h : teq n d n' d' = true) : n = n' ∧ d = d' := by simpa [teq] using h
theorem never_any (n d : Int) (w : World) :
    Calls Try.prog 31 #[.agg #[.int .i64 n, .int .i64 d]] w fun e w' => e = .returned (.bool (teq n d 1 0)) ∧ Ex w w' := by
  have he := eq_time
  go_enter Try.func31, Try.ntmps31
  go_wp2
  go_region_held3 (fun w' => w'.cell? ⟨w.heap.size, 0, none⟩ = some (.int .i64 n) ∧ w'.cell? ⟨w.heap.size, 1, none⟩ = some (.int .i64 d)) (simp [go_sem, *])
    (first | (go_at_call 26; refine (Never_any _).mono ?_; rintro e w1 ⟨rfl, hx⟩; obtain ⟨hc, hf, hz⟩ := hx.facts))
  go_wp2
  go_ret
  exact ⟨rfl, by (repeat (first | exact Ex.refl _ | assumption | apply Ex.drew | apply Ex.drewN | apply Ex.alloc | (refine Ex.setCell ?_ (by simp; try omega) _) | (refine Ex.call ?_ (by assumption))))⟩

theorem times_any (a b : Int) (ha : 0 ≤ a) (ha' : a < 18446744073709551616) (hb : 0 ≤ b) (hb' : b < 18446744073709551616) (w : World) :
    Calls Try.prog 38 #[.int .u64 a, .int .u64 b] w fun e w' => e = .returned (.agg #[.int .u64 (a * b / 18446744073709551616), .int .u64 (a * b % 18446744073709551616)]) ∧ Ex w w' := by
  obtain ⟨a, rfl⟩ := Int.eq_ofNat_of_zero_le ha
  obtain ⟨b, rfl⟩ := Int.eq_ofNat_of_zero_le hb
  go_enter Try.func38, Try.ntmps38
  go_wp2_with (go_at_call 59; refine (Try.bits_Mul64 _ _ (by omega) (by omega) _).mono ?_; rintro e w1 ⟨rfl, rfl⟩)
  exact bodyPost_ret (v := .agg #[.int .u64 (a * b / 18446744073709551616), .int .u64 (a * b % 18446744073709551616)]) (by simp [results, Try.results38, go_sem]) rfl ⟨rfl, by (repeat (first | exact Ex.refl _ | assumption | apply Ex.drew | apply Ex.drewN | apply Ex.alloc | (refine Ex.setCell ?_ (by simp; try omega) _) | (refine Ex.call ?_ (by assumption))))⟩

theorem eq_wide (n d n' d' : Int) (w : World) : (binOp .eql 55 (.agg #[.int .u64 n, .int .u64 d]) (.agg #[.int .u64 n', .int .u64 d'])).run Try.prog w = .ok (.bool (teq n d n' d')) w := by
  simp [binOp, Op.equal, Op.maxDepth, go_sem, teq]
  by_cases h : n = n' <;> by_cases h' : d = d' <;> simp [h, h']
def wcmp (h l h' l' : Int) : Int := if h < h' ∨ h = h' ∧ l < l' then -1 else if h = h' ∧ l = l' then 0 else 1
theorem wcmp_any (h l h' l' : Int) (w : World) :
    Calls Try.prog 39 #[.agg #[.int .u64 h, .int .u64 l], .agg #[.int .u64 h', .int .u64 l']] w fun e w' => e = .returned (.int .i64 (wcmp h l h' l')) ∧ Ex w w' := by
  have he := eq_wide
  by_cases h1 : h < h'
  · go_enter Try.func39, Try.ntmps39
    go_wp2
    go_ret
    exact ⟨ret_int (by simp [wcmp, h1]), by (repeat (first | exact Ex.refl _ | assumption | apply Ex.drew | apply Ex.drewN | apply Ex.alloc | (refine Ex.setCell ?_ (by simp; try omega) _) | (refine Ex.call ?_ (by assumption))))⟩
  · by_cases h2 : h = h'
    · subst h2
      by_cases h3 : l < l'
      · go_enter Try.func39, Try.ntmps39
        go_wp2
        go_ret
        exact ⟨ret_int (by simp [wcmp, h3]), by (repeat (first | exact Ex.refl _ | assumption | apply Ex.drew | apply Ex.drewN | apply Ex.alloc | (refine Ex.setCell ?_ (by simp; try omega) _) | (refine Ex.call ?_ (by assumption))))⟩
      · by_cases h4 : l = l'
        · subst h4
          have e1 : teq h l h l = true := by simp [teq]
          go_enter Try.func39, Try.ntmps39
          go_wp2
          go_ret
          exact ⟨ret_int (by simp [wcmp]), by (repeat (first | exact Ex.refl _ | assumption | apply Ex.drew | apply Ex.drewN | apply Ex.alloc | (refine Ex.setCell ?_ (by simp; try omega) _) | (refine Ex.call ?_ (by assumption))))⟩
        · have e1 : teq h l h l' = false := by simp [teq, h4]
          go_enter Try.func39, Try.ntmps39
          go_wp2
          go_ret
          exact ⟨ret_int (by simp [wcmp, h3, h4]), by (repeat (first | exact Ex.refl _ | assumption | apply Ex.drew | apply Ex.drewN | apply Ex.alloc | (refine Ex.setCell ?_ (by simp; try omega) _) | (refine Ex.call ?_ (by assumption))))⟩
    · have e1 : teq h l h' l' = false := by simp [teq, h2]
      have e2 : (h == h') = false := by simp [h2]
      go_enter Try.func39, Try.ntmps39
      go_wp2
      go_ret
      exact ⟨ret_int (by simp [wcmp, h1, h2]), by (repeat (first | exact Ex.refl _ | assumption | apply Ex.drew | apply Ex.drewN | apply Ex.alloc | (refine Ex.setCell ?_ (by simp; try omega) _) | (refine Ex.call ?_ (by assumption))))⟩
end Go.Proofs.Ytjheegdkngkhaaa
