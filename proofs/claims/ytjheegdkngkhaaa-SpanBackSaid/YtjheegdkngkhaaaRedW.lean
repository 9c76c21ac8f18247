/- Walk of span.reduced, and span.fit at numbers of two words. Conditions: each number lies in two words; the divisors are not nought. -/
import Derived.Test.YtjheegdkngkhaaaWideW2
import Derived.Test.YtjheegdkngkhaaaSpanW5
set_option linter.unusedVariables false
set_option linter.unusedSimpArgs false
set_option linter.unusedSectionVars false
namespace Go.Proofs.Ytjheegdkngkhaaa
open Go.RowKit

def fitT (n d : Nat) : Int × Int × Int := if maxI < n ∨ maxI < d then (0, 0, 2) else ((n : Int), (d : Int), 0)
theorem fit_any (n d : Nat) (h1 : n < 340282366920938463463374607431768211456) (h2 : d < 340282366920938463463374607431768211456) (w : World) :
    Calls Try.prog 42 #[.agg #[.int .u64 ((n / 18446744073709551616 : Nat) : Int), .int .u64 ((n % 18446744073709551616 : Nat) : Int)], .agg #[.int .u64 ((d / 18446744073709551616 : Nat) : Int), .int .u64 ((d % 18446744073709551616 : Nat) : Int)]] w fun e w' => e = .returned (tupT (fitT n d)) ∧ Ex w w' := by
  by_cases hb : maxI < n ∨ maxI < d
  · rw [fitT, if_pos hb]
    unfold maxI at hb
    exact fit_big _ _ _ _ ⟨by omega, by omega⟩ ⟨by omega, by omega⟩ ⟨by omega, by omega⟩ ⟨by omega, by omega⟩ (by omega) w
  · rw [fitT, if_neg hb]
    have a1 := le_maxI (fun h => hb (.inl h))
    have a2 := le_maxI (fun h => hb (.inr h))
    rw [show n / 18446744073709551616 = 0 by omega, show n % 18446744073709551616 = n by omega, show d / 18446744073709551616 = 0 by omega, show d % 18446744073709551616 = d by omega]
    exact fit_fits n d (by omega) (by omega) (by omega) (by omega) w

theorem times_nat (a b : Nat) (ha : a < 18446744073709551616) (hb : b < 18446744073709551616) (w : World) :
    Calls Try.prog 38 #[.int .u64 a, .int .u64 b] w fun e w' => e = .returned (.agg #[.int .u64 ((a * b / 18446744073709551616 : Nat) : Int), .int .u64 ((a * b % 18446744073709551616 : Nat) : Int)]) ∧ Ex w w' := by
  have := times_any a b (by omega) (by omega) (by omega) (by omega) w
  rw [Int.natCast_ediv, Int.natCast_emod, Int.natCast_mul]
  exact this
theorem over_nat (N d : Nat) (hd : 0 < d) (hN : N < 340282366920938463463374607431768211456) (hd2 : d < 18446744073709551616) (w : World) :
    Calls Try.prog 66 #[.agg #[.int .u64 ((N / 18446744073709551616 : Nat) : Int), .int .u64 ((N % 18446744073709551616 : Nat) : Int)], .int .u64 d] w fun e w' => e = .returned (.tuple #[.agg #[.int .u64 ((N / d / 18446744073709551616 : Nat) : Int), .int .u64 ((N / d % 18446744073709551616 : Nat) : Int)], .int .u64 ((N % d : Nat) : Int)]) ∧ Ex w w' := by
  have := over_any (N / 18446744073709551616) (N % 18446744073709551616) d hd (by omega) (by omega) hd2 w
  rw [Nat.div_add_mod'] at this
  exact this

set_option maxHeartbeats 1000000 in
theorem reduced_any (N c d g : Nat) (hg : 0 < g) (hN : N < 340282366920938463463374607431768211456) (hc : c < 18446744073709551616) (hd : d < 18446744073709551616) (hg2 : g < 18446744073709551616) (w : World) :
    Calls Try.prog 54 #[.agg #[.int .u64 ((N / 18446744073709551616 : Nat) : Int), .int .u64 ((N % 18446744073709551616 : Nat) : Int)], .int .u64 c, .int .u64 d, .int .u64 g] w fun e w' => e = .returned (tupT (fitT (N / Nat.gcd N g) (c * (d / Nat.gcd N g)))) ∧ Ex w w' := by
  have hgp := Nat.gcd_pos_of_pos_right N hg
  have hgl := Nat.gcd_le_right N hg
  have hO := Lib.hid (fun w => over_nat N g hg hN hg2 w)
  have hG := Lib.hid (fun w => gcd_any ((N % g : Nat) : Int) (g : Int) (by omega) (by have := Nat.mod_lt N hg; omega) (by omega) (by omega) w)
  rw [Int.gcd_natCast_natCast, ← Nat.gcd_rec, Nat.gcd_comm] at hG
  obtain ⟨h, hh⟩ : ∃ h, h = Nat.gcd N g := ⟨_, rfl⟩
  rw [← hh] at hG hgp hgl ⊢
  have hP := Lib.hid (fun w => over_nat N h hgp hN (by omega) w)
  obtain ⟨e, he⟩ : ∃ e, e = d / h := ⟨_, rfl⟩
  have hed : e ≤ d := by rw [he]; exact Nat.div_le_self _ _
  have hT := Lib.hid (fun w => times_nat c e hc (by omega) w)
  have hq : N / h ≤ N := Nat.div_le_self _ _
  have ht : c * e ≤ 18446744073709551615 * 18446744073709551615 := Nat.mul_le_mul (by omega) (by omega)
  have hF := Lib.hid (fun w => fit_any (N / h) (c * e) (by omega) (by omega) w)
  have eq1 : IntKind.u64.wrap ((d : Int) / h) = (e : Int) := by
    rw [← Int.natCast_ediv, ← he]
    exact wrapN64 (by omega)
  rw [← he]
  have h0 : (h : Int) ≠ 0 := by omega
  have h0' : h ≠ 0 := by omega
  clear hN hc hd hg2 hed hq ht
  replace hh := Lib.hid hh
  replace he := Lib.hid he
  generalize fitT (N / h) (c * e) = F at *
  generalize N / h / 18446744073709551616 = ph at *
  generalize N / h % 18446744073709551616 = pl at *
  generalize N / g / 18446744073709551616 = qh at *
  generalize N / g % 18446744073709551616 = ql at *
  generalize N % h = r2 at *
  generalize N % g = r1 at *
  generalize N / 18446744073709551616 = nh at *
  generalize N % 18446744073709551616 = nl at *
  generalize c * e / 18446744073709551616 = th at *
  generalize c * e % 18446744073709551616 = tl at *
  obtain ⟨f1, f2, f3⟩ := F
  simp only [tupT] at hF
  go_enter Try.func54, Try.ntmps54
  go_wp2_with (first
    | (go_at_call_of 66 (Value.int IntKind.u64 g); refine (hO.out _).mono ?_; rintro e w1 ⟨rfl, hx1⟩; obtain ⟨hc1, hf1⟩ := hx1.facts2; have hz1 := hx1.size; (try simp only [World.size_drew] at hz1 hc1 hf1); (try simp only [World.size_drewN] at hz1 hc1 hf1); (try simp only [World.size_setCell] at hz1 hc1 hf1); (try simp only [World.size_alloc] at hz1 hc1 hf1); (try simp only [World.size_drew] at hz1 hc1 hf1); (try simp only [World.size_drewN] at hz1 hc1 hf1); (try simp only [World.size_setCell] at hz1 hc1 hf1); (try simp only [World.size_alloc] at hz1 hc1 hf1); (try simp only [World.cell?_drew] at hz1 hc1 hf1); (try simp only [World.frozen?_drew] at hz1 hc1 hf1); (try simp only [World.cell?_drewN] at hz1 hc1 hf1); (try simp only [World.frozen?_drewN] at hz1 hc1 hf1); (try (have hy10 : w.heap.size < w1.heap.size := by omega)); (try (have hy11 : w.heap.size + 1 < w1.heap.size := by omega)); (try (have hy12 : w.heap.size + 2 < w1.heap.size := by omega)); (try (have hy13 : w.heap.size + 3 < w1.heap.size := by omega)))
    | (go_at_call 32; refine (hG.out _).mono ?_; rintro e w_ ⟨rfl, n2, rfl⟩)
    | (go_at_call_of 66 (Value.int IntKind.u64 h); refine (hP.out _).mono ?_; rintro e w2 ⟨rfl, hx2⟩; obtain ⟨hc2, hf2⟩ := hx2.facts2; have hz2 := hx2.size; (try simp only [World.size_drew] at hz2 hc2 hf2); (try simp only [World.size_drewN] at hz2 hc2 hf2); (try simp only [World.size_setCell] at hz2 hc2 hf2); (try simp only [World.size_alloc] at hz2 hc2 hf2); (try simp only [World.size_drew] at hz2 hc2 hf2); (try simp only [World.size_drewN] at hz2 hc2 hf2); (try simp only [World.size_setCell] at hz2 hc2 hf2); (try simp only [World.size_alloc] at hz2 hc2 hf2); (try simp only [World.cell?_drew] at hz2 hc2 hf2); (try simp only [World.frozen?_drew] at hz2 hc2 hf2); (try simp only [World.cell?_drewN] at hz2 hc2 hf2); (try simp only [World.frozen?_drewN] at hz2 hc2 hf2); (try (have hy20 : w.heap.size < w2.heap.size := by omega)); (try (have hy21 : w.heap.size + 1 < w2.heap.size := by omega)); (try (have hy22 : w.heap.size + 2 < w2.heap.size := by omega)); (try (have hy23 : w.heap.size + 3 < w2.heap.size := by omega))))
  have hy8 : w.heap.size + 1 < w.heap.size + 1 + 1 := by omega
  go_region_held3 (fun w' => w'.cell? ⟨w2.heap.size, 0, none⟩ = some (.int .u64 ph) ∧ w'.cell? ⟨w2.heap.size, 1, none⟩ = some (.int .u64 pl) ∧ w2.heap.size < w'.heap.size) (refine ⟨by simp [go_sem, *], by simp [go_sem, *], by first | omega | (simp [go_sem, *]; done) | (simp [go_sem]; omega)⟩)
    (first
      | (go_at_call 38; refine (hT.out _).mono ?_; rintro e w3 ⟨rfl, hx3⟩; obtain ⟨hc3, hf3⟩ := hx3.facts2; have hz3 := hx3.size; (try simp only [World.size_drew] at hz3 hc3 hf3); (try simp only [World.size_drewN] at hz3 hc3 hf3); (try simp only [World.size_setCell] at hz3 hc3 hf3); (try simp only [World.size_alloc] at hz3 hc3 hf3); (try simp only [World.size_drew] at hz3 hc3 hf3); (try simp only [World.size_drewN] at hz3 hc3 hf3); (try simp only [World.size_setCell] at hz3 hc3 hf3); (try simp only [World.size_alloc] at hz3 hc3 hf3); (try simp only [World.cell?_drew] at hz3 hc3 hf3); (try simp only [World.frozen?_drew] at hz3 hc3 hf3); (try simp only [World.cell?_drewN] at hz3 hc3 hf3); (try simp only [World.frozen?_drewN] at hz3 hc3 hf3); (try (have hy30 : w.heap.size < w3.heap.size := by omega)); (try (have hy31 : w.heap.size + 1 < w3.heap.size := by omega)); (try (have hy32 : w.heap.size + 2 < w3.heap.size := by omega)); (try (have hy33 : w.heap.size + 3 < w3.heap.size := by omega)))
      | (go_at_call 42; refine (hF.out _).mono ?_; rintro e w4 ⟨rfl, hx4⟩; obtain ⟨hc4, hf4⟩ := hx4.facts2; have hz4 := hx4.size; (try simp only [World.size_drew] at hz4 hc4 hf4); (try simp only [World.size_drewN] at hz4 hc4 hf4); (try simp only [World.size_setCell] at hz4 hc4 hf4); (try simp only [World.size_alloc] at hz4 hc4 hf4); (try simp only [World.size_drew] at hz4 hc4 hf4); (try simp only [World.size_drewN] at hz4 hc4 hf4); (try simp only [World.size_setCell] at hz4 hc4 hf4); (try simp only [World.size_alloc] at hz4 hc4 hf4); (try simp only [World.cell?_drew] at hz4 hc4 hf4); (try simp only [World.frozen?_drew] at hz4 hc4 hf4); (try simp only [World.cell?_drewN] at hz4 hc4 hf4); (try simp only [World.frozen?_drewN] at hz4 hc4 hf4); (try (have hy40 : w.heap.size < w4.heap.size := by omega)); (try (have hy41 : w.heap.size + 1 < w4.heap.size := by omega)); (try (have hy42 : w.heap.size + 2 < w4.heap.size := by omega)); (try (have hy43 : w.heap.size + 3 < w4.heap.size := by omega))))
  all_goals go_wp2
  all_goals (refine bodyPost_ret (v := .tuple #[.agg #[.int .i64 f1, .int .i64 f2], .int .i64 f3]) ?_ rfl ⟨rfl, by (repeat (first | exact Ex.refl _ | assumption | apply Ex.drew | apply Ex.drewN | apply Ex.alloc | (refine Ex.setCell ?_ (by simp; try omega) _) | (refine Ex.call ?_ (by assumption))))⟩; simp [results, Try.results54, go_sem, *])
end Go.Proofs.Ytjheegdkngkhaaa
