/- Walks of the reference's times: Never, Right, Cmp. -/
import Derived.Test.YtjheegdkngkhaaaNumW5
import Derived.Test.YtjheegdkngkhaaaSpanW2
set_option linter.unusedVariables false
set_option linter.unusedSimpArgs false
set_option linter.unusedSectionVars false
namespace Go.Proofs.Ytjheegdkngkhaaa
open Go.RowKit

theorem RNever_any (n d : Int) (w : World) :
    Calls Try.prog 33 #[.agg #[.int .i64 n, .int .i64 d]] w fun e w' => e = .returned (.bool (teq n d 1 0)) ∧ Ex w w' := by
  by_cases h : n = 1
  · subst h
    go_enter Try.func33, Try.ntmps33
    go_wp2
    go_ret
    exact ⟨ret_bool (by simp [teq]), by (repeat (first | exact Ex.refl _ | assumption | apply Ex.drew | apply Ex.drewN | apply Ex.alloc | (refine Ex.setCell ?_ (by simp; try omega) _) | (refine Ex.call ?_ (by assumption))))⟩
  · have h' : (n == 1) = false := by simp [h]
    go_enter Try.func33, Try.ntmps33
    go_wp2
    go_ret
    exact ⟨ret_bool (by simp [teq, h]), by (repeat (first | exact Ex.refl _ | assumption | apply Ex.drew | apply Ex.drewN | apply Ex.alloc | (refine Ex.setCell ?_ (by simp; try omega) _) | (refine Ex.call ?_ (by assumption))))⟩

theorem dg_one : dg 1 = [1] := by rw [dg_pos (by decide)]; simp [dg_zero]
theorem one_IsN (w : World) : IsN (w.alloc (.cells #[.int .i64 1] 3)) (.slice (some ⟨w.heap.size, 0, none⟩) 1 1) 1 := by
  have := owns_new (Ex.refl w) #[.int .i64 1] 1 rfl (e := 3)
  refine IsI.of_owns (l := dg 1) ?_ (base := w.heap.size) (e := 3)
  rw [dg_one]
  exact this
theorem icmp_zero (x y : Int) : (icmp x y == 0) = (x == y) := by
  unfold icmp
  by_cases h : x < y
  · have : x ≠ y := by omega
    simp [h, this]
  · by_cases h2 : x = y
    · simp [h2]
    · simp [h, h2]
theorem gcd_eq_one (n d : Int) (hn : 0 ≤ n) (hd : 0 ≤ d) : (icmp (Nat.gcd n.toNat d.toNat : Nat) 1 == 0) = (((Int.gcd n d : Nat) : Int) == 1) := by
  rw [icmp_zero]
  obtain ⟨a, rfl⟩ := Int.eq_ofNat_of_zero_le hn
  obtain ⟨b, rfl⟩ := Int.eq_ofNat_of_zero_le hd
  simp
theorem dg_i64 {n : Int} (h0 : 0 ≤ n) (h1 : n ≤ 9223372036854775807) : (dg n.toNat).length ≤ 5 := dg_len (by omega)

set_option maxHeartbeats 1000000 in
theorem RRight_any (n d : Int) (h1 : I64 n) (h2 : I64 d) (w : World) :
    Calls Try.prog 15 #[.agg #[.int .i64 n, .int .i64 d]] w fun e w' => e = .returned (.bool (rightB n d)) ∧ Ex w w' := by
  obtain ⟨a1, a2⟩ := h1; obtain ⟨b1, b2⟩ := h2
  by_cases g1 : teq n d 1 0 = true
  · go_enter Try.func15, Try.ntmps15
    go_wp2_with ((go_at_call 33; refine (RNever_any _ _ _).mono ?_; rintro e w1 ⟨rfl, hx1⟩; obtain ⟨hc1, hf1⟩ := hx1.facts2; have hz1 := hx1.size; (try simp only [World.size_drew] at hz1 hc1 hf1); (try simp only [World.size_drewN] at hz1 hc1 hf1); (try simp only [World.size_setCell] at hz1 hc1 hf1); (try simp only [World.size_alloc] at hz1 hc1 hf1); (try simp only [World.size_drew] at hz1 hc1 hf1); (try simp only [World.size_drewN] at hz1 hc1 hf1); (try simp only [World.size_setCell] at hz1 hc1 hf1); (try simp only [World.size_alloc] at hz1 hc1 hf1); (try simp only [World.cell?_drew] at hz1 hc1 hf1); (try simp only [World.frozen?_drew] at hz1 hc1 hf1); (try simp only [World.cell?_drewN] at hz1 hc1 hf1); (try simp only [World.frozen?_drewN] at hz1 hc1 hf1); (try (have hy10 : w.heap.size < w1.heap.size := by omega)); (try (have hy11 : w.heap.size + 1 < w1.heap.size := by omega)); (try (have hy12 : w.heap.size + 2 < w1.heap.size := by omega)); (try (have hy13 : w.heap.size + 3 < w1.heap.size := by omega))))
    go_ret
    exact ⟨ret_bool (by simp [rightB, g1]), by (repeat (first | exact Ex.refl _ | assumption | apply Ex.drew | apply Ex.drewN | apply Ex.alloc | (refine Ex.setCell ?_ (by simp; try omega) _) | (refine Ex.call ?_ (by assumption))))⟩
  · simp only [Bool.not_eq_true] at g1
    by_cases g2 : 0 < d
    · by_cases g3 : 0 ≤ n
      · have hln := dg_i64 g3 a2
        have hld := dg_i64 (by omega) b2
        have hb := Lib.hid (gcd_eq_one n d g3 (by omega))
        go_enter Try.func15, Try.ntmps15
        go_wp2_with ((go_at_call 33; refine (RNever_any _ _ _).mono ?_; rintro e w1 ⟨rfl, hx1⟩; obtain ⟨hc1, hf1⟩ := hx1.facts2; have hz1 := hx1.size; (try simp only [World.size_drew] at hz1 hc1 hf1); (try simp only [World.size_drewN] at hz1 hc1 hf1); (try simp only [World.size_setCell] at hz1 hc1 hf1); (try simp only [World.size_alloc] at hz1 hc1 hf1); (try simp only [World.size_drew] at hz1 hc1 hf1); (try simp only [World.size_drewN] at hz1 hc1 hf1); (try simp only [World.size_setCell] at hz1 hc1 hf1); (try simp only [World.size_alloc] at hz1 hc1 hf1); (try simp only [World.cell?_drew] at hz1 hc1 hf1); (try simp only [World.frozen?_drew] at hz1 hc1 hf1); (try simp only [World.cell?_drewN] at hz1 hc1 hf1); (try simp only [World.frozen?_drewN] at hz1 hc1 hf1); (try (have hy10 : w.heap.size < w1.heap.size := by omega)); (try (have hy11 : w.heap.size + 1 < w1.heap.size := by omega)); (try (have hy12 : w.heap.size + 2 < w1.heap.size := by omega)); (try (have hy13 : w.heap.size + 3 < w1.heap.size := by omega))))
        go_region_held3 (fun w' => w'.cell? ⟨w.heap.size, 0, none⟩ = some (.int .i64 n) ∧ w'.cell? ⟨w.heap.size, 1, none⟩ = some (.int .i64 d)) (simp [go_sem, *])
          (first
           | (go_at_call_of 35 (Value.int IntKind.i64 n); refine (FromI_any _ (by omega) (by omega) _).mono ?_; rintro e w2 ⟨⟨v2, rfl, hv2⟩, hx2⟩; obtain ⟨hc2, hf2⟩ := hx2.facts2; have hz2 := hx2.size; (try simp only [World.size_drew] at hz2 hc2 hf2); (try simp only [World.size_drewN] at hz2 hc2 hf2); (try simp only [World.size_setCell] at hz2 hc2 hf2); (try simp only [World.size_alloc] at hz2 hc2 hf2); (try simp only [World.size_drew] at hz2 hc2 hf2); (try simp only [World.size_drewN] at hz2 hc2 hf2); (try simp only [World.size_setCell] at hz2 hc2 hf2); (try simp only [World.size_alloc] at hz2 hc2 hf2); (try simp only [World.cell?_drew] at hz2 hc2 hf2); (try simp only [World.frozen?_drew] at hz2 hc2 hf2); (try simp only [World.cell?_drewN] at hz2 hc2 hf2); (try simp only [World.frozen?_drewN] at hz2 hc2 hf2); (try (have hy20 : w.heap.size < w2.heap.size := by omega)); (try (have hy21 : w.heap.size + 1 < w2.heap.size := by omega)); (try (have hy22 : w.heap.size + 2 < w2.heap.size := by omega)); (try (have hy23 : w.heap.size + 3 < w2.heap.size := by omega)))
           | (go_at_call_of 35 (Value.int IntKind.i64 d); refine (FromI_any _ (by omega) (by omega) _).mono ?_; rintro e w3 ⟨⟨v3, rfl, hv3⟩, hx3⟩; obtain ⟨hc3, hf3⟩ := hx3.facts2; have hz3 := hx3.size; (try simp only [World.size_drew] at hz3 hc3 hf3); (try simp only [World.size_drewN] at hz3 hc3 hf3); (try simp only [World.size_setCell] at hz3 hc3 hf3); (try simp only [World.size_alloc] at hz3 hc3 hf3); (try simp only [World.size_drew] at hz3 hc3 hf3); (try simp only [World.size_drewN] at hz3 hc3 hf3); (try simp only [World.size_setCell] at hz3 hc3 hf3); (try simp only [World.size_alloc] at hz3 hc3 hf3); (try simp only [World.cell?_drew] at hz3 hc3 hf3); (try simp only [World.frozen?_drew] at hz3 hc3 hf3); (try simp only [World.cell?_drewN] at hz3 hc3 hf3); (try simp only [World.frozen?_drewN] at hz3 hc3 hf3); (try (have hy30 : w.heap.size < w3.heap.size := by omega)); (try (have hy31 : w.heap.size + 1 < w3.heap.size := by omega)); (try (have hy32 : w.heap.size + 2 < w3.heap.size := by omega)); (try (have hy33 : w.heap.size + 3 < w3.heap.size := by omega)))
           | (go_at_call 34; refine (Gcd_any (hv2.mono (by (repeat (first | exact Ex.refl _ | assumption | apply Ex.drew | apply Ex.drewN | apply Ex.alloc | (refine Ex.setCell ?_ (by simp; try omega) _) | (refine Ex.call ?_ (by assumption)))))) (hv3.mono (by (repeat (first | exact Ex.refl _ | assumption | apply Ex.drew | apply Ex.drewN | apply Ex.alloc | (refine Ex.setCell ?_ (by simp; try omega) _) | (refine Ex.call ?_ (by assumption)))))) (by omega) (by omega)).mono ?_; rintro e w4 ⟨⟨v4, rfl, hv4⟩, hx4⟩; obtain ⟨hc4, hf4⟩ := hx4.facts2; have hz4 := hx4.size; (try simp only [World.size_drew] at hz4 hc4 hf4); (try simp only [World.size_drewN] at hz4 hc4 hf4); (try simp only [World.size_setCell] at hz4 hc4 hf4); (try simp only [World.size_alloc] at hz4 hc4 hf4); (try simp only [World.size_drew] at hz4 hc4 hf4); (try simp only [World.size_drewN] at hz4 hc4 hf4); (try simp only [World.size_setCell] at hz4 hc4 hf4); (try simp only [World.size_alloc] at hz4 hc4 hf4); (try simp only [World.cell?_drew] at hz4 hc4 hf4); (try simp only [World.frozen?_drew] at hz4 hc4 hf4); (try simp only [World.cell?_drewN] at hz4 hc4 hf4); (try simp only [World.frozen?_drewN] at hz4 hc4 hf4); (try (have hy40 : w.heap.size < w4.heap.size := by omega)); (try (have hy41 : w.heap.size + 1 < w4.heap.size := by omega)); (try (have hy42 : w.heap.size + 2 < w4.heap.size := by omega)); (try (have hy43 : w.heap.size + 3 < w4.heap.size := by omega)))
           | (go_at_call 36; refine (NCmp_any (hv4.mono (by (repeat (first | exact Ex.refl _ | assumption | apply Ex.drew | apply Ex.drewN | apply Ex.alloc | (refine Ex.setCell ?_ (by simp; try omega) _) | (refine Ex.call ?_ (by assumption)))))) ((one_IsN _).mono (by (repeat (first | exact Ex.refl _ | assumption | apply Ex.drew | apply Ex.drewN | apply Ex.alloc | (refine Ex.setCell ?_ (by simp; try omega) _) | (refine Ex.call ?_ (by assumption))))))).mono ?_; rintro e w5 ⟨rfl, n5, rfl⟩))
        all_goals go_wp2
        all_goals (go_ret; exact ⟨ret_bool (by rw [hb.out]; simp [rightB, g1, g2, g3]), by (repeat (first | exact Ex.refl _ | assumption | apply Ex.drew | apply Ex.drewN | apply Ex.alloc | (refine Ex.setCell ?_ (by simp; try omega) _) | (refine Ex.call ?_ (by assumption))))⟩)
      · have g3' : decide (0 ≤ n) = false := by simp [g3]
        go_enter Try.func15, Try.ntmps15
        go_wp2_with ((go_at_call 33; refine (RNever_any _ _ _).mono ?_; rintro e w1 ⟨rfl, hx1⟩; obtain ⟨hc1, hf1⟩ := hx1.facts2; have hz1 := hx1.size; (try simp only [World.size_drew] at hz1 hc1 hf1); (try simp only [World.size_drewN] at hz1 hc1 hf1); (try simp only [World.size_setCell] at hz1 hc1 hf1); (try simp only [World.size_alloc] at hz1 hc1 hf1); (try simp only [World.size_drew] at hz1 hc1 hf1); (try simp only [World.size_drewN] at hz1 hc1 hf1); (try simp only [World.size_setCell] at hz1 hc1 hf1); (try simp only [World.size_alloc] at hz1 hc1 hf1); (try simp only [World.cell?_drew] at hz1 hc1 hf1); (try simp only [World.frozen?_drew] at hz1 hc1 hf1); (try simp only [World.cell?_drewN] at hz1 hc1 hf1); (try simp only [World.frozen?_drewN] at hz1 hc1 hf1); (try (have hy10 : w.heap.size < w1.heap.size := by omega)); (try (have hy11 : w.heap.size + 1 < w1.heap.size := by omega)); (try (have hy12 : w.heap.size + 2 < w1.heap.size := by omega)); (try (have hy13 : w.heap.size + 3 < w1.heap.size := by omega))))
        go_quiet (fail)
        go_wp2
        go_ret
        exact ⟨ret_bool (by simp [rightB, g1]; intros; omega), by (repeat (first | exact Ex.refl _ | assumption | apply Ex.drew | apply Ex.drewN | apply Ex.alloc | (refine Ex.setCell ?_ (by simp; try omega) _) | (refine Ex.call ?_ (by assumption))))⟩
    · have g2' : decide (0 < d) = false := by simp [g2]
      go_enter Try.func15, Try.ntmps15
      go_wp2_with ((go_at_call 33; refine (RNever_any _ _ _).mono ?_; rintro e w1 ⟨rfl, hx1⟩; obtain ⟨hc1, hf1⟩ := hx1.facts2; have hz1 := hx1.size; (try simp only [World.size_drew] at hz1 hc1 hf1); (try simp only [World.size_drewN] at hz1 hc1 hf1); (try simp only [World.size_setCell] at hz1 hc1 hf1); (try simp only [World.size_alloc] at hz1 hc1 hf1); (try simp only [World.size_drew] at hz1 hc1 hf1); (try simp only [World.size_drewN] at hz1 hc1 hf1); (try simp only [World.size_setCell] at hz1 hc1 hf1); (try simp only [World.size_alloc] at hz1 hc1 hf1); (try simp only [World.cell?_drew] at hz1 hc1 hf1); (try simp only [World.frozen?_drew] at hz1 hc1 hf1); (try simp only [World.cell?_drewN] at hz1 hc1 hf1); (try simp only [World.frozen?_drewN] at hz1 hc1 hf1); (try (have hy10 : w.heap.size < w1.heap.size := by omega)); (try (have hy11 : w.heap.size + 1 < w1.heap.size := by omega)); (try (have hy12 : w.heap.size + 2 < w1.heap.size := by omega)); (try (have hy13 : w.heap.size + 3 < w1.heap.size := by omega))))
      go_quiet (fail)
      go_wp2
      go_ret
      exact ⟨ret_bool (by simp [rightB, g1]; intros; omega), by (repeat (first | exact Ex.refl _ | assumption | apply Ex.drew | apply Ex.drewN | apply Ex.alloc | (refine Ex.setCell ?_ (by simp; try omega) _) | (refine Ex.call ?_ (by assumption))))⟩
end Go.Proofs.Ytjheegdkngkhaaa
