/- Walk of the reference's comparison of times. -/
import Derived.Test.YtjheegdkngkhaaaNumW6
namespace Go.Proofs.Ytjheegdkngkhaaa
open Go.RowKit

theorem teq_eq {n d n' d' : Int} (h : teq n d n' d' = true) : n = n' ∧ d = d' := by simpa [teq] using h
theorem cmpT_same (n d : Int) : cmpT n d n d = 0 := by
  unfold cmpT
  by_cases h : rightB n d = true
  · by_cases h2 : teq n d 1 0 = true
    · simp [h, h2, sgn]
    · simp only [Bool.not_eq_true] at h2
      simp [h, h2, icmp]
  · simp only [Bool.not_eq_true] at h
    simp [h]
theorem icmp_toNat {a b c d : Int} (ha : 0 ≤ a) (hb : 0 ≤ b) (hc : 0 ≤ c) (hd : 0 ≤ d) : icmp ((a.toNat * b.toNat : Nat) : Int) ((c.toNat * d.toNat : Nat) : Int) = icmp (a * b) (c * d) := by
  obtain ⟨a, rfl⟩ := Int.eq_ofNat_of_zero_le ha
  obtain ⟨b, rfl⟩ := Int.eq_ofNat_of_zero_le hb
  obtain ⟨c, rfl⟩ := Int.eq_ofNat_of_zero_le hc
  obtain ⟨d, rfl⟩ := Int.eq_ofNat_of_zero_le hd
  simp

set_option maxHeartbeats 1000000 in
theorem RCmp_any (n d n' d' : Int) (h1 : I64 n) (h2 : I64 d) (h3 : I64 n') (h4 : I64 d') (w : World) :
    Calls Try.prog 17 #[.agg #[.int .i64 n, .int .i64 d], .agg #[.int .i64 n', .int .i64 d']] w fun e w' => e = .returned (.int .i64 (cmpT n d n' d')) ∧ Ex w w' := by
  have he := eq_time
  by_cases g1 : rightB n d = true
  · by_cases g2 : rightB n' d' = true
    · by_cases g3 : teq n d n' d' = true
      · have hs : Hid (cmpT n d n' d' = 0) := by
          obtain ⟨rfl, rfl⟩ := teq_eq g3
          exact cmpT_same n d
        go_enter Try.func17, Try.ntmps17
        go_wp2_with (first | (go_at_call 15; refine (RRight_any _ _ (by assumption) (by assumption) _).mono ?_; rintro e w1 ⟨rfl, hx1⟩; obtain ⟨hc1, hf1⟩ := hx1.facts2; have hz1 := hx1.size; (try simp only [World.size_alloc, World.size_drew, World.size_setCell, World.size_drewN, World.cell?_drew, World.frozen?_drew, World.cell?_drewN, World.frozen?_drewN] at hz1 hc1 hf1); (try (have hy10 : w.heap.size < w1.heap.size := by omega)); (try (have hy11 : w.heap.size + 1 < w1.heap.size := by omega)); (try (have hy12 : w.heap.size + 2 < w1.heap.size := by omega)); (try (have hy13 : w.heap.size + 3 < w1.heap.size := by omega))))
        go_ret
        exact ⟨ret_int hs.out.symm, by (repeat (first | exact Ex.refl _ | assumption | apply Ex.drew | apply Ex.drewN | apply Ex.alloc | (refine Ex.setCell ?_ (by simp; try omega) _) | (refine Ex.call ?_ (by assumption))))⟩
      · simp only [Bool.not_eq_true] at g3
        by_cases g4 : teq n d 1 0 = true
        · have g5 : teq n' d' 1 0 = false := by
            obtain ⟨rfl, rfl⟩ := teq_eq g4
            refine Bool.eq_false_iff.2 fun h => ?_
            obtain ⟨rfl, rfl⟩ := teq_eq h
            simp [teq] at g3
          have hs : Hid (cmpT n d n' d' = 1) := by show _ = _; simp [cmpT, g1, g2, g4, g5, sgn]
          go_enter Try.func17, Try.ntmps17
          go_wp2_with (first | (go_at_call 15; refine (RRight_any _ _ (by assumption) (by assumption) _).mono ?_; rintro e w1 ⟨rfl, hx1⟩; obtain ⟨hc1, hf1⟩ := hx1.facts2; have hz1 := hx1.size; (try simp only [World.size_alloc, World.size_drew, World.size_setCell, World.size_drewN, World.cell?_drew, World.frozen?_drew, World.cell?_drewN, World.frozen?_drewN] at hz1 hc1 hf1); (try (have hy10 : w.heap.size < w1.heap.size := by omega)); (try (have hy11 : w.heap.size + 1 < w1.heap.size := by omega)); (try (have hy12 : w.heap.size + 2 < w1.heap.size := by omega)); (try (have hy13 : w.heap.size + 3 < w1.heap.size := by omega))) | (go_at_call 33; refine (RNever_any _ _ _).mono ?_; rintro e w1 ⟨rfl, hx1⟩; obtain ⟨hc1, hf1⟩ := hx1.facts2; have hz1 := hx1.size; (try simp only [World.size_alloc, World.size_drew, World.size_setCell, World.size_drewN, World.cell?_drew, World.frozen?_drew, World.cell?_drewN, World.frozen?_drewN] at hz1 hc1 hf1); (try (have hy10 : w.heap.size < w1.heap.size := by omega)); (try (have hy11 : w.heap.size + 1 < w1.heap.size := by omega)); (try (have hy12 : w.heap.size + 2 < w1.heap.size := by omega)); (try (have hy13 : w.heap.size + 3 < w1.heap.size := by omega))))
          go_ret
          exact ⟨ret_int hs.out.symm, by (repeat (first | exact Ex.refl _ | assumption | apply Ex.drew | apply Ex.drewN | apply Ex.alloc | (refine Ex.setCell ?_ (by simp; try omega) _) | (refine Ex.call ?_ (by assumption))))⟩
        · simp only [Bool.not_eq_true] at g4
          by_cases g5 : teq n' d' 1 0 = true
          · have hs : Hid (cmpT n d n' d' = -1) := by show _ = _; simp [cmpT, g1, g2, g4, g5, sgn]
            go_enter Try.func17, Try.ntmps17
            go_wp2_with (first | (go_at_call 15; refine (RRight_any _ _ (by assumption) (by assumption) _).mono ?_; rintro e w1 ⟨rfl, hx1⟩; obtain ⟨hc1, hf1⟩ := hx1.facts2; have hz1 := hx1.size; (try simp only [World.size_alloc, World.size_drew, World.size_setCell, World.size_drewN, World.cell?_drew, World.frozen?_drew, World.cell?_drewN, World.frozen?_drewN] at hz1 hc1 hf1); (try (have hy10 : w.heap.size < w1.heap.size := by omega)); (try (have hy11 : w.heap.size + 1 < w1.heap.size := by omega)); (try (have hy12 : w.heap.size + 2 < w1.heap.size := by omega)); (try (have hy13 : w.heap.size + 3 < w1.heap.size := by omega))) | (go_at_call 33; refine (RNever_any _ _ _).mono ?_; rintro e w1 ⟨rfl, hx1⟩; obtain ⟨hc1, hf1⟩ := hx1.facts2; have hz1 := hx1.size; (try simp only [World.size_alloc, World.size_drew, World.size_setCell, World.size_drewN, World.cell?_drew, World.frozen?_drew, World.cell?_drewN, World.frozen?_drewN] at hz1 hc1 hf1); (try (have hy10 : w.heap.size < w1.heap.size := by omega)); (try (have hy11 : w.heap.size + 1 < w1.heap.size := by omega)); (try (have hy12 : w.heap.size + 2 < w1.heap.size := by omega)); (try (have hy13 : w.heap.size + 3 < w1.heap.size := by omega))))
            go_ret
            exact ⟨ret_int hs.out.symm, by (repeat (first | exact Ex.refl _ | assumption | apply Ex.drew | apply Ex.drewN | apply Ex.alloc | (refine Ex.setCell ?_ (by simp; try omega) _) | (refine Ex.call ?_ (by assumption))))⟩
          · simp only [Bool.not_eq_true] at g5
            have hs : Hid (cmpT n d n' d' = icmp (n * d') (n' * d)) := by show _ = _; simp [cmpT, g1, g2, g4, g5]
            have k1 : 0 < d ∧ 0 ≤ n := by simp [rightB, g4] at g1; exact ⟨g1.1.1, g1.1.2⟩
            have k2 : 0 < d' ∧ 0 ≤ n' := by simp [rightB, g5] at g2; exact ⟨g2.1.1, g2.1.2⟩
            have l1 := dg_i64 k1.2 h1.2
            have l2 := dg_i64 (Int.le_of_lt k1.1) h2.2
            have l3 := dg_i64 k2.2 h3.2
            have l4 := dg_i64 (Int.le_of_lt k2.1) h4.2
            have hic := Lib.hid (icmp_toNat k1.2 (Int.le_of_lt k2.1) k2.2 (Int.le_of_lt k1.1))
            obtain ⟨a1, a2⟩ := k1; obtain ⟨a3, a4⟩ := k2
            obtain ⟨b1, b1'⟩ := id h1; obtain ⟨b2, b2'⟩ := id h2; obtain ⟨b3, b3'⟩ := id h3; obtain ⟨b4, b4'⟩ := id h4
            go_enter Try.func17, Try.ntmps17
            go_wp2_with (first | (go_at_call 15; refine (RRight_any _ _ (by assumption) (by assumption) _).mono ?_; rintro e w1 ⟨rfl, hx1⟩; obtain ⟨hc1, hf1⟩ := hx1.facts2; have hz1 := hx1.size; (try simp only [World.size_alloc, World.size_drew, World.size_setCell, World.size_drewN, World.cell?_drew, World.frozen?_drew, World.cell?_drewN, World.frozen?_drewN] at hz1 hc1 hf1); (try (have hy10 : w.heap.size < w1.heap.size := by omega)); (try (have hy11 : w.heap.size + 1 < w1.heap.size := by omega)); (try (have hy12 : w.heap.size + 2 < w1.heap.size := by omega)); (try (have hy13 : w.heap.size + 3 < w1.heap.size := by omega))) | (go_at_call 33; refine (RNever_any _ _ _).mono ?_; rintro e w1 ⟨rfl, hx1⟩; obtain ⟨hc1, hf1⟩ := hx1.facts2; have hz1 := hx1.size; (try simp only [World.size_alloc, World.size_drew, World.size_setCell, World.size_drewN, World.cell?_drew, World.frozen?_drew, World.cell?_drewN, World.frozen?_drewN] at hz1 hc1 hf1); (try (have hy10 : w.heap.size < w1.heap.size := by omega)); (try (have hy11 : w.heap.size + 1 < w1.heap.size := by omega)); (try (have hy12 : w.heap.size + 2 < w1.heap.size := by omega)); (try (have hy13 : w.heap.size + 3 < w1.heap.size := by omega))))
            go_region_held3 (fun w' => w'.cell? ⟨w.heap.size, 0, none⟩ = some (.int .i64 n) ∧ w'.cell? ⟨w.heap.size, 1, none⟩ = some (.int .i64 d) ∧ w'.cell? ⟨w.heap.size + 1, 0, none⟩ = some (.int .i64 n') ∧ w'.cell? ⟨w.heap.size + 1, 1, none⟩ = some (.int .i64 d')) (simp [go_sem, *])
              (first
               | (go_at_call_of 35 (Value.int IntKind.i64 n); refine (FromI_any _ (by omega) (by omega) _).mono ?_; rintro e w2 ⟨⟨v2, rfl, hv2⟩, hx2⟩; obtain ⟨hc2, hf2⟩ := hx2.facts2; have hz2 := hx2.size; (try simp only [World.size_alloc, World.size_drew, World.size_setCell, World.size_drewN, World.cell?_drew, World.frozen?_drew, World.cell?_drewN, World.frozen?_drewN] at hz2 hc2 hf2); (try (have hy20 : w.heap.size < w2.heap.size := by omega)); (try (have hy21 : w.heap.size + 1 < w2.heap.size := by omega)); (try (have hy22 : w.heap.size + 2 < w2.heap.size := by omega)); (try (have hy23 : w.heap.size + 3 < w2.heap.size := by omega)))
               | (go_at_call_of 35 (Value.int IntKind.i64 d'); refine (FromI_any _ (by omega) (by omega) _).mono ?_; rintro e w3 ⟨⟨v3, rfl, hv3⟩, hx3⟩; obtain ⟨hc3, hf3⟩ := hx3.facts2; have hz3 := hx3.size; (try simp only [World.size_alloc, World.size_drew, World.size_setCell, World.size_drewN, World.cell?_drew, World.frozen?_drew, World.cell?_drewN, World.frozen?_drewN] at hz3 hc3 hf3); (try (have hy30 : w.heap.size < w3.heap.size := by omega)); (try (have hy31 : w.heap.size + 1 < w3.heap.size := by omega)); (try (have hy32 : w.heap.size + 2 < w3.heap.size := by omega)); (try (have hy33 : w.heap.size + 3 < w3.heap.size := by omega)))
               | (go_at_call_of 40 v2; refine (Mul_any (hv2.mono (by (repeat (first | exact Ex.refl _ | assumption | apply Ex.drew | apply Ex.drewN | apply Ex.alloc | (refine Ex.setCell ?_ (by simp; try omega) _) | (refine Ex.call ?_ (by assumption)))))) (hv3.mono (by (repeat (first | exact Ex.refl _ | assumption | apply Ex.drew | apply Ex.drewN | apply Ex.alloc | (refine Ex.setCell ?_ (by simp; try omega) _) | (refine Ex.call ?_ (by assumption)))))) (by omega) (by omega)).mono ?_; rintro e w4 ⟨⟨v4, rfl, hv4⟩, hx4⟩; obtain ⟨hc4, hf4⟩ := hx4.facts2; have hz4 := hx4.size; (try simp only [World.size_alloc, World.size_drew, World.size_setCell, World.size_drewN, World.cell?_drew, World.frozen?_drew, World.cell?_drewN, World.frozen?_drewN] at hz4 hc4 hf4); (try (have hy40 : w.heap.size < w4.heap.size := by omega)); (try (have hy41 : w.heap.size + 1 < w4.heap.size := by omega)); (try (have hy42 : w.heap.size + 2 < w4.heap.size := by omega)); (try (have hy43 : w.heap.size + 3 < w4.heap.size := by omega)))
               | (go_at_call_of 35 (Value.int IntKind.i64 n'); refine (FromI_any _ (by omega) (by omega) _).mono ?_; rintro e w5 ⟨⟨v5, rfl, hv5⟩, hx5⟩; obtain ⟨hc5, hf5⟩ := hx5.facts2; have hz5 := hx5.size; (try simp only [World.size_alloc, World.size_drew, World.size_setCell, World.size_drewN, World.cell?_drew, World.frozen?_drew, World.cell?_drewN, World.frozen?_drewN] at hz5 hc5 hf5); (try (have hy50 : w.heap.size < w5.heap.size := by omega)); (try (have hy51 : w.heap.size + 1 < w5.heap.size := by omega)); (try (have hy52 : w.heap.size + 2 < w5.heap.size := by omega)); (try (have hy53 : w.heap.size + 3 < w5.heap.size := by omega)))
               | (go_at_call_of 35 (Value.int IntKind.i64 d); refine (FromI_any _ (by omega) (by omega) _).mono ?_; rintro e w6 ⟨⟨v6, rfl, hv6⟩, hx6⟩; obtain ⟨hc6, hf6⟩ := hx6.facts2; have hz6 := hx6.size; (try simp only [World.size_alloc, World.size_drew, World.size_setCell, World.size_drewN, World.cell?_drew, World.frozen?_drew, World.cell?_drewN, World.frozen?_drewN] at hz6 hc6 hf6); (try (have hy60 : w.heap.size < w6.heap.size := by omega)); (try (have hy61 : w.heap.size + 1 < w6.heap.size := by omega)); (try (have hy62 : w.heap.size + 2 < w6.heap.size := by omega)); (try (have hy63 : w.heap.size + 3 < w6.heap.size := by omega)))
               | (go_at_call_of 40 v5; refine (Mul_any (hv5.mono (by (repeat (first | exact Ex.refl _ | assumption | apply Ex.drew | apply Ex.drewN | apply Ex.alloc | (refine Ex.setCell ?_ (by simp; try omega) _) | (refine Ex.call ?_ (by assumption)))))) (hv6.mono (by (repeat (first | exact Ex.refl _ | assumption | apply Ex.drew | apply Ex.drewN | apply Ex.alloc | (refine Ex.setCell ?_ (by simp; try omega) _) | (refine Ex.call ?_ (by assumption)))))) (by omega) (by omega)).mono ?_; rintro e w7 ⟨⟨v7, rfl, hv7⟩, hx7⟩; obtain ⟨hc7, hf7⟩ := hx7.facts2; have hz7 := hx7.size; (try simp only [World.size_alloc, World.size_drew, World.size_setCell, World.size_drewN, World.cell?_drew, World.frozen?_drew, World.cell?_drewN, World.frozen?_drewN] at hz7 hc7 hf7); (try (have hy70 : w.heap.size < w7.heap.size := by omega)); (try (have hy71 : w.heap.size + 1 < w7.heap.size := by omega)); (try (have hy72 : w.heap.size + 2 < w7.heap.size := by omega)); (try (have hy73 : w.heap.size + 3 < w7.heap.size := by omega)))
               | (go_at_call 36; refine (NCmp_any (hv4.mono (by (repeat (first | exact Ex.refl _ | assumption | apply Ex.drew | apply Ex.drewN | apply Ex.alloc | (refine Ex.setCell ?_ (by simp; try omega) _) | (refine Ex.call ?_ (by assumption)))))) (hv7.mono (by (repeat (first | exact Ex.refl _ | assumption | apply Ex.drew | apply Ex.drewN | apply Ex.alloc | (refine Ex.setCell ?_ (by simp; try omega) _) | (refine Ex.call ?_ (by assumption))))))).mono ?_; rintro e w8 ⟨rfl, n8, rfl⟩))
            all_goals go_wp2
            have a1' : 0 ≤ d := Int.le_of_lt a1
            have a3' : 0 ≤ d' := Int.le_of_lt a3
            all_goals (go_ret; exact ⟨ret_int (by rw [hs.out, Int.max_eq_left a2, Int.max_eq_left a3', Int.max_eq_left a4, Int.max_eq_left a1']), by (repeat (first | exact Ex.refl _ | assumption | apply Ex.drew | apply Ex.drewN | apply Ex.alloc | (refine Ex.setCell ?_ (by simp; try omega) _) | (refine Ex.call ?_ (by assumption))))⟩)
    · simp only [Bool.not_eq_true] at g2
      go_enter Try.func17, Try.ntmps17
      go_wp2_with (first | (go_at_call 15; refine (RRight_any _ _ (by assumption) (by assumption) _).mono ?_; rintro e w1 ⟨rfl, hx1⟩; obtain ⟨hc1, hf1⟩ := hx1.facts2; have hz1 := hx1.size; (try simp only [World.size_alloc, World.size_drew, World.size_setCell, World.size_drewN, World.cell?_drew, World.frozen?_drew, World.cell?_drewN, World.frozen?_drewN] at hz1 hc1 hf1); (try (have hy10 : w.heap.size < w1.heap.size := by omega)); (try (have hy11 : w.heap.size + 1 < w1.heap.size := by omega)); (try (have hy12 : w.heap.size + 2 < w1.heap.size := by omega)); (try (have hy13 : w.heap.size + 3 < w1.heap.size := by omega))))
      go_ret
      exact ⟨ret_int (by simp [cmpT, g1, g2]), by (repeat (first | exact Ex.refl _ | assumption | apply Ex.drew | apply Ex.drewN | apply Ex.alloc | (refine Ex.setCell ?_ (by simp; try omega) _) | (refine Ex.call ?_ (by assumption))))⟩
  · simp only [Bool.not_eq_true] at g1
    go_enter Try.func17, Try.ntmps17
    go_wp2_with (first | (go_at_call 15; refine (RRight_any _ _ (by assumption) (by assumption) _).mono ?_; rintro e w1 ⟨rfl, hx1⟩; obtain ⟨hc1, hf1⟩ := hx1.facts2; have hz1 := hx1.size; (try simp only [World.size_alloc, World.size_drew, World.size_setCell, World.size_drewN, World.cell?_drew, World.frozen?_drew, World.cell?_drewN, World.frozen?_drewN] at hz1 hc1 hf1); (try (have hy10 : w.heap.size < w1.heap.size := by omega)); (try (have hy11 : w.heap.size + 1 < w1.heap.size := by omega)); (try (have hy12 : w.heap.size + 2 < w1.heap.size := by omega)); (try (have hy13 : w.heap.size + 3 < w1.heap.size := by omega))))
    go_ret
    exact ⟨ret_int (by simp [cmpT, g1]), by (repeat (first | exact Ex.refl _ | assumption | apply Ex.drew | apply Ex.drewN | apply Ex.alloc | (refine Ex.setCell ?_ (by simp; try omega) _) | (refine Ex.call ?_ (by assumption))))⟩
end Go.Proofs.Ytjheegdkngkhaaa
