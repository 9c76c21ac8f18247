/- Walk of the law SpanMakes: it returns true. Conditions: the numbers lie in an int's range. -/
import Derived.Test.YtjheegdkngkhaaaSpanW6
namespace Go.Proofs.Ytjheegdkngkhaaa
open Go.RowKit

/-- What is made is right. -/
theorem makeT_right {n d : Int} (h : (makeT n d).2.2 = 0) : rightB (makeT n d).1 (makeT n d).2.1 = true := by
  unfold makeT at h ⊢
  by_cases hd : d = 0
  · simp [hd] at h
  · rw [if_neg hd] at h ⊢
    by_cases hs : n ≠ 0 ∧ (decide (n < 0) != decide (d < 0)) = true
    · rw [if_pos hs] at h; simp at h
    · rw [if_neg hs] at h ⊢
      unfold madeR at h ⊢
      have hb : 0 < d.natAbs := by omega
      have hg := Nat.gcd_pos_of_pos_right n.natAbs hb
      split at h
      · simp at h
      · rename_i hc
        rw [if_neg hc]
        have h1 : Nat.gcd (n.natAbs / Nat.gcd n.natAbs d.natAbs) (d.natAbs / Nat.gcd n.natAbs d.natAbs) = 1 := by rw [Nat.gcd_div (Nat.gcd_dvd_left _ _) (Nat.gcd_dvd_right _ _), Nat.div_self hg]
        have h2 : 0 < d.natAbs / Nat.gcd n.natAbs d.natAbs := Nat.div_pos (Nat.gcd_le_right _ hb) hg
        generalize n.natAbs / Nat.gcd n.natAbs d.natAbs = x at *
        generalize d.natAbs / Nat.gcd n.natAbs d.natAbs = y at *
        simp only [rightB]
        rw [Int.gcd_natCast_natCast, h1]
        simp
        right
        exact h2
theorem makeT_i64 (n d : Int) : I64 (makeT n d).1 ∧ I64 (makeT n d).2.1 := by
  unfold makeT
  split
  · exact ⟨⟨by simp, by simp⟩, ⟨by simp, by simp⟩⟩
  · split
    · exact ⟨⟨by simp, by simp⟩, ⟨by simp, by simp⟩⟩
    · unfold madeR
      split
      · exact ⟨⟨by simp, by simp⟩, ⟨by simp, by simp⟩⟩
      · rename_i hc
        have h1 : n.natAbs / Nat.gcd n.natAbs d.natAbs ≤ 9223372036854775807 := le_maxI fun h => hc (.inl h)
        have h2 : d.natAbs / Nat.gcd n.natAbs d.natAbs ≤ 9223372036854775807 := le_maxI fun h => hc (.inr h)
        generalize n.natAbs / Nat.gcd n.natAbs d.natAbs = x at *
        generalize d.natAbs / Nat.gcd n.natAbs d.natAbs = y at *
        simp only [I64]
        omega
theorem teq_same (n d : Int) : teq n d n d = true := by simp [teq]

set_option maxHeartbeats 2000000 in
theorem makes_walk (n d : Int) (h1 : I64 n) (h2 : I64 d) (w : World) :
    Calls Try.prog 4 #[.int .i64 n, .int .i64 d] w fun e w' => e = .returned (.bool true) ∧ Ex w w' := by
  have he := eq_time
  have hs := teq_same
  have hM := Lib.hid (fun w => Make_any n d h1 h2 w)
  have hR := Lib.hid (fun w => rMake_any n d h1 h2 w)
  have hW := Lib.hid (fun w => Whole_any n h1 w)
  have hR1 := Lib.hid (fun w => rMake_any n 1 h1 ⟨by omega, by omega⟩ w)
  have hi := makeT_i64 n d
  have hr := @makeT_right n d
  generalize makeT n d = m at *
  generalize makeT n 1 = m1 at *
  obtain ⟨a, b, c⟩ := m
  obtain ⟨a1, b1, c1⟩ := m1
  simp only [tupT] at hM hR hW hR1 hi hr
  have hRt := Lib.hid (fun w => Right_any a b hi.1 hi.2 w)
  replace hr := Lib.hid hr
  clear hi
  have hfin : c = 0 ∧ (c != 0) = false ∨ (c != 0) = true := by
    by_cases hc : c = 0
    · exact .inl ⟨hc, by simp [hc]⟩
    · exact .inr (by simp [hc])
  have hg := Lib.hid hr
  rcases hfin with ⟨hc, hc'⟩ | hc'
  · have hr1 := hr.out hc
    replace hc := Lib.hid hc
    go_enter Try.func4, Try.ntmps4
    go_wp2_with (first
      | (go_at_call 18; refine (hM.out _).mono ?_; rintro e w1 ⟨rfl, hx1⟩; obtain ⟨hc1, hf1⟩ := hx1.facts2; have hz1 := hx1.size; (try simp only [World.size_drew] at hz1 hc1 hf1); (try simp only [World.size_drewN] at hz1 hc1 hf1); (try simp only [World.size_setCell] at hz1 hc1 hf1); (try simp only [World.size_alloc] at hz1 hc1 hf1); (try simp only [World.size_drew] at hz1 hc1 hf1); (try simp only [World.size_drewN] at hz1 hc1 hf1); (try simp only [World.size_setCell] at hz1 hc1 hf1); (try simp only [World.size_alloc] at hz1 hc1 hf1); (try simp only [World.cell?_drew] at hz1 hc1 hf1); (try simp only [World.frozen?_drew] at hz1 hc1 hf1); (try simp only [World.cell?_drewN] at hz1 hc1 hf1); (try simp only [World.frozen?_drewN] at hz1 hc1 hf1); (try (have hy10 : w.heap.size < w1.heap.size := by omega)); (try (have hy11 : w.heap.size + 1 < w1.heap.size := by omega)); (try (have hy12 : w.heap.size + 2 < w1.heap.size := by omega)); (try (have hy13 : w.heap.size + 3 < w1.heap.size := by omega)))
      | (go_at_call_of 19 (Value.int IntKind.i64 d); refine (hR.out _).mono ?_; rintro e w2 ⟨rfl, hx2⟩; obtain ⟨hc2, hf2⟩ := hx2.facts2; have hz2 := hx2.size; (try simp only [World.size_drew] at hz2 hc2 hf2); (try simp only [World.size_drewN] at hz2 hc2 hf2); (try simp only [World.size_setCell] at hz2 hc2 hf2); (try simp only [World.size_alloc] at hz2 hc2 hf2); (try simp only [World.size_drew] at hz2 hc2 hf2); (try simp only [World.size_drewN] at hz2 hc2 hf2); (try simp only [World.size_setCell] at hz2 hc2 hf2); (try simp only [World.size_alloc] at hz2 hc2 hf2); (try simp only [World.cell?_drew] at hz2 hc2 hf2); (try simp only [World.frozen?_drew] at hz2 hc2 hf2); (try simp only [World.cell?_drewN] at hz2 hc2 hf2); (try simp only [World.frozen?_drewN] at hz2 hc2 hf2); (try (have hy20 : w.heap.size < w2.heap.size := by omega)); (try (have hy21 : w.heap.size + 1 < w2.heap.size := by omega)); (try (have hy22 : w.heap.size + 2 < w2.heap.size := by omega)); (try (have hy23 : w.heap.size + 3 < w2.heap.size := by omega)); have hq2 : w1.heap.size < w2.heap.size := hx2.upA (Nat.le_refl _))
      | (go_at_call 20; refine (hW.out _).mono ?_; rintro e w3 ⟨rfl, hx3⟩; obtain ⟨hc3, hf3⟩ := hx3.facts2; have hz3 := hx3.size; (try simp only [World.size_drew] at hz3 hc3 hf3); (try simp only [World.size_drewN] at hz3 hc3 hf3); (try simp only [World.size_setCell] at hz3 hc3 hf3); (try simp only [World.size_alloc] at hz3 hc3 hf3); (try simp only [World.size_drew] at hz3 hc3 hf3); (try simp only [World.size_drewN] at hz3 hc3 hf3); (try simp only [World.size_setCell] at hz3 hc3 hf3); (try simp only [World.size_alloc] at hz3 hc3 hf3); (try simp only [World.cell?_drew] at hz3 hc3 hf3); (try simp only [World.frozen?_drew] at hz3 hc3 hf3); (try simp only [World.cell?_drewN] at hz3 hc3 hf3); (try simp only [World.frozen?_drewN] at hz3 hc3 hf3); (try (have hy30 : w.heap.size < w3.heap.size := by omega)); (try (have hy31 : w.heap.size + 1 < w3.heap.size := by omega)); (try (have hy32 : w.heap.size + 2 < w3.heap.size := by omega)); (try (have hy33 : w.heap.size + 3 < w3.heap.size := by omega)); have hq3 : w1.heap.size < w3.heap.size := hx3.upA (Nat.le_of_lt hq2); have hr3 : w2.heap.size < w3.heap.size := hx3.upA (Nat.le_refl _))
      | (go_at_call_of 19 (Value.int IntKind.i64 1); refine (hR1.out _).mono ?_; rintro e w4 ⟨rfl, hx4⟩; obtain ⟨hc4, hf4⟩ := hx4.facts2; have hz4 := hx4.size; (try simp only [World.size_drew] at hz4 hc4 hf4); (try simp only [World.size_drewN] at hz4 hc4 hf4); (try simp only [World.size_setCell] at hz4 hc4 hf4); (try simp only [World.size_alloc] at hz4 hc4 hf4); (try simp only [World.size_drew] at hz4 hc4 hf4); (try simp only [World.size_drewN] at hz4 hc4 hf4); (try simp only [World.size_setCell] at hz4 hc4 hf4); (try simp only [World.size_alloc] at hz4 hc4 hf4); (try simp only [World.cell?_drew] at hz4 hc4 hf4); (try simp only [World.frozen?_drew] at hz4 hc4 hf4); (try simp only [World.cell?_drewN] at hz4 hc4 hf4); (try simp only [World.frozen?_drewN] at hz4 hc4 hf4); (try (have hy40 : w.heap.size < w4.heap.size := by omega)); (try (have hy41 : w.heap.size + 1 < w4.heap.size := by omega)); (try (have hy42 : w.heap.size + 2 < w4.heap.size := by omega)); (try (have hy43 : w.heap.size + 3 < w4.heap.size := by omega)); have hq4 : w1.heap.size < w4.heap.size := hx4.upA (Nat.le_of_lt hq3); have hr4 : w2.heap.size < w4.heap.size := hx4.upA (Nat.le_of_lt hr3); have hs4 : w3.heap.size < w4.heap.size := hx4.upA (Nat.le_refl _))
      | (go_at_call 13; refine (awake_any _).mono ?_; rintro e w5 ⟨rfl, hx5⟩; obtain ⟨hc5, hf5⟩ := hx5.facts2; have hz5 := hx5.size; (try simp only [World.size_drew] at hz5 hc5 hf5); (try simp only [World.size_drewN] at hz5 hc5 hf5); (try simp only [World.size_setCell] at hz5 hc5 hf5); (try simp only [World.size_alloc] at hz5 hc5 hf5); (try simp only [World.size_drew] at hz5 hc5 hf5); (try simp only [World.size_drewN] at hz5 hc5 hf5); (try simp only [World.size_setCell] at hz5 hc5 hf5); (try simp only [World.size_alloc] at hz5 hc5 hf5); (try simp only [World.cell?_drew] at hz5 hc5 hf5); (try simp only [World.frozen?_drew] at hz5 hc5 hf5); (try simp only [World.cell?_drewN] at hz5 hc5 hf5); (try simp only [World.frozen?_drewN] at hz5 hc5 hf5); (try (have hy50 : w.heap.size < w5.heap.size := by omega)); (try (have hy51 : w.heap.size + 1 < w5.heap.size := by omega)); (try (have hy52 : w.heap.size + 2 < w5.heap.size := by omega)); (try (have hy53 : w.heap.size + 3 < w5.heap.size := by omega)); have hq5 : w1.heap.size < w5.heap.size := hx5.upA (Nat.le_of_lt hq4); have hr5 : w2.heap.size < w5.heap.size := hx5.upA (Nat.le_of_lt hr4); have hs5 : w3.heap.size < w5.heap.size := hx5.upA (Nat.le_of_lt hs4); have ht5 : w4.heap.size < w5.heap.size := hx5.upA (Nat.le_refl _))
      | (go_at_call 14; refine (hRt.out _).mono ?_; rintro e w6 ⟨rfl, hx6⟩))
    go_ret
    exact ⟨by first | rfl | (rw [hr1]), by (repeat (first | exact Ex.refl _ | assumption | apply Ex.drew | apply Ex.drewN | apply Ex.alloc | (refine Ex.setCell ?_ (by simp; try omega) _) | (refine Ex.call ?_ (by assumption))))⟩
  · go_enter Try.func4, Try.ntmps4
    go_wp2_with (first
      | (go_at_call 18; refine (hM.out _).mono ?_; rintro e w1 ⟨rfl, hx1⟩; obtain ⟨hc1, hf1⟩ := hx1.facts2; have hz1 := hx1.size; (try simp only [World.size_drew] at hz1 hc1 hf1); (try simp only [World.size_drewN] at hz1 hc1 hf1); (try simp only [World.size_setCell] at hz1 hc1 hf1); (try simp only [World.size_alloc] at hz1 hc1 hf1); (try simp only [World.size_drew] at hz1 hc1 hf1); (try simp only [World.size_drewN] at hz1 hc1 hf1); (try simp only [World.size_setCell] at hz1 hc1 hf1); (try simp only [World.size_alloc] at hz1 hc1 hf1); (try simp only [World.cell?_drew] at hz1 hc1 hf1); (try simp only [World.frozen?_drew] at hz1 hc1 hf1); (try simp only [World.cell?_drewN] at hz1 hc1 hf1); (try simp only [World.frozen?_drewN] at hz1 hc1 hf1); (try (have hy10 : w.heap.size < w1.heap.size := by omega)); (try (have hy11 : w.heap.size + 1 < w1.heap.size := by omega)); (try (have hy12 : w.heap.size + 2 < w1.heap.size := by omega)); (try (have hy13 : w.heap.size + 3 < w1.heap.size := by omega)))
      | (go_at_call_of 19 (Value.int IntKind.i64 d); refine (hR.out _).mono ?_; rintro e w2 ⟨rfl, hx2⟩; obtain ⟨hc2, hf2⟩ := hx2.facts2; have hz2 := hx2.size; (try simp only [World.size_drew] at hz2 hc2 hf2); (try simp only [World.size_drewN] at hz2 hc2 hf2); (try simp only [World.size_setCell] at hz2 hc2 hf2); (try simp only [World.size_alloc] at hz2 hc2 hf2); (try simp only [World.size_drew] at hz2 hc2 hf2); (try simp only [World.size_drewN] at hz2 hc2 hf2); (try simp only [World.size_setCell] at hz2 hc2 hf2); (try simp only [World.size_alloc] at hz2 hc2 hf2); (try simp only [World.cell?_drew] at hz2 hc2 hf2); (try simp only [World.frozen?_drew] at hz2 hc2 hf2); (try simp only [World.cell?_drewN] at hz2 hc2 hf2); (try simp only [World.frozen?_drewN] at hz2 hc2 hf2); (try (have hy20 : w.heap.size < w2.heap.size := by omega)); (try (have hy21 : w.heap.size + 1 < w2.heap.size := by omega)); (try (have hy22 : w.heap.size + 2 < w2.heap.size := by omega)); (try (have hy23 : w.heap.size + 3 < w2.heap.size := by omega)); have hq2 : w1.heap.size < w2.heap.size := hx2.upA (Nat.le_refl _))
      | (go_at_call 20; refine (hW.out _).mono ?_; rintro e w3 ⟨rfl, hx3⟩; obtain ⟨hc3, hf3⟩ := hx3.facts2; have hz3 := hx3.size; (try simp only [World.size_drew] at hz3 hc3 hf3); (try simp only [World.size_drewN] at hz3 hc3 hf3); (try simp only [World.size_setCell] at hz3 hc3 hf3); (try simp only [World.size_alloc] at hz3 hc3 hf3); (try simp only [World.size_drew] at hz3 hc3 hf3); (try simp only [World.size_drewN] at hz3 hc3 hf3); (try simp only [World.size_setCell] at hz3 hc3 hf3); (try simp only [World.size_alloc] at hz3 hc3 hf3); (try simp only [World.cell?_drew] at hz3 hc3 hf3); (try simp only [World.frozen?_drew] at hz3 hc3 hf3); (try simp only [World.cell?_drewN] at hz3 hc3 hf3); (try simp only [World.frozen?_drewN] at hz3 hc3 hf3); (try (have hy30 : w.heap.size < w3.heap.size := by omega)); (try (have hy31 : w.heap.size + 1 < w3.heap.size := by omega)); (try (have hy32 : w.heap.size + 2 < w3.heap.size := by omega)); (try (have hy33 : w.heap.size + 3 < w3.heap.size := by omega)); have hq3 : w1.heap.size < w3.heap.size := hx3.upA (Nat.le_of_lt hq2); have hr3 : w2.heap.size < w3.heap.size := hx3.upA (Nat.le_refl _))
      | (go_at_call_of 19 (Value.int IntKind.i64 1); refine (hR1.out _).mono ?_; rintro e w4 ⟨rfl, hx4⟩; obtain ⟨hc4, hf4⟩ := hx4.facts2; have hz4 := hx4.size; (try simp only [World.size_drew] at hz4 hc4 hf4); (try simp only [World.size_drewN] at hz4 hc4 hf4); (try simp only [World.size_setCell] at hz4 hc4 hf4); (try simp only [World.size_alloc] at hz4 hc4 hf4); (try simp only [World.size_drew] at hz4 hc4 hf4); (try simp only [World.size_drewN] at hz4 hc4 hf4); (try simp only [World.size_setCell] at hz4 hc4 hf4); (try simp only [World.size_alloc] at hz4 hc4 hf4); (try simp only [World.cell?_drew] at hz4 hc4 hf4); (try simp only [World.frozen?_drew] at hz4 hc4 hf4); (try simp only [World.cell?_drewN] at hz4 hc4 hf4); (try simp only [World.frozen?_drewN] at hz4 hc4 hf4); (try (have hy40 : w.heap.size < w4.heap.size := by omega)); (try (have hy41 : w.heap.size + 1 < w4.heap.size := by omega)); (try (have hy42 : w.heap.size + 2 < w4.heap.size := by omega)); (try (have hy43 : w.heap.size + 3 < w4.heap.size := by omega)); have hq4 : w1.heap.size < w4.heap.size := hx4.upA (Nat.le_of_lt hq3); have hr4 : w2.heap.size < w4.heap.size := hx4.upA (Nat.le_of_lt hr3); have hs4 : w3.heap.size < w4.heap.size := hx4.upA (Nat.le_refl _))
      | (go_at_call 13; refine (awake_any _).mono ?_; rintro e w5 ⟨rfl, hx5⟩; obtain ⟨hc5, hf5⟩ := hx5.facts2; have hz5 := hx5.size; (try simp only [World.size_drew] at hz5 hc5 hf5); (try simp only [World.size_drewN] at hz5 hc5 hf5); (try simp only [World.size_setCell] at hz5 hc5 hf5); (try simp only [World.size_alloc] at hz5 hc5 hf5); (try simp only [World.size_drew] at hz5 hc5 hf5); (try simp only [World.size_drewN] at hz5 hc5 hf5); (try simp only [World.size_setCell] at hz5 hc5 hf5); (try simp only [World.size_alloc] at hz5 hc5 hf5); (try simp only [World.cell?_drew] at hz5 hc5 hf5); (try simp only [World.frozen?_drew] at hz5 hc5 hf5); (try simp only [World.cell?_drewN] at hz5 hc5 hf5); (try simp only [World.frozen?_drewN] at hz5 hc5 hf5); (try (have hy50 : w.heap.size < w5.heap.size := by omega)); (try (have hy51 : w.heap.size + 1 < w5.heap.size := by omega)); (try (have hy52 : w.heap.size + 2 < w5.heap.size := by omega)); (try (have hy53 : w.heap.size + 3 < w5.heap.size := by omega)); have hq5 : w1.heap.size < w5.heap.size := hx5.upA (Nat.le_of_lt hq4); have hr5 : w2.heap.size < w5.heap.size := hx5.upA (Nat.le_of_lt hr4); have hs5 : w3.heap.size < w5.heap.size := hx5.upA (Nat.le_of_lt hs4); have ht5 : w4.heap.size < w5.heap.size := hx5.upA (Nat.le_refl _)))
    go_ret
    exact ⟨rfl, by (repeat (first | exact Ex.refl _ | assumption | apply Ex.drew | apply Ex.drewN | apply Ex.alloc | (refine Ex.setCell ?_ (by simp; try omega) _) | (refine Ex.call ?_ (by assumption))))⟩
end Go.Proofs.Ytjheegdkngkhaaa
