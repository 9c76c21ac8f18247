/- Walk of the law SpanTexts: it returns true. Conditions: the numbers lie in an int's range. -/
import Derived.Test.YtjheegdkngkhaaaSpanW6
import Derived.Test.YtjheegdkngkhaaaTextW2
import Derived.Test.YtjheegdkngkhaaaTextW3
import Derived.Test.YtjheegdkngkhaaaNumW6
namespace Go.Proofs.Ytjheegdkngkhaaa
open Go.RowKit

theorem textT_len {n d : Int} (h1 : I64 n) (h2 : I64 d) : (textT n d).length ≤ 40 := by
  have a : ∀ x : Int, I64 x → (dec x.toNat).length ≤ 19 := fun x hx => dec_len (k := 18) (by have := hx.2; omega)
  have := a n h1; have := a d h2
  unfold textT
  split
  · simp
  · split
    · split
      · omega
      · simp; omega
    · simp
theorem textT_ne {n d : Int} (h : rightB n d = true) : textT n d ≠ [] := by
  by_cases ht : teq n d 1 0 = true
  · simp [textT, ht]
  · by_cases hd : d = 1
    · rw [textT, if_neg ht, if_pos h, if_pos hd]; exact dec_ne _
    · rw [textT, if_neg ht, if_pos h, if_neg hd]; simp
theorem textT_nil {n d : Int} (h : rightB n d = false) : textT n d = [] := by
  have ht : ¬ (teq n d 1 0 = true) := fun ht => by
    simp [teq] at ht
    obtain ⟨rfl, rfl⟩ := ht
    revert h; decide
  rw [textT, if_neg ht, if_neg (by simp [h])]
theorem readIs_text {n d : Int} (h1 : I64 n) (h2 : I64 d) {x : Int × Int × Int} (hx : ReadIs (textT n d) x) : x = if rightB n d then (n, d, 0) else (0, 0, 6) := by
  by_cases hr : rightB n d = true
  · rw [if_pos hr]
    exact hx.unique (.inl ⟨rfl, h1, h2, hr, rfl⟩)
  · rw [if_neg hr]
    refine hx.unique (.inr ⟨rfl, fun n' d' _ _ h h' => ?_⟩)
    rw [textT_nil (n := n) (d := d) (by cases hb : rightB n d <;> simp_all)] at h'
    exact textT_ne h h'
theorem teq_refl (n d : Int) : teq n d n d = true := by simp [teq]
theorem bytes_eq {s t : ByteArray} (h : s.data.toList = t.data.toList) : s = t := by
  cases s; cases t; congr 1; exact Array.ext' h

theorem Text_nil {n d : Int} (h1 : I64 n) (h2 : I64 d) (hr : rightB n d = false) (w : World) :
    Calls Try.prog 21 #[.agg #[.int .i64 n, .int .i64 d]] w fun e w' => e = .returned (.string ⟨#[]⟩) ∧ Ex w w' := by
  refine (Text_any n d h1 h2 w).mono ?_
  rintro e w1 ⟨⟨s, rfl, hs1⟩, hx1⟩
  rw [textT_nil hr] at hs1
  rw [show s = ⟨#[]⟩ from bytes_eq hs1]
  exact ⟨rfl, hx1⟩
theorem readIs_nil {x : Int × Int × Int} (hx : ReadIs [] x) : x = (0, 0, 6) :=
  hx.unique (.inr ⟨rfl, fun _ _ _ _ h h' => textT_ne h h'⟩)
theorem Read_nil (w : World) :
    Calls Try.prog 22 #[.string ⟨#[]⟩] w fun e w' => e = .returned (.tuple #[.agg #[.int .i64 0, .int .i64 0], .int .i64 6]) ∧ Ex w w' := by
  refine (Read_any ⟨#[]⟩ (by simp [ByteArray.size]) w).mono ?_
  rintro e w1 ⟨⟨x, rfl, hs1⟩, hx1⟩
  rw [readIs_nil hs1]
  exact ⟨rfl, hx1⟩

set_option maxHeartbeats 1000000 in
theorem texts_walk (n d : Int) (h1 : I64 n) (h2 : I64 d) (w : World) :
    Calls Try.prog 5 #[.agg #[.int .i64 n, .int .i64 d]] w fun e w' => e = .returned (.bool true) ∧ Ex w w' := by
  have he := eq_time
  have hs := teq_refl n d
  by_cases hr : rightB n d = true
  · go_enter Try.func5, Try.ntmps5
    go_wp2_with (first
      | (go_at_call 21; refine (Text_any n d h1 h2 _).mono ?_; rintro e w1 ⟨⟨s, rfl, hs1⟩, hx1⟩; obtain ⟨hc1, hf1⟩ := hx1.facts2; have hz1 := hx1.size; (try simp only [World.size_drew] at hz1 hc1 hf1); (try simp only [World.size_drewN] at hz1 hc1 hf1); (try simp only [World.size_setCell] at hz1 hc1 hf1); (try simp only [World.size_alloc] at hz1 hc1 hf1); (try simp only [World.size_drew] at hz1 hc1 hf1); (try simp only [World.size_drewN] at hz1 hc1 hf1); (try simp only [World.size_setCell] at hz1 hc1 hf1); (try simp only [World.size_alloc] at hz1 hc1 hf1); (try simp only [World.cell?_drew] at hz1 hc1 hf1); (try simp only [World.frozen?_drew] at hz1 hc1 hf1); (try simp only [World.cell?_drewN] at hz1 hc1 hf1); (try simp only [World.frozen?_drewN] at hz1 hc1 hf1); (try (have hy10 : w.heap.size < w1.heap.size := by omega)); (try (have hy11 : w.heap.size + 1 < w1.heap.size := by omega)); (try (have hy12 : w.heap.size + 2 < w1.heap.size := by omega)); (try (have hy13 : w.heap.size + 3 < w1.heap.size := by omega)))
      | (go_at_call 22; refine (Read_any s (by rw [size_of_data, hs1]; exact Nat.le_trans (textT_len h1 h2) (by decide)) _).mono ?_; rintro e w2 ⟨⟨x, rfl, hs2⟩, hx2⟩; rw [hs1] at hs2; rw [readIs_text h1 h2 hs2, if_pos hr, tupT]; obtain ⟨hc2, hf2⟩ := hx2.facts2; have hz2 := hx2.size; (try simp only [World.size_drew] at hz2 hc2 hf2); (try simp only [World.size_drewN] at hz2 hc2 hf2); (try simp only [World.size_setCell] at hz2 hc2 hf2); (try simp only [World.size_alloc] at hz2 hc2 hf2); (try simp only [World.size_drew] at hz2 hc2 hf2); (try simp only [World.size_drewN] at hz2 hc2 hf2); (try simp only [World.size_setCell] at hz2 hc2 hf2); (try simp only [World.size_alloc] at hz2 hc2 hf2); (try simp only [World.cell?_drew] at hz2 hc2 hf2); (try simp only [World.frozen?_drew] at hz2 hc2 hf2); (try simp only [World.cell?_drewN] at hz2 hc2 hf2); (try simp only [World.frozen?_drewN] at hz2 hc2 hf2); (try (have hy20 : w.heap.size < w2.heap.size := by omega)); (try (have hy21 : w.heap.size + 1 < w2.heap.size := by omega)); (try (have hy22 : w.heap.size + 2 < w2.heap.size := by omega)); (try (have hy23 : w.heap.size + 3 < w2.heap.size := by omega)))
      | (go_at_call 15; refine (RRight_any n d h1 h2 _).mono ?_; rintro e w3 ⟨rfl, hx3⟩; rw [hr]; obtain ⟨hc3, hf3⟩ := hx3.facts2; have hz3 := hx3.size; (try simp only [World.size_drew] at hz3 hc3 hf3); (try simp only [World.size_drewN] at hz3 hc3 hf3); (try simp only [World.size_setCell] at hz3 hc3 hf3); (try simp only [World.size_alloc] at hz3 hc3 hf3); (try simp only [World.size_drew] at hz3 hc3 hf3); (try simp only [World.size_drewN] at hz3 hc3 hf3); (try simp only [World.size_setCell] at hz3 hc3 hf3); (try simp only [World.size_alloc] at hz3 hc3 hf3); (try simp only [World.cell?_drew] at hz3 hc3 hf3); (try simp only [World.frozen?_drew] at hz3 hc3 hf3); (try simp only [World.cell?_drewN] at hz3 hc3 hf3); (try simp only [World.frozen?_drewN] at hz3 hc3 hf3); (try (have hy30 : w.heap.size < w3.heap.size := by omega)); (try (have hy31 : w.heap.size + 1 < w3.heap.size := by omega)); (try (have hy32 : w.heap.size + 2 < w3.heap.size := by omega)); (try (have hy33 : w.heap.size + 3 < w3.heap.size := by omega)); have hq3 : w2.heap.size < w3.heap.size := hx3.upA (Nat.le_refl _))
      | (go_at_call 13; refine (awake_any _).mono ?_; rintro e w4 ⟨rfl, hx4⟩; obtain ⟨hc4, hf4⟩ := hx4.facts2; have hz4 := hx4.size; (try simp only [World.size_drew] at hz4 hc4 hf4); (try simp only [World.size_drewN] at hz4 hc4 hf4); (try simp only [World.size_setCell] at hz4 hc4 hf4); (try simp only [World.size_alloc] at hz4 hc4 hf4); (try simp only [World.size_drew] at hz4 hc4 hf4); (try simp only [World.size_drewN] at hz4 hc4 hf4); (try simp only [World.size_setCell] at hz4 hc4 hf4); (try simp only [World.size_alloc] at hz4 hc4 hf4); (try simp only [World.cell?_drew] at hz4 hc4 hf4); (try simp only [World.frozen?_drew] at hz4 hc4 hf4); (try simp only [World.cell?_drewN] at hz4 hc4 hf4); (try simp only [World.frozen?_drewN] at hz4 hc4 hf4); (try (have hy40 : w.heap.size < w4.heap.size := by omega)); (try (have hy41 : w.heap.size + 1 < w4.heap.size := by omega)); (try (have hy42 : w.heap.size + 2 < w4.heap.size := by omega)); (try (have hy43 : w.heap.size + 3 < w4.heap.size := by omega)); have hq4 : w2.heap.size < w4.heap.size := hx4.up hq3)
      | (go_at_call 23; refine (RText_any n d h1 h2 _).mono ?_; rintro e w5 ⟨⟨s', rfl, hs5⟩, hx5⟩; obtain rfl : s' = s := bytes_eq (hs5.trans hs1.symm); obtain ⟨hc5, hf5⟩ := hx5.facts2; have hz5 := hx5.size; (try simp only [World.size_drew] at hz5 hc5 hf5); (try simp only [World.size_drewN] at hz5 hc5 hf5); (try simp only [World.size_setCell] at hz5 hc5 hf5); (try simp only [World.size_alloc] at hz5 hc5 hf5); (try simp only [World.size_drew] at hz5 hc5 hf5); (try simp only [World.size_drewN] at hz5 hc5 hf5); (try simp only [World.size_setCell] at hz5 hc5 hf5); (try simp only [World.size_alloc] at hz5 hc5 hf5); (try simp only [World.cell?_drew] at hz5 hc5 hf5); (try simp only [World.frozen?_drew] at hz5 hc5 hf5); (try simp only [World.cell?_drewN] at hz5 hc5 hf5); (try simp only [World.frozen?_drewN] at hz5 hc5 hf5); (try (have hy50 : w.heap.size < w5.heap.size := by omega)); (try (have hy51 : w.heap.size + 1 < w5.heap.size := by omega)); (try (have hy52 : w.heap.size + 2 < w5.heap.size := by omega)); (try (have hy53 : w.heap.size + 3 < w5.heap.size := by omega)); have hq5 : w2.heap.size < w5.heap.size := hx5.up hq4))
    go_ret
    exact ⟨rfl, by (repeat (first | exact Ex.refl _ | assumption | apply Ex.drew | apply Ex.drewN | apply Ex.alloc | (refine Ex.setCell ?_ (by simp; try omega) _) | (refine Ex.call ?_ (by assumption))))⟩
  · simp only [Bool.not_eq_true] at hr
    go_enter Try.func5, Try.ntmps5
    go_wp2_with (first
      | (go_at_call 21; refine (Text_nil h1 h2 hr _).mono ?_; rintro e w1 ⟨rfl, hx1⟩; obtain ⟨hc1, hf1⟩ := hx1.facts2; have hz1 := hx1.size; (try simp only [World.size_drew] at hz1 hc1 hf1); (try simp only [World.size_drewN] at hz1 hc1 hf1); (try simp only [World.size_setCell] at hz1 hc1 hf1); (try simp only [World.size_alloc] at hz1 hc1 hf1); (try simp only [World.size_drew] at hz1 hc1 hf1); (try simp only [World.size_drewN] at hz1 hc1 hf1); (try simp only [World.size_setCell] at hz1 hc1 hf1); (try simp only [World.size_alloc] at hz1 hc1 hf1); (try simp only [World.cell?_drew] at hz1 hc1 hf1); (try simp only [World.frozen?_drew] at hz1 hc1 hf1); (try simp only [World.cell?_drewN] at hz1 hc1 hf1); (try simp only [World.frozen?_drewN] at hz1 hc1 hf1); (try (have hy10 : w.heap.size < w1.heap.size := by omega)); (try (have hy11 : w.heap.size + 1 < w1.heap.size := by omega)); (try (have hy12 : w.heap.size + 2 < w1.heap.size := by omega)); (try (have hy13 : w.heap.size + 3 < w1.heap.size := by omega)))
      | (go_at_call 22; refine (Read_nil _).mono ?_; rintro e w2 ⟨rfl, hx2⟩; obtain ⟨hc2, hf2⟩ := hx2.facts2; have hz2 := hx2.size; (try simp only [World.size_drew] at hz2 hc2 hf2); (try simp only [World.size_drewN] at hz2 hc2 hf2); (try simp only [World.size_setCell] at hz2 hc2 hf2); (try simp only [World.size_alloc] at hz2 hc2 hf2); (try simp only [World.size_drew] at hz2 hc2 hf2); (try simp only [World.size_drewN] at hz2 hc2 hf2); (try simp only [World.size_setCell] at hz2 hc2 hf2); (try simp only [World.size_alloc] at hz2 hc2 hf2); (try simp only [World.cell?_drew] at hz2 hc2 hf2); (try simp only [World.frozen?_drew] at hz2 hc2 hf2); (try simp only [World.cell?_drewN] at hz2 hc2 hf2); (try simp only [World.frozen?_drewN] at hz2 hc2 hf2); (try (have hy20 : w.heap.size < w2.heap.size := by omega)); (try (have hy21 : w.heap.size + 1 < w2.heap.size := by omega)); (try (have hy22 : w.heap.size + 2 < w2.heap.size := by omega)); (try (have hy23 : w.heap.size + 3 < w2.heap.size := by omega)))
      | (go_at_call 15; refine (RRight_any n d h1 h2 _).mono ?_; rintro e w3 ⟨rfl, hx3⟩; rw [hr]; obtain ⟨hc3, hf3⟩ := hx3.facts2; have hz3 := hx3.size; (try simp only [World.size_drew] at hz3 hc3 hf3); (try simp only [World.size_drewN] at hz3 hc3 hf3); (try simp only [World.size_setCell] at hz3 hc3 hf3); (try simp only [World.size_alloc] at hz3 hc3 hf3); (try simp only [World.size_drew] at hz3 hc3 hf3); (try simp only [World.size_drewN] at hz3 hc3 hf3); (try simp only [World.size_setCell] at hz3 hc3 hf3); (try simp only [World.size_alloc] at hz3 hc3 hf3); (try simp only [World.cell?_drew] at hz3 hc3 hf3); (try simp only [World.frozen?_drew] at hz3 hc3 hf3); (try simp only [World.cell?_drewN] at hz3 hc3 hf3); (try simp only [World.frozen?_drewN] at hz3 hc3 hf3); (try (have hy30 : w.heap.size < w3.heap.size := by omega)); (try (have hy31 : w.heap.size + 1 < w3.heap.size := by omega)); (try (have hy32 : w.heap.size + 2 < w3.heap.size := by omega)); (try (have hy33 : w.heap.size + 3 < w3.heap.size := by omega)); have hq3 : w2.heap.size < w3.heap.size := hx3.upA (Nat.le_refl _))
      | (go_at_call 13; refine (awake_any _).mono ?_; rintro e w4 ⟨rfl, hx4⟩; obtain ⟨hc4, hf4⟩ := hx4.facts2; have hz4 := hx4.size; (try simp only [World.size_drew] at hz4 hc4 hf4); (try simp only [World.size_drewN] at hz4 hc4 hf4); (try simp only [World.size_setCell] at hz4 hc4 hf4); (try simp only [World.size_alloc] at hz4 hc4 hf4); (try simp only [World.size_drew] at hz4 hc4 hf4); (try simp only [World.size_drewN] at hz4 hc4 hf4); (try simp only [World.size_setCell] at hz4 hc4 hf4); (try simp only [World.size_alloc] at hz4 hc4 hf4); (try simp only [World.cell?_drew] at hz4 hc4 hf4); (try simp only [World.frozen?_drew] at hz4 hc4 hf4); (try simp only [World.cell?_drewN] at hz4 hc4 hf4); (try simp only [World.frozen?_drewN] at hz4 hc4 hf4); (try (have hy40 : w.heap.size < w4.heap.size := by omega)); (try (have hy41 : w.heap.size + 1 < w4.heap.size := by omega)); (try (have hy42 : w.heap.size + 2 < w4.heap.size := by omega)); (try (have hy43 : w.heap.size + 3 < w4.heap.size := by omega)); have hq4 : w2.heap.size < w4.heap.size := hx4.up hq3))
    go_ret
    exact ⟨rfl, by (repeat (first | exact Ex.refl _ | assumption | apply Ex.drew | apply Ex.drewN | apply Ex.alloc | (refine Ex.setCell ?_ (by simp; try omega) _) | (refine Ex.call ?_ (by assumption))))⟩
end Go.Proofs.Ytjheegdkngkhaaa
