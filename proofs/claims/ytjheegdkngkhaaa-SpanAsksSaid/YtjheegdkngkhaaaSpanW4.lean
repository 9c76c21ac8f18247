/- Walk of span.Text; of span.Make and Whole; of awake. Conditions: numbers in their ranges. -/
import Derived.Test.YtjheegdkngkhaaaSpanW3
namespace Go.Proofs.Ytjheegdkngkhaaa
open Go.RowKit

/-- A time in decimal. -/
def textT (n d : Int) : List UInt8 :=
  if teq n d 1 0 then [110, 101, 118, 101, 114] else if rightB n d then (if d = 1 then dec n.toNat else dec n.toNat ++ 47 :: dec d.toNat) else []

theorem digitsI_any (x : Int) (h0 : 0 ≤ x) (h1 : x ≤ 9223372036854775807) (w : World) :
    Calls Try.prog 45 #[.int .i64 x] w fun e w' => (∃ s : ByteArray, e = .returned (.string s) ∧ s.data.toList = dec x.toNat ∧ s.size ≤ 19) ∧ Ex w w' := by
  obtain ⟨n, rfl⟩ := Int.eq_ofNat_of_zero_le h0
  refine (digits_any n (by omega) w).mono ?_
  rintro e w' ⟨⟨s, rfl, hs⟩, hx⟩
  refine ⟨⟨s, rfl, hs, ?_⟩, hx⟩
  rw [size_of_data, hs]
  exact dec_len (k := 18) (by omega)

set_option maxHeartbeats 1000000 in
theorem Text_any (n d : Int) (h1 : I64 n) (h2 : I64 d) (w : World) :
    Calls Try.prog 21 #[.agg #[.int .i64 n, .int .i64 d]] w fun e w' => (∃ s : ByteArray, e = .returned (.string s) ∧ s.data.toList = textT n d) ∧ Ex w w' := by
  by_cases g1 : teq n d 1 0 = true
  · go_enter Try.func21, Try.ntmps21
    go_wp2_with ((go_at_call 31; refine (never_any _ _ _).mono ?_; rintro e w1 ⟨rfl, hx1⟩; obtain ⟨hc1, hf1⟩ := hx1.facts2; have hz1 := hx1.size; (try simp only [World.size_alloc, World.size_drew, World.size_setCell, World.size_drewN, World.cell?_drew, World.frozen?_drew, World.cell?_drewN, World.frozen?_drewN] at hz1 hc1 hf1); (try (have hy10 : w.heap.size < w1.heap.size := by omega)); (try (have hy11 : w.heap.size + 1 < w1.heap.size := by omega)); (try (have hy12 : w.heap.size + 2 < w1.heap.size := by omega)); (try (have hy13 : w.heap.size + 3 < w1.heap.size := by omega))))
    go_ret
    exact ⟨⟨_, rfl, by simp [textT, g1]⟩, by (repeat (first | exact Ex.refl _ | assumption | apply Ex.drew | apply Ex.drewN | apply Ex.alloc | (refine Ex.setCell ?_ (by simp; try omega) _) | (refine Ex.call ?_ (by assumption))))⟩
  · simp only [Bool.not_eq_true] at g1
    by_cases g2 : rightB n d = true
    · have k1 : 0 < d ∧ 0 ≤ n := by have g := g2; simp [rightB, g1] at g; exact ⟨g.1.1, g.1.2⟩
      obtain ⟨a1, a2⟩ := k1
      have a3 := h1.2
      have a4 := h2.2
      by_cases g3 : d = 1
      · subst g3
        have ht : Hid (textT n 1 = dec n.toNat) := by show _ = _; simp [textT, g1, g2]
        go_enter Try.func21, Try.ntmps21
        go_wp2_with (first | (go_at_call 31; refine (never_any _ _ _).mono ?_; rintro e w1 ⟨rfl, hx1⟩; obtain ⟨hc1, hf1⟩ := hx1.facts2; have hz1 := hx1.size; (try simp only [World.size_alloc, World.size_drew, World.size_setCell, World.size_drewN, World.cell?_drew, World.frozen?_drew, World.cell?_drewN, World.frozen?_drewN] at hz1 hc1 hf1); (try (have hy10 : w.heap.size < w1.heap.size := by omega)); (try (have hy11 : w.heap.size + 1 < w1.heap.size := by omega)); (try (have hy12 : w.heap.size + 2 < w1.heap.size := by omega)); (try (have hy13 : w.heap.size + 3 < w1.heap.size := by omega))) | (go_at_call 14; refine (Right_any _ _ (by assumption) (by assumption) _).mono ?_; rintro e w1 ⟨rfl, hx1⟩; obtain ⟨hc1, hf1⟩ := hx1.facts2; have hz1 := hx1.size; (try simp only [World.size_alloc, World.size_drew, World.size_setCell, World.size_drewN, World.cell?_drew, World.frozen?_drew, World.cell?_drewN, World.frozen?_drewN] at hz1 hc1 hf1); (try (have hy10 : w.heap.size < w1.heap.size := by omega)); (try (have hy11 : w.heap.size + 1 < w1.heap.size := by omega)); (try (have hy12 : w.heap.size + 2 < w1.heap.size := by omega)); (try (have hy13 : w.heap.size + 3 < w1.heap.size := by omega))) | (go_at_call 45; refine (digitsI_any _ (by omega) (by omega) _).mono ?_; rintro e w2 ⟨⟨s, rfl, hs, hsz⟩, hx2⟩))
        go_ret
        exact ⟨⟨_, rfl, by rw [ht.out]; exact hs⟩, by (repeat (first | exact Ex.refl _ | assumption | apply Ex.drew | apply Ex.drewN | apply Ex.alloc | (refine Ex.setCell ?_ (by simp; try omega) _) | (refine Ex.call ?_ (by assumption))))⟩
      · have g3' : (d == 1) = false := by simp [g3]
        have ht : Hid (textT n d = dec n.toNat ++ 47 :: dec d.toNat) := by show _ = _; simp [textT, g1, g2, g3]
        go_enter Try.func21, Try.ntmps21
        go_wp2_with (first | (go_at_call 31; refine (never_any _ _ _).mono ?_; rintro e w1 ⟨rfl, hx1⟩; obtain ⟨hc1, hf1⟩ := hx1.facts2; have hz1 := hx1.size; (try simp only [World.size_alloc, World.size_drew, World.size_setCell, World.size_drewN, World.cell?_drew, World.frozen?_drew, World.cell?_drewN, World.frozen?_drewN] at hz1 hc1 hf1); (try (have hy10 : w.heap.size < w1.heap.size := by omega)); (try (have hy11 : w.heap.size + 1 < w1.heap.size := by omega)); (try (have hy12 : w.heap.size + 2 < w1.heap.size := by omega)); (try (have hy13 : w.heap.size + 3 < w1.heap.size := by omega))) | (go_at_call 14; refine (Right_any _ _ (by assumption) (by assumption) _).mono ?_; rintro e w1 ⟨rfl, hx1⟩; obtain ⟨hc1, hf1⟩ := hx1.facts2; have hz1 := hx1.size; (try simp only [World.size_alloc, World.size_drew, World.size_setCell, World.size_drewN, World.cell?_drew, World.frozen?_drew, World.cell?_drewN, World.frozen?_drewN] at hz1 hc1 hf1); (try (have hy10 : w.heap.size < w1.heap.size := by omega)); (try (have hy11 : w.heap.size + 1 < w1.heap.size := by omega)); (try (have hy12 : w.heap.size + 2 < w1.heap.size := by omega)); (try (have hy13 : w.heap.size + 3 < w1.heap.size := by omega))))
        go_region_held3 (fun w' => w'.cell? ⟨w.heap.size, 0, none⟩ = some (.int .i64 n) ∧ w'.cell? ⟨w.heap.size, 1, none⟩ = some (.int .i64 d)) (simp [go_sem, *])
          (first
            | (go_at_call_of 45 (Value.int IntKind.i64 n); refine (digitsI_any _ (by omega) (by omega) _).mono ?_; rintro e w2 ⟨⟨s, rfl, hs, hsz⟩, hx2⟩; obtain ⟨hc2, hf2⟩ := hx2.facts2; have hz2 := hx2.size; (try simp only [World.size_alloc, World.size_drew, World.size_setCell, World.size_drewN, World.cell?_drew, World.frozen?_drew, World.cell?_drewN, World.frozen?_drewN] at hz2 hc2 hf2); (try (have hy20 : w.heap.size < w2.heap.size := by omega)); (try (have hy21 : w.heap.size + 1 < w2.heap.size := by omega)); (try (have hy22 : w.heap.size + 2 < w2.heap.size := by omega)); (try (have hy23 : w.heap.size + 3 < w2.heap.size := by omega)); replace hs := Lib.hid hs; have hadd1 := run_add_short Try.prog s ⟨#[47]⟩ 20 (by simp [go_sem]; omega) (by decide))
            | (go_at_call_of 45 (Value.int IntKind.i64 d); refine (digitsI_any _ (by omega) (by omega) _).mono ?_; rintro e w3 ⟨⟨s', rfl, hs', hsz'⟩, hx3⟩; obtain ⟨hc3, hf3⟩ := hx3.facts2; have hz3 := hx3.size; (try simp only [World.size_alloc, World.size_drew, World.size_setCell, World.size_drewN, World.cell?_drew, World.frozen?_drew, World.cell?_drewN, World.frozen?_drewN] at hz3 hc3 hf3); (try (have hy30 : w.heap.size < w3.heap.size := by omega)); (try (have hy31 : w.heap.size + 1 < w3.heap.size := by omega)); (try (have hy32 : w.heap.size + 2 < w3.heap.size := by omega)); (try (have hy33 : w.heap.size + 3 < w3.heap.size := by omega)); replace hs' := Lib.hid hs'; have hadd2 := run_add_short Try.prog (s ++ ⟨#[47]⟩) s' 39 (by simp [go_sem]; omega) (by decide)))
        all_goals go_wp2
        all_goals (go_ret; refine ⟨⟨_, rfl, ?_⟩, by (repeat (first | exact Ex.refl _ | assumption | apply Ex.drew | apply Ex.drewN | apply Ex.alloc | (refine Ex.setCell ?_ (by simp; try omega) _) | (refine Ex.call ?_ (by assumption))))⟩; rw [ht.out])
        all_goals simp [ByteArray.data_append, hs.out, hs'.out]
    · simp only [Bool.not_eq_true] at g2
      go_enter Try.func21, Try.ntmps21
      go_wp2_with (first | (go_at_call 31; refine (never_any _ _ _).mono ?_; rintro e w1 ⟨rfl, hx1⟩; obtain ⟨hc1, hf1⟩ := hx1.facts2; have hz1 := hx1.size; (try simp only [World.size_alloc, World.size_drew, World.size_setCell, World.size_drewN, World.cell?_drew, World.frozen?_drew, World.cell?_drewN, World.frozen?_drewN] at hz1 hc1 hf1); (try (have hy10 : w.heap.size < w1.heap.size := by omega)); (try (have hy11 : w.heap.size + 1 < w1.heap.size := by omega)); (try (have hy12 : w.heap.size + 2 < w1.heap.size := by omega)); (try (have hy13 : w.heap.size + 3 < w1.heap.size := by omega))) | (go_at_call 14; refine (Right_any _ _ (by assumption) (by assumption) _).mono ?_; rintro e w1 ⟨rfl, hx1⟩; obtain ⟨hc1, hf1⟩ := hx1.facts2; have hz1 := hx1.size; (try simp only [World.size_alloc, World.size_drew, World.size_setCell, World.size_drewN, World.cell?_drew, World.frozen?_drew, World.cell?_drewN, World.frozen?_drewN] at hz1 hc1 hf1); (try (have hy10 : w.heap.size < w1.heap.size := by omega)); (try (have hy11 : w.heap.size + 1 < w1.heap.size := by omega)); (try (have hy12 : w.heap.size + 2 < w1.heap.size := by omega)); (try (have hy13 : w.heap.size + 3 < w1.heap.size := by omega))))
      go_ret
      exact ⟨⟨_, rfl, by simp [textT, g1, g2]⟩, by (repeat (first | exact Ex.refl _ | assumption | apply Ex.drew | apply Ex.drewN | apply Ex.alloc | (refine Ex.setCell ?_ (by simp; try omega) _) | (refine Ex.call ?_ (by assumption))))⟩
end Go.Proofs.Ytjheegdkngkhaaa
