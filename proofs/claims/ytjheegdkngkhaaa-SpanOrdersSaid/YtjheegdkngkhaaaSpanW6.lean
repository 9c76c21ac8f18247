/- Walks of span.Make and Whole, and of the reference's Make. Conditions: numbers in their ranges. -/
import Derived.Test.YtjheegdkngkhaaaSpanW5
import Derived.Test.YtjheegdkngkhaaaNumW8
set_option linter.unusedVariables false
set_option linter.unusedSimpArgs false
set_option linter.unusedSectionVars false
namespace Go.Proofs.Ytjheegdkngkhaaa
open Go.RowKit

theorem Whole_any (n : Int) (h1 : I64 n) (w : World) :
    Calls Try.prog 20 #[.int .i64 n] w fun e w' => e = .returned (tupT (makeT n 1)) ∧ Ex w w' := by
  have hM := Lib.hid (fun w => Make_any n 1 h1 ⟨by omega, by omega⟩ w)
  generalize makeT n 1 = m at *
  go_enter Try.func20, Try.ntmps20
  go_wp2_with (first | (go_at_call 18; refine (hM.out _).mono ?_; rintro e w1 ⟨rfl, hx1⟩; unfold tupT; obtain ⟨hc1, hf1⟩ := hx1.facts2; have hz1 := hx1.size; (try simp only [World.size_drew] at hz1 hc1 hf1); (try simp only [World.size_drewN] at hz1 hc1 hf1); (try simp only [World.size_setCell] at hz1 hc1 hf1); (try simp only [World.size_alloc] at hz1 hc1 hf1); (try simp only [World.size_drew] at hz1 hc1 hf1); (try simp only [World.size_drewN] at hz1 hc1 hf1); (try simp only [World.size_setCell] at hz1 hc1 hf1); (try simp only [World.size_alloc] at hz1 hc1 hf1); (try simp only [World.cell?_drew] at hz1 hc1 hf1); (try simp only [World.frozen?_drew] at hz1 hc1 hf1); (try simp only [World.cell?_drewN] at hz1 hc1 hf1); (try simp only [World.frozen?_drewN] at hz1 hc1 hf1); (try (have hy10 : w.heap.size < w1.heap.size := by omega)); (try (have hy11 : w.heap.size + 1 < w1.heap.size := by omega)); (try (have hy12 : w.heap.size + 2 < w1.heap.size := by omega)); (try (have hy13 : w.heap.size + 3 < w1.heap.size := by omega))))
  refine bodyPost_ret (v := tupT m) ?_ rfl ⟨rfl, by (repeat (first | exact Ex.refl _ | assumption | apply Ex.drew | apply Ex.drewN | apply Ex.alloc | (refine Ex.setCell ?_ (by simp; try omega) _) | (refine Ex.call ?_ (by assumption))))⟩
  simp [results, Try.results20, go_sem, tupT, *]

/-! The reference's. -/
theorem dgN_len {n : Nat} (h : n ≤ 9223372036854775808) : (dg n).length ≤ 5 := dg_len (by omega)
set_option maxHeartbeats 1000000 in
theorem rMake_any (n d : Int) (h1 : I64 n) (h2 : I64 d) (w : World) :
    Calls Try.prog 19 #[.int .i64 n, .int .i64 d] w fun e w' => e = .returned (tupT (makeT n d)) ∧ Ex w w' := by
  have hP := Lib.hid (fun n w h => rplain_any n w h)
  by_cases hd : d = 0
  · subst hd
    have hm : Hid (makeT n 0 = (0, 0, 3)) := by show _ = _; simp [makeT]
    go_enter Try.func19, Try.ntmps19
    go_wp2
    refine bodyPost_ret (v := tupT (makeT n 0)) ?_ rfl ⟨rfl, by (repeat (first | exact Ex.refl _ | assumption | apply Ex.drew | apply Ex.drewN | apply Ex.alloc | (refine Ex.setCell ?_ (by simp; try omega) _) | (refine Ex.call ?_ (by assumption))))⟩
    rw [hm.out]; simp [results, Try.results19, go_sem, tupT]
  · have hd0 : (d == 0) = false := by simp [hd]
    by_cases hs : n ≠ 0 ∧ ((decide (n < 0)) != (decide (d < 0))) = true
    · have hm : Hid (makeT n d = (0, 0, 4)) := by show _ = _; rw [makeT, if_neg hd, if_pos hs]
      obtain ⟨hs1, hs2⟩ := hs
      have hs3 : (n < 0 ∧ 0 < d) ∨ (0 < n ∧ d < 0) := by by_cases h1 : n < 0 <;> by_cases h2 : d < 0 <;> simp [h1, h2] at hs2 <;> omega
      clear hs2
      rcases hs3 with ⟨h3, h4⟩ | ⟨h3, h4⟩ <;>
      (go_enter Try.func19, Try.ntmps19
       go_wp2
       refine bodyPost_ret (v := tupT (makeT n d)) ?_ rfl ⟨rfl, by (repeat (first | exact Ex.refl _ | assumption | apply Ex.drew | apply Ex.drewN | apply Ex.alloc | (refine Ex.setCell ?_ (by simp; try omega) _) | (refine Ex.call ?_ (by assumption))))⟩
       rw [hm.out]; simp [results, Try.results19, go_sem, tupT])
    · have hm : makeT n d = madeR n.natAbs d.natAbs := by rw [makeT, if_neg hd, if_neg hs]
      rw [hm]
      have hs3 : (n < 0 ∧ d < 0) ∨ ((n ≤ 0 ∧ 0 ≤ n) ∧ d < 0) ∨ ((n ≤ 0 ∧ 0 ≤ n) ∧ 0 < d) ∨ (0 < n ∧ 0 < d) := by
        by_cases h1 : n < 0 <;> by_cases h2 : d < 0 <;> simp [h1, h2] at hs <;> omega
      have hl1 := dgN_len (n := n.natAbs) (by have := h1.1; have := h1.2; omega)
      have hl2 := dgN_len (n := d.natAbs) (by have := h2.1; have := h2.2; omega)
      have hdp : 0 < d.natAbs := by omega
      clear hs hm
      have hA := fun w => hP.out n w h1
      have hB := fun w => hP.out d w h2
      generalize n.natAbs = a at *
      generalize d.natAbs = b at *
      replace hA := Lib.hid hA
      replace hB := Lib.hid hB
      have hM := Lib.hid (fun (w : World) (v u : Value) (hv : IsN w v a) (hu : IsN w u b) => made_any hv hu hdp (by omega) (by omega))
      generalize madeR a b = m at *
      rcases hs3 with ⟨h3, h4⟩ | ⟨⟨h3, h5⟩, h4⟩ | ⟨⟨h3, h5⟩, h4⟩ | ⟨h3, h4⟩ <;>
      (go_enter Try.func19, Try.ntmps19
       go_wp2_with fail
       refine (hA.out _).mono ?_
       rintro e w1 ⟨⟨v1, rfl, hv1⟩, hx1⟩
       obtain ⟨hc1, hf1⟩ := hx1.facts2; have hz1 := hx1.size; (try simp only [World.size_drew] at hz1 hc1 hf1); (try simp only [World.size_drewN] at hz1 hc1 hf1); (try simp only [World.size_setCell] at hz1 hc1 hf1); (try simp only [World.size_alloc] at hz1 hc1 hf1); (try simp only [World.size_drew] at hz1 hc1 hf1); (try simp only [World.size_drewN] at hz1 hc1 hf1); (try simp only [World.size_setCell] at hz1 hc1 hf1); (try simp only [World.size_alloc] at hz1 hc1 hf1); (try simp only [World.cell?_drew] at hz1 hc1 hf1); (try simp only [World.frozen?_drew] at hz1 hc1 hf1); (try simp only [World.cell?_drewN] at hz1 hc1 hf1); (try simp only [World.frozen?_drewN] at hz1 hc1 hf1); (try (have hy10 : w.heap.size < w1.heap.size := by omega)); (try (have hy11 : w.heap.size + 1 < w1.heap.size := by omega)); (try (have hy12 : w.heap.size + 2 < w1.heap.size := by omega)); (try (have hy13 : w.heap.size + 3 < w1.heap.size := by omega))
       go_wp2_with fail
       refine (hB.out _).mono ?_
       rintro e w2 ⟨⟨v2, rfl, hv2⟩, hx2⟩
       obtain ⟨hc2, hf2⟩ := hx2.facts2; have hz2 := hx2.size; (try simp only [World.size_drew] at hz2 hc2 hf2); (try simp only [World.size_drewN] at hz2 hc2 hf2); (try simp only [World.size_setCell] at hz2 hc2 hf2); (try simp only [World.size_alloc] at hz2 hc2 hf2); (try simp only [World.size_drew] at hz2 hc2 hf2); (try simp only [World.size_drewN] at hz2 hc2 hf2); (try simp only [World.size_setCell] at hz2 hc2 hf2); (try simp only [World.size_alloc] at hz2 hc2 hf2); (try simp only [World.cell?_drew] at hz2 hc2 hf2); (try simp only [World.frozen?_drew] at hz2 hc2 hf2); (try simp only [World.cell?_drewN] at hz2 hc2 hf2); (try simp only [World.frozen?_drewN] at hz2 hc2 hf2); (try (have hy20 : w.heap.size < w2.heap.size := by omega)); (try (have hy21 : w.heap.size + 1 < w2.heap.size := by omega)); (try (have hy22 : w.heap.size + 2 < w2.heap.size := by omega)); (try (have hy23 : w.heap.size + 3 < w2.heap.size := by omega))
       go_wp2_with fail
       refine (hM.out _ _ _ (hv1.mono hx2) hv2).mono ?_
       rintro e w3 ⟨rfl, hx3⟩
       obtain ⟨hc3, hf3⟩ := hx3.facts2; have hz3 := hx3.size; (try simp only [World.size_drew] at hz3 hc3 hf3); (try simp only [World.size_drewN] at hz3 hc3 hf3); (try simp only [World.size_setCell] at hz3 hc3 hf3); (try simp only [World.size_alloc] at hz3 hc3 hf3); (try simp only [World.size_drew] at hz3 hc3 hf3); (try simp only [World.size_drewN] at hz3 hc3 hf3); (try simp only [World.size_setCell] at hz3 hc3 hf3); (try simp only [World.size_alloc] at hz3 hc3 hf3); (try simp only [World.cell?_drew] at hz3 hc3 hf3); (try simp only [World.frozen?_drew] at hz3 hc3 hf3); (try simp only [World.cell?_drewN] at hz3 hc3 hf3); (try simp only [World.frozen?_drewN] at hz3 hc3 hf3); (try (have hy30 : w.heap.size < w3.heap.size := by omega)); (try (have hy31 : w.heap.size + 1 < w3.heap.size := by omega)); (try (have hy32 : w.heap.size + 2 < w3.heap.size := by omega)); (try (have hy33 : w.heap.size + 3 < w3.heap.size := by omega))
       go_wp2_with fail
       refine bodyPost_ret (v := tupT m) ?_ rfl ⟨rfl, by (repeat (first | exact Ex.refl _ | assumption | apply Ex.drew | apply Ex.drewN | apply Ex.alloc | (refine Ex.setCell ?_ (by simp; try omega) _) | (refine Ex.call ?_ (by assumption))))⟩
       simp [results, Try.results19, go_sem, tupT, *])

theorem make64 : makeT 6 4 = (3, 2, 0) := by
  have : Nat.gcd 6 4 = 2 := by decide
  simp [makeT, madeR, maxI, this]
theorem text32 : textT 3 2 = [51, 47, 50] := by
  have h1 : rightB 3 2 = true := by decide
  have h2 : teq 3 2 1 0 = false := by decide
  have h3 : dec 3 = [51] := by rw [dec_lt (by decide)]; decide
  have h4 : dec 2 = [50] := by rw [dec_lt (by decide)]; decide
  simp [textT, h1, h2, h3, h4]
theorem bytes_of {s : ByteArray} {l : List UInt8} (h : s.data.toList = l) : s = ⟨l.toArray⟩ := by
  cases s; subst h; simp

theorem awake_any (w : World) : Calls Try.prog 13 #[] w fun e w' => e = .returned (.bool true) ∧ Ex w w' := by
  have he := eq_time
  have hM := Lib.hid (fun w => make64 ▸ Make_any 6 4 ⟨by omega, by omega⟩ ⟨by omega, by omega⟩ w)
  have hT := Lib.hid (fun w => text32 ▸ Text_any 3 2 ⟨by omega, by omega⟩ ⟨by omega, by omega⟩ w)
  have hR := Lib.hid (fun w => (show rightB 3 2 = true by decide) ▸ Right_any 3 2 ⟨by omega, by omega⟩ ⟨by omega, by omega⟩ w)
  have hC := Lib.hid (fun w => (show cmpT 3 2 1 0 = -1 by decide) ▸ Cmp_any 3 2 1 0 ⟨by omega, by omega⟩ ⟨by omega, by omega⟩ ⟨by omega, by omega⟩ ⟨by omega, by omega⟩ w)
  have ht : teq 3 2 3 2 = true := by decide
  go_enter Try.func13, Try.ntmps13
  go_wp2_with (first | (go_at_call 18; refine (hM.out _).mono ?_; rintro e w1 ⟨rfl, hx1⟩; unfold tupT; obtain ⟨hc1, hf1⟩ := hx1.facts2; have hz1 := hx1.size; (try simp only [World.size_drew] at hz1 hc1 hf1); (try simp only [World.size_drewN] at hz1 hc1 hf1); (try simp only [World.size_setCell] at hz1 hc1 hf1); (try simp only [World.size_alloc] at hz1 hc1 hf1); (try simp only [World.size_drew] at hz1 hc1 hf1); (try simp only [World.size_drewN] at hz1 hc1 hf1); (try simp only [World.size_setCell] at hz1 hc1 hf1); (try simp only [World.size_alloc] at hz1 hc1 hf1); (try simp only [World.cell?_drew] at hz1 hc1 hf1); (try simp only [World.frozen?_drew] at hz1 hc1 hf1); (try simp only [World.cell?_drewN] at hz1 hc1 hf1); (try simp only [World.frozen?_drewN] at hz1 hc1 hf1); (try (have hy10 : w.heap.size < w1.heap.size := by omega)); (try (have hy11 : w.heap.size + 1 < w1.heap.size := by omega)); (try (have hy12 : w.heap.size + 2 < w1.heap.size := by omega)); (try (have hy13 : w.heap.size + 3 < w1.heap.size := by omega))))
  go_region_held3 (fun w' => w'.cell? ⟨w1.heap.size, 0, none⟩ = some (.int .i64 3) ∧ w'.cell? ⟨w1.heap.size, 1, none⟩ = some (.int .i64 2)) (simp [go_sem, *])
    (first
     | (go_at_call 21; refine (hT.out _).mono ?_; rintro e w2 ⟨⟨s, rfl, hs⟩, hx2⟩; obtain rfl := bytes_of hs; obtain ⟨hc2, hf2⟩ := hx2.facts2; have hz2 := hx2.size; (try simp only [World.size_drew] at hz2 hc2 hf2); (try simp only [World.size_drewN] at hz2 hc2 hf2); (try simp only [World.size_setCell] at hz2 hc2 hf2); (try simp only [World.size_alloc] at hz2 hc2 hf2); (try simp only [World.size_drew] at hz2 hc2 hf2); (try simp only [World.size_drewN] at hz2 hc2 hf2); (try simp only [World.size_setCell] at hz2 hc2 hf2); (try simp only [World.size_alloc] at hz2 hc2 hf2); (try simp only [World.cell?_drew] at hz2 hc2 hf2); (try simp only [World.frozen?_drew] at hz2 hc2 hf2); (try simp only [World.cell?_drewN] at hz2 hc2 hf2); (try simp only [World.frozen?_drewN] at hz2 hc2 hf2); (try (have hy20 : w.heap.size < w2.heap.size := by omega)); (try (have hy21 : w.heap.size + 1 < w2.heap.size := by omega)); (try (have hy22 : w.heap.size + 2 < w2.heap.size := by omega)); (try (have hy23 : w.heap.size + 3 < w2.heap.size := by omega)); have hq2 : w1.heap.size < w2.heap.size := by omega)
     | (go_at_call 14; refine (hR.out _).mono ?_; rintro e w3 ⟨rfl, hx3⟩; obtain ⟨hc3, hf3⟩ := hx3.facts2; have hz3 := hx3.size; (try simp only [World.size_drew] at hz3 hc3 hf3); (try simp only [World.size_drewN] at hz3 hc3 hf3); (try simp only [World.size_setCell] at hz3 hc3 hf3); (try simp only [World.size_alloc] at hz3 hc3 hf3); (try simp only [World.size_drew] at hz3 hc3 hf3); (try simp only [World.size_drewN] at hz3 hc3 hf3); (try simp only [World.size_setCell] at hz3 hc3 hf3); (try simp only [World.size_alloc] at hz3 hc3 hf3); (try simp only [World.cell?_drew] at hz3 hc3 hf3); (try simp only [World.frozen?_drew] at hz3 hc3 hf3); (try simp only [World.cell?_drewN] at hz3 hc3 hf3); (try simp only [World.frozen?_drewN] at hz3 hc3 hf3); (try (have hy30 : w.heap.size < w3.heap.size := by omega)); (try (have hy31 : w.heap.size + 1 < w3.heap.size := by omega)); (try (have hy32 : w.heap.size + 2 < w3.heap.size := by omega)); (try (have hy33 : w.heap.size + 3 < w3.heap.size := by omega)); have hq3 : w1.heap.size < w3.heap.size := by omega)
     | (go_at_call 26; refine (Never_any _).mono ?_; rintro e w4 ⟨rfl, hx4⟩; obtain ⟨hc4, hf4⟩ := hx4.facts2; have hz4 := hx4.size; (try simp only [World.size_drew] at hz4 hc4 hf4); (try simp only [World.size_drewN] at hz4 hc4 hf4); (try simp only [World.size_setCell] at hz4 hc4 hf4); (try simp only [World.size_alloc] at hz4 hc4 hf4); (try simp only [World.size_drew] at hz4 hc4 hf4); (try simp only [World.size_drewN] at hz4 hc4 hf4); (try simp only [World.size_setCell] at hz4 hc4 hf4); (try simp only [World.size_alloc] at hz4 hc4 hf4); (try simp only [World.cell?_drew] at hz4 hc4 hf4); (try simp only [World.frozen?_drew] at hz4 hc4 hf4); (try simp only [World.cell?_drewN] at hz4 hc4 hf4); (try simp only [World.frozen?_drewN] at hz4 hc4 hf4); (try (have hy40 : w.heap.size < w4.heap.size := by omega)); (try (have hy41 : w.heap.size + 1 < w4.heap.size := by omega)); (try (have hy42 : w.heap.size + 2 < w4.heap.size := by omega)); (try (have hy43 : w.heap.size + 3 < w4.heap.size := by omega)); have hq4 : w1.heap.size < w4.heap.size := by omega)
     | (go_at_call 16; refine (hC.out _).mono ?_; rintro e w5 ⟨rfl, hx5⟩; obtain ⟨hc5, hf5⟩ := hx5.facts2; have hz5 := hx5.size; (try simp only [World.size_drew] at hz5 hc5 hf5); (try simp only [World.size_drewN] at hz5 hc5 hf5); (try simp only [World.size_setCell] at hz5 hc5 hf5); (try simp only [World.size_alloc] at hz5 hc5 hf5); (try simp only [World.size_drew] at hz5 hc5 hf5); (try simp only [World.size_drewN] at hz5 hc5 hf5); (try simp only [World.size_setCell] at hz5 hc5 hf5); (try simp only [World.size_alloc] at hz5 hc5 hf5); (try simp only [World.cell?_drew] at hz5 hc5 hf5); (try simp only [World.frozen?_drew] at hz5 hc5 hf5); (try simp only [World.cell?_drewN] at hz5 hc5 hf5); (try simp only [World.frozen?_drewN] at hz5 hc5 hf5); (try (have hy50 : w.heap.size < w5.heap.size := by omega)); (try (have hy51 : w.heap.size + 1 < w5.heap.size := by omega)); (try (have hy52 : w.heap.size + 2 < w5.heap.size := by omega)); (try (have hy53 : w.heap.size + 3 < w5.heap.size := by omega)); have hq5 : w1.heap.size < w5.heap.size := by omega))
  all_goals go_wp2
  all_goals (go_ret; exact ⟨rfl, by (repeat (first | exact Ex.refl _ | assumption | apply Ex.drew | apply Ex.drewN | apply Ex.alloc | (refine Ex.setCell ?_ (by simp; try omega) _) | (refine Ex.call ?_ (by assumption))))⟩)
end Go.Proofs.Ytjheegdkngkhaaa
