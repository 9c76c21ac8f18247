/- Walks of span: fit, Right, Cmp, Make, Whole. Conditions: the numbers lie in their types' ranges. -/
import Derived.Test.YtjheegdkngkhaaaSpanW1
import Derived.Test.YtjheegdkngkhaaaFrame
namespace Go.Proofs.Ytjheegdkngkhaaa
open Go.RowKit



def U64 (n : Int) : Prop := 0 ≤ n ∧ n < 18446744073709551616

set_option maxHeartbeats 400000 in
theorem fit_big (nh nl dh dl : Int) (h1 : U64 nh) (h2 : U64 nl) (h3 : U64 dh) (h4 : U64 dl) (hb : 0 < nh ∨ 9223372036854775807 < nl ∨ 0 < dh ∨ 9223372036854775807 < dl) (w : World) :
    Calls Try.prog 42 #[.agg #[.int .u64 nh, .int .u64 nl], .agg #[.int .u64 dh, .int .u64 dl]] w fun e w' => e = .returned (.tuple #[.agg #[.int .i64 0, .int .i64 0], .int .i64 2]) ∧ Ex w w' := by
  obtain ⟨a1, a2⟩ := h1; obtain ⟨b1, b2⟩ := h2; obtain ⟨c1, c2⟩ := h3; obtain ⟨d1, d2⟩ := h4
  by_cases g1 : 0 < nh
  · clear hb
    go_enter Try.func42, Try.ntmps42
    go_wp2
    exact bodyPost_ret (v := .tuple #[.agg #[.int .i64 0, .int .i64 0], .int .i64 2]) (by simp [results, Try.results42, go_sem]) rfl ⟨rfl, by (repeat (first | exact Ex.refl _ | assumption | apply Ex.drew | apply Ex.drewN | apply Ex.alloc | (refine Ex.setCell ?_ (by simp; try omega) _) | (refine Ex.call ?_ (by assumption))))⟩
  · by_cases g2 : 0 < nl / 9223372036854775808
    · clear hb
      go_enter Try.func42, Try.ntmps42
      go_wp2
      exact bodyPost_ret (v := .tuple #[.agg #[.int .i64 0, .int .i64 0], .int .i64 2]) (by simp [results, Try.results42, go_sem]) rfl ⟨rfl, by (repeat (first | exact Ex.refl _ | assumption | apply Ex.drew | apply Ex.drewN | apply Ex.alloc | (refine Ex.setCell ?_ (by simp; try omega) _) | (refine Ex.call ?_ (by assumption))))⟩
    · by_cases g3 : 0 < dh
      · clear hb
        go_enter Try.func42, Try.ntmps42
        go_wp2
        exact bodyPost_ret (v := .tuple #[.agg #[.int .i64 0, .int .i64 0], .int .i64 2]) (by simp [results, Try.results42, go_sem]) rfl ⟨rfl, by (repeat (first | exact Ex.refl _ | assumption | apply Ex.drew | apply Ex.drewN | apply Ex.alloc | (refine Ex.setCell ?_ (by simp; try omega) _) | (refine Ex.call ?_ (by assumption))))⟩
      · have g4 : 0 < dl / 9223372036854775808 := by omega
        clear hb
        go_enter Try.func42, Try.ntmps42
        go_wp2
        exact bodyPost_ret (v := .tuple #[.agg #[.int .i64 0, .int .i64 0], .int .i64 2]) (by simp [results, Try.results42, go_sem]) rfl ⟨rfl, by (repeat (first | exact Ex.refl _ | assumption | apply Ex.drew | apply Ex.drewN | apply Ex.alloc | (refine Ex.setCell ?_ (by simp; try omega) _) | (refine Ex.call ?_ (by assumption))))⟩

theorem fit_fits (n d : Int) (h1 : 0 ≤ n) (h2 : n ≤ 9223372036854775807) (h3 : 0 ≤ d) (h4 : d ≤ 9223372036854775807) (w : World) :
    Calls Try.prog 42 #[.agg #[.int .u64 0, .int .u64 n], .agg #[.int .u64 0, .int .u64 d]] w fun e w' => e = .returned (.tuple #[.agg #[.int .i64 n, .int .i64 d], .int .i64 0]) ∧ Ex w w' := by
  have g2 : ¬ 0 < n / 9223372036854775808 := by omega
  have g4 : ¬ 0 < d / 9223372036854775808 := by omega
  go_enter Try.func42, Try.ntmps42
  go_wp2
  exact bodyPost_ret (v := .tuple #[.agg #[.int .i64 n, .int .i64 d], .int .i64 0]) (by simp [results, Try.results42, go_sem]) rfl ⟨rfl, by (repeat (first | exact Ex.refl _ | assumption | apply Ex.drew | apply Ex.drewN | apply Ex.alloc | (refine Ex.setCell ?_ (by simp; try omega) _) | (refine Ex.call ?_ (by assumption))))⟩

/-- Is a time right? -/
def rightB (n d : Int) : Bool := teq n d 1 0 || (decide (0 < d) && decide (0 ≤ n) && (((Int.gcd n d : Nat) : Int) == 1))
theorem Right_any (n d : Int) (h1 : I64 n) (h2 : I64 d) (w : World) :
    Calls Try.prog 14 #[.agg #[.int .i64 n, .int .i64 d]] w fun e w' => e = .returned (.bool (rightB n d)) ∧ Ex w w' := by
  obtain ⟨a1, a2⟩ := h1; obtain ⟨b1, b2⟩ := h2
  by_cases g1 : teq n d 1 0 = true
  · go_enter Try.func14, Try.ntmps14
    go_wp2_with ((go_at_call 31; refine (never_any _ _ _).mono ?_; rintro e w1 ⟨rfl, hx1⟩; obtain ⟨hc1, hf1⟩ := hx1.facts2; have hz1 := hx1.size; (try simp only [World.size_alloc, World.size_drew, World.size_setCell, World.size_drewN, World.cell?_drew, World.frozen?_drew, World.cell?_drewN, World.frozen?_drewN] at hz1 hc1 hf1); (try (have hy10 : w.heap.size < w1.heap.size := by omega)); (try (have hy11 : w.heap.size + 1 < w1.heap.size := by omega)); (try (have hy12 : w.heap.size + 2 < w1.heap.size := by omega)); (try (have hy13 : w.heap.size + 3 < w1.heap.size := by omega))))
    go_ret
    exact ⟨ret_bool (by simp [rightB, g1]), by (repeat (first | exact Ex.refl _ | assumption | apply Ex.drew | apply Ex.drewN | apply Ex.alloc | (refine Ex.setCell ?_ (by simp; try omega) _) | (refine Ex.call ?_ (by assumption))))⟩
  · simp only [Bool.not_eq_true] at g1
    by_cases g2 : 0 < d
    · by_cases g3 : 0 ≤ n
      · go_enter Try.func14, Try.ntmps14
        go_wp2_with (first | (go_at_call 31; refine (never_any _ _ _).mono ?_; rintro e w1 ⟨rfl, hx1⟩; obtain ⟨hc1, hf1⟩ := hx1.facts2; have hz1 := hx1.size; (try simp only [World.size_alloc, World.size_drew, World.size_setCell, World.size_drewN, World.cell?_drew, World.frozen?_drew, World.cell?_drewN, World.frozen?_drewN] at hz1 hc1 hf1); (try (have hy10 : w.heap.size < w1.heap.size := by omega)); (try (have hy11 : w.heap.size + 1 < w1.heap.size := by omega)); (try (have hy12 : w.heap.size + 2 < w1.heap.size := by omega)); (try (have hy13 : w.heap.size + 3 < w1.heap.size := by omega))) | (go_at_call 32; refine (gcd_any _ _ (by omega) (by omega) (by omega) (by omega) _).mono ?_; rintro e w_ ⟨rfl, n2, rfl⟩))
        go_ret
        refine ⟨ret_bool (by simp [rightB, g1, g2, g3]), by (repeat (first | exact Ex.refl _ | assumption | apply Ex.drew | apply Ex.drewN | apply Ex.alloc | (refine Ex.setCell ?_ (by simp; try omega) _) | (refine Ex.call ?_ (by assumption))))⟩
      · go_enter Try.func14, Try.ntmps14
        go_wp2_with ((go_at_call 31; refine (never_any _ _ _).mono ?_; rintro e w1 ⟨rfl, hx1⟩; obtain ⟨hc1, hf1⟩ := hx1.facts2; have hz1 := hx1.size; (try simp only [World.size_alloc, World.size_drew, World.size_setCell, World.size_drewN, World.cell?_drew, World.frozen?_drew, World.cell?_drewN, World.frozen?_drewN] at hz1 hc1 hf1); (try (have hy10 : w.heap.size < w1.heap.size := by omega)); (try (have hy11 : w.heap.size + 1 < w1.heap.size := by omega)); (try (have hy12 : w.heap.size + 2 < w1.heap.size := by omega)); (try (have hy13 : w.heap.size + 3 < w1.heap.size := by omega))))
        go_ret
        exact ⟨ret_bool (by simp [rightB, g1]; intros; omega), by (repeat (first | exact Ex.refl _ | assumption | apply Ex.drew | apply Ex.drewN | apply Ex.alloc | (refine Ex.setCell ?_ (by simp; try omega) _) | (refine Ex.call ?_ (by assumption))))⟩
    · go_enter Try.func14, Try.ntmps14
      go_wp2_with ((go_at_call 31; refine (never_any _ _ _).mono ?_; rintro e w1 ⟨rfl, hx1⟩; obtain ⟨hc1, hf1⟩ := hx1.facts2; have hz1 := hx1.size; (try simp only [World.size_alloc, World.size_drew, World.size_setCell, World.size_drewN, World.cell?_drew, World.frozen?_drew, World.cell?_drewN, World.frozen?_drewN] at hz1 hc1 hf1); (try (have hy10 : w.heap.size < w1.heap.size := by omega)); (try (have hy11 : w.heap.size + 1 < w1.heap.size := by omega)); (try (have hy12 : w.heap.size + 2 < w1.heap.size := by omega)); (try (have hy13 : w.heap.size + 3 < w1.heap.size := by omega))))
      go_ret
      exact ⟨ret_bool (by simp [rightB, g1]; intros; omega), by (repeat (first | exact Ex.refl _ | assumption | apply Ex.drew | apply Ex.drewN | apply Ex.alloc | (refine Ex.setCell ?_ (by simp; try omega) _) | (refine Ex.call ?_ (by assumption))))⟩

/-- How two right times stand. -/
def cmpT (n d n' d' : Int) : Int :=
  if rightB n d && rightB n' d' then
    if teq n d 1 0 || teq n' d' 1 0 then sgn (teq n' d' 1 0) (teq n d 1 0)
    else icmp (n * d') (n' * d)
  else 0
theorem icmp_wide (x y : Int) : wcmp (x / 18446744073709551616) (x % 18446744073709551616) (y / 18446744073709551616) (y % 18446744073709551616) = icmp x y := by
  unfold icmp wcmp
  by_cases h : x < y
  · rw [if_pos h, if_pos (by omega)]
  · rw [if_neg h, if_neg (by omega)]
    by_cases h2 : x = y
    · subst h2; simp
    · rw [if_neg h2, if_neg (by omega)]

theorem Cmp_any (n d n' d' : Int) (h1 : I64 n) (h2 : I64 d) (h3 : I64 n') (h4 : I64 d') (w : World) :
    Calls Try.prog 16 #[.agg #[.int .i64 n, .int .i64 d], .agg #[.int .i64 n', .int .i64 d']] w fun e w' => e = .returned (.int .i64 (cmpT n d n' d')) ∧ Ex w w' := by
  by_cases g1 : rightB n d = true
  · by_cases g2 : rightB n' d' = true
    · by_cases g3 : teq n d 1 0 = true
      · go_enter Try.func16, Try.ntmps16
        go_wp2_with (first | (go_at_call 14; refine (Right_any _ _ (by assumption) (by assumption) _).mono ?_; rintro e w1 ⟨rfl, hx1⟩; obtain ⟨hc1, hf1⟩ := hx1.facts2; have hz1 := hx1.size; (try simp only [World.size_alloc, World.size_drew, World.size_setCell, World.size_drewN, World.cell?_drew, World.frozen?_drew, World.cell?_drewN, World.frozen?_drewN] at hz1 hc1 hf1); (try (have hy10 : w.heap.size < w1.heap.size := by omega)); (try (have hy11 : w.heap.size + 1 < w1.heap.size := by omega)); (try (have hy12 : w.heap.size + 2 < w1.heap.size := by omega)); (try (have hy13 : w.heap.size + 3 < w1.heap.size := by omega))) | (go_at_call 31; refine (never_any _ _ _).mono ?_; rintro e w1 ⟨rfl, hx1⟩; obtain ⟨hc1, hf1⟩ := hx1.facts2; have hz1 := hx1.size; (try simp only [World.size_alloc, World.size_drew, World.size_setCell, World.size_drewN, World.cell?_drew, World.frozen?_drew, World.cell?_drewN, World.frozen?_drewN] at hz1 hc1 hf1); (try (have hy10 : w.heap.size < w1.heap.size := by omega)); (try (have hy11 : w.heap.size + 1 < w1.heap.size := by omega)); (try (have hy12 : w.heap.size + 2 < w1.heap.size := by omega)); (try (have hy13 : w.heap.size + 3 < w1.heap.size := by omega))))
        go_region_held3 (fun w' => w'.cell? ⟨w.heap.size, 0, none⟩ = some (.int .i64 n) ∧ w'.cell? ⟨w.heap.size, 1, none⟩ = some (.int .i64 d) ∧ w'.cell? ⟨w.heap.size + 1, 0, none⟩ = some (.int .i64 n') ∧ w'.cell? ⟨w.heap.size + 1, 1, none⟩ = some (.int .i64 d')) (simp [go_sem, *])
           (first | (go_at_call 31; refine (never_any _ _ _).mono ?_; rintro e w3 ⟨rfl, hx3⟩; obtain ⟨hc3, hf3⟩ := hx3.facts2; have hz3 := hx3.size; (try simp only [World.size_alloc, World.size_drew, World.size_setCell, World.size_drewN, World.cell?_drew, World.frozen?_drew, World.cell?_drewN, World.frozen?_drewN] at hz3 hc3 hf3); (try (have hy30 : w.heap.size < w3.heap.size := by omega)); (try (have hy31 : w.heap.size + 1 < w3.heap.size := by omega)); (try (have hy32 : w.heap.size + 2 < w3.heap.size := by omega)); (try (have hy33 : w.heap.size + 3 < w3.heap.size := by omega))) | (go_at_call 37; refine (sign_any _ _ _).mono ?_; rintro e w_ ⟨rfl, rfl⟩))
        go_wp2
        go_ret
        exact ⟨ret_int (by simp [cmpT, g1, g2, g3]), by (repeat (first | exact Ex.refl _ | assumption | apply Ex.drew | apply Ex.drewN | apply Ex.alloc | (refine Ex.setCell ?_ (by simp; try omega) _) | (refine Ex.call ?_ (by assumption))))⟩
      · simp only [Bool.not_eq_true] at g3
        by_cases g4 : teq n' d' 1 0 = true
        · go_enter Try.func16, Try.ntmps16
          go_wp2_with (first | (go_at_call 14; refine (Right_any _ _ (by assumption) (by assumption) _).mono ?_; rintro e w1 ⟨rfl, hx1⟩; obtain ⟨hc1, hf1⟩ := hx1.facts2; have hz1 := hx1.size; (try simp only [World.size_alloc, World.size_drew, World.size_setCell, World.size_drewN, World.cell?_drew, World.frozen?_drew, World.cell?_drewN, World.frozen?_drewN] at hz1 hc1 hf1); (try (have hy10 : w.heap.size < w1.heap.size := by omega)); (try (have hy11 : w.heap.size + 1 < w1.heap.size := by omega)); (try (have hy12 : w.heap.size + 2 < w1.heap.size := by omega)); (try (have hy13 : w.heap.size + 3 < w1.heap.size := by omega))) | (go_at_call 31; refine (never_any _ _ _).mono ?_; rintro e w1 ⟨rfl, hx1⟩; obtain ⟨hc1, hf1⟩ := hx1.facts2; have hz1 := hx1.size; (try simp only [World.size_alloc, World.size_drew, World.size_setCell, World.size_drewN, World.cell?_drew, World.frozen?_drew, World.cell?_drewN, World.frozen?_drewN] at hz1 hc1 hf1); (try (have hy10 : w.heap.size < w1.heap.size := by omega)); (try (have hy11 : w.heap.size + 1 < w1.heap.size := by omega)); (try (have hy12 : w.heap.size + 2 < w1.heap.size := by omega)); (try (have hy13 : w.heap.size + 3 < w1.heap.size := by omega))))
          go_region_held3 (fun w' => w'.cell? ⟨w.heap.size, 0, none⟩ = some (.int .i64 n) ∧ w'.cell? ⟨w.heap.size, 1, none⟩ = some (.int .i64 d) ∧ w'.cell? ⟨w.heap.size + 1, 0, none⟩ = some (.int .i64 n') ∧ w'.cell? ⟨w.heap.size + 1, 1, none⟩ = some (.int .i64 d')) (simp [go_sem, *])
             (first | (go_at_call 31; refine (never_any _ _ _).mono ?_; rintro e w3 ⟨rfl, hx3⟩; obtain ⟨hc3, hf3⟩ := hx3.facts2; have hz3 := hx3.size; (try simp only [World.size_alloc, World.size_drew, World.size_setCell, World.size_drewN, World.cell?_drew, World.frozen?_drew, World.cell?_drewN, World.frozen?_drewN] at hz3 hc3 hf3); (try (have hy30 : w.heap.size < w3.heap.size := by omega)); (try (have hy31 : w.heap.size + 1 < w3.heap.size := by omega)); (try (have hy32 : w.heap.size + 2 < w3.heap.size := by omega)); (try (have hy33 : w.heap.size + 3 < w3.heap.size := by omega))) | (go_at_call 37; refine (sign_any _ _ _).mono ?_; rintro e w_ ⟨rfl, rfl⟩))
          go_wp2
          go_ret
          exact ⟨ret_int (by simp [cmpT, g1, g2, g3, g4]), by (repeat (first | exact Ex.refl _ | assumption | apply Ex.drew | apply Ex.drewN | apply Ex.alloc | (refine Ex.setCell ?_ (by simp; try omega) _) | (refine Ex.call ?_ (by assumption))))⟩
        · simp only [Bool.not_eq_true] at g4
          have k1 : 0 < d ∧ 0 ≤ n := by simp [rightB, g3] at g1; exact ⟨g1.1.1, g1.1.2⟩
          have k2 : 0 < d' ∧ 0 ≤ n' := by simp [rightB, g4] at g2; exact ⟨g2.1.1, g2.1.2⟩
          obtain ⟨a1, a2⟩ := k1; obtain ⟨a3, a4⟩ := k2
          have q1 : IntKind.u64.wrap n = n := IntWalk.u64_in _ ⟨by omega, by have := h1.2; omega⟩
          have q2 : IntKind.u64.wrap d = d := IntWalk.u64_in _ ⟨by omega, by have := h2.2; omega⟩
          have q3 : IntKind.u64.wrap n' = n' := IntWalk.u64_in _ ⟨by omega, by have := h3.2; omega⟩
          have q4 : IntKind.u64.wrap d' = d' := IntWalk.u64_in _ ⟨by omega, by have := h4.2; omega⟩
          obtain ⟨b1, b1'⟩ := id h1; obtain ⟨b2, b2'⟩ := id h2; obtain ⟨b3, b3'⟩ := id h3; obtain ⟨b4, b4'⟩ := id h4
          go_enter Try.func16, Try.ntmps16
          go_wp2_with (first | (go_at_call 14; refine (Right_any _ _ (by assumption) (by assumption) _).mono ?_; rintro e w1 ⟨rfl, hx1⟩; obtain ⟨hc1, hf1⟩ := hx1.facts2; have hz1 := hx1.size; (try simp only [World.size_alloc, World.size_drew, World.size_setCell, World.size_drewN, World.cell?_drew, World.frozen?_drew, World.cell?_drewN, World.frozen?_drewN] at hz1 hc1 hf1); (try (have hy10 : w.heap.size < w1.heap.size := by omega)); (try (have hy11 : w.heap.size + 1 < w1.heap.size := by omega)); (try (have hy12 : w.heap.size + 2 < w1.heap.size := by omega)); (try (have hy13 : w.heap.size + 3 < w1.heap.size := by omega))) | (go_at_call 31; refine (never_any _ _ _).mono ?_; rintro e w1 ⟨rfl, hx1⟩; obtain ⟨hc1, hf1⟩ := hx1.facts2; have hz1 := hx1.size; (try simp only [World.size_alloc, World.size_drew, World.size_setCell, World.size_drewN, World.cell?_drew, World.frozen?_drew, World.cell?_drewN, World.frozen?_drewN] at hz1 hc1 hf1); (try (have hy10 : w.heap.size < w1.heap.size := by omega)); (try (have hy11 : w.heap.size + 1 < w1.heap.size := by omega)); (try (have hy12 : w.heap.size + 2 < w1.heap.size := by omega)); (try (have hy13 : w.heap.size + 3 < w1.heap.size := by omega))))
          go_region_held3 (fun w' => w'.cell? ⟨w.heap.size, 0, none⟩ = some (.int .i64 n) ∧ w'.cell? ⟨w.heap.size, 1, none⟩ = some (.int .i64 d) ∧ w'.cell? ⟨w.heap.size + 1, 0, none⟩ = some (.int .i64 n') ∧ w'.cell? ⟨w.heap.size + 1, 1, none⟩ = some (.int .i64 d')) (simp [go_sem, *])
             (first | (go_at_call 38; refine (times_any _ _ (by omega) (by omega) (by omega) (by omega) _).mono ?_; rintro e w3 ⟨rfl, hx3⟩; obtain ⟨hc3, hf3⟩ := hx3.facts2; have hz3 := hx3.size; (try simp only [World.size_alloc, World.size_drew, World.size_setCell, World.size_drewN, World.cell?_drew, World.frozen?_drew, World.cell?_drewN, World.frozen?_drewN] at hz3 hc3 hf3); (try (have hy30 : w.heap.size < w3.heap.size := by omega)); (try (have hy31 : w.heap.size + 1 < w3.heap.size := by omega)); (try (have hy32 : w.heap.size + 2 < w3.heap.size := by omega)); (try (have hy33 : w.heap.size + 3 < w3.heap.size := by omega))) | (go_at_call 39; refine (wcmp_any _ _ _ _ _).mono ?_; rintro e w4 ⟨rfl, hx4⟩; obtain ⟨hc4, hf4⟩ := hx4.facts2; have hz4 := hx4.size; (try simp only [World.size_alloc, World.size_drew, World.size_setCell, World.size_drewN, World.cell?_drew, World.frozen?_drew, World.cell?_drewN, World.frozen?_drewN] at hz4 hc4 hf4); (try (have hy40 : w.heap.size < w4.heap.size := by omega)); (try (have hy41 : w.heap.size + 1 < w4.heap.size := by omega)); (try (have hy42 : w.heap.size + 2 < w4.heap.size := by omega)); (try (have hy43 : w.heap.size + 3 < w4.heap.size := by omega))))
          go_wp2
          go_ret
          exact ⟨ret_int (by rw [icmp_wide]; simp [cmpT, g1, g2, g3, g4]), by (repeat (first | exact Ex.refl _ | assumption | apply Ex.drew | apply Ex.drewN | apply Ex.alloc | (refine Ex.setCell ?_ (by simp; try omega) _) | (refine Ex.call ?_ (by assumption))))⟩
    · simp only [Bool.not_eq_true] at g2
      go_enter Try.func16, Try.ntmps16
      go_wp2_with (first | (go_at_call 14; refine (Right_any _ _ (by assumption) (by assumption) _).mono ?_; rintro e w1 ⟨rfl, hx1⟩; obtain ⟨hc1, hf1⟩ := hx1.facts2; have hz1 := hx1.size; (try simp only [World.size_alloc, World.size_drew, World.size_setCell, World.size_drewN, World.cell?_drew, World.frozen?_drew, World.cell?_drewN, World.frozen?_drewN] at hz1 hc1 hf1); (try (have hy10 : w.heap.size < w1.heap.size := by omega)); (try (have hy11 : w.heap.size + 1 < w1.heap.size := by omega)); (try (have hy12 : w.heap.size + 2 < w1.heap.size := by omega)); (try (have hy13 : w.heap.size + 3 < w1.heap.size := by omega))) | (go_at_call 31; refine (never_any _ _ _).mono ?_; rintro e w1 ⟨rfl, hx1⟩; obtain ⟨hc1, hf1⟩ := hx1.facts2; have hz1 := hx1.size; (try simp only [World.size_alloc, World.size_drew, World.size_setCell, World.size_drewN, World.cell?_drew, World.frozen?_drew, World.cell?_drewN, World.frozen?_drewN] at hz1 hc1 hf1); (try (have hy10 : w.heap.size < w1.heap.size := by omega)); (try (have hy11 : w.heap.size + 1 < w1.heap.size := by omega)); (try (have hy12 : w.heap.size + 2 < w1.heap.size := by omega)); (try (have hy13 : w.heap.size + 3 < w1.heap.size := by omega))))
      go_ret
      exact ⟨ret_int (by simp [cmpT, g1, g2]), by (repeat (first | exact Ex.refl _ | assumption | apply Ex.drew | apply Ex.drewN | apply Ex.alloc | (refine Ex.setCell ?_ (by simp; try omega) _) | (refine Ex.call ?_ (by assumption))))⟩
  · simp only [Bool.not_eq_true] at g1
    go_enter Try.func16, Try.ntmps16
    go_wp2_with (first | (go_at_call 14; refine (Right_any _ _ (by assumption) (by assumption) _).mono ?_; rintro e w1 ⟨rfl, hx1⟩; obtain ⟨hc1, hf1⟩ := hx1.facts2; have hz1 := hx1.size; (try simp only [World.size_alloc, World.size_drew, World.size_setCell, World.size_drewN, World.cell?_drew, World.frozen?_drew, World.cell?_drewN, World.frozen?_drewN] at hz1 hc1 hf1); (try (have hy10 : w.heap.size < w1.heap.size := by omega)); (try (have hy11 : w.heap.size + 1 < w1.heap.size := by omega)); (try (have hy12 : w.heap.size + 2 < w1.heap.size := by omega)); (try (have hy13 : w.heap.size + 3 < w1.heap.size := by omega))) | (go_at_call 31; refine (never_any _ _ _).mono ?_; rintro e w1 ⟨rfl, hx1⟩; obtain ⟨hc1, hf1⟩ := hx1.facts2; have hz1 := hx1.size; (try simp only [World.size_alloc, World.size_drew, World.size_setCell, World.size_drewN, World.cell?_drew, World.frozen?_drew, World.cell?_drewN, World.frozen?_drewN] at hz1 hc1 hf1); (try (have hy10 : w.heap.size < w1.heap.size := by omega)); (try (have hy11 : w.heap.size + 1 < w1.heap.size := by omega)); (try (have hy12 : w.heap.size + 2 < w1.heap.size := by omega)); (try (have hy13 : w.heap.size + 3 < w1.heap.size := by omega))))
    go_ret
    exact ⟨ret_int (by simp [cmpT, g1]), by (repeat (first | exact Ex.refl _ | assumption | apply Ex.drew | apply Ex.drewN | apply Ex.alloc | (refine Ex.setCell ?_ (by simp; try omega) _) | (refine Ex.call ?_ (by assumption))))⟩
end Go.Proofs.Ytjheegdkngkhaaa
