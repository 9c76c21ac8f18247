/- Walks of the laws SpanAsks and SpanMakes: each returns true. Conditions: the numbers lie in an int's range. -/
import Derived.Test.YtjheegdkngkhaaaSpanW6
import Derived.Test.YtjheegdkngkhaaaNumW7
namespace Go.Proofs.Ytjheegdkngkhaaa
open Go.RowKit

set_option maxHeartbeats 1000000 in
theorem asks_walk (n d n' d' : Int) (h1 : I64 n) (h2 : I64 d) (h3 : I64 n') (h4 : I64 d') (w : World) :
    Calls Try.prog 3 #[.agg #[.int .i64 n, .int .i64 d], .agg #[.int .i64 n', .int .i64 d']] w fun e w' => e = .returned (.bool true) ∧ Ex w w' := by
  go_enter Try.func3, Try.ntmps3
  go_wp2_with fail
  go_region_held3 (fun w' => w'.cell? ⟨w.heap.size, 0, none⟩ = some (.int .i64 n) ∧ w'.cell? ⟨w.heap.size, 1, none⟩ = some (.int .i64 d) ∧ w'.cell? ⟨w.heap.size + 1, 0, none⟩ = some (.int .i64 n') ∧ w'.cell? ⟨w.heap.size + 1, 1, none⟩ = some (.int .i64 d')) (simp [go_sem, *])
    (first
     | (go_at_call 13; refine (awake_any _).mono ?_; rintro e w1 ⟨rfl, hx1⟩; obtain ⟨hc1, hf1⟩ := hx1.facts2; have hz1 := hx1.size; (try simp only [World.size_alloc, World.size_drew, World.size_setCell, World.size_drewN, World.cell?_drew, World.frozen?_drew, World.cell?_drewN, World.frozen?_drewN] at hz1 hc1 hf1); (try (have hy10 : w.heap.size < w1.heap.size := by omega)); (try (have hy11 : w.heap.size + 1 < w1.heap.size := by omega)); (try (have hy12 : w.heap.size + 2 < w1.heap.size := by omega)); (try (have hy13 : w.heap.size + 3 < w1.heap.size := by omega)))
     | (go_at_call 14; refine (Right_any _ _ h1 h2 _).mono ?_; rintro e w2 ⟨rfl, hx2⟩; obtain ⟨hc2, hf2⟩ := hx2.facts2; have hz2 := hx2.size; (try simp only [World.size_alloc, World.size_drew, World.size_setCell, World.size_drewN, World.cell?_drew, World.frozen?_drew, World.cell?_drewN, World.frozen?_drewN] at hz2 hc2 hf2); (try (have hy20 : w.heap.size < w2.heap.size := by omega)); (try (have hy21 : w.heap.size + 1 < w2.heap.size := by omega)); (try (have hy22 : w.heap.size + 2 < w2.heap.size := by omega)); (try (have hy23 : w.heap.size + 3 < w2.heap.size := by omega)))
     | (go_at_call 15; refine (RRight_any _ _ h1 h2 _).mono ?_; rintro e w3 ⟨rfl, hx3⟩; obtain ⟨hc3, hf3⟩ := hx3.facts2; have hz3 := hx3.size; (try simp only [World.size_alloc, World.size_drew, World.size_setCell, World.size_drewN, World.cell?_drew, World.frozen?_drew, World.cell?_drewN, World.frozen?_drewN] at hz3 hc3 hf3); (try (have hy30 : w.heap.size < w3.heap.size := by omega)); (try (have hy31 : w.heap.size + 1 < w3.heap.size := by omega)); (try (have hy32 : w.heap.size + 2 < w3.heap.size := by omega)); (try (have hy33 : w.heap.size + 3 < w3.heap.size := by omega)))
     | (go_at_call 16; refine (Cmp_any _ _ _ _ h1 h2 h3 h4 _).mono ?_; rintro e w4 ⟨rfl, hx4⟩; obtain ⟨hc4, hf4⟩ := hx4.facts2; have hz4 := hx4.size; (try simp only [World.size_alloc, World.size_drew, World.size_setCell, World.size_drewN, World.cell?_drew, World.frozen?_drew, World.cell?_drewN, World.frozen?_drewN] at hz4 hc4 hf4); (try (have hy40 : w.heap.size < w4.heap.size := by omega)); (try (have hy41 : w.heap.size + 1 < w4.heap.size := by omega)); (try (have hy42 : w.heap.size + 2 < w4.heap.size := by omega)); (try (have hy43 : w.heap.size + 3 < w4.heap.size := by omega)))
     | (go_at_call 17; refine (RCmp_any _ _ _ _ h1 h2 h3 h4 _).mono ?_; rintro e w5 ⟨rfl, hx5⟩; obtain ⟨hc5, hf5⟩ := hx5.facts2; have hz5 := hx5.size; (try simp only [World.size_alloc, World.size_drew, World.size_setCell, World.size_drewN, World.cell?_drew, World.frozen?_drew, World.cell?_drewN, World.frozen?_drewN] at hz5 hc5 hf5); (try (have hy50 : w.heap.size < w5.heap.size := by omega)); (try (have hy51 : w.heap.size + 1 < w5.heap.size := by omega)); (try (have hy52 : w.heap.size + 2 < w5.heap.size := by omega)); (try (have hy53 : w.heap.size + 3 < w5.heap.size := by omega))))
  all_goals go_wp2
  all_goals (go_ret; exact ⟨rfl, by (repeat (first | exact Ex.refl _ | assumption | apply Ex.drew | apply Ex.drewN | apply Ex.alloc | (refine Ex.setCell ?_ (by simp; try omega) _) | (refine Ex.call ?_ (by assumption))))⟩)
end Go.Proofs.Ytjheegdkngkhaaa
