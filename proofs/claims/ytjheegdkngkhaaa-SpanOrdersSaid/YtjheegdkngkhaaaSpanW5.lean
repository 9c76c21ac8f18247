/- Walks of span.Make and Whole, and of the reference's Make. Conditions: numbers in their ranges. -/
import Derived.Test.YtjheegdkngkhaaaSpanW4
import Derived.Test.YtjheegdkngkhaaaNumW7
set_option linter.unusedVariables false
set_option linter.unusedSimpArgs false
set_option linter.unusedSectionVars false
namespace Go.Proofs.Ytjheegdkngkhaaa
open Go.RowKit

/-- What is made of two numbers. -/
def makeT (n d : Int) : Int × Int × Int :=
  if d = 0 then (0, 0, 3) else if n ≠ 0 ∧ ((decide (n < 0)) != (decide (d < 0))) = true then (0, 0, 4) else madeR n.natAbs d.natAbs
def tupT (x : Int × Int × Int) : Value := .tuple #[.agg #[.int .i64 x.1, .int .i64 x.2.1], .int .i64 x.2.2]

theorem plain_nat {n : Int} {a : Nat} (h : Hid (a = n.natAbs)) (h0 : -9223372036854775808 ≤ n) (h1 : n ≤ 9223372036854775807) (w : World) :
    Calls Try.prog 41 #[.int .i64 n] w fun e w' => e = .returned (.int .u64 a) ∧ w = w' := by
  rw [h.out]; exact plain_any n h0 h1 w
theorem gcd_nat {a b g : Nat} (h : Hid (g = Nat.gcd a b)) (ha : a ≤ 9223372036854775808) (hb : b ≤ 9223372036854775808) (w : World) :
    Calls Try.prog 32 #[.int .u64 a, .int .u64 b] w fun e w' => e = .returned (.int .u64 g) ∧ ∃ n, w' = w.drewN n := by
  have := gcd_any a b (by omega) (by omega) (by omega) (by omega) w
  rw [Int.gcd_natCast_natCast, ← h.out] at this
  exact this

set_option maxHeartbeats 1000000 in
theorem Make_made (n d : Int) (h1 : I64 n) (h2 : I64 d) (hd : d ≠ 0) (hs : n = 0 ∨ ((decide (n < 0)) != (decide (d < 0))) = false) (w : World) :
    Calls Try.prog 18 #[.int .i64 n, .int .i64 d] w fun e w' => e = .returned (tupT (madeR n.natAbs d.natAbs)) ∧ Ex w w' := by
  have hd0 : (d == 0) = false := by simp [hd]
  obtain ⟨p1, p2⟩ := h1; obtain ⟨p3, p4⟩ := h2
  obtain ⟨a, ha⟩ : ∃ a, a = n.natAbs := ⟨_, rfl⟩
  obtain ⟨b, hb⟩ : ∃ b, b = d.natAbs := ⟨_, rfl⟩
  obtain ⟨g, hg⟩ : ∃ g, g = Nat.gcd a b := ⟨_, rfl⟩
  obtain ⟨qa, hqa⟩ : ∃ q, q = a / g := ⟨_, rfl⟩
  obtain ⟨qb, hqb⟩ : ∃ q, q = b / g := ⟨_, rfl⟩
  have ha' : a ≤ 9223372036854775808 := by omega
  have hb' : b ≤ 9223372036854775808 := by omega
  have hbp : 0 < b := by omega
  have hgp : 1 ≤ (g : Int) := by have := Nat.gcd_pos_of_pos_right a hbp; omega
  have hm : Hid (madeR n.natAbs d.natAbs = if maxI < qa ∨ maxI < qb then (0, 0, 2) else ((qa : Int), (qb : Int), 0)) := by show _ = _; rw [← ha, ← hb, madeR, ← hg, ← hqa, ← hqb]
  have hga : g ≤ 9223372036854775808 := by have := Nat.gcd_le_right a hbp; omega
  have hqa' : qa ≤ 9223372036854775808 := by have := Nat.div_le_self a g; omega
  have hqb' : qb ≤ 9223372036854775808 := by have := Nat.div_le_self b g; omega
  have ea : (a : Int) / (g : Int) = (qa : Int) := by rw [hqa]; simp
  have eb : (b : Int) / (g : Int) = (qb : Int) := by rw [hqb]; simp
  have et : (a : Int).tdiv (g : Int) = (qa : Int) := by rw [hqa]; rfl
  have et' : (b : Int).tdiv (g : Int) = (qb : Int) := by rw [hqb]; rfl
  have ew : IntKind.u64.wrap (qa : Int) = qa := IntWalk.u64_in _ ⟨by omega, by omega⟩
  have ew' : IntKind.u64.wrap (qb : Int) = qb := IntWalk.u64_in _ ⟨by omega, by omega⟩
  have hg0 : g ≠ 0 := by omega
  replace ha : Hid (a = n.natAbs) := ha
  replace hb : Hid (b = d.natAbs) := hb
  replace hg : Hid (g = Nat.gcd a b) := hg
  clear hqa hqb hd
  generalize madeR n.natAbs d.natAbs = m at *
  have hgd : n = 0 ∧ (n != 0) = false ∨ (n != 0) = true ∧ ((decide (n < 0)) != (decide (d < 0))) = false := by
    by_cases h : n = 0
    · exact .inl ⟨h, by simp [h]⟩
    · exact .inr ⟨by simp [h], hs.resolve_left h⟩
  clear hs
  have hgd : n = 0 ∧ (n != 0) = false ∨ (n != 0) = true ∧ (n < 0 ∧ d < 0) ∨ (n != 0) = true ∧ (¬ n < 0 ∧ ¬ d < 0) := by
    rcases hgd with h | ⟨h, h'⟩
    · exact .inl h
    · by_cases h1 : n < 0 <;> by_cases h2 : d < 0 <;> simp [h1, h2] at h' <;> simp [h, h1, h2]
  rcases hgd with ⟨hn0, hgd⟩ | ⟨hgd, h3, h4⟩ | ⟨hgd, h3, h4⟩
  · replace hn0 : Hid (n = 0) := hn0
    go_enter Try.func18, Try.ntmps18
    go_wp2_with (first | (go_at_call_of 41 (Value.int IntKind.i64 n); refine (plain_nat ha (by omega) (by omega) _).mono ?_; rintro e w_ ⟨rfl, rfl⟩) | (go_at_call_of 41 (Value.int IntKind.i64 d); refine (plain_nat hb (by omega) (by omega) _).mono ?_; rintro e w_ ⟨rfl, rfl⟩) | (go_at_call 32; refine (gcd_nat hg ha' hb' _).mono ?_; rintro e w_ ⟨rfl, n2, rfl⟩))
    by_cases hbig : maxI < qa ∨ maxI < qb
    · have hm2 : Hid (m = (0, 0, 2)) := by show _ = _; rw [hm.out, if_pos hbig]
      go_region_held3 (fun _ => True) (trivial) (first | (go_at_call 42; refine (fit_big _ _ _ _ ⟨by omega, by omega⟩ ⟨by omega, by omega⟩ ⟨by omega, by omega⟩ ⟨by omega, by omega⟩ (by unfold maxI at hbig; omega) _).mono ?_; rintro e w3 ⟨rfl, hx3⟩; obtain ⟨hc3, hf3⟩ := hx3.facts2; have hz3 := hx3.size; (try simp only [World.size_drew] at hz3 hc3 hf3); (try simp only [World.size_drewN] at hz3 hc3 hf3); (try simp only [World.size_setCell] at hz3 hc3 hf3); (try simp only [World.size_alloc] at hz3 hc3 hf3); (try simp only [World.size_drew] at hz3 hc3 hf3); (try simp only [World.size_drewN] at hz3 hc3 hf3); (try simp only [World.size_setCell] at hz3 hc3 hf3); (try simp only [World.size_alloc] at hz3 hc3 hf3); (try simp only [World.cell?_drew] at hz3 hc3 hf3); (try simp only [World.frozen?_drew] at hz3 hc3 hf3); (try simp only [World.cell?_drewN] at hz3 hc3 hf3); (try simp only [World.frozen?_drewN] at hz3 hc3 hf3); (try (have hy30 : w.heap.size < w3.heap.size := by omega)); (try (have hy31 : w.heap.size + 1 < w3.heap.size := by omega)); (try (have hy32 : w.heap.size + 2 < w3.heap.size := by omega)); (try (have hy33 : w.heap.size + 3 < w3.heap.size := by omega))))
      all_goals go_wp2
      all_goals (refine bodyPost_ret (v := tupT m) ?_ rfl ⟨rfl, by (repeat (first | exact Ex.refl _ | assumption | apply Ex.drew | apply Ex.drewN | apply Ex.alloc | (refine Ex.setCell ?_ (by simp; try omega) _) | (refine Ex.call ?_ (by assumption))))⟩; rw [hm2.out]; simp [results, Try.results18, go_sem, tupT, *])
    · have hm2 : Hid (m = ((qa : Int), (qb : Int), 0)) := by show _ = _; rw [hm.out, if_neg hbig]
      go_region_held3 (fun _ => True) (trivial) (first | (go_at_call 42; refine (fit_fits _ _ (by omega) (by unfold maxI at hbig; omega) (by omega) (by unfold maxI at hbig; omega) _).mono ?_; rintro e w3 ⟨rfl, hx3⟩; obtain ⟨hc3, hf3⟩ := hx3.facts2; have hz3 := hx3.size; (try simp only [World.size_drew] at hz3 hc3 hf3); (try simp only [World.size_drewN] at hz3 hc3 hf3); (try simp only [World.size_setCell] at hz3 hc3 hf3); (try simp only [World.size_alloc] at hz3 hc3 hf3); (try simp only [World.size_drew] at hz3 hc3 hf3); (try simp only [World.size_drewN] at hz3 hc3 hf3); (try simp only [World.size_setCell] at hz3 hc3 hf3); (try simp only [World.size_alloc] at hz3 hc3 hf3); (try simp only [World.cell?_drew] at hz3 hc3 hf3); (try simp only [World.frozen?_drew] at hz3 hc3 hf3); (try simp only [World.cell?_drewN] at hz3 hc3 hf3); (try simp only [World.frozen?_drewN] at hz3 hc3 hf3); (try (have hy30 : w.heap.size < w3.heap.size := by omega)); (try (have hy31 : w.heap.size + 1 < w3.heap.size := by omega)); (try (have hy32 : w.heap.size + 2 < w3.heap.size := by omega)); (try (have hy33 : w.heap.size + 3 < w3.heap.size := by omega))))
      all_goals go_wp2
      all_goals (refine bodyPost_ret (v := tupT m) ?_ rfl ⟨rfl, by (repeat (first | exact Ex.refl _ | assumption | apply Ex.drew | apply Ex.drewN | apply Ex.alloc | (refine Ex.setCell ?_ (by simp; try omega) _) | (refine Ex.call ?_ (by assumption))))⟩; rw [hm2.out]; simp [results, Try.results18, go_sem, tupT, *])
  · go_enter Try.func18, Try.ntmps18
    go_wp2_with (first | (go_at_call_of 41 (Value.int IntKind.i64 n); refine (plain_nat ha (by omega) (by omega) _).mono ?_; rintro e w_ ⟨rfl, rfl⟩) | (go_at_call_of 41 (Value.int IntKind.i64 d); refine (plain_nat hb (by omega) (by omega) _).mono ?_; rintro e w_ ⟨rfl, rfl⟩) | (go_at_call 32; refine (gcd_nat hg ha' hb' _).mono ?_; rintro e w_ ⟨rfl, n2, rfl⟩))
    by_cases hbig : maxI < qa ∨ maxI < qb
    · have hm2 : Hid (m = (0, 0, 2)) := by show _ = _; rw [hm.out, if_pos hbig]
      go_region_held3 (fun _ => True) (trivial) (first | (go_at_call 42; refine (fit_big _ _ _ _ ⟨by omega, by omega⟩ ⟨by omega, by omega⟩ ⟨by omega, by omega⟩ ⟨by omega, by omega⟩ (by unfold maxI at hbig; omega) _).mono ?_; rintro e w3 ⟨rfl, hx3⟩; obtain ⟨hc3, hf3⟩ := hx3.facts2; have hz3 := hx3.size; (try simp only [World.size_drew] at hz3 hc3 hf3); (try simp only [World.size_drewN] at hz3 hc3 hf3); (try simp only [World.size_setCell] at hz3 hc3 hf3); (try simp only [World.size_alloc] at hz3 hc3 hf3); (try simp only [World.size_drew] at hz3 hc3 hf3); (try simp only [World.size_drewN] at hz3 hc3 hf3); (try simp only [World.size_setCell] at hz3 hc3 hf3); (try simp only [World.size_alloc] at hz3 hc3 hf3); (try simp only [World.cell?_drew] at hz3 hc3 hf3); (try simp only [World.frozen?_drew] at hz3 hc3 hf3); (try simp only [World.cell?_drewN] at hz3 hc3 hf3); (try simp only [World.frozen?_drewN] at hz3 hc3 hf3); (try (have hy30 : w.heap.size < w3.heap.size := by omega)); (try (have hy31 : w.heap.size + 1 < w3.heap.size := by omega)); (try (have hy32 : w.heap.size + 2 < w3.heap.size := by omega)); (try (have hy33 : w.heap.size + 3 < w3.heap.size := by omega))))
      all_goals go_wp2
      all_goals (refine bodyPost_ret (v := tupT m) ?_ rfl ⟨rfl, by (repeat (first | exact Ex.refl _ | assumption | apply Ex.drew | apply Ex.drewN | apply Ex.alloc | (refine Ex.setCell ?_ (by simp; try omega) _) | (refine Ex.call ?_ (by assumption))))⟩; rw [hm2.out]; simp [results, Try.results18, go_sem, tupT, *])
    · have hm2 : Hid (m = ((qa : Int), (qb : Int), 0)) := by show _ = _; rw [hm.out, if_neg hbig]
      go_region_held3 (fun _ => True) (trivial) (first | (go_at_call 42; refine (fit_fits _ _ (by omega) (by unfold maxI at hbig; omega) (by omega) (by unfold maxI at hbig; omega) _).mono ?_; rintro e w3 ⟨rfl, hx3⟩; obtain ⟨hc3, hf3⟩ := hx3.facts2; have hz3 := hx3.size; (try simp only [World.size_drew] at hz3 hc3 hf3); (try simp only [World.size_drewN] at hz3 hc3 hf3); (try simp only [World.size_setCell] at hz3 hc3 hf3); (try simp only [World.size_alloc] at hz3 hc3 hf3); (try simp only [World.size_drew] at hz3 hc3 hf3); (try simp only [World.size_drewN] at hz3 hc3 hf3); (try simp only [World.size_setCell] at hz3 hc3 hf3); (try simp only [World.size_alloc] at hz3 hc3 hf3); (try simp only [World.cell?_drew] at hz3 hc3 hf3); (try simp only [World.frozen?_drew] at hz3 hc3 hf3); (try simp only [World.cell?_drewN] at hz3 hc3 hf3); (try simp only [World.frozen?_drewN] at hz3 hc3 hf3); (try (have hy30 : w.heap.size < w3.heap.size := by omega)); (try (have hy31 : w.heap.size + 1 < w3.heap.size := by omega)); (try (have hy32 : w.heap.size + 2 < w3.heap.size := by omega)); (try (have hy33 : w.heap.size + 3 < w3.heap.size := by omega))))
      all_goals go_wp2
      all_goals (refine bodyPost_ret (v := tupT m) ?_ rfl ⟨rfl, by (repeat (first | exact Ex.refl _ | assumption | apply Ex.drew | apply Ex.drewN | apply Ex.alloc | (refine Ex.setCell ?_ (by simp; try omega) _) | (refine Ex.call ?_ (by assumption))))⟩; rw [hm2.out]; simp [results, Try.results18, go_sem, tupT, *])

  · go_enter Try.func18, Try.ntmps18
    go_wp2_with (first | (go_at_call_of 41 (Value.int IntKind.i64 n); refine (plain_nat ha (by omega) (by omega) _).mono ?_; rintro e w_ ⟨rfl, rfl⟩) | (go_at_call_of 41 (Value.int IntKind.i64 d); refine (plain_nat hb (by omega) (by omega) _).mono ?_; rintro e w_ ⟨rfl, rfl⟩) | (go_at_call 32; refine (gcd_nat hg ha' hb' _).mono ?_; rintro e w_ ⟨rfl, n2, rfl⟩))
    by_cases hbig : maxI < qa ∨ maxI < qb
    · have hm2 : Hid (m = (0, 0, 2)) := by show _ = _; rw [hm.out, if_pos hbig]
      go_region_held3 (fun _ => True) (trivial) (first | (go_at_call 42; refine (fit_big _ _ _ _ ⟨by omega, by omega⟩ ⟨by omega, by omega⟩ ⟨by omega, by omega⟩ ⟨by omega, by omega⟩ (by unfold maxI at hbig; omega) _).mono ?_; rintro e w3 ⟨rfl, hx3⟩; obtain ⟨hc3, hf3⟩ := hx3.facts2; have hz3 := hx3.size; (try simp only [World.size_drew] at hz3 hc3 hf3); (try simp only [World.size_drewN] at hz3 hc3 hf3); (try simp only [World.size_setCell] at hz3 hc3 hf3); (try simp only [World.size_alloc] at hz3 hc3 hf3); (try simp only [World.size_drew] at hz3 hc3 hf3); (try simp only [World.size_drewN] at hz3 hc3 hf3); (try simp only [World.size_setCell] at hz3 hc3 hf3); (try simp only [World.size_alloc] at hz3 hc3 hf3); (try simp only [World.cell?_drew] at hz3 hc3 hf3); (try simp only [World.frozen?_drew] at hz3 hc3 hf3); (try simp only [World.cell?_drewN] at hz3 hc3 hf3); (try simp only [World.frozen?_drewN] at hz3 hc3 hf3); (try (have hy30 : w.heap.size < w3.heap.size := by omega)); (try (have hy31 : w.heap.size + 1 < w3.heap.size := by omega)); (try (have hy32 : w.heap.size + 2 < w3.heap.size := by omega)); (try (have hy33 : w.heap.size + 3 < w3.heap.size := by omega))))
      all_goals go_wp2
      all_goals (refine bodyPost_ret (v := tupT m) ?_ rfl ⟨rfl, by (repeat (first | exact Ex.refl _ | assumption | apply Ex.drew | apply Ex.drewN | apply Ex.alloc | (refine Ex.setCell ?_ (by simp; try omega) _) | (refine Ex.call ?_ (by assumption))))⟩; rw [hm2.out]; simp [results, Try.results18, go_sem, tupT, *])
    · have hm2 : Hid (m = ((qa : Int), (qb : Int), 0)) := by show _ = _; rw [hm.out, if_neg hbig]
      go_region_held3 (fun _ => True) (trivial) (first | (go_at_call 42; refine (fit_fits _ _ (by omega) (by unfold maxI at hbig; omega) (by omega) (by unfold maxI at hbig; omega) _).mono ?_; rintro e w3 ⟨rfl, hx3⟩; obtain ⟨hc3, hf3⟩ := hx3.facts2; have hz3 := hx3.size; (try simp only [World.size_drew] at hz3 hc3 hf3); (try simp only [World.size_drewN] at hz3 hc3 hf3); (try simp only [World.size_setCell] at hz3 hc3 hf3); (try simp only [World.size_alloc] at hz3 hc3 hf3); (try simp only [World.size_drew] at hz3 hc3 hf3); (try simp only [World.size_drewN] at hz3 hc3 hf3); (try simp only [World.size_setCell] at hz3 hc3 hf3); (try simp only [World.size_alloc] at hz3 hc3 hf3); (try simp only [World.cell?_drew] at hz3 hc3 hf3); (try simp only [World.frozen?_drew] at hz3 hc3 hf3); (try simp only [World.cell?_drewN] at hz3 hc3 hf3); (try simp only [World.frozen?_drewN] at hz3 hc3 hf3); (try (have hy30 : w.heap.size < w3.heap.size := by omega)); (try (have hy31 : w.heap.size + 1 < w3.heap.size := by omega)); (try (have hy32 : w.heap.size + 2 < w3.heap.size := by omega)); (try (have hy33 : w.heap.size + 3 < w3.heap.size := by omega))))
      all_goals go_wp2
      all_goals (refine bodyPost_ret (v := tupT m) ?_ rfl ⟨rfl, by (repeat (first | exact Ex.refl _ | assumption | apply Ex.drew | apply Ex.drewN | apply Ex.alloc | (refine Ex.setCell ?_ (by simp; try omega) _) | (refine Ex.call ?_ (by assumption))))⟩; rw [hm2.out]; simp [results, Try.results18, go_sem, tupT, *])

theorem Make_any (n d : Int) (h1 : I64 n) (h2 : I64 d) (w : World) :
    Calls Try.prog 18 #[.int .i64 n, .int .i64 d] w fun e w' => e = .returned (tupT (makeT n d)) ∧ Ex w w' := by
  by_cases hd : d = 0
  · subst hd
    have hm : Hid (makeT n 0 = (0, 0, 3)) := by show _ = _; simp [makeT]
    go_enter Try.func18, Try.ntmps18
    go_wp2
    refine bodyPost_ret (v := tupT (makeT n 0)) ?_ rfl ⟨rfl, by (repeat (first | exact Ex.refl _ | assumption | apply Ex.drew | apply Ex.drewN | apply Ex.alloc | (refine Ex.setCell ?_ (by simp; try omega) _) | (refine Ex.call ?_ (by assumption))))⟩
    rw [hm.out]; simp [results, Try.results18, go_sem, tupT]
  · by_cases hs : n ≠ 0 ∧ ((decide (n < 0)) != (decide (d < 0))) = true
    · have hm : Hid (makeT n d = (0, 0, 4)) := by show _ = _; rw [makeT, if_neg hd, if_pos hs]
      obtain ⟨hs1, hs2⟩ := hs
      have hs1' : (n != 0) = true := by simp [hs1]
      have hd0 : (d == 0) = false := by simp [hd]
      have hs3 : (n < 0 ∧ ¬ d < 0) ∨ (¬ n < 0 ∧ d < 0) := by by_cases h1 : n < 0 <;> by_cases h2 : d < 0 <;> simp [h1, h2] at hs2 <;> simp [h1, h2]
      clear hs2
      rcases hs3 with ⟨h3, h4⟩ | ⟨h3, h4⟩ <;>
      (go_enter Try.func18, Try.ntmps18
       go_wp2
       refine bodyPost_ret (v := tupT (makeT n d)) ?_ rfl ⟨rfl, by (repeat (first | exact Ex.refl _ | assumption | apply Ex.drew | apply Ex.drewN | apply Ex.alloc | (refine Ex.setCell ?_ (by simp; try omega) _) | (refine Ex.call ?_ (by assumption))))⟩
       rw [hm.out]; simp [results, Try.results18, go_sem, tupT])
    · have hm : makeT n d = madeR n.natAbs d.natAbs := by rw [makeT, if_neg hd, if_neg hs]
      rw [hm]
      refine Make_made n d h1 h2 hd ?_ w
      by_cases h0 : n = 0
      · exact .inl h0
      · exact .inr (by simpa [h0] using hs)

end Go.Proofs.Ytjheegdkngkhaaa
