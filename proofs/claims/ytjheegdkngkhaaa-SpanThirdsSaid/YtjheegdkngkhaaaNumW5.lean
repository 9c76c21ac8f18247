/- Walks of the reference's greatest divisor, and of what is made of two numbers. -/
import Derived.Test.YtjheegdkngkhaaaNumW4
set_option linter.unusedVariables false
set_option linter.unusedSimpArgs false
set_option linter.unusedSectionVars false
namespace Go.Proofs.Ytjheegdkngkhaaa
open Go.RowKit

theorem dg_pos_len {n : Nat} : 0 < (dg n).length ↔ 0 < n := by
  by_cases h : n = 0
  · subst h; simp [dg_zero]
  · rw [dg_pos (by omega)]; simp; omega

set_option maxHeartbeats 1000000 in
theorem Gcd_any {a b : Nat} {v u : Value} {w : World} (hv : IsN w v a) (hu : IsN w u b) (hla : (dg a).length ≤ 900) (hlb : (dg b).length ≤ 900) :
    Calls Try.prog 34 #[v, u] w fun e w' => (∃ v', e = .returned v' ∧ IsN w' v' (Nat.gcd a b)) ∧ Ex w w' := by
  go_enter Try.func34, Try.ntmps34
  go_wp2
  go_loopg [0, 1, 5, 6] b (fun k x y _ _ wr => ∃ p q : Nat, q ≤ k ∧ IsN wr x p ∧ IsN wr y q ∧ (dg p).length ≤ 900 ∧ (dg q).length ≤ 900 ∧ Nat.gcd p q = Nat.gcd a b ∧ Ex w wr)
  case atStart => exact ⟨a, b, Nat.le_refl _, hv, hu, hla, hlb, rfl, Ex.refl _⟩
  case round =>
    obtain ⟨p, q, hqk, hp, hq, hlp, hlq, hg, hx⟩ := hrel
    have hg := Lib.hid hg
    obtain ⟨pq, cq, rfl, hq1⟩ := id hq
    have hpos := dg_pos_len (n := q)
    by_cases h0 : 0 < q
    · have h1 := hpos.2 h0
      clear hpos
      go_wp2_with fail
      refine (Div_any hp hq h0 (by omega) hlq).mono ?_
      rintro e w1 ⟨⟨vq, vr, rfl, hvq, hvr⟩, hx1⟩
      have hq2 := hq.mono hx1
      have hlr : (dg (p % q)).length ≤ 900 := Nat.le_trans (len_dg_mono (Nat.le_of_lt (Nat.mod_lt _ h0))) hlq
      have hmod := Nat.mod_lt p h0
      go_wp2_with fail
      go_roundg (p % q)
      case rel => exact ⟨q, p % q, Nat.le_refl _, hq2, hvr, hlq, hlr, by rw [← hg.out, Nat.gcd_comm p q, Nat.gcd_rec q p]; exact Nat.gcd_comm _ _, Ex.call hx hx1⟩
      case measure => omega
    · have h1 : q = 0 := by omega
      subst h1
      have h2 : (dg 0).length = 0 := by simp [dg_zero]
      clear hpos
      go_wp2_with fail
      go_ret
      exact ⟨⟨_, rfl, by rw [← hg.out]; simpa using hp⟩, hx⟩

/-- The greatest int. -/
def maxI : Nat := 9223372036854775807
theorem le_maxI {n : Nat} (h : ¬ maxI < n) : n ≤ 9223372036854775807 := Nat.le_of_not_lt h
theorem most_any (w : World) : Calls Try.prog 61 #[] w fun e w' => (∃ v', e = .returned v' ∧ IsN w' v' maxI) ∧ Ex w w' := by
  go_enter Try.func61, Try.ntmps61
  go_wp2_with fail
  refine (FromI_any _ (by omega) (by omega) _).mono ?_
  rintro e w1 ⟨⟨v', rfl, hv⟩, hx⟩
  have hv := Lib.hid hv
  go_wp2_with fail
  go_ret
  exact ⟨⟨_, rfl, hv.out⟩, hx⟩

/-- What is made of n and d. -/
def madeR (n d : Nat) : Int × Int × Int :=
  if maxI < n / Nat.gcd n d ∨ maxI < d / Nat.gcd n d then (0, 0, 2) else (((n / Nat.gcd n d : Nat) : Int), ((d / Nat.gcd n d : Nat) : Int), 0)
theorem icmp_gt (x y : Nat) : 0 < icmp x y ↔ y < x := by have := icmp_le x y; omega

set_option maxHeartbeats 1000000 in
theorem made_any {n d : Nat} {v u : Value} {w : World} (hv : IsN w v n) (hu : IsN w u d) (hd : 0 < d) (hla : (dg n).length ≤ 900) (hlb : (dg d).length ≤ 900) :
    Calls Try.prog 43 #[v, u] w fun e w' => e = .returned (.tuple #[.agg #[.int .i64 (madeR n d).1, .int .i64 (madeR n d).2.1], .int .i64 (madeR n d).2.2]) ∧ Ex w w' := by
  have hg := Nat.gcd_pos_of_pos_right n hd
  have hgl : (dg (Nat.gcd n d)).length ≤ 900 := Nat.le_trans (len_dg_mono (Nat.gcd_le_right n hd)) hlb
  have hmr : Hid (madeR n d = if maxI < n / Nat.gcd n d ∨ maxI < d / Nat.gcd n d then (0, 0, 2) else (((n / Nat.gcd n d : Nat) : Int), ((d / Nat.gcd n d : Nat) : Int), 0)) := rfl
  go_enter Try.func43, Try.ntmps43
  go_wp2_with fail
  refine (Gcd_any (hv.mono (Ex.refl w).alloc) (hu.mono (Ex.refl w).alloc) hla hlb).mono ?_
  rintro e w1 ⟨⟨v1, rfl, hv1⟩, hx1⟩
  obtain ⟨hc1, hf1⟩ := hx1.facts2; have hz1 := hx1.size; (try simp only [World.size_drew] at hz1 hc1 hf1); (try simp only [World.size_drewN] at hz1 hc1 hf1); (try simp only [World.size_setCell] at hz1 hc1 hf1); (try simp only [World.size_alloc] at hz1 hc1 hf1); (try simp only [World.size_drew] at hz1 hc1 hf1); (try simp only [World.size_drewN] at hz1 hc1 hf1); (try simp only [World.size_setCell] at hz1 hc1 hf1); (try simp only [World.size_alloc] at hz1 hc1 hf1); (try simp only [World.cell?_drew] at hz1 hc1 hf1); (try simp only [World.frozen?_drew] at hz1 hc1 hf1); (try simp only [World.cell?_drewN] at hz1 hc1 hf1); (try simp only [World.frozen?_drewN] at hz1 hc1 hf1); (try (have hy10 : w.heap.size < w1.heap.size := by omega)); (try (have hy11 : w.heap.size + 1 < w1.heap.size := by omega)); (try (have hy12 : w.heap.size + 2 < w1.heap.size := by omega)); (try (have hy13 : w.heap.size + 3 < w1.heap.size := by omega))
  go_wp2_with fail
  refine (Div_any (hv.mono (Ex.call (Ex.refl w).alloc hx1)) hv1 hg (by omega) hgl).mono ?_
  rintro e w2 ⟨⟨v2, v2', rfl, hv2, -⟩, hx2⟩
  obtain ⟨hc2, hf2⟩ := hx2.facts2; have hz2 := hx2.size; (try simp only [World.size_drew] at hz2 hc2 hf2); (try simp only [World.size_drewN] at hz2 hc2 hf2); (try simp only [World.size_setCell] at hz2 hc2 hf2); (try simp only [World.size_alloc] at hz2 hc2 hf2); (try simp only [World.size_drew] at hz2 hc2 hf2); (try simp only [World.size_drewN] at hz2 hc2 hf2); (try simp only [World.size_setCell] at hz2 hc2 hf2); (try simp only [World.size_alloc] at hz2 hc2 hf2); (try simp only [World.cell?_drew] at hz2 hc2 hf2); (try simp only [World.frozen?_drew] at hz2 hc2 hf2); (try simp only [World.cell?_drewN] at hz2 hc2 hf2); (try simp only [World.frozen?_drewN] at hz2 hc2 hf2); (try (have hy20 : w.heap.size < w2.heap.size := by omega)); (try (have hy21 : w.heap.size + 1 < w2.heap.size := by omega)); (try (have hy22 : w.heap.size + 2 < w2.heap.size := by omega)); (try (have hy23 : w.heap.size + 3 < w2.heap.size := by omega))
  go_wp2_with fail
  refine (Div_any (hu.mono (Ex.call (Ex.call (Ex.refl w).alloc hx1) hx2)) (hv1.mono hx2) hg (by omega) hgl).mono ?_
  rintro e w3 ⟨⟨v3, v3', rfl, hv3, -⟩, hx3⟩
  obtain ⟨hc3, hf3⟩ := hx3.facts2; have hz3 := hx3.size; (try simp only [World.size_drew] at hz3 hc3 hf3); (try simp only [World.size_drewN] at hz3 hc3 hf3); (try simp only [World.size_setCell] at hz3 hc3 hf3); (try simp only [World.size_alloc] at hz3 hc3 hf3); (try simp only [World.size_drew] at hz3 hc3 hf3); (try simp only [World.size_drewN] at hz3 hc3 hf3); (try simp only [World.size_setCell] at hz3 hc3 hf3); (try simp only [World.size_alloc] at hz3 hc3 hf3); (try simp only [World.cell?_drew] at hz3 hc3 hf3); (try simp only [World.frozen?_drew] at hz3 hc3 hf3); (try simp only [World.cell?_drewN] at hz3 hc3 hf3); (try simp only [World.frozen?_drewN] at hz3 hc3 hf3); (try (have hy30 : w.heap.size < w3.heap.size := by omega)); (try (have hy31 : w.heap.size + 1 < w3.heap.size := by omega)); (try (have hy32 : w.heap.size + 2 < w3.heap.size := by omega)); (try (have hy33 : w.heap.size + 3 < w3.heap.size := by omega))
  generalize n / Nat.gcd n d = qa at *
  generalize d / Nat.gcd n d = qb at *
  have hv2 := hv2.mono hx3
  go_wp2_with fail
  refine (most_any _).mono ?_
  rintro e w4 ⟨⟨v4, rfl, hv4⟩, hx4⟩
  obtain ⟨hc4, hf4⟩ := hx4.facts2; have hz4 := hx4.size; (try simp only [World.size_drew] at hz4 hc4 hf4); (try simp only [World.size_drewN] at hz4 hc4 hf4); (try simp only [World.size_setCell] at hz4 hc4 hf4); (try simp only [World.size_alloc] at hz4 hc4 hf4); (try simp only [World.size_drew] at hz4 hc4 hf4); (try simp only [World.size_drewN] at hz4 hc4 hf4); (try simp only [World.size_setCell] at hz4 hc4 hf4); (try simp only [World.size_alloc] at hz4 hc4 hf4); (try simp only [World.cell?_drew] at hz4 hc4 hf4); (try simp only [World.frozen?_drew] at hz4 hc4 hf4); (try simp only [World.cell?_drewN] at hz4 hc4 hf4); (try simp only [World.frozen?_drewN] at hz4 hc4 hf4); (try (have hy40 : w.heap.size < w4.heap.size := by omega)); (try (have hy41 : w.heap.size + 1 < w4.heap.size := by omega)); (try (have hy42 : w.heap.size + 2 < w4.heap.size := by omega)); (try (have hy43 : w.heap.size + 3 < w4.heap.size := by omega))
  go_wp2_with fail
  refine (NCmp_any (hv2.mono hx4) hv4).mono ?_
  rintro e w_ ⟨rfl, n5, rfl⟩
  have hv2' := Lib.hid (hv2.mono hx4)
  have hv3' := Lib.hid (hv3.mono hx4)
  have hic := icmp_gt qa maxI
  generalize icmp (qa : Int) maxI = ic at *
  by_cases h1 : maxI < qa
  · have h2 := hic.2 h1
    have hm : Hid (madeR n d = (0, 0, 2)) := by show _ = _; rw [hmr.out]; simp [h1]
    clear hic h1 hmr
    go_wp2_with fail
    refine bodyPost_ret (v := .tuple #[.agg #[.int .i64 0, .int .i64 0], .int .i64 2]) ?_ rfl ⟨by rw [hm.out], ?_⟩
    · simp [results, Try.results43, go_sem, *]
    · (repeat (first | exact Ex.refl _ | assumption | apply Ex.drew | apply Ex.drewN | apply Ex.alloc | (refine Ex.setCell ?_ (by simp; try omega) _) | (refine Ex.call ?_ (by assumption))))
  · have h2 : ¬ 0 < ic := fun hh => h1 (hic.1 hh)
    have h1' := Lib.hid h1
    have h2' : decide (0 < ic) = false := by simp [h2]
    clear hic h1 h2
    go_wp2_with fail
    refine (most_any _).mono ?_
    rintro e w5 ⟨⟨v5, rfl, hv5⟩, hx5⟩
    obtain ⟨hc5, hf5⟩ := hx5.facts2; have hz5 := hx5.size; (try simp only [World.size_drew] at hz5 hc5 hf5); (try simp only [World.size_drewN] at hz5 hc5 hf5); (try simp only [World.size_setCell] at hz5 hc5 hf5); (try simp only [World.size_alloc] at hz5 hc5 hf5); (try simp only [World.size_drew] at hz5 hc5 hf5); (try simp only [World.size_drewN] at hz5 hc5 hf5); (try simp only [World.size_setCell] at hz5 hc5 hf5); (try simp only [World.size_alloc] at hz5 hc5 hf5); (try simp only [World.cell?_drew] at hz5 hc5 hf5); (try simp only [World.frozen?_drew] at hz5 hc5 hf5); (try simp only [World.cell?_drewN] at hz5 hc5 hf5); (try simp only [World.frozen?_drewN] at hz5 hc5 hf5); (try (have hy50 : w.heap.size < w5.heap.size := by omega)); (try (have hy51 : w.heap.size + 1 < w5.heap.size := by omega)); (try (have hy52 : w.heap.size + 2 < w5.heap.size := by omega)); (try (have hy53 : w.heap.size + 3 < w5.heap.size := by omega))
    go_wp2_with fail
    refine (NCmp_any (hv3'.out.mono (Ex.call (Ex.refl _).drewN hx5)) hv5).mono ?_
    rintro e w_ ⟨rfl, n6, rfl⟩
    have hv2'' := Lib.hid (hv2'.out.mono (Ex.call (Ex.refl _).drewN hx5))
    have hv3'' := Lib.hid (hv3'.out.mono (Ex.call (Ex.refl _).drewN hx5))
    have hid := icmp_gt qb maxI
    generalize icmp (qb : Int) maxI = id at *
    by_cases h3 : maxI < qb
    · have h4 := hid.2 h3
      have hm : Hid (madeR n d = (0, 0, 2)) := by show _ = _; rw [hmr.out]; simp [h3]
      clear hid h3 hmr
      go_wp2_with fail
      refine bodyPost_ret (v := .tuple #[.agg #[.int .i64 0, .int .i64 0], .int .i64 2]) ?_ rfl ⟨by rw [hm.out], ?_⟩
      · simp [results, Try.results43, go_sem, *]
      · (repeat (first | exact Ex.refl _ | assumption | apply Ex.drew | apply Ex.drewN | apply Ex.alloc | (refine Ex.setCell ?_ (by simp; try omega) _) | (refine Ex.call ?_ (by assumption))))
    · have h4 : decide (0 < id) = false := by have : ¬ 0 < id := fun hh => h3 (hid.1 hh)
                                              simp [this]
      have hm : Hid (madeR n d = ((qa : Int), (qb : Int), 0)) := by show _ = _; rw [hmr.out]; simp [h1'.out, h3]
      have h3' := Lib.hid h3
      clear hid h3 hmr
      go_wp2_with fail
      refine (Int_any (hv2''.out.mono (Ex.refl _).drewN) (le_maxI h1'.out)).mono ?_
      rintro e w_ ⟨rfl, rfl⟩
      go_wp2_with fail
      refine (Int_any (hv3''.out.mono (Ex.refl _).drewN) (le_maxI h3'.out)).mono ?_
      rintro e w_ ⟨rfl, rfl⟩
      go_wp2_with fail
      refine bodyPost_ret (v := .tuple #[.agg #[.int .i64 qa, .int .i64 qb], .int .i64 0]) ?_ rfl ⟨by rw [hm.out], ?_⟩
      · simp [results, Try.results43, go_sem, *]
      · (repeat (first | exact Ex.refl _ | assumption | apply Ex.drew | apply Ex.drewN | apply Ex.alloc | (refine Ex.setCell ?_ (by simp; try omega) _) | (refine Ex.call ?_ (by assumption))))
end Go.Proofs.Ytjheegdkngkhaaa
