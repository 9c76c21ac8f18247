/- Sums and differences, whole; the laws SpanSums and SpanBack walked. Conditions: the numbers lie in an int's range. -/
import Derived.Test.YtjheegdkngkhaaaSpanI
set_option linter.unusedVariables false
set_option linter.unusedSimpArgs false
set_option linter.unusedSectionVars false
namespace Go.Proofs.Ytjheegdkngkhaaa
open Go.RowKit

theorem Add_pc {n1 d1 n2 d2 : Int} (h1 : I64 n1) (h2 : I64 d1) (h3 : I64 n2) (h4 : I64 d2) : PC Try.prog 27 [.agg [.int .i64 n1, .int .i64 d1], .agg [.int .i64 n2, .int .i64 d2]] (tup3 (addT n1 d1 n2 d2)) := by
  by_cases r1 : rightB n1 d1 = true
  · by_cases r2 : rightB n2 d2 = true
    · rcases right_cases h1 h2 r1 with ⟨rfl, rfl⟩ | ⟨a, b, rfl, rfl, hb, ha1, hb1, hg, ht⟩
      · have := Add_e3 h1 h2 h3 h4 r1 r2 (by decide)
        simpa [addT, r2, never_right, show teq 1 0 1 0 = true from rfl] using this
      · rcases right_cases h3 h4 r2 with ⟨rfl, rfl⟩ | ⟨a', b', rfl, rfl, hb', ha1', hb1', hg', ht'⟩
        · have := Add_e4 h1 h2 h3 h4 r1 r2 ht (by decide)
          simpa [addT, r1, never_right, show teq 1 0 1 0 = true from rfl] using this
        · rw [addT_nat hb hb' hg hg', ← sum_law hb hg hg']
          exact Add_fin a b a' b' ha1 hb1 ha1' hb1' hb r1 r2 ht ht' _ rfl _ rfl
    · simp only [Bool.not_eq_true] at r2
      have := Add_e2 h1 h2 h3 h4 r1 r2
      simpa [addT, r2] using this
  · simp only [Bool.not_eq_true] at r1
    have := Add_e1 h1 h2 h3 h4 r1
    simpa [addT, r1] using this
theorem RAdd_pc {n1 d1 n2 d2 : Int} (h1 : I64 n1) (h2 : I64 d1) (h3 : I64 n2) (h4 : I64 d2) : PC Try.prog 29 [.agg [.int .i64 n1, .int .i64 d1], .agg [.int .i64 n2, .int .i64 d2]] (tup3 (addT n1 d1 n2 d2)) := by
  by_cases r1 : rightB n1 d1 = true
  · by_cases r2 : rightB n2 d2 = true
    · rcases right_cases h1 h2 r1 with ⟨rfl, rfl⟩ | ⟨a, b, rfl, rfl, hb, ha1, hb1, hg, ht⟩
      · have := RAdd_e3 h1 h2 h3 h4 r1 r2 (by decide)
        simpa [addT, r2, never_right, show teq 1 0 1 0 = true from rfl] using this
      · rcases right_cases h3 h4 r2 with ⟨rfl, rfl⟩ | ⟨a', b', rfl, rfl, hb', ha1', hb1', hg', ht'⟩
        · have := RAdd_e4 h1 h2 h3 h4 r1 r2 ht (by decide)
          simpa [addT, r1, never_right, show teq 1 0 1 0 = true from rfl] using this
        · rw [addT_nat hb hb' hg hg']
          exact RAdd_fin a b a' b' ha1 hb1 ha1' hb1' hb hb' r1 r2 ht ht'
    · simp only [Bool.not_eq_true] at r2
      have := RAdd_e2 h1 h2 h3 h4 r1 r2
      simpa [addT, r2] using this
  · simp only [Bool.not_eq_true] at r1
    have := RAdd_e1 h1 h2 h3 h4 r1
    simpa [addT, r1] using this
theorem le_of_icmp {x y : Nat} (h : ¬ icmp (x : Int) (y : Int) < 0) : y ≤ x := by
  unfold icmp at h
  split at h
  · omega
  · omega
theorem Sub_pc {n1 d1 n2 d2 : Int} (h1 : I64 n1) (h2 : I64 d1) (h3 : I64 n2) (h4 : I64 d2) : PC Try.prog 28 [.agg [.int .i64 n1, .int .i64 d1], .agg [.int .i64 n2, .int .i64 d2]] (tup3 (subT n1 d1 n2 d2)) := by
  by_cases r1 : rightB n1 d1 = true
  · by_cases r2 : rightB n2 d2 = true
    · by_cases t2 : teq n2 d2 1 0 = true
      · have := Sub_e3 h1 h2 h3 h4 r1 r2 t2
        simpa [subT, r1, r2, t2] using this
      · simp only [Bool.not_eq_true] at t2
        by_cases hc : decide (cmpT n1 d1 n2 d2 < 0) = true
        · have := Sub_e4 h1 h2 h3 h4 r1 r2 t2 rfl hc
          have hc' : cmpT n1 d1 n2 d2 < 0 := by simpa using hc
          simpa [subT, r1, r2, hc'] using this
        · simp only [Bool.not_eq_true] at hc
          have hc' : ¬ cmpT n1 d1 n2 d2 < 0 := by simpa using hc
          by_cases t1 : teq n1 d1 1 0 = true
          · have := Sub_e5 h1 h2 h3 h4 r1 r2 t2 rfl hc t1
            simpa [subT, r1, r2, t2, hc', t1] using this
          · simp only [Bool.not_eq_true] at t1
            rcases right_cases h1 h2 r1 with ⟨rfl, rfl⟩ | ⟨a, b, rfl, rfl, hb, ha1, hb1, hg, ht⟩
            · cases t1
            · rcases right_cases h3 h4 r2 with ⟨rfl, rfl⟩ | ⟨a', b', rfl, rfl, hb', ha1', hb1', hg', ht'⟩
              · cases t2
              · have hle : a' * b ≤ a * b' := le_of_icmp (by rw [← cmp_nat hb hb' hg hg']; exact hc')
                obtain ⟨k1, k2⟩ := dif_law hb hg hg' hle
                rw [subT_nat hb hb' hg hg' hle, ← k2]
                exact Sub_fin a b a' b' ha1 hb1 ha1' hb1' hb r1 r2 ht ht' _ rfl hc' _ rfl _ rfl k1
    · simp only [Bool.not_eq_true] at r2
      have := Sub_e2 h1 h2 h3 h4 r1 r2
      simpa [subT, r2] using this
  · simp only [Bool.not_eq_true] at r1
    have := Sub_e1 h1 h2 h3 h4 r1
    simpa [subT, r1] using this
theorem RSub_pc {n1 d1 n2 d2 : Int} (h1 : I64 n1) (h2 : I64 d1) (h3 : I64 n2) (h4 : I64 d2) : PC Try.prog 30 [.agg [.int .i64 n1, .int .i64 d1], .agg [.int .i64 n2, .int .i64 d2]] (tup3 (subT n1 d1 n2 d2)) := by
  by_cases r1 : rightB n1 d1 = true
  · by_cases r2 : rightB n2 d2 = true
    · by_cases t2 : teq n2 d2 1 0 = true
      · have := RSub_e3 h1 h2 h3 h4 r1 r2 t2
        simpa [subT, r1, r2, t2] using this
      · simp only [Bool.not_eq_true] at t2
        by_cases hc : decide (cmpT n1 d1 n2 d2 < 0) = true
        · have := RSub_e4 h1 h2 h3 h4 r1 r2 t2 rfl hc
          have hc' : cmpT n1 d1 n2 d2 < 0 := by simpa using hc
          simpa [subT, r1, r2, hc'] using this
        · simp only [Bool.not_eq_true] at hc
          have hc' : ¬ cmpT n1 d1 n2 d2 < 0 := by simpa using hc
          by_cases t1 : teq n1 d1 1 0 = true
          · have := RSub_e5 h1 h2 h3 h4 r1 r2 t2 rfl hc t1
            obtain ⟨rfl, rfl⟩ := teq_eq t1
            simpa [subT, r1, r2, t2, hc', t1] using this
          · simp only [Bool.not_eq_true] at t1
            rcases right_cases h1 h2 r1 with ⟨rfl, rfl⟩ | ⟨a, b, rfl, rfl, hb, ha1, hb1, hg, ht⟩
            · cases t1
            · rcases right_cases h3 h4 r2 with ⟨rfl, rfl⟩ | ⟨a', b', rfl, rfl, hb', ha1', hb1', hg', ht'⟩
              · cases t2
              · have hle : a' * b ≤ a * b' := le_of_icmp (by rw [← cmp_nat hb hb' hg hg']; exact hc')
                rw [subT_nat hb hb' hg hg' hle]
                exact RSub_fin a b a' b' ha1 hb1 ha1' hb1' hb hb' r1 r2 ht ht' _ rfl hc' hle
    · simp only [Bool.not_eq_true] at r2
      have := RSub_e2 h1 h2 h3 h4 r1 r2
      simpa [subT, r2] using this
  · simp only [Bool.not_eq_true] at r1
    have := RSub_e1 h1 h2 h3 h4 r1
    simpa [subT, r1] using this
theorem madeR_err (n d : Nat) : (madeR n d).2.2 = 0 ∨ (madeR n d).2.2 = 2 := by unfold madeR; split <;> simp
theorem addT_err (n d n' d' : Int) : (addT n d n' d').2.2 = 0 ∨ (addT n d n' d').2.2 = 1 ∨ (addT n d n' d').2.2 = 2 := by
  unfold addT
  split
  · split
    · simp
    · rcases madeR_err (n.toNat * d'.toNat + n'.toNat * d.toNat) (d.toNat * d'.toNat) with h | h <;> simp [h]
  · simp
theorem subT_err (n d n' d' : Int) : (subT n d n' d').2.2 = 0 ∨ (subT n d n' d').2.2 = 1 ∨ (subT n d n' d').2.2 = 2 ∨ (subT n d n' d').2.2 = 4 := by
  unfold subT
  split
  · split
    · simp
    · split
      · simp
      · rcases madeR_err (n.toNat * d'.toNat - n'.toNat * d.toNat) (d.toNat * d'.toNat) with h | h <;> simp [h]
  · simp
theorem wrap_small {x : Int} (h : x = 0 ∨ x = 1 ∨ x = 2 ∨ x = 4) : IntKind.i64.wrap x = x := by rcases h with rfl | rfl | rfl | rfl <;> rfl
set_option maxHeartbeats 1000000 in
theorem sums_pc {n1 d1 n2 d2 : Int} (h1 : I64 n1) (h2 : I64 d1) (h3 : I64 n2) (h4 : I64 d2) : PC Try.prog 12 [.agg [.int .i64 n1, .int .i64 d1], .agg [.int .i64 n2, .int .i64 d2]] (.bool true) := by
  have c1 := Add_pc h1 h2 h3 h4
  have c2 := RAdd_pc h1 h2 h3 h4
  have c3 := Sub_pc h1 h2 h3 h4
  have c4 := RSub_pc h1 h2 h3 h4
  have e1 := wrap_small (x := (addT n1 d1 n2 d2).2.2) (by have := addT_err n1 d1 n2 d2; omega)
  have e2 := wrap_small (x := (subT n1 d1 n2 d2).2.2) (by have := subT_err n1 d1 n2 d2; omega)
  generalize addT n1 d1 n2 d2 = A at *
  generalize subT n1 d1 n2 d2 = B at *
  refine pc_of_pwp _ Try.func12 rfl Try.results12 (by kernel_rfl) ?_
  (repeat' (first | (apply th_n) | (apply wp_sq) | (apply wp_blk) | (apply wp_reg) | (apply wp_regd) | (apply nm_and; (kernel_rfl)) | (apply ev_nil) | (apply ev_val; (rfl); (rfl); (simp only [go_sem, Nat.reduceMul, reduceCtorEq, reduceIte, Nat.reduceEqDiff, Nat.reduceLeDiff, Nat.reduceAdd, Nat.reduceSub, tup3, e1, e2, beq_self_eq_true, Bool.and_true] <;> rfl)) | (apply ev_call; (rfl); (rfl); (rfl); (simp only [go_sem, Nat.reduceMul, reduceCtorEq, reduceIte, Nat.reduceEqDiff, Nat.reduceLeDiff, Nat.reduceAdd, Nat.reduceSub, tup3, e1, e2, beq_self_eq_true, Bool.and_true] <;> rfl); (simp only [go_sem, Nat.reduceMul, reduceCtorEq, reduceIte, Nat.reduceEqDiff, Nat.reduceLeDiff, Nat.reduceAdd, Nat.reduceSub, tup3, e1, e2, beq_self_eq_true, Bool.and_true] <;> rfl); (first | exact c1 | exact c2 | exact c3 | exact c4 | exact awake_pc)) | (apply ev_eqf; (rfl); (rfl); (rfl); (simp only [go_sem, Nat.reduceMul, reduceCtorEq, reduceIte, Nat.reduceEqDiff, Nat.reduceLeDiff, Nat.reduceAdd, Nat.reduceSub, tup3, e1, e2, beq_self_eq_true, Bool.and_true] <;> rfl); (simp only [go_sem, Nat.reduceMul, reduceCtorEq, reduceIte, Nat.reduceEqDiff, Nat.reduceLeDiff, Nat.reduceAdd, Nat.reduceSub, tup3, e1, e2, beq_self_eq_true, Bool.and_true] <;> rfl); (simp only [go_sem, Nat.reduceMul, reduceCtorEq, reduceIte, Nat.reduceEqDiff, Nat.reduceLeDiff, Nat.reduceAdd, Nat.reduceSub, tup3, e1, e2, beq_self_eq_true, Bool.and_true] <;> rfl); (simp only [go_sem, Nat.reduceMul, reduceCtorEq, reduceIte, Nat.reduceEqDiff, Nat.reduceLeDiff, Nat.reduceAdd, Nat.reduceSub, tup3, e1, e2, beq_self_eq_true, Bool.and_true] <;> rfl); (first | exact Or.inl rfl | exact Or.inr rfl)) | (apply ev_app; (rfl); (rfl); (rfl); (simp only [go_sem, Nat.reduceMul, reduceCtorEq, reduceIte, Nat.reduceEqDiff, Nat.reduceLeDiff, Nat.reduceAdd, Nat.reduceSub, tup3, e1, e2, beq_self_eq_true, Bool.and_true] <;> rfl); (simp only [go_sem, Nat.reduceMul, reduceCtorEq, reduceIte, Nat.reduceEqDiff, Nat.reduceLeDiff, Nat.reduceAdd, Nat.reduceSub, tup3, e1, e2, beq_self_eq_true, Bool.and_true] <;> rfl); (simp only [go_sem, Nat.reduceMul, reduceCtorEq, reduceIte, Nat.reduceEqDiff, Nat.reduceLeDiff, Nat.reduceAdd, Nat.reduceSub, tup3, e1, e2, beq_self_eq_true, Bool.and_true] <;> rfl); (simp only [go_sem, Nat.reduceMul, reduceCtorEq, reduceIte, Nat.reduceEqDiff, Nat.reduceLeDiff, Nat.reduceAdd, Nat.reduceSub, tup3, e1, e2, beq_self_eq_true, Bool.and_true] <;> rfl); (simp only [go_sem, Nat.reduceMul, reduceCtorEq, reduceIte, Nat.reduceEqDiff, Nat.reduceLeDiff, Nat.reduceAdd, Nat.reduceSub, tup3, e1, e2, beq_self_eq_true, Bool.and_true] <;> rfl); (rfl); (decide); (first | rfl | (simp only [go_sem, Nat.reduceMul, reduceCtorEq, reduceIte, Nat.reduceEqDiff, Nat.reduceLeDiff, Nat.reduceAdd, Nat.reduceSub, List.length_append, List.length_map]; done) | (simp; done) | (simp; omega)); (first | (simp only [go_sem, Nat.reduceMul, reduceCtorEq, reduceIte, Nat.reduceEqDiff, Nat.reduceLeDiff, Nat.reduceAdd, Nat.reduceSub]; done) | omega | (simp; omega)); (first | (simp only [go_sem, Nat.reduceMul, reduceCtorEq, reduceIte, Nat.reduceEqDiff, Nat.reduceLeDiff, Nat.reduceAdd, Nat.reduceSub]; done) | omega | (simp; omega))) | (apply ev_app0; (rfl); (rfl); (rfl); (simp only [go_sem, Nat.reduceMul, reduceCtorEq, reduceIte, Nat.reduceEqDiff, Nat.reduceLeDiff, Nat.reduceAdd, Nat.reduceSub, tup3, e1, e2, beq_self_eq_true, Bool.and_true] <;> rfl); (simp only [go_sem, Nat.reduceMul, reduceCtorEq, reduceIte, Nat.reduceEqDiff, Nat.reduceLeDiff, Nat.reduceAdd, Nat.reduceSub, tup3, e1, e2, beq_self_eq_true, Bool.and_true] <;> rfl); (simp only [go_sem, Nat.reduceMul, reduceCtorEq, reduceIte, Nat.reduceEqDiff, Nat.reduceLeDiff, Nat.reduceAdd, Nat.reduceSub, tup3, e1, e2, beq_self_eq_true, Bool.and_true] <;> rfl); (simp only [go_sem, Nat.reduceMul, reduceCtorEq, reduceIte, Nat.reduceEqDiff, Nat.reduceLeDiff, Nat.reduceAdd, Nat.reduceSub, tup3, e1, e2, beq_self_eq_true, Bool.and_true] <;> rfl); (simp only [go_sem, Nat.reduceMul, reduceCtorEq, reduceIte, Nat.reduceEqDiff, Nat.reduceLeDiff, Nat.reduceAdd, Nat.reduceSub, tup3, e1, e2, beq_self_eq_true, Bool.and_true] <;> rfl); (rfl); (decide); (first | rfl | (simp only [go_sem, Nat.reduceMul, reduceCtorEq, reduceIte, Nat.reduceEqDiff, Nat.reduceLeDiff, Nat.reduceAdd, Nat.reduceSub, List.length_append, List.length_map]; done) | (simp; done) | (simp; omega)); (first | (simp only [go_sem, Nat.reduceMul, reduceCtorEq, reduceIte, Nat.reduceEqDiff, Nat.reduceLeDiff, Nat.reduceAdd, Nat.reduceSub]; done) | omega | (simp; omega)); (first | (simp only [go_sem, Nat.reduceMul, reduceCtorEq, reduceIte, Nat.reduceEqDiff, Nat.reduceLeDiff, Nat.reduceAdd, Nat.reduceSub]; done) | omega | (simp; omega))) | (apply ev_wr; (rfl); (rfl); (simp only [go_sem, Nat.reduceMul, reduceCtorEq, reduceIte, Nat.reduceEqDiff, Nat.reduceLeDiff, Nat.reduceAdd, Nat.reduceSub, tup3, e1, e2, beq_self_eq_true, Bool.and_true] <;> rfl)) | (apply ev_st; (rfl); (rfl); (simp only [go_sem, Nat.reduceMul, reduceCtorEq, reduceIte, Nat.reduceEqDiff, Nat.reduceLeDiff, Nat.reduceAdd, Nat.reduceSub, tup3, e1, e2, beq_self_eq_true, Bool.and_true] <;> rfl)) | (apply ev_yes; (rfl); (rfl); (simp only [go_sem, Nat.reduceMul, reduceCtorEq, reduceIte, Nat.reduceEqDiff, Nat.reduceLeDiff, Nat.reduceAdd, Nat.reduceSub, tup3, e1, e2, beq_self_eq_true, Bool.and_true] <;> rfl)) | (apply ev_no; (rfl); (rfl); (first | (refine Or.inl ?_; simp only [go_sem, Nat.reduceMul, reduceCtorEq, reduceIte, Nat.reduceEqDiff, Nat.reduceLeDiff, Nat.reduceAdd, Nat.reduceSub, tup3, e1, e2, beq_self_eq_true, Bool.and_true] <;> rfl) | (refine Or.inr ⟨_, ?_⟩; simp only [go_sem, Nat.reduceMul, reduceCtorEq, reduceIte, Nat.reduceEqDiff, Nat.reduceLeDiff, Nat.reduceAdd, Nat.reduceSub, tup3, e1, e2, beq_self_eq_true, Bool.and_true] <;> rfl))) | (apply ev_guard; (rfl); (rfl); (simp only [go_sem, Nat.reduceMul, reduceCtorEq, reduceIte, Nat.reduceEqDiff, Nat.reduceLeDiff, Nat.reduceAdd, Nat.reduceSub, tup3, e1, e2, beq_self_eq_true, Bool.and_true] <;> rfl); (intro _); rotate_left; (intro _); rotate_right) | (apply wp_ift; (simp only [go_sem, Nat.reduceMul, reduceCtorEq, reduceIte, Nat.reduceEqDiff, Nat.reduceLeDiff, Nat.reduceAdd, Nat.reduceSub, tup3, e1, e2, beq_self_eq_true, Bool.and_true] <;> rfl)) | (apply wp_iff; (simp only [go_sem, Nat.reduceMul, reduceCtorEq, reduceIte, Nat.reduceEqDiff, Nat.reduceLeDiff, Nat.reduceAdd, Nat.reduceSub, tup3, e1, e2, beq_self_eq_true, Bool.and_true] <;> rfl)) | (apply wp_if; (simp only [go_sem, Nat.reduceMul, reduceCtorEq, reduceIte, Nat.reduceEqDiff, Nat.reduceLeDiff, Nat.reduceAdd, Nat.reduceSub, tup3, e1, e2, beq_self_eq_true, Bool.and_true] <;> rfl); (intro _); rotate_left; (intro _); rotate_right) | (apply th_r) | (apply th_e) | (apply bl_n) | (apply bl_r) | (apply bl_e) | (apply bl_o; (rfl)) | (apply wp_sk) | (apply wp_lb) | (apply wp_rt) | (apply wp_ex) | (apply bq_r; (simp only [go_sem, Nat.reduceMul, reduceCtorEq, reduceIte, Nat.reduceEqDiff, Nat.reduceLeDiff, Nat.reduceAdd, Nat.reduceSub, tup3, e1, e2, beq_self_eq_true, Bool.and_true] <;> rfl)) | (apply bq_n; (simp only [go_sem, Nat.reduceMul, reduceCtorEq, reduceIte, Nat.reduceEqDiff, Nat.reduceLeDiff, Nat.reduceAdd, Nat.reduceSub, tup3, e1, e2, beq_self_eq_true, Bool.and_true] <;> rfl))))
  rfl
theorem sums_walk (n1 d1 n2 d2 : Int) (h1 : I64 n1) (h2 : I64 d1) (h3 : I64 n2) (h4 : I64 d2) (w : World) :
    Calls Try.prog 12 #[.agg #[.int .i64 n1, .int .i64 d1], .agg #[.int .i64 n2, .int .i64 d2]] w fun e w' => e = .returned (.bool true) ∧ Ex w w' :=
  calls_of_pc (sums_pc h1 h2 h3 h4) (fun _ _ _ h => rep_bool h) w [.agg #[.int .i64 n1, .int .i64 d1], .agg #[.int .i64 n2, .int .i64 d2]] (gva_eq rfl).2
end Go.Proofs.Ytjheegdkngkhaaa
