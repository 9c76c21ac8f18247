/- Walks of the document's Same and SameType. Conditions: what their parts may be. -/
import Derived.Test.YtefiebkngpcaoaaDoorValF
set_option maxRecDepth 100000
set_option linter.unusedVariables false
set_option linter.unusedSimpArgs false
set_option linter.unusedSectionVars false
namespace Go.Proofs.YtefiebkngpcaoaaDoor
open Go.RowKit

set_option maxHeartbeats 2000000 in
theorem RSameType_pc : ∀ (x y : Typ), x.Ok → y.Ok → PC Tryd.prog 102 [.agg x.cells, .agg y.cells] (.bool (sameT x y))
  | .mk k l, .mk k' l', hx, hy => by
    obtain ⟨hl, hk⟩ := hx.len'
    obtain ⟨hl', hk'⟩ := hy.len'
    have ih : ∀ x ∈ l, ∀ y ∈ l', PC Tryd.prog 102 [.agg (rowT.toC x), .agg (rowT.toC y)] (.bool (sameT x y)) := fun x h1 y h2 => RSameType_pc x y (hk x h1) (hk' y h2)
    rw [Typ.cells_mk, Typ.cells_mk, sameT, sameTL_all2]
    refine pc_of_pwp _ Tryd.func102 rfl Tryd.results102 (by kernel_rfl) ?_
    cases c1 : (k == k')
    · have c1' : (k != k') = true := by simp [bne, c1]
      (repeat' (first|apply th_n|apply wp_sq|apply wp_blk|apply wp_reg|apply wp_regd|(apply nm_and;kernel_rfl)|apply ev_nil|(apply ev_val;rfl;rfl;(simp +decide only [go_sem, c1'] <;> rfl))|(apply ev_wr;rfl;rfl;(simp +decide only [go_sem, c1'] <;> rfl))|(apply ev_st;rfl;rfl;(simp +decide only [go_sem, c1'] <;> rfl))|(apply ev_yes;rfl;rfl;(simp +decide only [go_sem, c1'] <;> rfl))|(apply ev_nt;rfl;rfl;(simp +decide only [go_sem, c1'] <;> rfl))|(apply ev_no;rfl;rfl;(refine Or.inl ?_;(simp +decide only [go_sem, c1'] <;> rfl)))|(apply ev_guard;rfl;rfl;(simp +decide only [go_sem, c1'] <;> rfl);intro _;rotate_left;intro _;rotate_right)|(apply wp_ift;(simp +decide only [go_sem, c1'] <;> rfl))|(apply wp_iff;(simp +decide only [go_sem, c1'] <;> rfl))|(apply wp_ifu;(simp +decide only [go_sem, c1'] <;> rfl);intro _;rotate_left;intro _;rotate_right)|(apply wp_if;(simp +decide only [go_sem, c1'] <;> rfl);intro _;rotate_left;intro _;rotate_right)|apply on_n|apply th_r|apply th_e|apply bl_n|apply bl_r|apply bl_e|(apply bl_o;(rfl))|apply wp_sk|apply wp_lb|apply wp_rt|apply wp_ex|(apply bq_r;(simp +decide only [go_sem, c1'] <;> rfl))|(apply bq_n;(simp +decide only [go_sem, c1'] <;> rfl))))
      rfl
    have c1' : (k != k') = false := by simp [bne, c1]
    clear c1
    by_cases hll : l.length = l'.length
    · have f0 : ((l.length : Int) != (l'.length : Int)) = false := by simp [hll]
      (repeat' (first|apply th_n|apply wp_sq|apply wp_blk|apply wp_reg|apply wp_regd|(apply nm_and;kernel_rfl)|apply ev_nil|(apply ev_val;rfl;rfl;(simp +decide only [go_sem, c1', f0] <;> rfl))|(apply ev_wr;rfl;rfl;(simp +decide only [go_sem, c1', f0] <;> rfl))|(apply ev_st;rfl;rfl;(simp +decide only [go_sem, c1', f0] <;> rfl))|(apply ev_yes;rfl;rfl;(simp +decide only [go_sem, c1', f0] <;> rfl))|(apply ev_nt;rfl;rfl;(simp +decide only [go_sem, c1', f0] <;> rfl))|(apply ev_no;rfl;rfl;(refine Or.inl ?_;(simp +decide only [go_sem, c1', f0] <;> rfl)))|(apply ev_guard;rfl;rfl;(simp +decide only [go_sem, c1', f0] <;> rfl);intro _;rotate_left;intro _;rotate_right)|(apply wp_ift;(simp +decide only [go_sem, c1', f0] <;> rfl))|(apply wp_iff;(simp +decide only [go_sem, c1', f0] <;> rfl))|(apply wp_ifu;(simp +decide only [go_sem, c1', f0] <;> rfl);intro _;rotate_left;intro _;rotate_right)|(apply wp_if;(simp +decide only [go_sem, c1', f0] <;> rfl);intro _;rotate_left;intro _;rotate_right)|apply on_n|apply th_r|apply th_e|apply bl_n|apply bl_r|apply bl_e|(apply bl_o;(rfl))|apply wp_sk|apply wp_lb|apply wp_rt|apply wp_ex|(apply bq_r;(simp +decide only [go_sem, c1', f0] <;> rfl))|(apply bq_n;(simp +decide only [go_sem, c1', f0] <;> rfl))))
      refine wp_lp (fun m f H => ∃ i : Nat, f = frm [(2, .loc 2 0), (3, .loc 3 0), (5, .d (.int .i64 i))] ∧ H = hpm [(2, .box [.d (.int .i64 k), .d (.sl l.length (rowT.cs l))]), (3, .box [.d (.int .i64 k'), .d (.sl l'.length (rowT.cs l'))])] ∧ i ≤ l.length ∧ all2 sameT l l' = all2 sameT (l.drop i) (l'.drop i) ∧ m = l.length - i) l.length _ _
        (Cv.keepH [(2, .loc 2 0), (3, .loc 3 0), (5, .d (.int .i64 0))] [(2, .box [.d (.int .i64 k), .d (.sl l.length (rowT.cs l))]), (3, .box [.d (.int .i64 k'), .d (.sl l'.length (rowT.cs l'))])] (by (repeat' (first | exact trivial | apply And.intro | ((simp +decide only [go_sem] <;> rfl)) | rfl))) (by (repeat' (first | exact trivial | apply And.intro | ((simp +decide only [go_sem] <;> rfl)) | rfl))) rfl) ⟨0, rfl, rfl, by omega, rfl, rfl⟩ ?_
      rintro _ f H ⟨i, rfl, rfl, hi, hall, rfl⟩
      by_cases h : i < l.length
      · obtain ⟨e1, e2, e3⟩ := at_in h
        have h' : i < l'.length := by omega
        have e3' := (at_in h').2.2
        have hx : l[i]? = some l[i] := by simp [h]
        have hy : l'[i]? = some l'[i] := by simp [h']
        obtain ⟨e4, e7⟩ := rowT.rd (n := 2) hx rfl
        obtain ⟨e4', e7'⟩ := rowT.rd (n := 2) hy rfl
        have e5 := wrap_succ h hl
        rw [List.drop_eq_getElem_cons h, List.drop_eq_getElem_cons h'] at hall
        have hc := ih l[i] (List.getElem_mem h) l'[i] (List.getElem_mem h')
        cases hpx : sameT l[i] l'[i]
        · rw [all2, hpx] at hall
          rw [hpx] at hc
          (have hF := And.intro e1 (And.intro e2 (And.intro e3 (And.intro e3' (And.intro e4 (And.intro e7 (And.intro e5 (And.intro e4' e7'))))))); repeat' (first|apply th_n|apply wp_sq|apply wp_blk|apply wp_reg|apply wp_regd|(apply nm_and;kernel_rfl)|apply ev_nil|(apply ev_val;rfl;rfl;(simp +decide only [go_sem, hF] <;> rfl))|(apply ev_call;rfl;rfl;rfl;(simp +decide only [go_sem, hF] <;> rfl);(simp +decide only [go_sem, hF] <;> rfl);(first|exact hc))|(apply ev_wr;rfl;rfl;(simp +decide only [go_sem, hF] <;> rfl))|(apply ev_st;rfl;rfl;(simp +decide only [go_sem, hF] <;> rfl))|(apply ev_yes;rfl;rfl;(simp +decide only [go_sem, hF] <;> rfl))|(apply ev_nt;rfl;rfl;(simp +decide only [go_sem, hF] <;> rfl))|(apply ev_no;rfl;rfl;(refine Or.inl ?_;(simp +decide only [go_sem, hF] <;> rfl)))|(apply ev_guard;rfl;rfl;(simp +decide only [go_sem, hF] <;> rfl);intro _;rotate_left;intro _;rotate_right)|(apply wp_ift;(simp +decide only [go_sem, hF] <;> rfl))|(apply wp_iff;(simp +decide only [go_sem, hF] <;> rfl))|(apply wp_ifu;(simp +decide only [go_sem, hF] <;> rfl);intro _;rotate_left;intro _;rotate_right)|(apply wp_if;(simp +decide only [go_sem, hF] <;> rfl);intro _;rotate_left;intro _;rotate_right)|apply on_n|apply th_r|apply th_e|apply bl_n|apply bl_r|apply bl_e|(apply bl_o;(rfl))|apply wp_sk|apply wp_lb|apply wp_rt|apply wp_ex|(apply bq_r;(simp +decide only [go_sem, hF] <;> rfl))|(apply bq_n;(simp +decide only [go_sem, hF] <;> rfl))))
          rw [hall]; simp [packD]
        · rw [all2, hpx, Bool.true_and] at hall
          rw [hpx] at hc
          (have hF := And.intro e1 (And.intro e2 (And.intro e3 (And.intro e3' (And.intro e4 (And.intro e7 (And.intro e5 (And.intro e4' e7'))))))); repeat' (first|apply th_n|apply wp_sq|apply wp_blk|apply wp_reg|apply wp_regd|(apply nm_and;kernel_rfl)|apply ev_nil|(apply ev_val;rfl;rfl;(simp +decide only [go_sem, hF] <;> rfl))|(apply ev_call;rfl;rfl;rfl;(simp +decide only [go_sem, hF] <;> rfl);(simp +decide only [go_sem, hF] <;> rfl);(first|exact hc))|(apply ev_wr;rfl;rfl;(simp +decide only [go_sem, hF] <;> rfl))|(apply ev_st;rfl;rfl;(simp +decide only [go_sem, hF] <;> rfl))|(apply ev_yes;rfl;rfl;(simp +decide only [go_sem, hF] <;> rfl))|(apply ev_nt;rfl;rfl;(simp +decide only [go_sem, hF] <;> rfl))|(apply ev_no;rfl;rfl;(refine Or.inl ?_;(simp +decide only [go_sem, hF] <;> rfl)))|(apply ev_guard;rfl;rfl;(simp +decide only [go_sem, hF] <;> rfl);intro _;rotate_left;intro _;rotate_right)|(apply wp_ift;(simp +decide only [go_sem, hF] <;> rfl))|(apply wp_iff;(simp +decide only [go_sem, hF] <;> rfl))|(apply wp_ifu;(simp +decide only [go_sem, hF] <;> rfl);intro _;rotate_left;intro _;rotate_right)|(apply wp_if;(simp +decide only [go_sem, hF] <;> rfl);intro _;rotate_left;intro _;rotate_right)|apply on_n|apply th_r|apply th_e|apply bl_n|apply bl_r|apply bl_e|(apply bl_o;(rfl))|apply wp_sk|apply wp_lb|apply wp_rt|apply wp_ex|(apply bq_r;(simp +decide only [go_sem, hF] <;> rfl))|(apply bq_n;(simp +decide only [go_sem, hF] <;> rfl))))
          exact ⟨l.length - (i + 1), _, _, by omega, Cv.keepH [(2, .loc 2 0), (3, .loc 3 0), (5, .d (.int .i64 ((i + 1 : Nat) : Int)))] [(2, .box [.d (.int .i64 k), .d (.sl l.length (rowT.cs l))]), (3, .box [.d (.int .i64 k'), .d (.sl l'.length (rowT.cs l'))])] (by (repeat' (first | exact trivial | apply And.intro | ((simp +decide only [go_sem] <;> rfl)) | rfl))) (by (repeat' (first | exact trivial | apply And.intro | ((simp +decide only [go_sem] <;> rfl)) | rfl))) rfl, i + 1, rfl, rfl, h, hall, rfl⟩
      · have e1 := at_out h
        (repeat' (first|apply th_n|apply wp_sq|apply wp_blk|apply wp_reg|apply wp_regd|(apply nm_and;kernel_rfl)|apply ev_nil|(apply ev_val;rfl;rfl;(simp +decide only [go_sem, e1] <;> rfl))|(apply ev_wr;rfl;rfl;(simp +decide only [go_sem, e1] <;> rfl))|(apply ev_st;rfl;rfl;(simp +decide only [go_sem, e1] <;> rfl))|(apply ev_yes;rfl;rfl;(simp +decide only [go_sem, e1] <;> rfl))|(apply ev_nt;rfl;rfl;(simp +decide only [go_sem, e1] <;> rfl))|(apply ev_no;rfl;rfl;(refine Or.inl ?_;(simp +decide only [go_sem, e1] <;> rfl)))|(apply ev_guard;rfl;rfl;(simp +decide only [go_sem, e1] <;> rfl);intro _;rotate_left;intro _;rotate_right)|(apply wp_ift;(simp +decide only [go_sem, e1] <;> rfl))|(apply wp_iff;(simp +decide only [go_sem, e1] <;> rfl))|(apply wp_ifu;(simp +decide only [go_sem, e1] <;> rfl);intro _;rotate_left;intro _;rotate_right)|(apply wp_if;(simp +decide only [go_sem, e1] <;> rfl);intro _;rotate_left;intro _;rotate_right)|apply on_n|apply th_r|apply th_e|apply bl_n|apply bl_r|apply bl_e|(apply bl_o;(rfl))|apply wp_sk|apply wp_lb|apply wp_rt|apply wp_ex|(apply bq_r;(simp +decide only [go_sem, e1] <;> rfl))|(apply bq_n;(simp +decide only [go_sem, e1] <;> rfl))))
        rw [hall, List.drop_eq_nil_of_le (by omega), List.drop_eq_nil_of_le (by omega)]; simp [packD, all2]
    · have f0 : ((l.length : Int) != (l'.length : Int)) = true := by simp; omega
      (repeat' (first|apply th_n|apply wp_sq|apply wp_blk|apply wp_reg|apply wp_regd|(apply nm_and;kernel_rfl)|apply ev_nil|(apply ev_val;rfl;rfl;(simp +decide only [go_sem, c1', f0] <;> rfl))|(apply ev_wr;rfl;rfl;(simp +decide only [go_sem, c1', f0] <;> rfl))|(apply ev_st;rfl;rfl;(simp +decide only [go_sem, c1', f0] <;> rfl))|(apply ev_yes;rfl;rfl;(simp +decide only [go_sem, c1', f0] <;> rfl))|(apply ev_nt;rfl;rfl;(simp +decide only [go_sem, c1', f0] <;> rfl))|(apply ev_no;rfl;rfl;(refine Or.inl ?_;(simp +decide only [go_sem, c1', f0] <;> rfl)))|(apply ev_guard;rfl;rfl;(simp +decide only [go_sem, c1', f0] <;> rfl);intro _;rotate_left;intro _;rotate_right)|(apply wp_ift;(simp +decide only [go_sem, c1', f0] <;> rfl))|(apply wp_iff;(simp +decide only [go_sem, c1', f0] <;> rfl))|(apply wp_ifu;(simp +decide only [go_sem, c1', f0] <;> rfl);intro _;rotate_left;intro _;rotate_right)|(apply wp_if;(simp +decide only [go_sem, c1', f0] <;> rfl);intro _;rotate_left;intro _;rotate_right)|apply on_n|apply th_r|apply th_e|apply bl_n|apply bl_r|apply bl_e|(apply bl_o;(rfl))|apply wp_sk|apply wp_lb|apply wp_rt|apply wp_ex|(apply bq_r;(simp +decide only [go_sem, c1', f0] <;> rfl))|(apply bq_n;(simp +decide only [go_sem, c1', f0] <;> rfl))))
      rw [all2_len hll]; simp [packD]
termination_by x => SizeOf.sizeOf x
decreasing_by (have := List.sizeOf_lt_of_mem h1; simp; omega)
end Go.Proofs.YtefiebkngpcaoaaDoor
