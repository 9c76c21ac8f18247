/- AstNames, AstExprs, AstNests, AstWalks walked. Conditions: how the arguments came in. -/
import Derived.Test.YtefiebkngpcaoaaDoorAstX
import Derived.Test.YtefiebkngpcaoaaDoorPL2
set_option maxRecDepth 100000
set_option linter.unusedVariables false
set_option linter.unusedSimpArgs false
set_option linter.unusedSectionVars false
namespace Go.Proofs.YtefiebkngpcaoaaDoor
open Go.RowKit

theorem names_pc (s : ByteArray) (hs : s.size ≤ maxLen) : PC Tryd.prog 4 [.str s] (.bool true) := by
  have h1 := Reserved_pc s
  have h2 := RReserved_pc s
  have h3 := Name_pc' s hs
  have h4 := RName_pc' s hs
  refine pc_of_pwp _ Tryd.func4 rfl Tryd.results4 (by kernel_rfl) ?_
  (repeat' (first|apply th_n|apply wp_sq|apply wp_blk|apply wp_reg|apply wp_regd|(apply nm_and;kernel_rfl)|apply ev_nil|(apply ev_val;rfl;rfl;(simp +decide only [go_sem, beq_self_eq_true] <;> rfl))|(apply ev_call;rfl;rfl;rfl;(simp +decide only [go_sem, beq_self_eq_true] <;> rfl);(simp +decide only [go_sem, beq_self_eq_true] <;> rfl);(first|exact awake_pc|exact h1|exact h2|exact h3|exact h4))|(apply ev_wr;rfl;rfl;(simp +decide only [go_sem, beq_self_eq_true] <;> rfl))|(apply ev_st;rfl;rfl;(simp +decide only [go_sem, beq_self_eq_true] <;> rfl))|(apply ev_yes;rfl;rfl;(simp +decide only [go_sem, beq_self_eq_true] <;> rfl))|(apply ev_nt;rfl;rfl;(simp +decide only [go_sem, beq_self_eq_true] <;> rfl))|(apply ev_no;rfl;rfl;(refine Or.inl ?_;(simp +decide only [go_sem, beq_self_eq_true] <;> rfl)))|(apply ev_guard;rfl;rfl;(simp +decide only [go_sem, beq_self_eq_true] <;> rfl);intro _;rotate_left;intro _;rotate_right)|(apply wp_ift;(simp +decide only [go_sem, beq_self_eq_true] <;> rfl))|(apply wp_iff;(simp +decide only [go_sem, beq_self_eq_true] <;> rfl))|(apply wp_ifu;(simp +decide only [go_sem, beq_self_eq_true] <;> rfl);intro _;rotate_left;intro _;rotate_right)|(apply wp_if;(simp +decide only [go_sem, beq_self_eq_true] <;> rfl);intro _;rotate_left;intro _;rotate_right)|apply on_n|apply th_r|apply th_e|apply bl_n|apply bl_r|apply bl_e|(apply bl_o;(rfl))|apply wp_sk|apply wp_lb|apply wp_rt|apply wp_ex|(apply bq_r;(simp +decide only [go_sem, beq_self_eq_true] <;> rfl))|(apply bq_n;(simp +decide only [go_sem, beq_self_eq_true] <;> rfl))))
  rfl
set_option maxHeartbeats 2000000 in
theorem exprs_pc (x y : Exp) (hx : x.Ok) (hy : y.Ok) : PC Tryd.prog 6 [.agg x.cells, .agg y.cells] (.bool true) := by
  have h1 : PC Tryd.prog 11 [.agg x.cells, .int .i64 40, .int .i64 600] _ := expr_pc 40 (by omega) 600 (by omega) (by omega) x hx
  have h2 : PC Tryd.prog 11 [.agg y.cells, .int .i64 40, .int .i64 600] _ := expr_pc 40 (by omega) 600 (by omega) (by omega) y hy
  have h3 := ExprRight_pc x hx
  have h4 : PC Tryd.prog 22 [.agg x.cells, .int .i64 20] _ := RExprRight_pc 20 (by omega) x hx
  have h5 := Nest_pc x hx
  have h6 := RNest_pc x hx
  have h7 := SameExpr_pc x y hx hy
  have h8 := RSameExpr_pc x y hx hy
  generalize exprR 40 600 x = a at *
  generalize exprR 40 600 y = b at *
  generalize eRight 20 x = c at *
  generalize nst 1000 x = d at *
  generalize sameE x y = e at *
  obtain ⟨op, n, a, s, l⟩ := x
  obtain ⟨op', n', a', s', l'⟩ := y
  rw [Exp.cells_mk, Exp.cells_mk] at *
  refine pc_of_pwp _ Tryd.func6 rfl Tryd.results6 (by kernel_rfl) ?_
  (repeat' (first|apply th_n|apply wp_sq|apply wp_blk|apply wp_reg|apply wp_regd|(apply nm_and;kernel_rfl)|apply ev_nil|(apply ev_val;rfl;rfl;(simp +decide only [go_sem, beq_self_eq_true] <;> rfl))|(apply ev_call;rfl;rfl;rfl;(simp +decide only [go_sem, beq_self_eq_true] <;> rfl);(simp +decide only [go_sem, beq_self_eq_true] <;> rfl);(first|exact awake_pc|exact h1|exact h2|exact h3|exact h4|exact h5|exact h6|exact h7|exact h8))|(apply ev_wr;rfl;rfl;(simp +decide only [go_sem, beq_self_eq_true] <;> rfl))|(apply ev_st;rfl;rfl;(simp +decide only [go_sem, beq_self_eq_true] <;> rfl))|(apply ev_yes;rfl;rfl;(simp +decide only [go_sem, beq_self_eq_true] <;> rfl))|(apply ev_nt;rfl;rfl;(simp +decide only [go_sem, beq_self_eq_true] <;> rfl))|(apply ev_no;rfl;rfl;(refine Or.inl ?_;(simp +decide only [go_sem, beq_self_eq_true] <;> rfl)))|(apply ev_guard;rfl;rfl;(simp +decide only [go_sem, beq_self_eq_true] <;> rfl);intro _;rotate_left;intro _;rotate_right)|(apply wp_ift;(simp +decide only [go_sem, beq_self_eq_true] <;> rfl))|(apply wp_iff;(simp +decide only [go_sem, beq_self_eq_true] <;> rfl))|(apply wp_ifu;(simp +decide only [go_sem, beq_self_eq_true] <;> rfl);intro _;rotate_left;intro _;rotate_right)|(apply wp_if;(simp +decide only [go_sem, beq_self_eq_true] <;> rfl);intro _;rotate_left;intro _;rotate_right)|apply on_n|apply th_r|apply th_e|apply bl_n|apply bl_r|apply bl_e|(apply bl_o;(rfl))|apply wp_sk|apply wp_lb|apply wp_rt|apply wp_ex|(apply bq_r;(simp +decide only [go_sem, beq_self_eq_true] <;> rfl))|(apply bq_n;(simp +decide only [go_sem, beq_self_eq_true] <;> rfl))))
  all_goals rfl
set_option maxHeartbeats 2000000 in
theorem nests_pc (x : Exp) (hx : x.Ok) : PC Tryd.prog 5 [.agg x.cells] (.bool true) := by
  have h1 : PC Tryd.prog 11 [.agg x.cells, .int .i64 40, .int .i64 600] _ := expr_pc 40 (by omega) 600 (by omega) (by omega) x hx
  have h3 := ExprRight_pc x hx
  have h5 := Nest_pc x hx
  have h7 := SameExpr_pc x x hx hx
  rw [sameE_refl] at h7
  have hn := expr_nst 40 600 x (by omega)
  obtain ⟨op, n, a, s, l⟩ := x
  obtain ⟨-, -, -, -, hl, hk⟩ := hx.parts
  have g1 : 0 ≤ exprR 40 600 (.mk op n a s l) → nst 1000 (.mk op n a s l) = nstL 1000 l + 1 := fun h => by
    have := (hn h).2 1001 (by omega)
    have h2 := (hn h).2 1000 (by omega)
    have h3 := (hn h).1
    rw [h2, ← this, nst_succ]
    rw [← this, nst_succ] at h3
    omega
  have g2 : eRight 20 (.mk op n a s l) = true → nstL 1000 l < 20 := fun h => by
    have := eRight_nst 20 _ h 1001 (by omega)
    rw [nst_succ] at this
    omega
  have g3 : eRight 20 (.mk op n a s l) = true → ∀ y ∈ l, eRight 20 y = true := fun h y hy => by
    rw [eRight, Bool.and_eq_true, List.all_eq_true] at h
    exact eRight_mono 19 y (h.2 y hy)
  have i1 : ∀ y ∈ l, PC Tryd.prog 19 [.agg (rowE.toC y)] (.int .i64 (nst 1000 y)) := fun y hy => Nest_pc y (hk y hy)
  have i2 : ∀ y ∈ l, PC Tryd.prog 20 [.agg (rowE.toC y)] (.bool (eRight 20 y)) := fun y hy => ExprRight_pc y (hk y hy)
  clear hn
  generalize exprR 40 600 (.mk op n a s l) = r at *
  generalize eRight 20 (.mk op n a s l) = c at *
  generalize nst 1000 (.mk op n a s l) = d at *
  rw [Exp.cells_mk] at *
  refine pc_of_pwp _ Tryd.func5 rfl Tryd.results5 (by kernel_rfl) ?_
  by_cases hr : r < 0
  · have e1 : decide (r < 0) = true := decide_eq_true hr
    (repeat' (first|apply th_n|apply wp_sq|apply wp_blk|apply wp_reg|apply wp_regd|(apply nm_and;kernel_rfl)|apply ev_nil|(apply ev_val;rfl;rfl;(simp +decide only [go_sem, e1] <;> rfl))|(apply ev_call;rfl;rfl;rfl;(simp +decide only [go_sem, e1] <;> rfl);(simp +decide only [go_sem, e1] <;> rfl);(first|exact awake_pc|exact h1))|(apply ev_wr;rfl;rfl;(simp +decide only [go_sem, e1] <;> rfl))|(apply ev_st;rfl;rfl;(simp +decide only [go_sem, e1] <;> rfl))|(apply ev_yes;rfl;rfl;(simp +decide only [go_sem, e1] <;> rfl))|(apply ev_nt;rfl;rfl;(simp +decide only [go_sem, e1] <;> rfl))|(apply ev_no;rfl;rfl;(refine Or.inl ?_;(simp +decide only [go_sem, e1] <;> rfl)))|(apply ev_guard;rfl;rfl;(simp +decide only [go_sem, e1] <;> rfl);intro _;rotate_left;intro _;rotate_right)|(apply wp_ift;(simp +decide only [go_sem, e1] <;> rfl))|(apply wp_iff;(simp +decide only [go_sem, e1] <;> rfl))|(apply wp_ifu;(simp +decide only [go_sem, e1] <;> rfl);intro _;rotate_left;intro _;rotate_right)|(apply wp_if;(simp +decide only [go_sem, e1] <;> rfl);intro _;rotate_left;intro _;rotate_right)|apply on_n|apply th_r|apply th_e|apply bl_n|apply bl_r|apply bl_e|(apply bl_o;(rfl))|apply wp_sk|apply wp_lb|apply wp_rt|apply wp_ex|(apply bq_r;(simp +decide only [go_sem, e1] <;> rfl))|(apply bq_n;(simp +decide only [go_sem, e1] <;> rfl))))
    rfl
  have e1 : decide (r < 0) = false := decide_eq_false hr
  have g1 := g1 (by omega)
  (repeat' (first|apply th_n|apply wp_sq|apply wp_blk|apply wp_reg|apply wp_regd|(apply nm_and;kernel_rfl)|apply ev_nil|(apply ev_val;rfl;rfl;(simp +decide only [go_sem, e1] <;> rfl))|(apply ev_call;rfl;rfl;rfl;(simp +decide only [go_sem, e1] <;> rfl);(simp +decide only [go_sem, e1] <;> rfl);(first|exact awake_pc|exact h1))|(apply ev_wr;rfl;rfl;(simp +decide only [go_sem, e1] <;> rfl))|(apply ev_st;rfl;rfl;(simp +decide only [go_sem, e1] <;> rfl))|(apply ev_yes;rfl;rfl;(simp +decide only [go_sem, e1] <;> rfl))|(apply ev_nt;rfl;rfl;(simp +decide only [go_sem, e1] <;> rfl))|(apply ev_no;rfl;rfl;(refine Or.inl ?_;(simp +decide only [go_sem, e1] <;> rfl)))|(apply ev_guard;rfl;rfl;(simp +decide only [go_sem, e1] <;> rfl);intro _;rotate_left;intro _;rotate_right)|(apply wp_ift;(simp +decide only [go_sem, e1] <;> rfl))|(apply wp_iff;(simp +decide only [go_sem, e1] <;> rfl))|(apply wp_ifu;(simp +decide only [go_sem, e1] <;> rfl);intro _;rotate_left;intro _;rotate_right)|(apply wp_if;(simp +decide only [go_sem, e1] <;> rfl);intro _;rotate_left;intro _;rotate_right)|apply on_n|apply th_r|apply th_e|apply bl_n|apply bl_r|apply bl_e|(apply bl_o;(rfl))|apply wp_sk|apply wp_lb|apply wp_rt|apply wp_ex|(apply bq_r;(simp +decide only [go_sem, e1] <;> rfl))|(apply bq_n;(simp +decide only [go_sem, e1] <;> rfl))))
  refine wp_for l.length (fun i => [(1, .loc 1 0), (3, .d (.int .i64 (nstL 1000 (l.take i)))), (4, .d (.int .i64 i))]) (fun _ => [(1, .box [.d (.int .i64 op), .d (.int .i64 n), .d (.str a), .d (.str s), .d (.sl l.length (rowE.cs l))])]) (fun _ => True)
    (Cv.keepH _ _ (by (repeat' (first | exact trivial | apply And.intro | ((simp +decide only [go_sem] <;> rfl)) | rfl))) (by (repeat' (first | exact trivial | apply And.intro | ((simp +decide only [go_sem] <;> rfl)) | rfl))) rfl) trivial (fun i h _ => ?_) (fun _ => ?_)
  · have e2 := rnd (R := rowE) (n := 5) h rfl hl
    have hc := i1 l[i] (List.getElem_mem h)
    have hd := i2 l[i] (List.getElem_mem h)
    have ht := nstL_take (r := 1000) h
    cases c
    · (repeat' (first|apply th_n|apply wp_sq|apply wp_blk|apply wp_reg|apply wp_regd|(apply nm_and;kernel_rfl)|apply ev_nil|(apply ev_val;rfl;rfl;(simp +decide only [go_sem, e2, max_if] <;> rfl))|(apply ev_call;rfl;rfl;rfl;(simp +decide only [go_sem, e2, max_if] <;> rfl);(simp +decide only [go_sem, e2, max_if] <;> rfl);(first|exact hc|exact hd|exact h3))|(apply ev_wr;rfl;rfl;(simp +decide only [go_sem, e2, max_if] <;> rfl))|(apply ev_st;rfl;rfl;(simp +decide only [go_sem, e2, max_if] <;> rfl))|(apply ev_yes;rfl;rfl;(simp +decide only [go_sem, e2, max_if] <;> rfl))|(apply ev_nt;rfl;rfl;(simp +decide only [go_sem, e2, max_if] <;> rfl))|(apply ev_no;rfl;rfl;(refine Or.inl ?_;(simp +decide only [go_sem, e2, max_if] <;> rfl)))|(apply ev_guard;rfl;rfl;(simp +decide only [go_sem, e2, max_if] <;> rfl);intro _;rotate_left;intro _;rotate_right)|(apply wp_ift;(simp +decide only [go_sem, e2, max_if] <;> rfl))|(apply wp_iff;(simp +decide only [go_sem, e2, max_if] <;> rfl))|(apply wp_ifu;(simp +decide only [go_sem, e2, max_if] <;> rfl);intro _;rotate_left;intro _;rotate_right)|(apply wp_if;(simp +decide only [go_sem, e2, max_if] <;> rfl);intro _;rotate_left;intro _;rotate_right)|apply on_n|apply th_r|apply th_e|apply bl_n|apply bl_r|apply bl_e|(apply bl_o;(rfl))|apply wp_sk|apply wp_lb|apply wp_rt|apply wp_ex|(apply bq_r;(simp +decide only [go_sem, e2, max_if] <;> rfl))|(apply bq_n;(simp +decide only [go_sem, e2, max_if] <;> rfl))))
      exact ⟨Cv.keepH _ _ (by rw [ht]; (repeat' (first | exact trivial | apply And.intro | ((simp +decide only [go_sem] <;> rfl)) | rfl))) (by (repeat' (first | exact trivial | apply And.intro | ((simp +decide only [go_sem] <;> rfl)) | rfl))) rfl, trivial⟩
    · rw [g3 rfl _ (List.getElem_mem h)] at hd
      (repeat' (first|apply th_n|apply wp_sq|apply wp_blk|apply wp_reg|apply wp_regd|(apply nm_and;kernel_rfl)|apply ev_nil|(apply ev_val;rfl;rfl;(simp +decide only [go_sem, e2, max_if] <;> rfl))|(apply ev_call;rfl;rfl;rfl;(simp +decide only [go_sem, e2, max_if] <;> rfl);(simp +decide only [go_sem, e2, max_if] <;> rfl);(first|exact hc|exact hd|exact h3))|(apply ev_wr;rfl;rfl;(simp +decide only [go_sem, e2, max_if] <;> rfl))|(apply ev_st;rfl;rfl;(simp +decide only [go_sem, e2, max_if] <;> rfl))|(apply ev_yes;rfl;rfl;(simp +decide only [go_sem, e2, max_if] <;> rfl))|(apply ev_nt;rfl;rfl;(simp +decide only [go_sem, e2, max_if] <;> rfl))|(apply ev_no;rfl;rfl;(refine Or.inl ?_;(simp +decide only [go_sem, e2, max_if] <;> rfl)))|(apply ev_guard;rfl;rfl;(simp +decide only [go_sem, e2, max_if] <;> rfl);intro _;rotate_left;intro _;rotate_right)|(apply wp_ift;(simp +decide only [go_sem, e2, max_if] <;> rfl))|(apply wp_iff;(simp +decide only [go_sem, e2, max_if] <;> rfl))|(apply wp_ifu;(simp +decide only [go_sem, e2, max_if] <;> rfl);intro _;rotate_left;intro _;rotate_right)|(apply wp_if;(simp +decide only [go_sem, e2, max_if] <;> rfl);intro _;rotate_left;intro _;rotate_right)|apply on_n|apply th_r|apply th_e|apply bl_n|apply bl_r|apply bl_e|(apply bl_o;(rfl))|apply wp_sk|apply wp_lb|apply wp_rt|apply wp_ex|(apply bq_r;(simp +decide only [go_sem, e2, max_if] <;> rfl))|(apply bq_n;(simp +decide only [go_sem, e2, max_if] <;> rfl))))
      exact ⟨Cv.keepH _ _ (by rw [ht]; (repeat' (first | exact trivial | apply And.intro | ((simp +decide only [go_sem] <;> rfl)) | rfl))) (by (repeat' (first | exact trivial | apply And.intro | ((simp +decide only [go_sem] <;> rfl)) | rfl))) rfl, trivial⟩
  · have e2 : decide ((l.length : Int) < (l.length : Int)) = false := by simp
    have hin := nstL_in 1000 l
    have e3 : IntKind.i64.wrap (nstL 1000 l + 1) = nstL 1000 l + 1 := wrap_in (by omega)
    rw [List.take_length]
    rw [g1] at h5
    cases c
    · (have hF := And.intro e2 e3; repeat' (first|apply th_n|apply wp_sq|apply wp_blk|apply wp_reg|apply wp_regd|(apply nm_and;kernel_rfl)|apply ev_nil|(apply ev_val;rfl;rfl;(simp +decide only [go_sem, hF, beq_self_eq_true] <;> rfl))|(apply ev_call;rfl;rfl;rfl;(simp +decide only [go_sem, hF, beq_self_eq_true] <;> rfl);(simp +decide only [go_sem, hF, beq_self_eq_true] <;> rfl);(first|exact h3|exact h5|exact h7))|(apply ev_wr;rfl;rfl;(simp +decide only [go_sem, hF, beq_self_eq_true] <;> rfl))|(apply ev_st;rfl;rfl;(simp +decide only [go_sem, hF, beq_self_eq_true] <;> rfl))|(apply ev_yes;rfl;rfl;(simp +decide only [go_sem, hF, beq_self_eq_true] <;> rfl))|(apply ev_nt;rfl;rfl;(simp +decide only [go_sem, hF, beq_self_eq_true] <;> rfl))|(apply ev_no;rfl;rfl;(refine Or.inl ?_;(simp +decide only [go_sem, hF, beq_self_eq_true] <;> rfl)))|(apply ev_guard;rfl;rfl;(simp +decide only [go_sem, hF, beq_self_eq_true] <;> rfl);intro _;rotate_left;intro _;rotate_right)|(apply wp_ift;(simp +decide only [go_sem, hF, beq_self_eq_true] <;> rfl))|(apply wp_iff;(simp +decide only [go_sem, hF, beq_self_eq_true] <;> rfl))|(apply wp_ifu;(simp +decide only [go_sem, hF, beq_self_eq_true] <;> rfl);intro _;rotate_left;intro _;rotate_right)|(apply wp_if;(simp +decide only [go_sem, hF, beq_self_eq_true] <;> rfl);intro _;rotate_left;intro _;rotate_right)|apply on_n|apply th_r|apply th_e|apply bl_n|apply bl_r|apply bl_e|(apply bl_o;(rfl))|apply wp_sk|apply wp_lb|apply wp_rt|apply wp_ex|(apply bq_r;(simp +decide only [go_sem, hF, beq_self_eq_true] <;> rfl))|(apply bq_n;(simp +decide only [go_sem, hF, beq_self_eq_true] <;> rfl))))
      rfl
    · have e4 : decide (nstL 1000 l < 20) = true := decide_eq_true (g2 rfl)
      (have hF := And.intro e2 (And.intro e3 e4); repeat' (first|apply th_n|apply wp_sq|apply wp_blk|apply wp_reg|apply wp_regd|(apply nm_and;kernel_rfl)|apply ev_nil|(apply ev_val;rfl;rfl;(simp +decide only [go_sem, hF, beq_self_eq_true] <;> rfl))|(apply ev_call;rfl;rfl;rfl;(simp +decide only [go_sem, hF, beq_self_eq_true] <;> rfl);(simp +decide only [go_sem, hF, beq_self_eq_true] <;> rfl);(first|exact h3|exact h5|exact h7))|(apply ev_wr;rfl;rfl;(simp +decide only [go_sem, hF, beq_self_eq_true] <;> rfl))|(apply ev_st;rfl;rfl;(simp +decide only [go_sem, hF, beq_self_eq_true] <;> rfl))|(apply ev_yes;rfl;rfl;(simp +decide only [go_sem, hF, beq_self_eq_true] <;> rfl))|(apply ev_nt;rfl;rfl;(simp +decide only [go_sem, hF, beq_self_eq_true] <;> rfl))|(apply ev_no;rfl;rfl;(refine Or.inl ?_;(simp +decide only [go_sem, hF, beq_self_eq_true] <;> rfl)))|(apply ev_guard;rfl;rfl;(simp +decide only [go_sem, hF, beq_self_eq_true] <;> rfl);intro _;rotate_left;intro _;rotate_right)|(apply wp_ift;(simp +decide only [go_sem, hF, beq_self_eq_true] <;> rfl))|(apply wp_iff;(simp +decide only [go_sem, hF, beq_self_eq_true] <;> rfl))|(apply wp_ifu;(simp +decide only [go_sem, hF, beq_self_eq_true] <;> rfl);intro _;rotate_left;intro _;rotate_right)|(apply wp_if;(simp +decide only [go_sem, hF, beq_self_eq_true] <;> rfl);intro _;rotate_left;intro _;rotate_right)|apply on_n|apply th_r|apply th_e|apply bl_n|apply bl_r|apply bl_e|(apply bl_o;(rfl))|apply wp_sk|apply wp_lb|apply wp_rt|apply wp_ex|(apply bq_r;(simp +decide only [go_sem, hF, beq_self_eq_true] <;> rfl))|(apply bq_n;(simp +decide only [go_sem, hF, beq_self_eq_true] <;> rfl))))
      rfl
set_option maxHeartbeats 4000000 in
theorem walks_pc (x : Exp) (hx : x.Ok) (st : Int) (hs0 : 0 ≤ st) (hs1 : st ≤ 255) : PC Tryd.prog 3 [.agg x.cells, .int .u8 st] (.bool true) := by
  have h1 : PC Tryd.prog 11 [.agg x.cells, .int .i64 40, .int .i64 600] _ := expr_pc 40 (by omega) 600 (by omega) (by omega) x hx
  have hsm := expr_sm 40 600 x
  have hsz := expr_size 40 600 x
  have hW := Walk_pc x
  have hps := fun h => WalkC_ps x hx h
  have hR := RWalk_pc x hx
  have hok : ∀ y ∈ walkE x, PC Tryd.prog 14 [.agg (rowE.toC y), .agg (rowE.toC y)] (.bool true) := fun y hy => by have h := RSameExpr_pc y y (walkE_ok x hx y hy) (walkE_ok x hx y hy); rw [sameE_refl] at h; exact h
  generalize hL : walkE x = L at *
  clear hL
  obtain ⟨op, n, a, s, l⟩ := x
  generalize exprR 40 600 (.mk op n a s l) = r at *
  rw [Exp.cells_mk] at *
  refine pc_of_pwp _ Tryd.func3 rfl Tryd.results3 (by kernel_rfl) ?_
  by_cases hr : r < 0
  · have e1 : decide (r < 0) = true := decide_eq_true hr
    (repeat' (first|apply th_n|apply wp_sq|apply wp_blk|apply wp_reg|apply wp_regd|(apply nm_and;kernel_rfl)|apply ev_nil|(apply ev_val;rfl;rfl;(simp +decide only [go_sem, e1] <;> rfl))|(apply ev_call;rfl;rfl;rfl;(simp +decide only [go_sem, e1] <;> rfl);(simp +decide only [go_sem, e1] <;> rfl);(first|exact awake_pc|exact h1))|(apply ev_wr;rfl;rfl;(simp +decide only [go_sem, e1] <;> rfl))|(apply ev_st;rfl;rfl;(simp +decide only [go_sem, e1] <;> rfl))|(apply ev_yes;rfl;rfl;(simp +decide only [go_sem, e1] <;> rfl))|(apply ev_nt;rfl;rfl;(simp +decide only [go_sem, e1] <;> rfl))|(apply ev_no;rfl;rfl;(refine Or.inl ?_;(simp +decide only [go_sem, e1] <;> rfl)))|(apply ev_guard;rfl;rfl;(simp +decide only [go_sem, e1] <;> rfl);intro _;rotate_left;intro _;rotate_right)|(apply wp_ift;(simp +decide only [go_sem, e1] <;> rfl))|(apply wp_iff;(simp +decide only [go_sem, e1] <;> rfl))|(apply wp_ifu;(simp +decide only [go_sem, e1] <;> rfl);intro _;rotate_left;intro _;rotate_right)|(apply wp_if;(simp +decide only [go_sem, e1] <;> rfl);intro _;rotate_left;intro _;rotate_right)|apply on_n|apply th_r|apply th_e|apply bl_n|apply bl_r|apply bl_e|(apply bl_o;(rfl))|apply wp_sk|apply wp_lb|apply wp_rt|apply wp_ex|(apply bq_r;(simp +decide only [go_sem, e1] <;> rfl))|(apply bq_n;(simp +decide only [go_sem, e1] <;> rfl))))
    rfl
  have e1 : decide (r < 0) = false := decide_eq_false hr
  have hps := hps (hsm (by omega))
  have hsz := hsz (by omega)
  have hR := hR (by omega)
  (repeat' (first|apply th_n|apply wp_sq|apply wp_blk|apply wp_reg|apply wp_regd|(apply nm_and;kernel_rfl)|apply ev_nil|(apply ev_val;rfl;rfl;(simp +decide only [go_sem, e1] <;> rfl))|(apply ev_call;rfl;rfl;rfl;(simp +decide only [go_sem, e1] <;> rfl);(simp +decide only [go_sem, e1] <;> rfl);(first|exact awake_pc|exact h1|exact hW|exact hR))|(apply ev_wr;rfl;rfl;(simp +decide only [go_sem, e1] <;> rfl))|(apply ev_st;rfl;rfl;(simp +decide only [go_sem, e1] <;> rfl))|(apply ev_yes;rfl;rfl;(simp +decide only [go_sem, e1] <;> rfl))|(apply ev_nt;rfl;rfl;(simp +decide only [go_sem, e1] <;> rfl))|(apply ev_no;rfl;rfl;(refine Or.inl ?_;(simp +decide only [go_sem, e1] <;> rfl)))|(apply ev_guard;rfl;rfl;(simp +decide only [go_sem, e1] <;> rfl);intro _;rotate_left;intro _;rotate_right)|(apply wp_ift;(simp +decide only [go_sem, e1] <;> rfl))|(apply wp_iff;(simp +decide only [go_sem, e1] <;> rfl))|(apply wp_ifu;(simp +decide only [go_sem, e1] <;> rfl);intro _;rotate_left;intro _;rotate_right)|(apply wp_if;(simp +decide only [go_sem, e1] <;> rfl);intro _;rotate_left;intro _;rotate_right)|apply on_n|apply th_r|apply th_e|apply bl_n|apply bl_r|apply bl_e|(apply bl_o;(rfl))|apply wp_sk|apply wp_lb|apply wp_rt|apply wp_ex|(apply bq_r;(simp +decide only [go_sem, e1] <;> rfl))|(apply bq_n;(simp +decide only [go_sem, e1] <;> rfl))))
  refine wp_rg [20] rfl hps (fun d hd => by obtain ⟨u, _, rfl⟩ := List.mem_map.1 hd; rfl)
    (fun pre f H => ∃ c : Nat, c ≤ L.length ∧ pre = (L.take c).map encE ∧ f = frm [(2, .loc 2 0), (3, .loc 3 0), (4, .loc 4 0), (5, .loc 5 0), (6, .loc 6 0), (19, .d (.fn (.func 33) [] [.ep [.int .i64 op, .int .i64 n, .str a, .str s, .sl l.length (rowE.cs l)]]))] ∧ H = hpm [(2, .box [.d (.int .i64 op), .d (.int .i64 n), .d (.str a), .d (.str s), .d (.sl l.length (rowE.cs l))]), (3, .box [.d (.int .u8 st)]), (4, .box [.d (.bool false)]), (5, .box [.d (.sl L.length (rowE.cs L))]), (6, .box [.d (.int .i64 c)])])
    [(2, .loc 2 0), (3, .loc 3 0), (4, .loc 4 0), (5, .loc 5 0), (6, .loc 6 0), (19, .d (.fn (.func 33) [] [.ep [.int .i64 op, .int .i64 n, .str a, .str s, .sl l.length (rowE.cs l)]]))] (hpm [(2, .box [.d (.int .i64 op), .d (.int .i64 n), .d (.str a), .d (.str s), .d (.sl l.length (rowE.cs l))]), (3, .box [.d (.int .u8 st)]), (4, .box [.d (.bool false)]), (5, .box [.d (.sl L.length (rowE.cs L))]), (6, .box [.d (.int .i64 0)])])
    (Cv.keepH _ _ (by (repeat' (first | exact trivial | apply And.intro | ((simp +decide only [go_sem] <;> rfl)) | rfl))) (by (repeat' (first | exact trivial | apply And.intro | ((simp +decide only [go_sem] <;> rfl)) | rfl))) rfl) rfl (by (simp +decide only [go_sem] <;> rfl)) ⟨0, by omega, rfl, rfl, rfl⟩ ?_ ?_
  · rintro pre d rest f H hx ⟨c, hc, rfl, rfl, rfl⟩
    have hlen : c < L.length := by
      have := congrArg List.length hx
      simp at this
      omega
    obtain rfl : d = encE L[c] := by
      have h1 : (L.map encE)[c]? = some d := by rw [hx, List.getElem?_append_right (by simp; omega)]; simp [Nat.min_eq_left hc]
      rw [List.getElem?_map, List.getElem?_eq_getElem hlen] at h1
      exact (Option.some.inj h1).symm
    have e2 := rnd (R := rowE) (n := 5) hlen rfl (by unfold maxLen; omega)
    have e3 : decide ((c : Int) ≥ (L.length : Int)) = false := decide_eq_false (by omega)
    have e4 : IntKind.i64.wrap st = st := wrap_in (by omega)
    have hsame := hok L[c] (List.getElem_mem hlen)
    unfold encE at hx ⊢
    show pwp _ _ _ (setPs [20] [.agg (rowE.toC L[c])] _) _
    have hnx : (L.take (c + 1)).map encE = (L.take c).map encE ++ [[.agg (rowE.toC L[c])]] := by rw [List.take_succ_eq_append_getElem hlen, List.map_append]; rfl
    by_cases hst : ((c + 1 : Nat) : Int) ≥ st
    · have e5 : decide (((c + 1 : Nat) : Int) ≥ st) = true := decide_eq_true hst
      (have hF := And.intro e2 (And.intro e3 (And.intro e4 e5)); repeat' (first|apply th_n|apply wp_sq|apply wp_blk|apply wp_reg|apply wp_regd|(apply nm_and;kernel_rfl)|apply ev_nil|(apply ev_val;rfl;rfl;(simp +decide only [go_sem, hF] <;> rfl))|(apply ev_call;rfl;rfl;rfl;(simp +decide only [go_sem, hF] <;> rfl);(simp +decide only [go_sem, hF] <;> rfl);(first|exact hsame))|(apply ev_wr;rfl;rfl;(simp +decide only [go_sem, hF] <;> rfl))|(apply ev_st;rfl;rfl;(simp +decide only [go_sem, hF] <;> rfl))|(apply ev_yes;rfl;rfl;(simp +decide only [go_sem, hF] <;> rfl))|(apply ev_nt;rfl;rfl;(simp +decide only [go_sem, hF] <;> rfl))|(apply ev_no;rfl;rfl;(refine Or.inl ?_;(simp +decide only [go_sem, hF] <;> rfl)))|(apply ev_guard;rfl;rfl;(simp +decide only [go_sem, hF] <;> rfl);intro _;rotate_left;intro _;rotate_right)|(apply wp_ift;(simp +decide only [go_sem, hF] <;> rfl))|(apply wp_iff;(simp +decide only [go_sem, hF] <;> rfl))|(apply wp_ifu;(simp +decide only [go_sem, hF] <;> rfl);intro _;rotate_left;intro _;rotate_right)|(apply wp_if;(simp +decide only [go_sem, hF] <;> rfl);intro _;rotate_left;intro _;rotate_right)|apply on_n|apply th_r|apply th_e|apply bl_n|apply bl_r|apply bl_e|(apply bl_o;(rfl))|apply wp_sk|apply wp_lb|apply wp_rt|apply wp_ex|(apply bq_r;(simp +decide only [go_sem, hF] <;> rfl))|(apply bq_n;(simp +decide only [go_sem, hF] <;> rfl))))
      refine rd_r ⟨[(4, .loc 4 0)], hpm [(4, .box [.d (.bool true)])], Cv.keepH _ _ (by (repeat' (first | exact trivial | apply And.intro | ((simp +decide only [go_sem] <;> rfl)) | rfl))) (by (repeat' (first | exact trivial | apply And.intro | ((simp +decide only [go_sem] <;> rfl)) | rfl))) rfl, rfl, ?_⟩
      (repeat' (first|apply th_n|apply wp_sq|apply wp_blk|apply wp_reg|apply wp_regd|(apply nm_and;kernel_rfl)|apply ev_nil|(apply ev_val;rfl;rfl;(simp +decide only [go_sem] <;> rfl))|(apply ev_wr;rfl;rfl;(simp +decide only [go_sem] <;> rfl))|(apply ev_st;rfl;rfl;(simp +decide only [go_sem] <;> rfl))|(apply ev_yes;rfl;rfl;(simp +decide only [go_sem] <;> rfl))|(apply ev_nt;rfl;rfl;(simp +decide only [go_sem] <;> rfl))|(apply ev_no;rfl;rfl;(refine Or.inl ?_;(simp +decide only [go_sem] <;> rfl)))|(apply ev_guard;rfl;rfl;(simp +decide only [go_sem] <;> rfl);intro _;rotate_left;intro _;rotate_right)|(apply wp_ift;(simp +decide only [go_sem] <;> rfl))|(apply wp_iff;(simp +decide only [go_sem] <;> rfl))|(apply wp_ifu;(simp +decide only [go_sem] <;> rfl);intro _;rotate_left;intro _;rotate_right)|(apply wp_if;(simp +decide only [go_sem] <;> rfl);intro _;rotate_left;intro _;rotate_right)|apply on_n|apply th_r|apply th_e|apply bl_n|apply bl_r|apply bl_e|(apply bl_o;(rfl))|apply wp_sk|apply wp_lb|apply wp_rt|apply wp_ex|(apply bq_r;(simp +decide only [go_sem] <;> rfl))|(apply bq_n;(simp +decide only [go_sem] <;> rfl))))
      rfl
    · have e5 : decide (((c + 1 : Nat) : Int) ≥ st) = false := decide_eq_false hst
      (have hF := And.intro e2 (And.intro e3 (And.intro e4 e5)); repeat' (first|apply th_n|apply wp_sq|apply wp_blk|apply wp_reg|apply wp_regd|(apply nm_and;kernel_rfl)|apply ev_nil|(apply ev_val;rfl;rfl;(simp +decide only [go_sem, hF] <;> rfl))|(apply ev_call;rfl;rfl;rfl;(simp +decide only [go_sem, hF] <;> rfl);(simp +decide only [go_sem, hF] <;> rfl);(first|exact hsame))|(apply ev_wr;rfl;rfl;(simp +decide only [go_sem, hF] <;> rfl))|(apply ev_st;rfl;rfl;(simp +decide only [go_sem, hF] <;> rfl))|(apply ev_yes;rfl;rfl;(simp +decide only [go_sem, hF] <;> rfl))|(apply ev_nt;rfl;rfl;(simp +decide only [go_sem, hF] <;> rfl))|(apply ev_no;rfl;rfl;(refine Or.inl ?_;(simp +decide only [go_sem, hF] <;> rfl)))|(apply ev_guard;rfl;rfl;(simp +decide only [go_sem, hF] <;> rfl);intro _;rotate_left;intro _;rotate_right)|(apply wp_ift;(simp +decide only [go_sem, hF] <;> rfl))|(apply wp_iff;(simp +decide only [go_sem, hF] <;> rfl))|(apply wp_ifu;(simp +decide only [go_sem, hF] <;> rfl);intro _;rotate_left;intro _;rotate_right)|(apply wp_if;(simp +decide only [go_sem, hF] <;> rfl);intro _;rotate_left;intro _;rotate_right)|apply on_n|apply th_r|apply th_e|apply bl_n|apply bl_r|apply bl_e|(apply bl_o;(rfl))|apply wp_sk|apply wp_lb|apply wp_rt|apply wp_ex|(apply bq_r;(simp +decide only [go_sem, hF] <;> rfl))|(apply bq_n;(simp +decide only [go_sem, hF] <;> rfl))))
      exact rd_n ⟨[(2, .loc 2 0), (3, .loc 3 0), (4, .loc 4 0), (5, .loc 5 0), (6, .loc 6 0), (19, .d (.fn (.func 33) [] [.ep [.int .i64 op, .int .i64 n, .str a, .str s, .sl l.length (rowE.cs l)]]))], hpm [(2, .box [.d (.int .i64 op), .d (.int .i64 n), .d (.str a), .d (.str s), .d (.sl l.length (rowE.cs l))]), (3, .box [.d (.int .u8 st)]), (4, .box [.d (.bool false)]), (5, .box [.d (.sl L.length (rowE.cs L))]), (6, .box [.d (.int .i64 ((c + 1 : Nat) : Int))])], Cv.keepH _ _ (by (repeat' (first | exact trivial | apply And.intro | ((simp +decide only [go_sem] <;> rfl)) | rfl))) (by (repeat' (first | exact trivial | apply And.intro | ((simp +decide only [go_sem] <;> rfl)) | rfl))) rfl, rfl, c + 1, hlen, hnx.symm, rfl, rfl⟩
  · rintro f H ⟨c, hc, hu, rfl, rfl⟩
    have hcl : c = L.length := by
      have := congrArg List.length hu
      simp at this
      omega
    subst hcl
    (repeat' (first|apply th_n|apply wp_sq|apply wp_blk|apply wp_reg|apply wp_regd|(apply nm_and;kernel_rfl)|apply ev_nil|(apply ev_val;rfl;rfl;(simp +decide only [go_sem, beq_self_eq_true] <;> rfl))|(apply ev_wr;rfl;rfl;(simp +decide only [go_sem, beq_self_eq_true] <;> rfl))|(apply ev_st;rfl;rfl;(simp +decide only [go_sem, beq_self_eq_true] <;> rfl))|(apply ev_yes;rfl;rfl;(simp +decide only [go_sem, beq_self_eq_true] <;> rfl))|(apply ev_nt;rfl;rfl;(simp +decide only [go_sem, beq_self_eq_true] <;> rfl))|(apply ev_no;rfl;rfl;(refine Or.inl ?_;(simp +decide only [go_sem, beq_self_eq_true] <;> rfl)))|(apply ev_guard;rfl;rfl;(simp +decide only [go_sem, beq_self_eq_true] <;> rfl);intro _;rotate_left;intro _;rotate_right)|(apply wp_ift;(simp +decide only [go_sem, beq_self_eq_true] <;> rfl))|(apply wp_iff;(simp +decide only [go_sem, beq_self_eq_true] <;> rfl))|(apply wp_ifu;(simp +decide only [go_sem, beq_self_eq_true] <;> rfl);intro _;rotate_left;intro _;rotate_right)|(apply wp_if;(simp +decide only [go_sem, beq_self_eq_true] <;> rfl);intro _;rotate_left;intro _;rotate_right)|apply on_n|apply th_r|apply th_e|apply bl_n|apply bl_r|apply bl_e|(apply bl_o;(rfl))|apply wp_sk|apply wp_lb|apply wp_rt|apply wp_ex|(apply bq_r;(simp +decide only [go_sem, beq_self_eq_true] <;> rfl))|(apply bq_n;(simp +decide only [go_sem, beq_self_eq_true] <;> rfl))))
    rfl
theorem names_walk {W : World} {s : ByteArray} (hg : Globs (fun _ => False) W) (hs : s.size ≤ maxLen) : Calls Tryd.prog 4 #[.string s] W fun e w' => e = .returned (.bool true) ∧ Ex W w' :=
  calls_of_pcg (names_pc s hs) (fun _ _ _ h => rep_bool h) W hg [.string s] (gva_eq rfl).2
theorem exprs_walk {W : World} {v0 v1 : Value} {x y : Exp} (hg : Globs (fun _ => False) W) (hx : x.Ok) (hy : y.Ok) (r0 : Rep (fun _ => False) W v0 (.agg x.cells)) (r1 : Rep (fun _ => False) W v1 (.agg y.cells)) :
    Calls Tryd.prog 6 #[v0, v1] W fun e w' => e = .returned (.bool true) ∧ Ex W w' :=
  calls_of_pcg (exprs_pc x y hx hy) (fun _ _ _ h => rep_bool h) W hg [v0, v1] (.cons _ _ _ _ r0 (.cons _ _ _ _ r1 .nil))
theorem nests_walk {W : World} {v0 : Value} {x : Exp} (hg : Globs (fun _ => False) W) (hx : x.Ok) (r0 : Rep (fun _ => False) W v0 (.agg x.cells)) :
    Calls Tryd.prog 5 #[v0] W fun e w' => e = .returned (.bool true) ∧ Ex W w' :=
  calls_of_pcg (nests_pc x hx) (fun _ _ _ h => rep_bool h) W hg [v0] (.cons _ _ _ _ r0 .nil)
theorem walks_walk {W : World} {v0 : Value} {x : Exp} {st : Int} (hg : Globs (fun _ => False) W) (hx : x.Ok) (hs : 0 ≤ st ∧ st ≤ 255) (r0 : Rep (fun _ => False) W v0 (.agg x.cells)) :
    Calls Tryd.prog 3 #[v0, .int .u8 st] W fun e w' => e = .returned (.bool true) ∧ Ex W w' :=
  calls_of_pcg (walks_pc x hx st hs.1 hs.2) (fun _ _ _ h => rep_bool h) W hg [v0, .int .u8 st] (.cons _ _ _ _ r0 (.cons _ _ _ _ (.int _ _) .nil))
end Go.Proofs.YtefiebkngpcaoaaDoor
