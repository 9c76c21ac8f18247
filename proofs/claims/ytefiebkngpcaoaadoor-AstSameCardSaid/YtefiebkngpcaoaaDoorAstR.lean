/- Parts of programs alike by the document: walks. Conditions: how they came in. -/
import Derived.Test.YtefiebkngpcaoaaDoorAstO
set_option maxRecDepth 100000
set_option linter.unusedVariables false
set_option linter.unusedSimpArgs false
set_option linter.unusedSectionVars false
namespace Go.Proofs.YtefiebkngpcaoaaDoor
open Go.RowKit

set_option maxHeartbeats 1000000 in
theorem RsameSets_pc (l l' : List Stt) (hl : Lst Stt.Ok l) (hl' : Lst Stt.Ok l') : PC Tryd.prog 72 [.sl l.length (rowStt.cs l), .sl l'.length (rowStt.cs l')] (.bool (all2 sameStt l l')) := by
  refine pc_of_pwp _ Tryd.func72 rfl Tryd.results72 (by kernel_rfl) ?_
  by_cases hll : l.length = l'.length
  · have f0 : ((l.length : Int) != (l'.length : Int)) = false := by simp [hll]
    (repeat' (first|apply th_n|apply wp_sq|apply wp_blk|apply wp_reg|apply wp_regd|(apply nm_and;kernel_rfl)|apply ev_nil|(apply ev_val;rfl;rfl;(simp +decide only [go_sem, f0] <;> rfl))|(apply ev_wr;rfl;rfl;(simp +decide only [go_sem, f0] <;> rfl))|(apply ev_st;rfl;rfl;(simp +decide only [go_sem, f0] <;> rfl))|(apply ev_yes;rfl;rfl;(simp +decide only [go_sem, f0] <;> rfl))|(apply ev_nt;rfl;rfl;(simp +decide only [go_sem, f0] <;> rfl))|(apply ev_no;rfl;rfl;(refine Or.inl ?_;(simp +decide only [go_sem, f0] <;> rfl)))|(apply ev_guard;rfl;rfl;(simp +decide only [go_sem, f0] <;> rfl);intro _;rotate_left;intro _;rotate_right)|(apply wp_ift;(simp +decide only [go_sem, f0] <;> rfl))|(apply wp_iff;(simp +decide only [go_sem, f0] <;> rfl))|(apply wp_ifu;(simp +decide only [go_sem, f0] <;> rfl);intro _;rotate_left;intro _;rotate_right)|(apply wp_if;(simp +decide only [go_sem, f0] <;> rfl);intro _;rotate_left;intro _;rotate_right)|apply on_n|apply th_r|apply th_e|apply bl_n|apply bl_r|apply bl_e|(apply bl_o;(rfl))|apply wp_sk|apply wp_lb|apply wp_rt|apply wp_ex|(apply bq_r;(simp +decide only [go_sem, f0] <;> rfl))|(apply bq_n;(simp +decide only [go_sem, f0] <;> rfl))))
    refine wp_for l.length (fun i => [(0, .d (.sl l.length (rowStt.cs l))), (1, .d (.sl l'.length (rowStt.cs l'))), (5, .d (.int .i64 i))]) (fun _ => []) (fun i => all2 sameStt (l.take i) (l'.take i) = true)
      (Cv.keepH _ _ (by (repeat' (first | exact trivial | apply And.intro | ((simp +decide only [go_sem] <;> rfl)) | rfl))) (by (repeat' (first | exact trivial | apply And.intro | ((simp +decide only [go_sem] <;> rfl)) | rfl))) rfl) rfl (fun i h hC => ?_) (fun hC => ?_)
    · have h' : i < l'.length := by omega
      have e1 := rnd (R := rowStt) (n := 6) h rfl hl.1
      have e2 := rnd (R := rowStt) (n := 6) h' rfl hl'.1
      have ht := all2_take sameStt l l' i h h'
      have hn := all2_no (p := sameStt) h h'
      have e3 := Row.fld1 (R := rowStt) (n := 6) h rfl (k := 0) rfl
      have e4 := Row.fld1 (R := rowStt) (n := 6) h' rfl (k := 0) rfl
      have e5 := Row.fld (R := rowStt) (n := 6) h rfl 1 5 (by omega)
      have e6 := Row.fld (R := rowStt) (n := 6) h' rfl 1 5 (by omega)
      rw [show ((rowStt.toC l[i]).drop 1).take 5 = l[i].e.cells from take_E' _] at e5
      rw [show ((rowStt.toC l'[i]).drop 1).take 5 = l'[i].e.cells from take_E' _] at e6
      have hc := RSameExpr_pc l[i].e l'[i].e (hl.2 _ (List.getElem_mem h)).e (hl'.2 _ (List.getElem_mem h')).e
      have hs : sameStt l[i] l'[i] = ((l[i].name.toList == l'[i].name.toList) && sameE l[i].e l'[i].e) := rfl
      simp only [List.drop_zero] at e3 e4
      generalize l[i].name = a at *
      generalize l'[i].name = a' at *
      generalize sameE l[i].e l'[i].e = r at *
      rw [hC, hs, Bool.true_and] at ht
      rw [hs] at hn
      clear hC hs
      (have hF := And.intro e1 (And.intro e2 (And.intro e3 (And.intro e4 (And.intro e5 e6)))); repeat' (first|apply th_n|apply wp_sq|apply wp_blk|apply wp_reg|apply wp_regd|(apply nm_and;kernel_rfl)|apply ev_nil|(apply ev_val;rfl;rfl;(simp +decide only [go_sem, hF] <;> rfl))|(apply ev_call;rfl;rfl;rfl;(simp +decide only [go_sem, hF] <;> rfl);(simp +decide only [go_sem, hF] <;> rfl);(first|exact hc))|(apply ev_wr;rfl;rfl;(simp +decide only [go_sem, hF] <;> rfl))|(apply ev_st;rfl;rfl;(simp +decide only [go_sem, hF] <;> rfl))|(apply ev_yes;rfl;rfl;(simp +decide only [go_sem, hF] <;> rfl))|(apply ev_nt;rfl;rfl;(simp +decide only [go_sem, hF] <;> rfl))|(apply ev_no;rfl;rfl;(refine Or.inl ?_;(simp +decide only [go_sem, hF] <;> rfl)))|(apply ev_guard;rfl;rfl;(simp +decide only [go_sem, hF] <;> rfl);intro _;rotate_left;intro _;rotate_right)|(apply wp_ift;(simp +decide only [go_sem, hF] <;> rfl))|(apply wp_iff;(simp +decide only [go_sem, hF] <;> rfl))|(apply wp_ifu;(simp +decide only [go_sem, hF] <;> rfl);intro _;rotate_left;intro _;rotate_right)|(apply wp_if;(simp +decide only [go_sem, hF] <;> rfl);intro _;rotate_left;intro _;rotate_right)|apply on_n|apply th_r|apply th_e|apply bl_n|apply bl_r|apply bl_e|(apply bl_o;(rfl))|apply wp_sk|apply wp_lb|apply wp_rt|apply wp_ex|(apply bq_r;(simp +decide only [go_sem, hF] <;> rfl))|(apply bq_n;(simp +decide only [go_sem, hF] <;> rfl))))
      all_goals first
        | (exact ⟨Cv.keepH _ _ (by (repeat' (first | exact trivial | apply And.intro | ((simp +decide only [go_sem] <;> rfl)) | rfl))) (by (repeat' (first | exact trivial | apply And.intro | ((simp +decide only [go_sem] <;> rfl)) | rfl))) rfl, by rw [ht]; simp_all⟩)
        | (rw [hn (by simp_all)]; rfl)
    · have e1 : decide ((l.length : Int) < (l.length : Int)) = false := by simp
      (repeat' (first|apply th_n|apply wp_sq|apply wp_blk|apply wp_reg|apply wp_regd|(apply nm_and;kernel_rfl)|apply ev_nil|(apply ev_val;rfl;rfl;(simp +decide only [go_sem, e1] <;> rfl))|(apply ev_wr;rfl;rfl;(simp +decide only [go_sem, e1] <;> rfl))|(apply ev_st;rfl;rfl;(simp +decide only [go_sem, e1] <;> rfl))|(apply ev_yes;rfl;rfl;(simp +decide only [go_sem, e1] <;> rfl))|(apply ev_nt;rfl;rfl;(simp +decide only [go_sem, e1] <;> rfl))|(apply ev_no;rfl;rfl;(refine Or.inl ?_;(simp +decide only [go_sem, e1] <;> rfl)))|(apply ev_guard;rfl;rfl;(simp +decide only [go_sem, e1] <;> rfl);intro _;rotate_left;intro _;rotate_right)|(apply wp_ift;(simp +decide only [go_sem, e1] <;> rfl))|(apply wp_iff;(simp +decide only [go_sem, e1] <;> rfl))|(apply wp_ifu;(simp +decide only [go_sem, e1] <;> rfl);intro _;rotate_left;intro _;rotate_right)|(apply wp_if;(simp +decide only [go_sem, e1] <;> rfl);intro _;rotate_left;intro _;rotate_right)|apply on_n|apply th_r|apply th_e|apply bl_n|apply bl_r|apply bl_e|(apply bl_o;(rfl))|apply wp_sk|apply wp_lb|apply wp_rt|apply wp_ex|(apply bq_r;(simp +decide only [go_sem, e1] <;> rfl))|(apply bq_n;(simp +decide only [go_sem, e1] <;> rfl))))
      rw [List.take_length, hll, List.take_length] at hC
      rw [hC]; rfl
  · have f0 : ((l.length : Int) != (l'.length : Int)) = true := by simp; omega
    (repeat' (first|apply th_n|apply wp_sq|apply wp_blk|apply wp_reg|apply wp_regd|(apply nm_and;kernel_rfl)|apply ev_nil|(apply ev_val;rfl;rfl;(simp +decide only [go_sem, f0] <;> rfl))|(apply ev_wr;rfl;rfl;(simp +decide only [go_sem, f0] <;> rfl))|(apply ev_st;rfl;rfl;(simp +decide only [go_sem, f0] <;> rfl))|(apply ev_yes;rfl;rfl;(simp +decide only [go_sem, f0] <;> rfl))|(apply ev_nt;rfl;rfl;(simp +decide only [go_sem, f0] <;> rfl))|(apply ev_no;rfl;rfl;(refine Or.inl ?_;(simp +decide only [go_sem, f0] <;> rfl)))|(apply ev_guard;rfl;rfl;(simp +decide only [go_sem, f0] <;> rfl);intro _;rotate_left;intro _;rotate_right)|(apply wp_ift;(simp +decide only [go_sem, f0] <;> rfl))|(apply wp_iff;(simp +decide only [go_sem, f0] <;> rfl))|(apply wp_ifu;(simp +decide only [go_sem, f0] <;> rfl);intro _;rotate_left;intro _;rotate_right)|(apply wp_if;(simp +decide only [go_sem, f0] <;> rfl);intro _;rotate_left;intro _;rotate_right)|apply on_n|apply th_r|apply th_e|apply bl_n|apply bl_r|apply bl_e|(apply bl_o;(rfl))|apply wp_sk|apply wp_lb|apply wp_rt|apply wp_ex|(apply bq_r;(simp +decide only [go_sem, f0] <;> rfl))|(apply bq_n;(simp +decide only [go_sem, f0] <;> rfl))))
    rw [all2_len hll]; rfl
set_option maxHeartbeats 1000000 in
theorem RsamePorts_pc (l l' : List Prt) (hl : Lst Prt.Ok l) (hl' : Lst Prt.Ok l') : PC Tryd.prog 71 [.sl l.length (rowPrt.cs l), .sl l'.length (rowPrt.cs l')] (.bool (all2 samePrt l l')) := by
  refine pc_of_pwp _ Tryd.func71 rfl Tryd.results71 (by kernel_rfl) ?_
  by_cases hll : l.length = l'.length
  · have f0 : ((l.length : Int) != (l'.length : Int)) = false := by simp [hll]
    (repeat' (first|apply th_n|apply wp_sq|apply wp_blk|apply wp_reg|apply wp_regd|(apply nm_and;kernel_rfl)|apply ev_nil|(apply ev_val;rfl;rfl;(simp +decide only [go_sem, f0] <;> rfl))|(apply ev_wr;rfl;rfl;(simp +decide only [go_sem, f0] <;> rfl))|(apply ev_st;rfl;rfl;(simp +decide only [go_sem, f0] <;> rfl))|(apply ev_yes;rfl;rfl;(simp +decide only [go_sem, f0] <;> rfl))|(apply ev_nt;rfl;rfl;(simp +decide only [go_sem, f0] <;> rfl))|(apply ev_no;rfl;rfl;(refine Or.inl ?_;(simp +decide only [go_sem, f0] <;> rfl)))|(apply ev_guard;rfl;rfl;(simp +decide only [go_sem, f0] <;> rfl);intro _;rotate_left;intro _;rotate_right)|(apply wp_ift;(simp +decide only [go_sem, f0] <;> rfl))|(apply wp_iff;(simp +decide only [go_sem, f0] <;> rfl))|(apply wp_ifu;(simp +decide only [go_sem, f0] <;> rfl);intro _;rotate_left;intro _;rotate_right)|(apply wp_if;(simp +decide only [go_sem, f0] <;> rfl);intro _;rotate_left;intro _;rotate_right)|apply on_n|apply th_r|apply th_e|apply bl_n|apply bl_r|apply bl_e|(apply bl_o;(rfl))|apply wp_sk|apply wp_lb|apply wp_rt|apply wp_ex|(apply bq_r;(simp +decide only [go_sem, f0] <;> rfl))|(apply bq_n;(simp +decide only [go_sem, f0] <;> rfl))))
    refine wp_for l.length (fun i => [(0, .d (.sl l.length (rowPrt.cs l))), (1, .d (.sl l'.length (rowPrt.cs l'))), (5, .d (.int .i64 i))]) (fun _ => []) (fun i => all2 samePrt (l.take i) (l'.take i) = true)
      (Cv.keepH _ _ (by (repeat' (first | exact trivial | apply And.intro | ((simp +decide only [go_sem] <;> rfl)) | rfl))) (by (repeat' (first | exact trivial | apply And.intro | ((simp +decide only [go_sem] <;> rfl)) | rfl))) rfl) rfl (fun i h hC => ?_) (fun hC => ?_)
    · have h' : i < l'.length := by omega
      have e1 := rnd (R := rowPrt) (n := 3) h rfl hl.1
      have e2 := rnd (R := rowPrt) (n := 3) h' rfl hl'.1
      have ht := all2_take samePrt l l' i h h'
      have hn := all2_no (p := samePrt) h h'
      have e3 := Row.fld1 (R := rowPrt) (n := 3) h rfl (k := 0) rfl
      have e4 := Row.fld1 (R := rowPrt) (n := 3) h' rfl (k := 0) rfl
      have e5 := Row.fld (R := rowPrt) (n := 3) h rfl 1 2 (by omega)
      have e6 := Row.fld (R := rowPrt) (n := 3) h' rfl 1 2 (by omega)
      rw [show ((rowPrt.toC l[i]).drop 1).take 2 = l[i].t.cells from take_T _] at e5
      rw [show ((rowPrt.toC l'[i]).drop 1).take 2 = l'[i].t.cells from take_T _] at e6
      have hc := RSameType_pc l[i].t l'[i].t (hl.2 _ (List.getElem_mem h)).t (hl'.2 _ (List.getElem_mem h')).t
      have hs : samePrt l[i] l'[i] = ((l[i].name.toList == l'[i].name.toList) && sameT l[i].t l'[i].t) := rfl
      simp only [List.drop_zero] at e3 e4
      generalize l[i].name = a at *
      generalize l'[i].name = a' at *
      generalize sameT l[i].t l'[i].t = r at *
      rw [hC, hs, Bool.true_and] at ht
      rw [hs] at hn
      clear hC hs
      (have hF := And.intro e1 (And.intro e2 (And.intro e3 (And.intro e4 (And.intro e5 e6)))); repeat' (first|apply th_n|apply wp_sq|apply wp_blk|apply wp_reg|apply wp_regd|(apply nm_and;kernel_rfl)|apply ev_nil|(apply ev_val;rfl;rfl;(simp +decide only [go_sem, hF] <;> rfl))|(apply ev_call;rfl;rfl;rfl;(simp +decide only [go_sem, hF] <;> rfl);(simp +decide only [go_sem, hF] <;> rfl);(first|exact hc))|(apply ev_wr;rfl;rfl;(simp +decide only [go_sem, hF] <;> rfl))|(apply ev_st;rfl;rfl;(simp +decide only [go_sem, hF] <;> rfl))|(apply ev_yes;rfl;rfl;(simp +decide only [go_sem, hF] <;> rfl))|(apply ev_nt;rfl;rfl;(simp +decide only [go_sem, hF] <;> rfl))|(apply ev_no;rfl;rfl;(refine Or.inl ?_;(simp +decide only [go_sem, hF] <;> rfl)))|(apply ev_guard;rfl;rfl;(simp +decide only [go_sem, hF] <;> rfl);intro _;rotate_left;intro _;rotate_right)|(apply wp_ift;(simp +decide only [go_sem, hF] <;> rfl))|(apply wp_iff;(simp +decide only [go_sem, hF] <;> rfl))|(apply wp_ifu;(simp +decide only [go_sem, hF] <;> rfl);intro _;rotate_left;intro _;rotate_right)|(apply wp_if;(simp +decide only [go_sem, hF] <;> rfl);intro _;rotate_left;intro _;rotate_right)|apply on_n|apply th_r|apply th_e|apply bl_n|apply bl_r|apply bl_e|(apply bl_o;(rfl))|apply wp_sk|apply wp_lb|apply wp_rt|apply wp_ex|(apply bq_r;(simp +decide only [go_sem, hF] <;> rfl))|(apply bq_n;(simp +decide only [go_sem, hF] <;> rfl))))
      all_goals first
        | (exact ⟨Cv.keepH _ _ (by (repeat' (first | exact trivial | apply And.intro | ((simp +decide only [go_sem] <;> rfl)) | rfl))) (by (repeat' (first | exact trivial | apply And.intro | ((simp +decide only [go_sem] <;> rfl)) | rfl))) rfl, by rw [ht]; simp_all⟩)
        | (rw [hn (by simp_all)]; rfl)
    · have e1 : decide ((l.length : Int) < (l.length : Int)) = false := by simp
      (repeat' (first|apply th_n|apply wp_sq|apply wp_blk|apply wp_reg|apply wp_regd|(apply nm_and;kernel_rfl)|apply ev_nil|(apply ev_val;rfl;rfl;(simp +decide only [go_sem, e1] <;> rfl))|(apply ev_wr;rfl;rfl;(simp +decide only [go_sem, e1] <;> rfl))|(apply ev_st;rfl;rfl;(simp +decide only [go_sem, e1] <;> rfl))|(apply ev_yes;rfl;rfl;(simp +decide only [go_sem, e1] <;> rfl))|(apply ev_nt;rfl;rfl;(simp +decide only [go_sem, e1] <;> rfl))|(apply ev_no;rfl;rfl;(refine Or.inl ?_;(simp +decide only [go_sem, e1] <;> rfl)))|(apply ev_guard;rfl;rfl;(simp +decide only [go_sem, e1] <;> rfl);intro _;rotate_left;intro _;rotate_right)|(apply wp_ift;(simp +decide only [go_sem, e1] <;> rfl))|(apply wp_iff;(simp +decide only [go_sem, e1] <;> rfl))|(apply wp_ifu;(simp +decide only [go_sem, e1] <;> rfl);intro _;rotate_left;intro _;rotate_right)|(apply wp_if;(simp +decide only [go_sem, e1] <;> rfl);intro _;rotate_left;intro _;rotate_right)|apply on_n|apply th_r|apply th_e|apply bl_n|apply bl_r|apply bl_e|(apply bl_o;(rfl))|apply wp_sk|apply wp_lb|apply wp_rt|apply wp_ex|(apply bq_r;(simp +decide only [go_sem, e1] <;> rfl))|(apply bq_n;(simp +decide only [go_sem, e1] <;> rfl))))
      rw [List.take_length, hll, List.take_length] at hC
      rw [hC]; rfl
  · have f0 : ((l.length : Int) != (l'.length : Int)) = true := by simp; omega
    (repeat' (first|apply th_n|apply wp_sq|apply wp_blk|apply wp_reg|apply wp_regd|(apply nm_and;kernel_rfl)|apply ev_nil|(apply ev_val;rfl;rfl;(simp +decide only [go_sem, f0] <;> rfl))|(apply ev_wr;rfl;rfl;(simp +decide only [go_sem, f0] <;> rfl))|(apply ev_st;rfl;rfl;(simp +decide only [go_sem, f0] <;> rfl))|(apply ev_yes;rfl;rfl;(simp +decide only [go_sem, f0] <;> rfl))|(apply ev_nt;rfl;rfl;(simp +decide only [go_sem, f0] <;> rfl))|(apply ev_no;rfl;rfl;(refine Or.inl ?_;(simp +decide only [go_sem, f0] <;> rfl)))|(apply ev_guard;rfl;rfl;(simp +decide only [go_sem, f0] <;> rfl);intro _;rotate_left;intro _;rotate_right)|(apply wp_ift;(simp +decide only [go_sem, f0] <;> rfl))|(apply wp_iff;(simp +decide only [go_sem, f0] <;> rfl))|(apply wp_ifu;(simp +decide only [go_sem, f0] <;> rfl);intro _;rotate_left;intro _;rotate_right)|(apply wp_if;(simp +decide only [go_sem, f0] <;> rfl);intro _;rotate_left;intro _;rotate_right)|apply on_n|apply th_r|apply th_e|apply bl_n|apply bl_r|apply bl_e|(apply bl_o;(rfl))|apply wp_sk|apply wp_lb|apply wp_rt|apply wp_ex|(apply bq_r;(simp +decide only [go_sem, f0] <;> rfl))|(apply bq_n;(simp +decide only [go_sem, f0] <;> rfl))))
    rw [all2_len hll]; rfl
set_option maxHeartbeats 1000000 in
theorem RsameExprs_pc (l l' : List Exp) (hl : Lst Exp.Ok l) (hl' : Lst Exp.Ok l') : PC Tryd.prog 73 [.sl l.length (rowE.cs l), .sl l'.length (rowE.cs l')] (.bool (all2 sameE l l')) := by
  refine pc_of_pwp _ Tryd.func73 rfl Tryd.results73 (by kernel_rfl) ?_
  by_cases hll : l.length = l'.length
  · have f0 : ((l.length : Int) != (l'.length : Int)) = false := by simp [hll]
    (repeat' (first|apply th_n|apply wp_sq|apply wp_blk|apply wp_reg|apply wp_regd|(apply nm_and;kernel_rfl)|apply ev_nil|(apply ev_val;rfl;rfl;(simp +decide only [go_sem, f0] <;> rfl))|(apply ev_wr;rfl;rfl;(simp +decide only [go_sem, f0] <;> rfl))|(apply ev_st;rfl;rfl;(simp +decide only [go_sem, f0] <;> rfl))|(apply ev_yes;rfl;rfl;(simp +decide only [go_sem, f0] <;> rfl))|(apply ev_nt;rfl;rfl;(simp +decide only [go_sem, f0] <;> rfl))|(apply ev_no;rfl;rfl;(refine Or.inl ?_;(simp +decide only [go_sem, f0] <;> rfl)))|(apply ev_guard;rfl;rfl;(simp +decide only [go_sem, f0] <;> rfl);intro _;rotate_left;intro _;rotate_right)|(apply wp_ift;(simp +decide only [go_sem, f0] <;> rfl))|(apply wp_iff;(simp +decide only [go_sem, f0] <;> rfl))|(apply wp_ifu;(simp +decide only [go_sem, f0] <;> rfl);intro _;rotate_left;intro _;rotate_right)|(apply wp_if;(simp +decide only [go_sem, f0] <;> rfl);intro _;rotate_left;intro _;rotate_right)|apply on_n|apply th_r|apply th_e|apply bl_n|apply bl_r|apply bl_e|(apply bl_o;(rfl))|apply wp_sk|apply wp_lb|apply wp_rt|apply wp_ex|(apply bq_r;(simp +decide only [go_sem, f0] <;> rfl))|(apply bq_n;(simp +decide only [go_sem, f0] <;> rfl))))
    refine wp_for l.length (fun i => [(0, .d (.sl l.length (rowE.cs l))), (1, .d (.sl l'.length (rowE.cs l'))), (5, .d (.int .i64 i))]) (fun _ => []) (fun i => all2 sameE (l.take i) (l'.take i) = true)
      (Cv.keepH _ _ (by (repeat' (first | exact trivial | apply And.intro | ((simp +decide only [go_sem] <;> rfl)) | rfl))) (by (repeat' (first | exact trivial | apply And.intro | ((simp +decide only [go_sem] <;> rfl)) | rfl))) rfl) rfl (fun i h hC => ?_) (fun hC => ?_)
    · have h' : i < l'.length := by omega
      have e1 := rnd (R := rowE) (n := 5) h rfl hl.1
      have e2 := rnd (R := rowE) (n := 5) h' rfl hl'.1
      have ht := all2_take sameE l l' i h h'
      have hn := all2_no (p := sameE) h h'
      have hc := RSameExpr_pc l[i] l'[i] (hl.2 _ (List.getElem_mem h)) (hl'.2 _ (List.getElem_mem h'))
      have hs : sameE l[i] l'[i] = sameE l[i] l'[i] := rfl
      generalize sameE l[i] l'[i] = r at *
      rw [hC, hs, Bool.true_and] at ht
      rw [hs] at hn
      clear hC hs
      (have hF := And.intro e1 e2; repeat' (first|apply th_n|apply wp_sq|apply wp_blk|apply wp_reg|apply wp_regd|(apply nm_and;kernel_rfl)|apply ev_nil|(apply ev_val;rfl;rfl;(simp +decide only [go_sem, hF] <;> rfl))|(apply ev_call;rfl;rfl;rfl;(simp +decide only [go_sem, hF] <;> rfl);(simp +decide only [go_sem, hF] <;> rfl);(first|exact hc))|(apply ev_wr;rfl;rfl;(simp +decide only [go_sem, hF] <;> rfl))|(apply ev_st;rfl;rfl;(simp +decide only [go_sem, hF] <;> rfl))|(apply ev_yes;rfl;rfl;(simp +decide only [go_sem, hF] <;> rfl))|(apply ev_nt;rfl;rfl;(simp +decide only [go_sem, hF] <;> rfl))|(apply ev_no;rfl;rfl;(refine Or.inl ?_;(simp +decide only [go_sem, hF] <;> rfl)))|(apply ev_guard;rfl;rfl;(simp +decide only [go_sem, hF] <;> rfl);intro _;rotate_left;intro _;rotate_right)|(apply wp_ift;(simp +decide only [go_sem, hF] <;> rfl))|(apply wp_iff;(simp +decide only [go_sem, hF] <;> rfl))|(apply wp_ifu;(simp +decide only [go_sem, hF] <;> rfl);intro _;rotate_left;intro _;rotate_right)|(apply wp_if;(simp +decide only [go_sem, hF] <;> rfl);intro _;rotate_left;intro _;rotate_right)|apply on_n|apply th_r|apply th_e|apply bl_n|apply bl_r|apply bl_e|(apply bl_o;(rfl))|apply wp_sk|apply wp_lb|apply wp_rt|apply wp_ex|(apply bq_r;(simp +decide only [go_sem, hF] <;> rfl))|(apply bq_n;(simp +decide only [go_sem, hF] <;> rfl))))
      all_goals first
        | (exact ⟨Cv.keepH _ _ (by (repeat' (first | exact trivial | apply And.intro | ((simp +decide only [go_sem] <;> rfl)) | rfl))) (by (repeat' (first | exact trivial | apply And.intro | ((simp +decide only [go_sem] <;> rfl)) | rfl))) rfl, by rw [ht]; simp_all⟩)
        | (rw [hn (by simp_all)]; rfl)
    · have e1 : decide ((l.length : Int) < (l.length : Int)) = false := by simp
      (repeat' (first|apply th_n|apply wp_sq|apply wp_blk|apply wp_reg|apply wp_regd|(apply nm_and;kernel_rfl)|apply ev_nil|(apply ev_val;rfl;rfl;(simp +decide only [go_sem, e1] <;> rfl))|(apply ev_wr;rfl;rfl;(simp +decide only [go_sem, e1] <;> rfl))|(apply ev_st;rfl;rfl;(simp +decide only [go_sem, e1] <;> rfl))|(apply ev_yes;rfl;rfl;(simp +decide only [go_sem, e1] <;> rfl))|(apply ev_nt;rfl;rfl;(simp +decide only [go_sem, e1] <;> rfl))|(apply ev_no;rfl;rfl;(refine Or.inl ?_;(simp +decide only [go_sem, e1] <;> rfl)))|(apply ev_guard;rfl;rfl;(simp +decide only [go_sem, e1] <;> rfl);intro _;rotate_left;intro _;rotate_right)|(apply wp_ift;(simp +decide only [go_sem, e1] <;> rfl))|(apply wp_iff;(simp +decide only [go_sem, e1] <;> rfl))|(apply wp_ifu;(simp +decide only [go_sem, e1] <;> rfl);intro _;rotate_left;intro _;rotate_right)|(apply wp_if;(simp +decide only [go_sem, e1] <;> rfl);intro _;rotate_left;intro _;rotate_right)|apply on_n|apply th_r|apply th_e|apply bl_n|apply bl_r|apply bl_e|(apply bl_o;(rfl))|apply wp_sk|apply wp_lb|apply wp_rt|apply wp_ex|(apply bq_r;(simp +decide only [go_sem, e1] <;> rfl))|(apply bq_n;(simp +decide only [go_sem, e1] <;> rfl))))
      rw [List.take_length, hll, List.take_length] at hC
      rw [hC]; rfl
  · have f0 : ((l.length : Int) != (l'.length : Int)) = true := by simp; omega
    (repeat' (first|apply th_n|apply wp_sq|apply wp_blk|apply wp_reg|apply wp_regd|(apply nm_and;kernel_rfl)|apply ev_nil|(apply ev_val;rfl;rfl;(simp +decide only [go_sem, f0] <;> rfl))|(apply ev_wr;rfl;rfl;(simp +decide only [go_sem, f0] <;> rfl))|(apply ev_st;rfl;rfl;(simp +decide only [go_sem, f0] <;> rfl))|(apply ev_yes;rfl;rfl;(simp +decide only [go_sem, f0] <;> rfl))|(apply ev_nt;rfl;rfl;(simp +decide only [go_sem, f0] <;> rfl))|(apply ev_no;rfl;rfl;(refine Or.inl ?_;(simp +decide only [go_sem, f0] <;> rfl)))|(apply ev_guard;rfl;rfl;(simp +decide only [go_sem, f0] <;> rfl);intro _;rotate_left;intro _;rotate_right)|(apply wp_ift;(simp +decide only [go_sem, f0] <;> rfl))|(apply wp_iff;(simp +decide only [go_sem, f0] <;> rfl))|(apply wp_ifu;(simp +decide only [go_sem, f0] <;> rfl);intro _;rotate_left;intro _;rotate_right)|(apply wp_if;(simp +decide only [go_sem, f0] <;> rfl);intro _;rotate_left;intro _;rotate_right)|apply on_n|apply th_r|apply th_e|apply bl_n|apply bl_r|apply bl_e|(apply bl_o;(rfl))|apply wp_sk|apply wp_lb|apply wp_rt|apply wp_ex|(apply bq_r;(simp +decide only [go_sem, f0] <;> rfl))|(apply bq_n;(simp +decide only [go_sem, f0] <;> rfl))))
    rw [all2_len hll]; rfl
end Go.Proofs.YtefiebkngpcaoaaDoor
