/- Programs alike: walks. Conditions: how they came in. -/
import Derived.Test.YtefiebkngpcaoaaDoorAstO
set_option maxRecDepth 100000
set_option linter.unusedVariables false
set_option linter.unusedSimpArgs false
set_option linter.unusedSectionVars false
namespace Go.Proofs.YtefiebkngpcaoaaDoor
open Go.RowKit

set_option maxHeartbeats 4000000 in
theorem sameModel_pc (x y : Mdl) (hx : x.Ok) (hy : y.Ok) : PC Tryd.prog 46 [.agg (rowMdl.toC x), .agg (rowMdl.toC y)] (.bool (sameMdl x y)) := by
  have st : ∀ l l', Lst Stt.Ok l → Lst Stt.Ok l' → PC Tryd.prog 63 [.sl l.length (rowStt.cs l), .sl l'.length (rowStt.cs l'), .fn (.func 64) [] []] (.bool (all2 sameStt l l')) := fun l l' h h' => eqFS_pc rowStt rfl l l' h.1 64 sameStt (fun u h1 v h2 => sameSet_pc u v (h.2 u h1) (h'.2 v h2))
  have pt : ∀ l l', Lst Prt.Ok l → Lst Prt.Ok l' → PC Tryd.prog 61 [.sl l.length (rowPrt.cs l), .sl l'.length (rowPrt.cs l'), .fn (.func 62) [] []] (.bool (all2 samePrt l l')) := fun l l' h h' => eqFP_pc rowPrt rfl l l' h.1 62 samePrt (fun u h1 v h2 => samePort_pc u v (h.2 u h1) (h'.2 v h2))
  have c1 := pt _ _ hx.ins hy.ins
  have c2 := pt _ _ hx.outs hy.outs
  have c3 := st _ _ hx.vars hy.vars
  have c4 := eqFE_pc rowE rfl x.ta y.ta hx.ta.1 21 sameE (fun u h1 v h2 => SameExpr_pc u v (hx.ta.2 u h1) (hy.ta.2 v h2))
  rw [← sameEL_all2] at c4
  have c5 := eqFM_pc rowEmt rfl x.emits y.emits hx.emits.1 66 sameEmt (fun u h1 v h2 => sameEmit_pc u v (hx.emits.2 u h1) (hy.emits.2 v h2))
  have c6 := st _ _ hx.int hy.int
  have c7 := st _ _ hx.ext hy.ext
  have c8 := st _ _ hx.own hy.own
  have c9 := eqlU_pc rowPt x.parts y.parts samePt hx.parts.1 rfl deqs_Pt
  have c10 := eqlL_pc rowLnk x.links y.links sameLnk hx.links.1 rfl deqs_Lnk
  have c11 := eqFR_pc rowRul rfl x.rules y.rules hx.rules.1 70 sameRul (fun u h1 v h2 => sameRule_pc u v (hx.rules.2 u h1) (hy.rules.2 v h2))
  obtain ⟨n, c, i1, i2, i3, i4, i5, i6, i7, k, i8, i9, i10, i11⟩ := x
  obtain ⟨n', c', j1, j2, j3, j4, j5, j6, j7, k', j8, j9, j10, j11⟩ := y
  unfold sameMdl
  simp only at c1 c2 c3 c4 c5 c6 c7 c8 c9 c10 c11 ⊢
  clear st pt hx hy
  generalize all2 samePrt i1 j1 = r1 at *
  generalize all2 samePrt i2 j2 = r2 at *
  generalize all2 sameStt i3 j3 = r3 at *
  generalize sameEL i4 j4 = r4 at *
  generalize all2 sameEmt i5 j5 = r5 at *
  generalize all2 sameStt i6 j6 = r6 at *
  generalize all2 sameStt i7 j7 = r7 at *
  generalize all2 sameStt i8 j8 = r8 at *
  generalize all2 samePt i9 j9 = r9 at *
  generalize all2 sameLnk i10 j10 = r10 at *
  generalize all2 sameRul i11 j11 = r11 at *
  show PC Tryd.prog 46 [.agg [_, _, _, _, _, _, _, _, _, _, _, _, _, _], .agg [_, _, _, _, _, _, _, _, _, _, _, _, _, _]] _
  refine pc_of_pwp _ Tryd.func46 rfl Tryd.results46 (by kernel_rfl) ?_
  (repeat' (first|apply th_n|apply wp_sq|apply wp_blk|apply wp_reg|apply wp_regd|(apply nm_and;kernel_rfl)|apply ev_nil|(apply ev_val;rfl;rfl;(simp +decide only [go_sem] <;> rfl))|(apply ev_call;rfl;rfl;rfl;(simp +decide only [go_sem] <;> rfl);(simp +decide only [go_sem] <;> rfl);(first|exact c1|exact c2|exact c3|exact c4|exact c5|exact c6|exact c7|exact c8|exact c9|exact c10|exact c11))|(apply ev_wr;rfl;rfl;(simp +decide only [go_sem] <;> rfl))|(apply ev_st;rfl;rfl;(simp +decide only [go_sem] <;> rfl))|(apply ev_yes;rfl;rfl;(simp +decide only [go_sem] <;> rfl))|(apply ev_nt;rfl;rfl;(simp +decide only [go_sem] <;> rfl))|(apply ev_no;rfl;rfl;(refine Or.inl ?_;(simp +decide only [go_sem] <;> rfl)))|(apply ev_guard;rfl;rfl;(simp +decide only [go_sem] <;> rfl);intro _;rotate_left;intro _;rotate_right)|(apply wp_ift;(simp +decide only [go_sem] <;> rfl))|(apply wp_iff;(simp +decide only [go_sem] <;> rfl))|(apply wp_ifu;(simp +decide only [go_sem] <;> rfl);intro _;rotate_left;intro _;rotate_right)|(apply wp_if;(simp +decide only [go_sem] <;> rfl);intro _;rotate_left;intro _;rotate_right)|apply on_n|apply th_r|apply th_e|apply bl_n|apply bl_r|apply bl_e|(apply bl_o;(rfl))|apply wp_sk|apply wp_lb|apply wp_rt|apply wp_ex|(apply bq_r;(simp +decide only [go_sem] <;> rfl))|(apply bq_n;(simp +decide only [go_sem] <;> rfl))))
  all_goals (show D.bool _ = D.bool _; simp_all)
set_option maxHeartbeats 1000000 in
theorem Same_pc' (x y : Prg) (hx : x.Ok) (hy : y.Ok) : PC Tryd.prog 25 [.agg x.cells, .agg y.cells] (.bool (samePrg x y)) := by
  have hc := eqFD_pc rowMdl rfl x.models y.models hx.models.1 46 sameMdl (fun u h1 v h2 => sameModel_pc u v (hx.models.2 u h1) (hy.models.2 v h2))
  obtain ⟨l, a⟩ := x
  obtain ⟨l', a'⟩ := y
  unfold samePrg
  simp only at hc ⊢
  generalize all2 sameMdl _ _ = r at *
  show PC Tryd.prog 25 [.agg [_, _], .agg [_, _]] _
  refine pc_of_pwp _ Tryd.func25 rfl Tryd.results25 (by kernel_rfl) ?_
  (repeat' (first|apply th_n|apply wp_sq|apply wp_blk|apply wp_reg|apply wp_regd|(apply nm_and;kernel_rfl)|apply ev_nil|(apply ev_val;rfl;rfl;(simp +decide only [go_sem] <;> rfl))|(apply ev_call;rfl;rfl;rfl;(simp +decide only [go_sem] <;> rfl);(simp +decide only [go_sem] <;> rfl);(first|exact hc))|(apply ev_wr;rfl;rfl;(simp +decide only [go_sem] <;> rfl))|(apply ev_st;rfl;rfl;(simp +decide only [go_sem] <;> rfl))|(apply ev_yes;rfl;rfl;(simp +decide only [go_sem] <;> rfl))|(apply ev_nt;rfl;rfl;(simp +decide only [go_sem] <;> rfl))|(apply ev_no;rfl;rfl;(refine Or.inl ?_;(simp +decide only [go_sem] <;> rfl)))|(apply ev_guard;rfl;rfl;(simp +decide only [go_sem] <;> rfl);intro _;rotate_left;intro _;rotate_right)|(apply wp_ift;(simp +decide only [go_sem] <;> rfl))|(apply wp_iff;(simp +decide only [go_sem] <;> rfl))|(apply wp_ifu;(simp +decide only [go_sem] <;> rfl);intro _;rotate_left;intro _;rotate_right)|(apply wp_if;(simp +decide only [go_sem] <;> rfl);intro _;rotate_left;intro _;rotate_right)|apply on_n|apply th_r|apply th_e|apply bl_n|apply bl_r|apply bl_e|(apply bl_o;(rfl))|apply wp_sk|apply wp_lb|apply wp_rt|apply wp_ex|(apply bq_r;(simp +decide only [go_sem] <;> rfl))|(apply bq_n;(simp +decide only [go_sem] <;> rfl))))
  all_goals (show D.bool _ = D.bool _; simp_all)
end Go.Proofs.YtefiebkngpcaoaaDoor
