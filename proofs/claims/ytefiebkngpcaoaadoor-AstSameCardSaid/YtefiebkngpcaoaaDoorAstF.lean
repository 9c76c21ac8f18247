/- Expressions: right, alike: walks. Conditions: how they came in. -/
import Derived.Test.YtefiebkngpcaoaaDoorAstE
set_option maxRecDepth 100000
set_option linter.unusedVariables false
set_option linter.unusedSimpArgs false
set_option linter.unusedSectionVars false
namespace Go.Proofs.YtefiebkngpcaoaaDoor
open Go.RowKit

/-- Is an expression of at most so great a nest right? -/
def eRight : Nat → Exp → Bool
  | 0, _ => false
  | r + 1, .mk op n a s l => flatE op n a s l.length && l.all (eRight r)
set_option maxHeartbeats 1000000 in
theorem exprRight_pc : ∀ (r : Nat), r ≤ 20 → ∀ (x : Exp), x.Ok → PC Tryd.prog 40 [.agg x.cells, .int .i64 (r : Int)] (.bool (eRight r x)) := by
  intro r
  induction r with
  | zero =>
    rintro - ⟨op, n, a, s, l⟩ hx
    rw [Exp.cells_mk, eRight]
    refine pc_of_pwp _ Tryd.func40 rfl Tryd.results40 (by kernel_rfl) ?_
    have e1 : decide (((0 : Nat) : Int) > 0) = false := rfl
    (repeat' (first|apply th_n|apply wp_sq|apply wp_blk|apply wp_reg|apply wp_regd|(apply nm_and;kernel_rfl)|apply ev_nil|(apply ev_ice (tm := 3);rfl;rfl;rfl;(simp +decide only [go_sem, e1] <;> rfl);(simp +decide only [go_sem, e1] <;> rfl))|(apply ev_val;rfl;rfl;(simp +decide only [go_sem, e1] <;> rfl))|(apply ev_wr;rfl;rfl;(simp +decide only [go_sem, e1] <;> rfl))|(apply ev_st;rfl;rfl;(simp +decide only [go_sem, e1] <;> rfl))|(apply ev_yes;rfl;rfl;(simp +decide only [go_sem, e1] <;> rfl))|(apply ev_nt;rfl;rfl;(simp +decide only [go_sem, e1] <;> rfl))|(apply ev_no;rfl;rfl;(refine Or.inl ?_;(simp +decide only [go_sem, e1] <;> rfl)))|(apply ev_guard;rfl;rfl;(simp +decide only [go_sem, e1] <;> rfl);intro _;rotate_left;intro _;rotate_right)|(apply wp_ift;(simp +decide only [go_sem, e1] <;> rfl))|(apply wp_iff;(simp +decide only [go_sem, e1] <;> rfl))|(apply wp_ifu;(simp +decide only [go_sem, e1] <;> rfl);intro _;rotate_left;intro _;rotate_right)|(apply wp_if;(simp +decide only [go_sem, e1] <;> rfl);intro _;rotate_left;intro _;rotate_right)|apply on_n|apply th_r|apply th_e|apply bl_n|apply bl_r|apply bl_e|(apply bl_o;(rfl))|apply wp_sk|apply wp_lb|apply wp_rt|apply wp_ex|(apply bq_r;(simp +decide only [go_sem, e1] <;> rfl))|(apply bq_n;(simp +decide only [go_sem, e1] <;> rfl))))
    rfl
  | succ r ih =>
    rintro hr ⟨op, n, a, s, l⟩ hx
    obtain ⟨-, -, ha, hs, hl, hk⟩ := hx.parts
    have e1 : decide (((r + 1 : Nat) : Int) > 0) = true := decide_eq_true (by omega)
    have e2 : IntKind.i64.wrap (((r + 1 : Nat) : Int) - 1) = (r : Int) := by rw [wrap_in (by omega)]; omega
    have hcl : ∀ y ∈ l, PC Tryd.prog 59 ([] ++ [.agg (rowE.toC y)] ++ [.ep [.int .i64 ((r + 1 : Nat) : Int)]]) (.bool (eRight r y)) := by
      intro y hy
      have hi := ih (by omega) y (hk y hy)
      obtain ⟨o', n', a', s', ly⟩ := y
      rw [Exp.cells_mk] at hi
      show PC Tryd.prog 59 [.agg (Exp.cells (.mk o' n' a' s' ly)), .ep [.int .i64 ((r + 1 : Nat) : Int)]] _
      rw [Exp.cells_mk]
      refine pc_of_pwp _ Tryd.func59 rfl Tryd.results59 (by kernel_rfl) ?_
      (repeat' (first|apply th_n|apply wp_sq|apply wp_blk|apply wp_reg|apply wp_regd|(apply nm_and;kernel_rfl)|apply ev_nil|(apply ev_val;rfl;rfl;(simp +decide only [go_sem, e2] <;> rfl))|(apply ev_call;rfl;rfl;rfl;(simp +decide only [go_sem, e2] <;> rfl);(simp +decide only [go_sem, e2] <;> rfl);(first|exact hi))|(apply ev_wr;rfl;rfl;(simp +decide only [go_sem, e2] <;> rfl))|(apply ev_st;rfl;rfl;(simp +decide only [go_sem, e2] <;> rfl))|(apply ev_yes;rfl;rfl;(simp +decide only [go_sem, e2] <;> rfl))|(apply ev_nt;rfl;rfl;(simp +decide only [go_sem, e2] <;> rfl))|(apply ev_no;rfl;rfl;(refine Or.inl ?_;(simp +decide only [go_sem, e2] <;> rfl)))|(apply ev_guard;rfl;rfl;(simp +decide only [go_sem, e2] <;> rfl);intro _;rotate_left;intro _;rotate_right)|(apply wp_ift;(simp +decide only [go_sem, e2] <;> rfl))|(apply wp_iff;(simp +decide only [go_sem, e2] <;> rfl))|(apply wp_ifu;(simp +decide only [go_sem, e2] <;> rfl);intro _;rotate_left;intro _;rotate_right)|(apply wp_if;(simp +decide only [go_sem, e2] <;> rfl);intro _;rotate_left;intro _;rotate_right)|apply on_n|apply th_r|apply th_e|apply bl_n|apply bl_r|apply bl_e|(apply bl_o;(rfl))|apply wp_sk|apply wp_lb|apply wp_rt|apply wp_ex|(apply bq_r;(simp +decide only [go_sem, e2] <;> rfl))|(apply bq_n;(simp +decide only [go_sem, e2] <;> rfl))))
      rfl
    have hall := allE_pc rowE rfl l hl 59 [] [.ep [.int .i64 ((r + 1 : Nat) : Int)]] (eRight r) hcl
    have hf := flat_pc op n a s l ha hs
    rw [Exp.cells_mk, eRight]
    refine pc_of_pwp _ Tryd.func40 rfl Tryd.results40 (by kernel_rfl) ?_
    cases hb : flatE op n a s l.length <;> rw [hb] at hf
    all_goals
      (repeat' (first|apply th_n|apply wp_sq|apply wp_blk|apply wp_reg|apply wp_regd|(apply nm_and;kernel_rfl)|apply ev_nil|(apply ev_ice (tm := 3);rfl;rfl;rfl;(simp +decide only [go_sem, e1] <;> rfl);(simp +decide only [go_sem, e1] <;> rfl))|(apply ev_val;rfl;rfl;(simp +decide only [go_sem, e1] <;> rfl))|(apply ev_call;rfl;rfl;rfl;(simp +decide only [go_sem, e1] <;> rfl);(simp +decide only [go_sem, e1] <;> rfl);(first|exact hf|exact hall))|(apply ev_wr;rfl;rfl;(simp +decide only [go_sem, e1] <;> rfl))|(apply ev_st;rfl;rfl;(simp +decide only [go_sem, e1] <;> rfl))|(apply ev_yes;rfl;rfl;(simp +decide only [go_sem, e1] <;> rfl))|(apply ev_nt;rfl;rfl;(simp +decide only [go_sem, e1] <;> rfl))|(apply ev_no;rfl;rfl;(refine Or.inl ?_;(simp +decide only [go_sem, e1] <;> rfl)))|(apply ev_guard;rfl;rfl;(simp +decide only [go_sem, e1] <;> rfl);intro _;rotate_left;intro _;rotate_right)|(apply wp_ift;(simp +decide only [go_sem, e1] <;> rfl))|(apply wp_iff;(simp +decide only [go_sem, e1] <;> rfl))|(apply wp_ifu;(simp +decide only [go_sem, e1] <;> rfl);intro _;rotate_left;intro _;rotate_right)|(apply wp_if;(simp +decide only [go_sem, e1] <;> rfl);intro _;rotate_left;intro _;rotate_right)|apply on_n|apply th_r|apply th_e|apply bl_n|apply bl_r|apply bl_e|(apply bl_o;(rfl))|apply wp_sk|apply wp_lb|apply wp_rt|apply wp_ex|(apply bq_r;(simp +decide only [go_sem, e1] <;> rfl))|(apply bq_n;(simp +decide only [go_sem, e1] <;> rfl))))
      rfl
theorem ExprRight_pc (x : Exp) (hx : x.Ok) : PC Tryd.prog 20 [.agg x.cells] (.bool (eRight 20 x)) := by
  have hc : PC Tryd.prog 40 [.agg x.cells, .int .i64 20] (.bool (eRight 20 x)) := exprRight_pc 20 (by omega) x hx
  obtain ⟨op, n, a, s, l⟩ := x
  generalize eRight 20 (Exp.mk op n a s l) = y at *
  rw [Exp.cells_mk] at *
  refine pc_of_pwp _ Tryd.func20 rfl Tryd.results20 (by kernel_rfl) ?_
  (repeat' (first|apply th_n|apply wp_sq|apply wp_blk|apply wp_reg|apply wp_regd|(apply nm_and;kernel_rfl)|apply ev_nil|(apply ev_val;rfl;rfl;(simp +decide only [go_sem] <;> rfl))|(apply ev_call;rfl;rfl;rfl;(simp +decide only [go_sem] <;> rfl);(simp +decide only [go_sem] <;> rfl);(first|exact hc))|(apply ev_wr;rfl;rfl;(simp +decide only [go_sem] <;> rfl))|(apply ev_st;rfl;rfl;(simp +decide only [go_sem] <;> rfl))|(apply ev_yes;rfl;rfl;(simp +decide only [go_sem] <;> rfl))|(apply ev_nt;rfl;rfl;(simp +decide only [go_sem] <;> rfl))|(apply ev_no;rfl;rfl;(refine Or.inl ?_;(simp +decide only [go_sem] <;> rfl)))|(apply ev_guard;rfl;rfl;(simp +decide only [go_sem] <;> rfl);intro _;rotate_left;intro _;rotate_right)|(apply wp_ift;(simp +decide only [go_sem] <;> rfl))|(apply wp_iff;(simp +decide only [go_sem] <;> rfl))|(apply wp_ifu;(simp +decide only [go_sem] <;> rfl);intro _;rotate_left;intro _;rotate_right)|(apply wp_if;(simp +decide only [go_sem] <;> rfl);intro _;rotate_left;intro _;rotate_right)|apply on_n|apply th_r|apply th_e|apply bl_n|apply bl_r|apply bl_e|(apply bl_o;(rfl))|apply wp_sk|apply wp_lb|apply wp_rt|apply wp_ex|(apply bq_r;(simp +decide only [go_sem] <;> rfl))|(apply bq_n;(simp +decide only [go_sem] <;> rfl))))
  rfl
mutual
def sameE : Exp → Exp → Bool
  | .mk o n a s l, .mk o' n' a' s' l' => (o == o') && (n == n') && (a.toList == a'.toList) && (s.toList == s'.toList) && sameEL l l'
def sameEL : List Exp → List Exp → Bool
  | [], [] => true
  | x :: l, y :: l' => sameE x y && sameEL l l'
  | _, _ => false
end
theorem sameEL_all2 : ∀ l l', sameEL l l' = all2 sameE l l'
  | [], [] => by rw [sameEL, all2]
  | x :: l, y :: l' => by rw [sameEL, all2, sameEL_all2 l l']
  | [], _ :: _ => by rw [sameEL, all2] <;> simp
  | _ :: _, [] => by rw [sameEL, all2] <;> simp
set_option maxHeartbeats 1000000 in
theorem SameExpr_pc : ∀ (x y : Exp), x.Ok → y.Ok → PC Tryd.prog 21 [.agg x.cells, .agg y.cells] (.bool (sameE x y))
  | .mk o n a s l, .mk o' n' a' s' l', hx, hy => by
    obtain ⟨-, -, -, -, hl, hk⟩ := hx.parts
    obtain ⟨-, -, -, -, hl', hk'⟩ := hy.parts
    have hc := eqFE_pc rowE rfl l l' hl 21 sameE (fun x h1 y h2 => SameExpr_pc x y (hk x h1) (hk' y h2))
    rw [← sameEL_all2] at hc
    rw [Exp.cells_mk, Exp.cells_mk, sameE]
    refine pc_of_pwp _ Tryd.func21 rfl Tryd.results21 (by kernel_rfl) ?_
    (repeat' (first|apply th_n|apply wp_sq|apply wp_blk|apply wp_reg|apply wp_regd|(apply nm_and;kernel_rfl)|apply ev_nil|(apply ev_val;rfl;rfl;(simp +decide only [go_sem] <;> rfl))|(apply ev_call;rfl;rfl;rfl;(simp +decide only [go_sem] <;> rfl);(simp +decide only [go_sem] <;> rfl);(first|exact hc))|(apply ev_wr;rfl;rfl;(simp +decide only [go_sem] <;> rfl))|(apply ev_st;rfl;rfl;(simp +decide only [go_sem] <;> rfl))|(apply ev_yes;rfl;rfl;(simp +decide only [go_sem] <;> rfl))|(apply ev_nt;rfl;rfl;(simp +decide only [go_sem] <;> rfl))|(apply ev_no;rfl;rfl;(refine Or.inl ?_;(simp +decide only [go_sem] <;> rfl)))|(apply ev_guard;rfl;rfl;(simp +decide only [go_sem] <;> rfl);intro _;rotate_left;intro _;rotate_right)|(apply wp_ift;(simp +decide only [go_sem] <;> rfl))|(apply wp_iff;(simp +decide only [go_sem] <;> rfl))|(apply wp_ifu;(simp +decide only [go_sem] <;> rfl);intro _;rotate_left;intro _;rotate_right)|(apply wp_if;(simp +decide only [go_sem] <;> rfl);intro _;rotate_left;intro _;rotate_right)|apply on_n|apply th_r|apply th_e|apply bl_n|apply bl_r|apply bl_e|(apply bl_o;(rfl))|apply wp_sk|apply wp_lb|apply wp_rt|apply wp_ex|(apply bq_r;(simp +decide only [go_sem] <;> rfl))|(apply bq_n;(simp +decide only [go_sem] <;> rfl))))
    all_goals (show D.bool _ = D.bool _; simp_all)
termination_by x => SizeOf.sizeOf x
decreasing_by (have := List.sizeOf_lt_of_mem h1; simp; omega)
set_option maxHeartbeats 1000000 in
theorem RSameExpr_pc : ∀ (x y : Exp), x.Ok → y.Ok → PC Tryd.prog 14 [.agg x.cells, .agg y.cells] (.bool (sameE x y))
  | .mk o n a s l, .mk o' n' a' s' l', hx, hy => by
    obtain ⟨-, -, -, -, hl, hk⟩ := hx.parts
    obtain ⟨-, -, -, -, hl', hk'⟩ := hy.parts
    have ih : ∀ x ∈ l, ∀ y ∈ l', PC Tryd.prog 14 [.agg (rowE.toC x), .agg (rowE.toC y)] (.bool (sameE x y)) := fun x h1 y h2 => RSameExpr_pc x y (hk x h1) (hk' y h2)
    rw [Exp.cells_mk, Exp.cells_mk, sameE, sameEL_all2]
    refine pc_of_pwp _ Tryd.func14 rfl Tryd.results14 (by kernel_rfl) ?_
    have hne : l.length ≠ l'.length → all2 sameE l l' = false := all2_len
    (repeat' (first|apply th_n|apply wp_sq|apply wp_blk|apply wp_reg|apply wp_regd|(apply nm_and;kernel_rfl)|apply ev_nil|(apply ev_val;rfl;rfl;(simp +decide only [go_sem] <;> rfl))|(apply ev_wr;rfl;rfl;(simp +decide only [go_sem] <;> rfl))|(apply ev_st;rfl;rfl;(simp +decide only [go_sem] <;> rfl))|(apply ev_yes;rfl;rfl;(simp +decide only [go_sem] <;> rfl))|(apply ev_nt;rfl;rfl;(simp +decide only [go_sem] <;> rfl))|(apply ev_no;rfl;rfl;(refine Or.inl ?_;(simp +decide only [go_sem] <;> rfl)))|(apply ev_guard;rfl;rfl;(simp +decide only [go_sem] <;> rfl);intro _;rotate_left;intro _;rotate_right)|(apply wp_ift;(simp +decide only [go_sem] <;> rfl))|(apply wp_iff;(simp +decide only [go_sem] <;> rfl))|(apply wp_ifu;(simp +decide only [go_sem] <;> rfl);intro _;rotate_left;intro _;rotate_right)|(apply wp_if;(simp +decide only [go_sem] <;> rfl);intro _;rotate_left;intro _;rotate_right)|apply on_n|apply th_r|apply th_e|apply bl_n|apply bl_r|apply bl_e|(apply bl_o;(rfl))|apply wp_sk|apply wp_lb|apply wp_rt|apply wp_ex|(apply bq_r;(simp +decide only [go_sem] <;> rfl))|(apply bq_n;(simp +decide only [go_sem] <;> rfl))))
    all_goals first | (show D.bool _ = D.bool _; clear hne; simp_all [bne]; done) | (show D.bool _ = D.bool _; rename_i q; rw [hne (fun e => by simp [e] at q), Bool.and_false]; done) | skip
    have hll : l.length = l'.length := by rename_i q; simp at q; omega
    clear hne
    have hres : (o == o' && n == n' && a.toList == a'.toList && s.toList == s'.toList && all2 sameE l l') = all2 sameE l l' := by simp_all [bne]
    rw [hres]
    clear hres
    refine wp_for l.length (fun i => [(2, .loc 2 0), (3, .loc 3 0), (5, .d (.int .i64 i))]) (fun _ => [(2, .box [.d (.int .i64 o), .d (.int .i64 n), .d (.str a), .d (.str s), .d (.sl l.length (rowE.cs l))]), (3, .box [.d (.int .i64 o'), .d (.int .i64 n'), .d (.str a'), .d (.str s'), .d (.sl l'.length (rowE.cs l'))])])
      (fun i => all2 sameE (l.take i) (l'.take i) = true) (Cv.keepH _ _ (by (repeat' (first | exact trivial | apply And.intro | ((simp +decide only [go_sem] <;> rfl)) | rfl))) (by (repeat' (first | exact trivial | apply And.intro | ((simp +decide only [go_sem] <;> rfl)) | rfl))) rfl) rfl (fun i h hC => ?_) (fun hC => ?_)
    · have h' : i < l'.length := by omega
      have e1 := rnd (R := rowE) (n := 5) h rfl hl
      have e2 := rnd (R := rowE) (n := 5) h' rfl hl'
      have hc := ih l[i] (List.getElem_mem h) l'[i] (List.getElem_mem h')
      have ht := all2_take sameE l l' i h h'
      cases hpx : sameE l[i] l'[i] <;> rw [hpx] at hc
      · (have hF := And.intro e1 e2; repeat' (first|apply th_n|apply wp_sq|apply wp_blk|apply wp_reg|apply wp_regd|(apply nm_and;kernel_rfl)|apply ev_nil|(apply ev_val;rfl;rfl;(simp +decide only [go_sem, hF] <;> rfl))|(apply ev_call;rfl;rfl;rfl;(simp +decide only [go_sem, hF] <;> rfl);(simp +decide only [go_sem, hF] <;> rfl);(first|exact hc))|(apply ev_wr;rfl;rfl;(simp +decide only [go_sem, hF] <;> rfl))|(apply ev_st;rfl;rfl;(simp +decide only [go_sem, hF] <;> rfl))|(apply ev_yes;rfl;rfl;(simp +decide only [go_sem, hF] <;> rfl))|(apply ev_nt;rfl;rfl;(simp +decide only [go_sem, hF] <;> rfl))|(apply ev_no;rfl;rfl;(refine Or.inl ?_;(simp +decide only [go_sem, hF] <;> rfl)))|(apply ev_guard;rfl;rfl;(simp +decide only [go_sem, hF] <;> rfl);intro _;rotate_left;intro _;rotate_right)|(apply wp_ift;(simp +decide only [go_sem, hF] <;> rfl))|(apply wp_iff;(simp +decide only [go_sem, hF] <;> rfl))|(apply wp_ifu;(simp +decide only [go_sem, hF] <;> rfl);intro _;rotate_left;intro _;rotate_right)|(apply wp_if;(simp +decide only [go_sem, hF] <;> rfl);intro _;rotate_left;intro _;rotate_right)|apply on_n|apply th_r|apply th_e|apply bl_n|apply bl_r|apply bl_e|(apply bl_o;(rfl))|apply wp_sk|apply wp_lb|apply wp_rt|apply wp_ex|(apply bq_r;(simp +decide only [go_sem, hF] <;> rfl))|(apply bq_n;(simp +decide only [go_sem, hF] <;> rfl))))
        rw [all2_no h h' hpx]; rfl
      · (have hF := And.intro e1 e2; repeat' (first|apply th_n|apply wp_sq|apply wp_blk|apply wp_reg|apply wp_regd|(apply nm_and;kernel_rfl)|apply ev_nil|(apply ev_val;rfl;rfl;(simp +decide only [go_sem, hF] <;> rfl))|(apply ev_call;rfl;rfl;rfl;(simp +decide only [go_sem, hF] <;> rfl);(simp +decide only [go_sem, hF] <;> rfl);(first|exact hc))|(apply ev_wr;rfl;rfl;(simp +decide only [go_sem, hF] <;> rfl))|(apply ev_st;rfl;rfl;(simp +decide only [go_sem, hF] <;> rfl))|(apply ev_yes;rfl;rfl;(simp +decide only [go_sem, hF] <;> rfl))|(apply ev_nt;rfl;rfl;(simp +decide only [go_sem, hF] <;> rfl))|(apply ev_no;rfl;rfl;(refine Or.inl ?_;(simp +decide only [go_sem, hF] <;> rfl)))|(apply ev_guard;rfl;rfl;(simp +decide only [go_sem, hF] <;> rfl);intro _;rotate_left;intro _;rotate_right)|(apply wp_ift;(simp +decide only [go_sem, hF] <;> rfl))|(apply wp_iff;(simp +decide only [go_sem, hF] <;> rfl))|(apply wp_ifu;(simp +decide only [go_sem, hF] <;> rfl);intro _;rotate_left;intro _;rotate_right)|(apply wp_if;(simp +decide only [go_sem, hF] <;> rfl);intro _;rotate_left;intro _;rotate_right)|apply on_n|apply th_r|apply th_e|apply bl_n|apply bl_r|apply bl_e|(apply bl_o;(rfl))|apply wp_sk|apply wp_lb|apply wp_rt|apply wp_ex|(apply bq_r;(simp +decide only [go_sem, hF] <;> rfl))|(apply bq_n;(simp +decide only [go_sem, hF] <;> rfl))))
        exact ⟨Cv.keepH _ _ (by (repeat' (first | exact trivial | apply And.intro | ((simp +decide only [go_sem] <;> rfl)) | rfl))) (by (repeat' (first | exact trivial | apply And.intro | ((simp +decide only [go_sem] <;> rfl)) | rfl))) rfl, by rw [ht, hC, hpx]; rfl⟩
    · have e1 : decide ((l.length : Int) < (l.length : Int)) = false := by simp
      (repeat' (first|apply th_n|apply wp_sq|apply wp_blk|apply wp_reg|apply wp_regd|(apply nm_and;kernel_rfl)|apply ev_nil|(apply ev_val;rfl;rfl;(simp +decide only [go_sem, e1] <;> rfl))|(apply ev_wr;rfl;rfl;(simp +decide only [go_sem, e1] <;> rfl))|(apply ev_st;rfl;rfl;(simp +decide only [go_sem, e1] <;> rfl))|(apply ev_yes;rfl;rfl;(simp +decide only [go_sem, e1] <;> rfl))|(apply ev_nt;rfl;rfl;(simp +decide only [go_sem, e1] <;> rfl))|(apply ev_no;rfl;rfl;(refine Or.inl ?_;(simp +decide only [go_sem, e1] <;> rfl)))|(apply ev_guard;rfl;rfl;(simp +decide only [go_sem, e1] <;> rfl);intro _;rotate_left;intro _;rotate_right)|(apply wp_ift;(simp +decide only [go_sem, e1] <;> rfl))|(apply wp_iff;(simp +decide only [go_sem, e1] <;> rfl))|(apply wp_ifu;(simp +decide only [go_sem, e1] <;> rfl);intro _;rotate_left;intro _;rotate_right)|(apply wp_if;(simp +decide only [go_sem, e1] <;> rfl);intro _;rotate_left;intro _;rotate_right)|apply on_n|apply th_r|apply th_e|apply bl_n|apply bl_r|apply bl_e|(apply bl_o;(rfl))|apply wp_sk|apply wp_lb|apply wp_rt|apply wp_ex|(apply bq_r;(simp +decide only [go_sem, e1] <;> rfl))|(apply bq_n;(simp +decide only [go_sem, e1] <;> rfl))))
      rw [List.take_length, hll, List.take_length] at hC
      rw [hC]; rfl
termination_by x => SizeOf.sizeOf x
decreasing_by (have := List.sizeOf_lt_of_mem h1; simp; omega)
/-- The document's five tests by an expression's sign. -/
def rshp (op n : Int) (na nb nc ea es : Bool) : Int × Int × Bool × Bool × Bool :=
  if op = 0 then (0, 0, decide (n ≥ 0), ea, es) else if op = 1 ∨ op = 2 ∨ op = 11 then (0, 0, n == 0, ea, es)
  else if op = 3 then (0, 0, n == 0, na, es) else if op = 4 ∨ op = 7 ∨ op = 8 ∨ op = 9 then (0, 0, n == 0, nb, es) else if op = 5 then (0, 0, n == 0, nb, nc)
  else if op = 6 then (1, 4, n == 0, ea, es) else if op = 10 then (1, 1, n == 0, nb, es) else if op = 12 then (1, 1, decide (n ≥ 0) && decide (n ≤ 3), ea, es)
  else if op = 13 ∨ op = 14 then (1, 1, n == 0, ea, es) else if op = 25 then (3, 3, n == 0, ea, es) else (2, 2, n == 0, ea, es)
def rshpE (op n : Int) (a s : ByteArray) : Int × Int × Bool × Bool × Bool := rshp op n (nameB a.data.toList) (nameA a) (nameA s) (a.toList == (⟨#[]⟩ : ByteArray).toList) (s.toList == (⟨#[]⟩ : ByteArray).toList)
theorem rshp_flat (op n : Int) (a s : ByteArray) (k : Nat) : flatE op n a s k = (decide (0 ≤ op) && decide (op ≤ 25) && (rshpE op n a s).2.2.1 && (rshpE op n a s).2.2.2.1 && (rshpE op n a s).2.2.2.2 && decide ((rshpE op n a s).1 ≤ k) && decide ((k : Int) ≤ (rshpE op n a s).2.1)) := by
  by_cases h : 0 ≤ op ∧ op ≤ 25
  · obtain ⟨h1, h2⟩ := h
    have : op = 0 ∨ op = 1 ∨ op = 2 ∨ op = 3 ∨ op = 4 ∨ op = 5 ∨ op = 6 ∨ op = 7 ∨ op = 8 ∨ op = 9 ∨ op = 10 ∨ op = 11 ∨ op = 12 ∨ op = 13 ∨ op = 14 ∨ op = 15 ∨ op = 16 ∨ op = 17 ∨ op = 18 ∨ op = 19 ∨ op = 20 ∨ op = 21 ∨ op = 22 ∨ op = 23 ∨ op = 24 ∨ op = 25 := by omega
    unfold flatE rshpE
    generalize nameB a.data.toList = na
    generalize nameA a = nb
    generalize nameA s = nc
    generalize (a.toList == (⟨#[]⟩ : ByteArray).toList) = ea
    generalize (s.toList == (⟨#[]⟩ : ByteArray).toList) = es
    rcases this with rfl | rfl | rfl | rfl | rfl | rfl | rfl | rfl | rfl | rfl | rfl | rfl | rfl | rfl | rfl | rfl | rfl | rfl | rfl | rfl | rfl | rfl | rfl | rfl | rfl | rfl
    all_goals simp +decide only [shp, rshp, if_true, if_false]
    all_goals clear h1 h2
    all_goals cases na <;> cases nb <;> cases nc <;> cases ea <;> cases es <;> rw [Bool.eq_iff_iff] <;> simp <;> omega
  · have : decide (op < 0) = true ∨ decide (op > 25) = true := by simp; omega
    have h2 : (decide (0 ≤ op) && decide (op ≤ 25)) = false := by simp; omega
    unfold flatE
    rw [h2]
    rcases this with h | h <;> simp [h]
set_option maxHeartbeats 4000000 in
theorem RExprRight_pc : ∀ (r : Nat), r ≤ 20 → ∀ (x : Exp), x.Ok → PC Tryd.prog 22 [.agg x.cells, .int .i64 (r : Int)] (.bool (eRight r x)) := by
  intro r
  induction r with
  | zero =>
    rintro - ⟨op, n, a, s, l⟩ hx
    rw [Exp.cells_mk, eRight]
    refine pc_of_pwp _ Tryd.func22 rfl Tryd.results22 (by kernel_rfl) ?_
    have e1 : (((0 : Nat) : Int) == 0) = true := rfl
    (repeat' (first|apply th_n|apply wp_sq|apply wp_blk|apply wp_reg|apply wp_regd|(apply nm_and;kernel_rfl)|apply ev_nil|(apply ev_val;rfl;rfl;(simp +decide only [go_sem, e1] <;> rfl))|(apply ev_wr;rfl;rfl;(simp +decide only [go_sem, e1] <;> rfl))|(apply ev_st;rfl;rfl;(simp +decide only [go_sem, e1] <;> rfl))|(apply ev_yes;rfl;rfl;(simp +decide only [go_sem, e1] <;> rfl))|(apply ev_nt;rfl;rfl;(simp +decide only [go_sem, e1] <;> rfl))|(apply ev_no;rfl;rfl;(refine Or.inl ?_;(simp +decide only [go_sem, e1] <;> rfl)))|(apply ev_guard;rfl;rfl;(simp +decide only [go_sem, e1] <;> rfl);intro _;rotate_left;intro _;rotate_right)|(apply wp_ift;(simp +decide only [go_sem, e1] <;> rfl))|(apply wp_iff;(simp +decide only [go_sem, e1] <;> rfl))|(apply wp_ifu;(simp +decide only [go_sem, e1] <;> rfl);intro _;rotate_left;intro _;rotate_right)|(apply wp_if;(simp +decide only [go_sem, e1] <;> rfl);intro _;rotate_left;intro _;rotate_right)|apply on_n|apply th_r|apply th_e|apply bl_n|apply bl_r|apply bl_e|(apply bl_o;(rfl))|apply wp_sk|apply wp_lb|apply wp_rt|apply wp_ex|(apply bq_r;(simp +decide only [go_sem, e1] <;> rfl))|(apply bq_n;(simp +decide only [go_sem, e1] <;> rfl))))
    rfl
  | succ r ih =>
    rintro hr ⟨op, n, a, s, l⟩ hx
    obtain ⟨-, -, ha, hs, hl, hk⟩ := hx.parts
    have e1 : (((r + 1 : Nat) : Int) == 0) = false := by simp; omega
    have e2 : IntKind.i64.wrap (((r + 1 : Nat) : Int) - 1) = (r : Int) := by rw [wrap_in (by omega)]; omega
    have ih : ∀ y ∈ l, PC Tryd.prog 22 [.agg (rowE.toC y), .int .i64 (r : Int)] (.bool (eRight r y)) := fun y hy => ih (by omega) y (hk y hy)
    have h1 := RName_pc a ha
    have h2 := RName_pc' a ha
    have h3 := RName_pc' s hs
    rw [Exp.cells_mk, eRight, rshp_flat]
    refine pc_of_pwp _ Tryd.func22 rfl Tryd.results22 (by kernel_rfl) ?_
    (repeat' (first|(refine wp_cut (x := .seq (.region 5 _ _) _) (fun f H => f = frm [(1, .d (.int .i64 ((r + 1 : Nat) : Int))), (2, .loc 2 0), (5, .d (.int .i64 (rshpE op n a s).1)), (6, .d (.int .i64 (rshpE op n a s).2.1)), (7, .d (.bool (rshpE op n a s).2.2.1)), (8, .d (.bool (rshpE op n a s).2.2.2.1)), (9, .d (.bool (rshpE op n a s).2.2.2.2))] ∧ H = hpm [(2, .box [.d (.int .i64 op), .d (.int .i64 n), .d (.str a), .d (.str s), .d (.sl l.length (rowE.cs l))])] ∧ (decide (0 ≤ op) && decide (op ≤ 25)) = true) ?_ ?_)|apply th_n|apply wp_sq|apply wp_blk|apply wp_reg|apply wp_regd|(apply nm_and;kernel_rfl)|apply ev_nil|(apply ev_val;rfl;rfl;(simp +decide only [go_sem, e1] <;> rfl))|(apply ev_call;rfl;rfl;rfl;(simp +decide only [go_sem, e1] <;> rfl);(simp +decide only [go_sem, e1] <;> rfl);(first|exact h1|exact h2|exact h3))|(apply ev_wr;rfl;rfl;(simp +decide only [go_sem, e1] <;> rfl))|(apply ev_st;rfl;rfl;(simp +decide only [go_sem, e1] <;> rfl))|(apply ev_yes;rfl;rfl;(simp +decide only [go_sem, e1] <;> rfl))|(apply ev_nt;rfl;rfl;(simp +decide only [go_sem, e1] <;> rfl))|(apply ev_no;rfl;rfl;(refine Or.inl ?_;(simp +decide only [go_sem, e1] <;> rfl)))|(apply ev_guard;rfl;rfl;(simp +decide only [go_sem, e1] <;> rfl);intro _;rotate_left;intro _;rotate_right)|(apply wp_ift;(simp +decide only [go_sem, e1] <;> rfl))|(apply wp_iff;(simp +decide only [go_sem, e1] <;> rfl))|(apply wp_ifu;(simp +decide only [go_sem, e1] <;> rfl);intro _;rotate_left;intro _;rotate_right)|(apply wp_if;(simp +decide only [go_sem, e1] <;> rfl);intro _;rotate_left;intro _;rotate_right)|apply on_n|apply th_r|apply th_e|apply bl_n|apply bl_r|apply bl_e|(apply bl_o;(rfl))|apply wp_sk|apply wp_lb|apply wp_rt|apply wp_ex|(apply bq_r;(simp +decide only [go_sem, e1] <;> rfl))|(apply bq_n;(simp +decide only [go_sem, e1] <;> rfl))))
    · rename_i hq
      show D.bool _ = D.bool _
      have : decide (op ≤ 25) = false := by simp at hq ⊢; omega
      rw [this, Bool.and_false]; rfl
    · rintro f H ⟨rfl, rfl, hb⟩
      rw [hb]
      clear hb h1 h2 h3
      generalize rshpE op n a s = sh
      obtain ⟨sl, sm, s1, s2, s3⟩ := sh
      simp only
      (repeat' (first|apply th_n|apply wp_sq|apply wp_blk|apply wp_reg|apply wp_regd|(apply nm_and;kernel_rfl)|apply ev_nil|(apply ev_val;rfl;rfl;(simp +decide only [go_sem] <;> rfl))|(apply ev_wr;rfl;rfl;(simp +decide only [go_sem] <;> rfl))|(apply ev_st;rfl;rfl;(simp +decide only [go_sem] <;> rfl))|(apply ev_yes;rfl;rfl;(simp +decide only [go_sem] <;> rfl))|(apply ev_nt;rfl;rfl;(simp +decide only [go_sem] <;> rfl))|(apply ev_no;rfl;rfl;(refine Or.inl ?_;(simp +decide only [go_sem] <;> rfl)))|(apply ev_guard;rfl;rfl;(simp +decide only [go_sem] <;> rfl);intro _;rotate_left;intro _;rotate_right)|(apply wp_ift;(simp +decide only [go_sem] <;> rfl))|(apply wp_iff;(simp +decide only [go_sem] <;> rfl))|(apply wp_ifu;(simp +decide only [go_sem] <;> rfl);intro _;rotate_left;intro _;rotate_right)|(apply wp_if;(simp +decide only [go_sem] <;> rfl);intro _;rotate_left;intro _;rotate_right)|apply on_n|apply th_r|apply th_e|apply bl_n|apply bl_r|apply bl_e|(apply bl_o;(rfl))|apply wp_sk|apply wp_lb|apply wp_rt|apply wp_ex|(apply bq_r;(simp +decide only [go_sem] <;> rfl))|(apply bq_n;(simp +decide only [go_sem] <;> rfl))))
      all_goals first
        | (show D.bool _ = D.bool _; simp_all; done)
        | (show D.bool _ = D.bool _; rename_i hq; simp at hq; rw [show decide (sl ≤ (l.length : Int)) = false from (by simp; omega)]; simp; done)
        | (show D.bool _ = D.bool _; rename_i hq; simp at hq; rw [show decide ((l.length : Int) ≤ sm) = false from (by simp; omega)]; simp; done)
        | skip
      have hres : (true && s1 && s2 && s3 && decide (sl ≤ (l.length : Int)) && decide ((l.length : Int) ≤ sm) && l.all (eRight r)) = l.all (eRight r) := by
        rename_i q1 q2 q3 q4 q5
        simp at q1 q2 q3 q4 q5
        simp [q1, q2, q3, q4, q5]
      rw [hres]
      refine wp_for l.length (fun i => [(1, .d (.int .i64 ((r + 1 : Nat) : Int))), (2, .loc 2 0), (10, .d (.int .i64 i))]) (fun _ => [(2, .box [.d (.int .i64 op), .d (.int .i64 n), .d (.str a), .d (.str s), .d (.sl l.length (rowE.cs l))])]) (fun i => (l.take i).all (eRight r) = true)
        (Cv.keepH _ _ (by (repeat' (first | exact trivial | apply And.intro | ((simp +decide only [go_sem] <;> rfl)) | rfl))) (by (repeat' (first | exact trivial | apply And.intro | ((simp +decide only [go_sem] <;> rfl)) | rfl))) rfl) rfl (fun i h hC => ?_) (fun hC => ?_)
      · have e3 := rnd (R := rowE) (n := 5) h rfl hl
        have hc := ih l[i] (List.getElem_mem h)
        have ht := all_take (eRight r) l h
        cases hpx : eRight r l[i] <;> rw [hpx] at hc
        · (have hF := And.intro e2 e3; repeat' (first|apply th_n|apply wp_sq|apply wp_blk|apply wp_reg|apply wp_regd|(apply nm_and;kernel_rfl)|apply ev_nil|(apply ev_val;rfl;rfl;(simp +decide only [go_sem, hF] <;> rfl))|(apply ev_call;rfl;rfl;rfl;(simp +decide only [go_sem, hF] <;> rfl);(simp +decide only [go_sem, hF] <;> rfl);(first|exact hc))|(apply ev_wr;rfl;rfl;(simp +decide only [go_sem, hF] <;> rfl))|(apply ev_st;rfl;rfl;(simp +decide only [go_sem, hF] <;> rfl))|(apply ev_yes;rfl;rfl;(simp +decide only [go_sem, hF] <;> rfl))|(apply ev_nt;rfl;rfl;(simp +decide only [go_sem, hF] <;> rfl))|(apply ev_no;rfl;rfl;(refine Or.inl ?_;(simp +decide only [go_sem, hF] <;> rfl)))|(apply ev_guard;rfl;rfl;(simp +decide only [go_sem, hF] <;> rfl);intro _;rotate_left;intro _;rotate_right)|(apply wp_ift;(simp +decide only [go_sem, hF] <;> rfl))|(apply wp_iff;(simp +decide only [go_sem, hF] <;> rfl))|(apply wp_ifu;(simp +decide only [go_sem, hF] <;> rfl);intro _;rotate_left;intro _;rotate_right)|(apply wp_if;(simp +decide only [go_sem, hF] <;> rfl);intro _;rotate_left;intro _;rotate_right)|apply on_n|apply th_r|apply th_e|apply bl_n|apply bl_r|apply bl_e|(apply bl_o;(rfl))|apply wp_sk|apply wp_lb|apply wp_rt|apply wp_ex|(apply bq_r;(simp +decide only [go_sem, hF] <;> rfl))|(apply bq_n;(simp +decide only [go_sem, hF] <;> rfl))))
          rw [all_no h hpx]; rfl
        · (have hF := And.intro e2 e3; repeat' (first|apply th_n|apply wp_sq|apply wp_blk|apply wp_reg|apply wp_regd|(apply nm_and;kernel_rfl)|apply ev_nil|(apply ev_val;rfl;rfl;(simp +decide only [go_sem, hF] <;> rfl))|(apply ev_call;rfl;rfl;rfl;(simp +decide only [go_sem, hF] <;> rfl);(simp +decide only [go_sem, hF] <;> rfl);(first|exact hc))|(apply ev_wr;rfl;rfl;(simp +decide only [go_sem, hF] <;> rfl))|(apply ev_st;rfl;rfl;(simp +decide only [go_sem, hF] <;> rfl))|(apply ev_yes;rfl;rfl;(simp +decide only [go_sem, hF] <;> rfl))|(apply ev_nt;rfl;rfl;(simp +decide only [go_sem, hF] <;> rfl))|(apply ev_no;rfl;rfl;(refine Or.inl ?_;(simp +decide only [go_sem, hF] <;> rfl)))|(apply ev_guard;rfl;rfl;(simp +decide only [go_sem, hF] <;> rfl);intro _;rotate_left;intro _;rotate_right)|(apply wp_ift;(simp +decide only [go_sem, hF] <;> rfl))|(apply wp_iff;(simp +decide only [go_sem, hF] <;> rfl))|(apply wp_ifu;(simp +decide only [go_sem, hF] <;> rfl);intro _;rotate_left;intro _;rotate_right)|(apply wp_if;(simp +decide only [go_sem, hF] <;> rfl);intro _;rotate_left;intro _;rotate_right)|apply on_n|apply th_r|apply th_e|apply bl_n|apply bl_r|apply bl_e|(apply bl_o;(rfl))|apply wp_sk|apply wp_lb|apply wp_rt|apply wp_ex|(apply bq_r;(simp +decide only [go_sem, hF] <;> rfl))|(apply bq_n;(simp +decide only [go_sem, hF] <;> rfl))))
          exact ⟨Cv.keepH _ _ (by (repeat' (first | exact trivial | apply And.intro | ((simp +decide only [go_sem] <;> rfl)) | rfl))) (by (repeat' (first | exact trivial | apply And.intro | ((simp +decide only [go_sem] <;> rfl)) | rfl))) rfl, by rw [ht, hC, hpx]; rfl⟩
      · have e3 : decide ((l.length : Int) < (l.length : Int)) = false := by simp
        (repeat' (first|apply th_n|apply wp_sq|apply wp_blk|apply wp_reg|apply wp_regd|(apply nm_and;kernel_rfl)|apply ev_nil|(apply ev_val;rfl;rfl;(simp +decide only [go_sem, e3] <;> rfl))|(apply ev_wr;rfl;rfl;(simp +decide only [go_sem, e3] <;> rfl))|(apply ev_st;rfl;rfl;(simp +decide only [go_sem, e3] <;> rfl))|(apply ev_yes;rfl;rfl;(simp +decide only [go_sem, e3] <;> rfl))|(apply ev_nt;rfl;rfl;(simp +decide only [go_sem, e3] <;> rfl))|(apply ev_no;rfl;rfl;(refine Or.inl ?_;(simp +decide only [go_sem, e3] <;> rfl)))|(apply ev_guard;rfl;rfl;(simp +decide only [go_sem, e3] <;> rfl);intro _;rotate_left;intro _;rotate_right)|(apply wp_ift;(simp +decide only [go_sem, e3] <;> rfl))|(apply wp_iff;(simp +decide only [go_sem, e3] <;> rfl))|(apply wp_ifu;(simp +decide only [go_sem, e3] <;> rfl);intro _;rotate_left;intro _;rotate_right)|(apply wp_if;(simp +decide only [go_sem, e3] <;> rfl);intro _;rotate_left;intro _;rotate_right)|apply on_n|apply th_r|apply th_e|apply bl_n|apply bl_r|apply bl_e|(apply bl_o;(rfl))|apply wp_sk|apply wp_lb|apply wp_rt|apply wp_ex|(apply bq_r;(simp +decide only [go_sem, e3] <;> rfl))|(apply bq_n;(simp +decide only [go_sem, e3] <;> rfl))))
        rw [List.take_length] at hC
        rw [hC]; rfl
    all_goals first
      | (show D.bool _ = D.bool _; rename_i hq; rw [show decide (0 ≤ op) = false from (by simp at hq ⊢; omega)]; rfl)
      | (refine ⟨_, _, Cv.keepH [(1, .d (.int .i64 ((r + 1 : Nat) : Int))), (2, .loc 2 0), (5, .d (.int .i64 (rshpE op n a s).1)), (6, .d (.int .i64 (rshpE op n a s).2.1)), (7, .d (.bool (rshpE op n a s).2.2.1)), (8, .d (.bool (rshpE op n a s).2.2.2.1)), (9, .d (.bool (rshpE op n a s).2.2.2.2))] [(2, .box [.d (.int .i64 op), .d (.int .i64 n), .d (.str a), .d (.str s), .d (.sl l.length (rowE.cs l))])] ?_ (by (repeat' (first | exact trivial | apply And.intro | ((simp +decide only [go_sem] <;> rfl)) | rfl))) rfl, rfl, rfl, by simp_all⟩; simp only [beq_iff_eq, beq_eq_false_iff_ne, ne_eq] at *; (simp_all [go_sem, Slots, rshpE, rshp] <;> omega))
end Go.Proofs.YtefiebkngpcaoaaDoor
