/- ValueTypes walked. Conditions: the types are as what comes in is. -/
import Derived.Test.YtandclggkgmpgaaValR
import Derived.Test.YtandclggkgmpgaaValK
import Derived.Test.YtandclggkgmpgaaValL
import Derived.Test.YtandclggkgmpgaaValU
set_option maxRecDepth 100000
set_option linter.unusedVariables false
set_option linter.unusedSimpArgs false
set_option linter.unusedSectionVars false
namespace Go.Proofs.Ytandclggkgmpgaa
open Go.RowKit

theorem sameT_refl : ∀ x : Typ, sameT x x = true
  | .mk k l => by
    rw [sameT, sameTL_all2]
    have h : ∀ x ∈ l, sameT x x = true := fun x hx => sameT_refl x
    have : ∀ l : List Typ, (∀ x ∈ l, sameT x x = true) → all2 sameT l l = true := by
      intro l
      induction l with
      | nil => intro _; rfl
      | cons x l ih => intro h; rw [all2, h x (by simp), ih fun y hy => h y (by simp [hy])]; rfl
    simp [this l h]
termination_by x => SizeOf.sizeOf x
decreasing_by (have := List.sizeOf_lt_of_mem hx; simp; omega)
set_option maxHeartbeats 2000000 in
theorem types_pc (x y : Typ) (hx : x.Ok) (hy : y.Ok) : PC Try.prog 4 [.agg x.cells, .agg y.cells] (.bool true) := by
  have hsx : PC Try.prog 12 [.agg x.cells, .int .i64 8, .int .i64 400] (.int .i64 (smallT 8 400 x)) := smallType_pc 8 (by omega) 400 (by omega) (by omega) x hx
  have hsy : PC Try.prog 12 [.agg y.cells, .int .i64 8, .int .i64 400] (.int .i64 (smallT 8 400 y)) := smallType_pc 8 (by omega) 400 (by omega) (by omega) y hy
  have h1 := TypeRight_pc x hx
  have h2 : PC Try.prog 14 [.agg x.cells, .int .i64 3] (.bool (tRight 3 x)) := RTypeRight_pc 3 (by omega) x hx
  have h3 := SameType_pc x y hx hy
  have h4 := RSameType_pc x y hx hy
  have h5 := SameType_pc x x hx hx
  rw [sameT_refl] at h5
  have h6 := TypeText_pc x hx (fun h => ((right_text 3 x h).2 (by omega)).1)
  have h7 : tRight 3 x = true → _ := fun h => RTypeText_pc x ((right_text 3 x h).2 (by omega)).2
  generalize smallT 8 400 x = a at *
  generalize smallT 8 400 y = b at *
  generalize sameT x y = c at *
  generalize tText x = s at *
  generalize tRight 3 x = r at *
  obtain ⟨k, l⟩ := x
  obtain ⟨k', l'⟩ := y
  rw [Typ.cells_mk, Typ.cells_mk] at *
  refine pc_of_pwp _ Try.func4 rfl Try.results4 (by kernel_rfl) ?_
  cases ea : decide (a < 0)
  · cases eb : decide (b < 0)
    · cases r with
      | true =>
        have h7 := h7 rfl
        rw [if_pos rfl] at h6
        (repeat' (first|apply th_n|apply wp_sq|apply wp_blk|apply wp_reg|apply wp_regd|(apply nm_and;kernel_rfl)|apply ev_nil|(apply ev_val;rfl;rfl;(simp +decide only [go_sem, ea, eb, beq_self_eq_true, Bool.not_true] <;> rfl))|(apply ev_call;rfl;rfl;rfl;(simp +decide only [go_sem, ea, eb, beq_self_eq_true, Bool.not_true] <;> rfl);(simp +decide only [go_sem, ea, eb, beq_self_eq_true, Bool.not_true] <;> rfl);(first|exact awake_pc|exact hsx|exact hsy|exact h1|exact h2|exact h5|exact h3|exact h4|exact h6|exact h7))|(apply ev_wr;rfl;rfl;(simp +decide only [go_sem, ea, eb, beq_self_eq_true, Bool.not_true] <;> rfl))|(apply ev_st;rfl;rfl;(simp +decide only [go_sem, ea, eb, beq_self_eq_true, Bool.not_true] <;> rfl))|(apply ev_yes;rfl;rfl;(simp +decide only [go_sem, ea, eb, beq_self_eq_true, Bool.not_true] <;> rfl))|(apply ev_nt;rfl;rfl;(simp +decide only [go_sem, ea, eb, beq_self_eq_true, Bool.not_true] <;> rfl))|(apply ev_no;rfl;rfl;(refine Or.inl ?_;(simp +decide only [go_sem, ea, eb, beq_self_eq_true, Bool.not_true] <;> rfl)))|(apply ev_guard;rfl;rfl;(simp +decide only [go_sem, ea, eb, beq_self_eq_true, Bool.not_true] <;> rfl);intro _;rotate_left;intro _;rotate_right)|(apply wp_ift;(simp +decide only [go_sem, ea, eb, beq_self_eq_true, Bool.not_true] <;> rfl))|(apply wp_iff;(simp +decide only [go_sem, ea, eb, beq_self_eq_true, Bool.not_true] <;> rfl))|(apply wp_ifu;(simp +decide only [go_sem, ea, eb, beq_self_eq_true, Bool.not_true] <;> rfl);intro _;rotate_left;intro _;rotate_right)|(apply wp_if;(simp +decide only [go_sem, ea, eb, beq_self_eq_true, Bool.not_true] <;> rfl);intro _;rotate_left;intro _;rotate_right)|apply on_n|apply th_r|apply th_e|apply bl_n|apply bl_r|apply bl_e|(apply bl_o;(rfl))|apply wp_sk|apply wp_lb|apply wp_rt|apply wp_ex|(apply bq_r;(simp +decide only [go_sem, ea, eb, beq_self_eq_true, Bool.not_true] <;> rfl))|(apply bq_n;(simp +decide only [go_sem, ea, eb, beq_self_eq_true, Bool.not_true] <;> rfl))))
        all_goals rfl
      | false =>
        rw [if_neg (by simp)] at h6
        (repeat' (first|apply th_n|apply wp_sq|apply wp_blk|apply wp_reg|apply wp_regd|(apply nm_and;kernel_rfl)|apply ev_nil|(apply ev_val;rfl;rfl;(simp +decide only [go_sem, ea, eb, beq_self_eq_true, Bool.not_true] <;> rfl))|(apply ev_call;rfl;rfl;rfl;(simp +decide only [go_sem, ea, eb, beq_self_eq_true, Bool.not_true] <;> rfl);(simp +decide only [go_sem, ea, eb, beq_self_eq_true, Bool.not_true] <;> rfl);(first|exact awake_pc|exact hsx|exact hsy|exact h1|exact h2|exact h5|exact h3|exact h4|exact h6))|(apply ev_wr;rfl;rfl;(simp +decide only [go_sem, ea, eb, beq_self_eq_true, Bool.not_true] <;> rfl))|(apply ev_st;rfl;rfl;(simp +decide only [go_sem, ea, eb, beq_self_eq_true, Bool.not_true] <;> rfl))|(apply ev_yes;rfl;rfl;(simp +decide only [go_sem, ea, eb, beq_self_eq_true, Bool.not_true] <;> rfl))|(apply ev_nt;rfl;rfl;(simp +decide only [go_sem, ea, eb, beq_self_eq_true, Bool.not_true] <;> rfl))|(apply ev_no;rfl;rfl;(refine Or.inl ?_;(simp +decide only [go_sem, ea, eb, beq_self_eq_true, Bool.not_true] <;> rfl)))|(apply ev_guard;rfl;rfl;(simp +decide only [go_sem, ea, eb, beq_self_eq_true, Bool.not_true] <;> rfl);intro _;rotate_left;intro _;rotate_right)|(apply wp_ift;(simp +decide only [go_sem, ea, eb, beq_self_eq_true, Bool.not_true] <;> rfl))|(apply wp_iff;(simp +decide only [go_sem, ea, eb, beq_self_eq_true, Bool.not_true] <;> rfl))|(apply wp_ifu;(simp +decide only [go_sem, ea, eb, beq_self_eq_true, Bool.not_true] <;> rfl);intro _;rotate_left;intro _;rotate_right)|(apply wp_if;(simp +decide only [go_sem, ea, eb, beq_self_eq_true, Bool.not_true] <;> rfl);intro _;rotate_left;intro _;rotate_right)|apply on_n|apply th_r|apply th_e|apply bl_n|apply bl_r|apply bl_e|(apply bl_o;(rfl))|apply wp_sk|apply wp_lb|apply wp_rt|apply wp_ex|(apply bq_r;(simp +decide only [go_sem, ea, eb, beq_self_eq_true, Bool.not_true] <;> rfl))|(apply bq_n;(simp +decide only [go_sem, ea, eb, beq_self_eq_true, Bool.not_true] <;> rfl))))
        all_goals rfl
    · (repeat' (first|apply th_n|apply wp_sq|apply wp_blk|apply wp_reg|apply wp_regd|(apply nm_and;kernel_rfl)|apply ev_nil|(apply ev_val;rfl;rfl;(simp +decide only [go_sem, ea, eb] <;> rfl))|(apply ev_call;rfl;rfl;rfl;(simp +decide only [go_sem, ea, eb] <;> rfl);(simp +decide only [go_sem, ea, eb] <;> rfl);(first|exact awake_pc|exact hsx|exact hsy))|(apply ev_wr;rfl;rfl;(simp +decide only [go_sem, ea, eb] <;> rfl))|(apply ev_st;rfl;rfl;(simp +decide only [go_sem, ea, eb] <;> rfl))|(apply ev_yes;rfl;rfl;(simp +decide only [go_sem, ea, eb] <;> rfl))|(apply ev_nt;rfl;rfl;(simp +decide only [go_sem, ea, eb] <;> rfl))|(apply ev_no;rfl;rfl;(refine Or.inl ?_;(simp +decide only [go_sem, ea, eb] <;> rfl)))|(apply ev_guard;rfl;rfl;(simp +decide only [go_sem, ea, eb] <;> rfl);intro _;rotate_left;intro _;rotate_right)|(apply wp_ift;(simp +decide only [go_sem, ea, eb] <;> rfl))|(apply wp_iff;(simp +decide only [go_sem, ea, eb] <;> rfl))|(apply wp_ifu;(simp +decide only [go_sem, ea, eb] <;> rfl);intro _;rotate_left;intro _;rotate_right)|(apply wp_if;(simp +decide only [go_sem, ea, eb] <;> rfl);intro _;rotate_left;intro _;rotate_right)|apply on_n|apply th_r|apply th_e|apply bl_n|apply bl_r|apply bl_e|(apply bl_o;(rfl))|apply wp_sk|apply wp_lb|apply wp_rt|apply wp_ex|(apply bq_r;(simp +decide only [go_sem, ea, eb] <;> rfl))|(apply bq_n;(simp +decide only [go_sem, ea, eb] <;> rfl))))
      rfl
  · (repeat' (first|apply th_n|apply wp_sq|apply wp_blk|apply wp_reg|apply wp_regd|(apply nm_and;kernel_rfl)|apply ev_nil|(apply ev_val;rfl;rfl;(simp +decide only [go_sem, ea] <;> rfl))|(apply ev_call;rfl;rfl;rfl;(simp +decide only [go_sem, ea] <;> rfl);(simp +decide only [go_sem, ea] <;> rfl);(first|exact awake_pc|exact hsx|exact hsy))|(apply ev_wr;rfl;rfl;(simp +decide only [go_sem, ea] <;> rfl))|(apply ev_st;rfl;rfl;(simp +decide only [go_sem, ea] <;> rfl))|(apply ev_yes;rfl;rfl;(simp +decide only [go_sem, ea] <;> rfl))|(apply ev_nt;rfl;rfl;(simp +decide only [go_sem, ea] <;> rfl))|(apply ev_no;rfl;rfl;(refine Or.inl ?_;(simp +decide only [go_sem, ea] <;> rfl)))|(apply ev_guard;rfl;rfl;(simp +decide only [go_sem, ea] <;> rfl);intro _;rotate_left;intro _;rotate_right)|(apply wp_ift;(simp +decide only [go_sem, ea] <;> rfl))|(apply wp_iff;(simp +decide only [go_sem, ea] <;> rfl))|(apply wp_ifu;(simp +decide only [go_sem, ea] <;> rfl);intro _;rotate_left;intro _;rotate_right)|(apply wp_if;(simp +decide only [go_sem, ea] <;> rfl);intro _;rotate_left;intro _;rotate_right)|apply on_n|apply th_r|apply th_e|apply bl_n|apply bl_r|apply bl_e|(apply bl_o;(rfl))|apply wp_sk|apply wp_lb|apply wp_rt|apply wp_ex|(apply bq_r;(simp +decide only [go_sem, ea] <;> rfl))|(apply bq_n;(simp +decide only [go_sem, ea] <;> rfl))))
    rfl
theorem types_walk {W : World} {v0 v1 : Value} {x y : Typ} (hx : x.Ok) (hy : y.Ok) (r0 : Rep (fun _ => False) W v0 (.agg x.cells)) (r1 : Rep (fun _ => False) W v1 (.agg y.cells)) :
    Calls Try.prog 4 #[v0, v1] W fun e w' => e = .returned (.bool true) ∧ Ex W w' :=
  calls_of_pc (types_pc x y hx hy) (fun _ _ _ h => rep_bool h) W [v0, v1] (.cons _ _ _ _ r0 (.cons _ _ _ _ r1 .nil))
end Go.Proofs.Ytandclggkgmpgaa
