/- ValueOrders walked. Conditions: the values are as what comes in is. -/
import Derived.Test.YtandclggkgmpgaaValOB
set_option maxRecDepth 100000
set_option linter.unusedVariables false
set_option linter.unusedSimpArgs false
set_option linter.unusedSectionVars false
namespace Go.Proofs.Ytandclggkgmpgaa
open Go.RowKit

/-- How two values stand to each other: nought, where one isn't right. -/
def stand (x y : Vlu) : Int := if vRight 3 x = true ∧ vRight 3 y = true then cmpV x y else 0
theorem stand_anti (x y : Vlu) : stand x y = -stand y x := by
  unfold stand
  rw [cmpV_anti x y]
  split <;> split <;> simp_all
theorem stand_in (x y : Vlu) : In1 (stand x y) := by
  unfold stand
  split
  · exact cmpV_in x y
  · exact .inr (.inl rfl)
set_option maxHeartbeats 4000000 in
theorem orders_pc (x y z : Vlu) (hx : x.Ok) (hy : y.Ok) (hz : z.Ok) : PC Try.prog 7 [.agg x.cells, .agg y.cells, .agg z.cells] (.bool true) := by
  have hf : PC Try.prog 19 [.sl 3 (x.cells ++ (y.cells ++ z.cells))] (.bool (fewV [x, y, z])) := by
    have h := few_pc [x, y, z] (by simp) (by simpa using ⟨hx, hy, hz⟩)
    rw [Row.cs_cons, Row.cs_cons, Row.cs_cons, Row.cs_nil, List.append_nil] at h
    exact h
  have hd : ∀ n, I64 n → PC Try.prog 56 [.int .i64 n] (.str (dg n)) := fun n hn => digits_pc n hn
  have c1 := Cmp_pc x y hx hy
  have c2 := Cmp_pc y x hy hx
  have c3 := Cmp_pc y z hy hz
  have c4 := Cmp_pc x z hx hz
  have h1 := Right_pc x hx
  have h2 := Right_pc y hy
  have h3 := Right_pc z hz
  have h4 := Same_pc x y hx hy
  have h5 := Text_pc (Q := I64) hd x hx (fun h => ((vr_text 3 x hx h).2 (by omega)).1)
  have h6 := Text_pc (Q := I64) hd y hy (fun h => ((vr_text 3 y hy h).2 (by omega)).1)
  have t1 : vRight 3 x = true → vRight 3 y = true → ((vText dg x).toList == (vText dg y).toList) = sameV x y := fun h h' => text_same h h'
  have t2 := cmpV_zero x y
  have t3 : cmpV x y ≤ 0 → cmpV y z ≤ 0 → cmpV x z ≤ 0 := cmpV_trans
  change PC _ _ _ (.int .i64 (stand x y)) at c1
  change PC _ _ _ (.int .i64 (stand y x)) at c2
  change PC _ _ _ (.int .i64 (stand y z)) at c3
  change PC _ _ _ (.int .i64 (stand x z)) at c4
  have e1 := stand_anti x y
  have i1 := stand_in x y
  have d1 : vRight 3 x = true → vRight 3 y = true → stand x y = cmpV x y := fun h h' => if_pos ⟨h, h'⟩
  have d2 : vRight 3 y = true → vRight 3 z = true → stand y z = cmpV y z := fun h h' => if_pos ⟨h, h'⟩
  have d3 : vRight 3 x = true → vRight 3 z = true → stand x z = cmpV x z := fun h h' => if_pos ⟨h, h'⟩
  have d0 : ¬ (vRight 3 x = true ∧ vRight 3 y = true) → stand x y = 0 := fun h => if_neg h
  generalize stand x y = a at *
  generalize stand y x = b at *
  generalize stand y z = c at *
  generalize stand x z = d at *
  generalize cmpV x y = p at *
  generalize cmpV y z = q at *
  generalize cmpV x z = r at *
  generalize fewV [x, y, z] = fw at *
  generalize sameV x y = sm at *
  generalize vText dg x = tx at *
  generalize vText dg y = ty at *
  generalize vRight 3 x = rx at *
  generalize vRight 3 y = ry at *
  generalize vRight 3 z = rz at *
  obtain ⟨k, n, s, l⟩ := x
  obtain ⟨k', n', s', l'⟩ := y
  obtain ⟨k'', n'', s'', l''⟩ := z
  rw [Vlu.cells_mk, Vlu.cells_mk, Vlu.cells_mk] at *
  unfold In1 at i1
  have f1 : IntKind.i64.wrap (0 - b) = a := by rw [wrap_in (by omega)]; omega
  refine pc_of_pwp _ Try.func7 rfl Try.results7 (by kernel_rfl) ?_
  cases fw
  · (repeat' (first|apply th_n|apply wp_sq|apply wp_blk|apply wp_reg|apply wp_regd|(apply nm_and;kernel_rfl)|apply ev_nil|(apply ev_val;rfl;rfl;(simp +decide only [go_sem] <;> rfl))|(apply ev_call;rfl;rfl;rfl;(simp +decide only [go_sem] <;> rfl);(simp +decide only [go_sem] <;> rfl);(first|exact awake_pc|exact hf))|(apply ev_wr;rfl;rfl;(simp +decide only [go_sem] <;> rfl))|(apply ev_st;rfl;rfl;(simp +decide only [go_sem] <;> rfl))|(apply ev_yes;rfl;rfl;(simp +decide only [go_sem] <;> rfl))|(apply ev_nt;rfl;rfl;(simp +decide only [go_sem] <;> rfl))|(apply ev_no;rfl;rfl;(refine Or.inl ?_;(simp +decide only [go_sem] <;> rfl)))|(apply ev_guard;rfl;rfl;(simp +decide only [go_sem] <;> rfl);intro _;rotate_left;intro _;rotate_right)|(apply wp_ift;(simp +decide only [go_sem] <;> rfl))|(apply wp_iff;(simp +decide only [go_sem] <;> rfl))|(apply wp_ifu;(simp +decide only [go_sem] <;> rfl);intro _;rotate_left;intro _;rotate_right)|(apply wp_if;(simp +decide only [go_sem] <;> rfl);intro _;rotate_left;intro _;rotate_right)|apply on_n|apply th_r|apply th_e|apply bl_n|apply bl_r|apply bl_e|(apply bl_o;(rfl))|apply wp_sk|apply wp_lb|apply wp_rt|apply wp_ex|(apply bq_r;(simp +decide only [go_sem] <;> rfl))|(apply bq_n;(simp +decide only [go_sem] <;> rfl))))
    rfl
  have f2 : decide (a < -1) = false := decide_eq_false (by omega)
  have f3 : decide (a > 1) = false := decide_eq_false (by omega)
  by_cases hall : rx = true ∧ ry = true ∧ rz = true
  · obtain ⟨rfl, rfl, rfl⟩ := hall
    rw [if_pos rfl] at h5 h6
    have f5 := t1 rfl rfl
    have d1 := d1 rfl rfl
    have d2 := d2 rfl rfl
    have d3 := d3 rfl rfl
    have f4 : (a == 0) = sm := by rw [Bool.eq_iff_iff, beq_iff_eq, d1]; exact t2
    clear d0 e1 i1
    (have hF := And.intro f1 (And.intro f2 (And.intro f3 (And.intro f4 f5))); repeat' (first|apply th_n|apply wp_sq|apply wp_blk|apply wp_reg|apply wp_regd|(apply nm_and;kernel_rfl)|apply ev_nil|(apply ev_val;rfl;rfl;(simp +decide only [go_sem, hF, bne_self_eq_false, beq_self_eq_true, Bool.not_true] <;> rfl))|(apply ev_call;rfl;rfl;rfl;(simp +decide only [go_sem, hF, bne_self_eq_false, beq_self_eq_true, Bool.not_true] <;> rfl);(simp +decide only [go_sem, hF, bne_self_eq_false, beq_self_eq_true, Bool.not_true] <;> rfl);(first|exact awake_pc|exact hf|exact c1|exact c2|exact h1|exact h2|exact h3|exact h4|exact h5|exact h6|exact c3|exact c4))|(apply ev_wr;rfl;rfl;(simp +decide only [go_sem, hF, bne_self_eq_false, beq_self_eq_true, Bool.not_true] <;> rfl))|(apply ev_st;rfl;rfl;(simp +decide only [go_sem, hF, bne_self_eq_false, beq_self_eq_true, Bool.not_true] <;> rfl))|(apply ev_yes;rfl;rfl;(simp +decide only [go_sem, hF, bne_self_eq_false, beq_self_eq_true, Bool.not_true] <;> rfl))|(apply ev_nt;rfl;rfl;(simp +decide only [go_sem, hF, bne_self_eq_false, beq_self_eq_true, Bool.not_true] <;> rfl))|(apply ev_no;rfl;rfl;(refine Or.inl ?_;(simp +decide only [go_sem, hF, bne_self_eq_false, beq_self_eq_true, Bool.not_true] <;> rfl)))|(apply ev_guard;rfl;rfl;(simp +decide only [go_sem, hF, bne_self_eq_false, beq_self_eq_true, Bool.not_true] <;> rfl);intro _;rotate_left;intro _;rotate_right)|(apply wp_ift;(simp +decide only [go_sem, hF, bne_self_eq_false, beq_self_eq_true, Bool.not_true] <;> rfl))|(apply wp_iff;(simp +decide only [go_sem, hF, bne_self_eq_false, beq_self_eq_true, Bool.not_true] <;> rfl))|(apply wp_ifu;(simp +decide only [go_sem, hF, bne_self_eq_false, beq_self_eq_true, Bool.not_true] <;> rfl);intro _;rotate_left;intro _;rotate_right)|(apply wp_if;(simp +decide only [go_sem, hF, bne_self_eq_false, beq_self_eq_true, Bool.not_true] <;> rfl);intro _;rotate_left;intro _;rotate_right)|apply on_n|apply th_r|apply th_e|apply bl_n|apply bl_r|apply bl_e|(apply bl_o;(rfl))|apply wp_sk|apply wp_lb|apply wp_rt|apply wp_ex|(apply bq_r;(simp +decide only [go_sem, hF, bne_self_eq_false, beq_self_eq_true, Bool.not_true] <;> rfl))|(apply bq_n;(simp +decide only [go_sem, hF, bne_self_eq_false, beq_self_eq_true, Bool.not_true] <;> rfl))))
    all_goals first
      | rfl
      | (rename_i q1 q2
         have : d ≤ 0 := by simp at q1 q2; omega
         show D.bool _ = D.bool true
         rw [decide_eq_true this])
  · have f4 : rz = true → (a == 0) = true := fun h => by rw [d0 fun hh => hall ⟨hh.1, hh.2, h⟩]; rfl
    cases rz
    · clear f4 h5 h6
      cases rx <;> cases ry
      all_goals
        (have hF := And.intro f1 (And.intro f2 f3); repeat' (first|apply th_n|apply wp_sq|apply wp_blk|apply wp_reg|apply wp_regd|(apply nm_and;kernel_rfl)|apply ev_nil|(apply ev_val;rfl;rfl;(simp +decide only [go_sem, hF, bne_self_eq_false] <;> rfl))|(apply ev_call;rfl;rfl;rfl;(simp +decide only [go_sem, hF, bne_self_eq_false] <;> rfl);(simp +decide only [go_sem, hF, bne_self_eq_false] <;> rfl);(first|exact awake_pc|exact hf|exact c1|exact c2|exact h1|exact h2|exact h3))|(apply ev_wr;rfl;rfl;(simp +decide only [go_sem, hF, bne_self_eq_false] <;> rfl))|(apply ev_st;rfl;rfl;(simp +decide only [go_sem, hF, bne_self_eq_false] <;> rfl))|(apply ev_yes;rfl;rfl;(simp +decide only [go_sem, hF, bne_self_eq_false] <;> rfl))|(apply ev_nt;rfl;rfl;(simp +decide only [go_sem, hF, bne_self_eq_false] <;> rfl))|(apply ev_no;rfl;rfl;(refine Or.inl ?_;(simp +decide only [go_sem, hF, bne_self_eq_false] <;> rfl)))|(apply ev_guard;rfl;rfl;(simp +decide only [go_sem, hF, bne_self_eq_false] <;> rfl);intro _;rotate_left;intro _;rotate_right)|(apply wp_ift;(simp +decide only [go_sem, hF, bne_self_eq_false] <;> rfl))|(apply wp_iff;(simp +decide only [go_sem, hF, bne_self_eq_false] <;> rfl))|(apply wp_ifu;(simp +decide only [go_sem, hF, bne_self_eq_false] <;> rfl);intro _;rotate_left;intro _;rotate_right)|(apply wp_if;(simp +decide only [go_sem, hF, bne_self_eq_false] <;> rfl);intro _;rotate_left;intro _;rotate_right)|apply on_n|apply th_r|apply th_e|apply bl_n|apply bl_r|apply bl_e|(apply bl_o;(rfl))|apply wp_sk|apply wp_lb|apply wp_rt|apply wp_ex|(apply bq_r;(simp +decide only [go_sem, hF, bne_self_eq_false] <;> rfl))|(apply bq_n;(simp +decide only [go_sem, hF, bne_self_eq_false] <;> rfl))))
        rfl
    · have f4 := f4 rfl
      clear h5 h6
      cases rx <;> cases ry
      rotate_left 3
      · exact absurd ⟨rfl, rfl, rfl⟩ hall
      all_goals
        (have hF := And.intro f1 (And.intro f2 (And.intro f3 f4)); repeat' (first|apply th_n|apply wp_sq|apply wp_blk|apply wp_reg|apply wp_regd|(apply nm_and;kernel_rfl)|apply ev_nil|(apply ev_val;rfl;rfl;(simp +decide only [go_sem, hF, bne_self_eq_false] <;> rfl))|(apply ev_call;rfl;rfl;rfl;(simp +decide only [go_sem, hF, bne_self_eq_false] <;> rfl);(simp +decide only [go_sem, hF, bne_self_eq_false] <;> rfl);(first|exact awake_pc|exact hf|exact c1|exact c2|exact h1|exact h2|exact h3))|(apply ev_wr;rfl;rfl;(simp +decide only [go_sem, hF, bne_self_eq_false] <;> rfl))|(apply ev_st;rfl;rfl;(simp +decide only [go_sem, hF, bne_self_eq_false] <;> rfl))|(apply ev_yes;rfl;rfl;(simp +decide only [go_sem, hF, bne_self_eq_false] <;> rfl))|(apply ev_nt;rfl;rfl;(simp +decide only [go_sem, hF, bne_self_eq_false] <;> rfl))|(apply ev_no;rfl;rfl;(refine Or.inl ?_;(simp +decide only [go_sem, hF, bne_self_eq_false] <;> rfl)))|(apply ev_guard;rfl;rfl;(simp +decide only [go_sem, hF, bne_self_eq_false] <;> rfl);intro _;rotate_left;intro _;rotate_right)|(apply wp_ift;(simp +decide only [go_sem, hF, bne_self_eq_false] <;> rfl))|(apply wp_iff;(simp +decide only [go_sem, hF, bne_self_eq_false] <;> rfl))|(apply wp_ifu;(simp +decide only [go_sem, hF, bne_self_eq_false] <;> rfl);intro _;rotate_left;intro _;rotate_right)|(apply wp_if;(simp +decide only [go_sem, hF, bne_self_eq_false] <;> rfl);intro _;rotate_left;intro _;rotate_right)|apply on_n|apply th_r|apply th_e|apply bl_n|apply bl_r|apply bl_e|(apply bl_o;(rfl))|apply wp_sk|apply wp_lb|apply wp_rt|apply wp_ex|(apply bq_r;(simp +decide only [go_sem, hF, bne_self_eq_false] <;> rfl))|(apply bq_n;(simp +decide only [go_sem, hF, bne_self_eq_false] <;> rfl))))
        rfl
theorem orders_walk {W : World} {v0 v1 v2 : Value} {x y z : Vlu} (hx : x.Ok) (hy : y.Ok) (hz : z.Ok) (r0 : Rep (fun _ => False) W v0 (.agg x.cells)) (r1 : Rep (fun _ => False) W v1 (.agg y.cells)) (r2 : Rep (fun _ => False) W v2 (.agg z.cells)) :
    Calls Try.prog 7 #[v0, v1, v2] W fun e w' => e = .returned (.bool true) ∧ Ex W w' :=
  calls_of_pc (orders_pc x y z hx hy hz) (fun _ _ _ h => rep_bool h) W [v0, v1, v2] (.cons _ _ _ _ r0 (.cons _ _ _ _ r1 (.cons _ _ _ _ r2 .nil)))
end Go.Proofs.Ytandclggkgmpgaa
