/- ValueCmps walked. Conditions: the values are as what comes in is. -/
import Derived.Test.YtandclggkgmpgaaValCB
import Derived.Test.YtandclggkgmpgaaValY
import Derived.Test.YtandclggkgmpgaaValK
import Derived.Test.YtandclggkgmpgaaValU
set_option linter.unusedVariables false
set_option linter.unusedSimpArgs false
set_option linter.unusedSectionVars false
namespace Go.Proofs.Ytandclggkgmpgaa
open Go.RowKit

set_option maxHeartbeats 4000000 in
theorem cmps_pc (x y : Vlu) (hx : x.Ok) (hy : y.Ok) : PC Try.prog 8 [.agg x.cells, .agg y.cells] (.bool true) := by
  have hf : PC Try.prog 19 [.sl 2 (x.cells ++ y.cells)] (.bool (fewV [x, y])) := by
    have h := few_pc [x, y] (by simp) (by simpa using ⟨hx, hy⟩)
    rw [Row.cs_cons, Row.cs_cons, Row.cs_nil, List.append_nil] at h
    exact h
  have h1 := RRight_pc x hx
  have h2 := RRight_pc y hy
  have h3 := RCmp_pc x y hx hy
  have h4 := Cmp_pc x y hx hy
  have h5 := Same_pc x y hx hy
  have h6 := RSame_pc x y hx hy
  generalize fewV [x, y] = fw at *
  generalize vRight 3 x = a at *
  generalize vRight 3 y = b at *
  generalize cmpV x y = c at *
  generalize sameV x y = d at *
  obtain ⟨k, n, s, l⟩ := x
  obtain ⟨k', n', s', l'⟩ := y
  rw [Vlu.cells_mk, Vlu.cells_mk] at *
  refine pc_of_pwp _ Try.func8 rfl Try.results8 (by kernel_rfl) ?_
  cases fw
  · (repeat' (first | (apply th_n) | (apply wp_sq) | (apply wp_blk) | (apply wp_reg) | (apply wp_regd) | (apply nm_and; (kernel_rfl)) | (apply ev_nil) | (apply ev_val; (rfl); (rfl); (simp only [go_sem, Nat.reduceMul, reduceCtorEq, reduceIte, Nat.reduceEqDiff, Nat.reduceLeDiff, Nat.reduceAdd, Nat.reduceSub] <;> rfl)) | (apply ev_call; (rfl); (rfl); (rfl); (simp only [go_sem, Nat.reduceMul, reduceCtorEq, reduceIte, Nat.reduceEqDiff, Nat.reduceLeDiff, Nat.reduceAdd, Nat.reduceSub] <;> rfl); (simp only [go_sem, Nat.reduceMul, reduceCtorEq, reduceIte, Nat.reduceEqDiff, Nat.reduceLeDiff, Nat.reduceAdd, Nat.reduceSub] <;> rfl); (first | exact awake_pc | exact hf)) | (apply ev_wr; (rfl); (rfl); (simp only [go_sem, Nat.reduceMul, reduceCtorEq, reduceIte, Nat.reduceEqDiff, Nat.reduceLeDiff, Nat.reduceAdd, Nat.reduceSub] <;> rfl)) | (apply ev_st; (rfl); (rfl); (simp only [go_sem, Nat.reduceMul, reduceCtorEq, reduceIte, Nat.reduceEqDiff, Nat.reduceLeDiff, Nat.reduceAdd, Nat.reduceSub] <;> rfl)) | (apply ev_yes; (rfl); (rfl); (simp only [go_sem, Nat.reduceMul, reduceCtorEq, reduceIte, Nat.reduceEqDiff, Nat.reduceLeDiff, Nat.reduceAdd, Nat.reduceSub] <;> rfl)) | (apply ev_nt; (rfl); (rfl); (simp only [go_sem, Nat.reduceMul, reduceCtorEq, reduceIte, Nat.reduceEqDiff, Nat.reduceLeDiff, Nat.reduceAdd, Nat.reduceSub] <;> rfl)) | (apply ev_no; (rfl); (rfl); (refine Or.inl ?_; simp only [go_sem, Nat.reduceMul, reduceCtorEq, reduceIte, Nat.reduceEqDiff, Nat.reduceLeDiff, Nat.reduceAdd, Nat.reduceSub] <;> rfl)) | (apply ev_guard; (rfl); (rfl); (simp only [go_sem, Nat.reduceMul, reduceCtorEq, reduceIte, Nat.reduceEqDiff, Nat.reduceLeDiff, Nat.reduceAdd, Nat.reduceSub] <;> rfl); (intro _); rotate_left; (intro _); rotate_right) | (apply wp_ift; (simp only [go_sem, Nat.reduceMul, reduceCtorEq, reduceIte, Nat.reduceEqDiff, Nat.reduceLeDiff, Nat.reduceAdd, Nat.reduceSub] <;> rfl)) | (apply wp_iff; (simp only [go_sem, Nat.reduceMul, reduceCtorEq, reduceIte, Nat.reduceEqDiff, Nat.reduceLeDiff, Nat.reduceAdd, Nat.reduceSub] <;> rfl)) | (apply wp_if; (simp only [go_sem, Nat.reduceMul, reduceCtorEq, reduceIte, Nat.reduceEqDiff, Nat.reduceLeDiff, Nat.reduceAdd, Nat.reduceSub] <;> rfl); (intro _); rotate_left; (intro _); rotate_right) | (apply on_n) | (apply th_r) | (apply th_e) | (apply bl_n) | (apply bl_r) | (apply bl_e) | (apply bl_o; (rfl)) | (apply wp_sk) | (apply wp_lb) | (apply wp_rt) | (apply wp_ex) | (apply bq_r; (simp only [go_sem, Nat.reduceMul, reduceCtorEq, reduceIte, Nat.reduceEqDiff, Nat.reduceLeDiff, Nat.reduceAdd, Nat.reduceSub] <;> rfl)) | (apply bq_n; (simp only [go_sem, Nat.reduceMul, reduceCtorEq, reduceIte, Nat.reduceEqDiff, Nat.reduceLeDiff, Nat.reduceAdd, Nat.reduceSub] <;> rfl))))
    rfl
  cases a <;> cases b
  all_goals
    simp only [reduceCtorEq, and_self, and_true, and_false, if_true, if_false, Bool.false_eq_true] at h4
    (repeat' (first | (apply th_n) | (apply wp_sq) | (apply wp_blk) | (apply wp_reg) | (apply wp_regd) | (apply nm_and; (kernel_rfl)) | (apply ev_nil) | (apply ev_val; (rfl); (rfl); (simp only [go_sem, Nat.reduceMul, reduceCtorEq, reduceIte, Nat.reduceEqDiff, Nat.reduceLeDiff, Nat.reduceAdd, Nat.reduceSub, beq_self_eq_true] <;> rfl)) | (apply ev_call; (rfl); (rfl); (rfl); (simp only [go_sem, Nat.reduceMul, reduceCtorEq, reduceIte, Nat.reduceEqDiff, Nat.reduceLeDiff, Nat.reduceAdd, Nat.reduceSub, beq_self_eq_true] <;> rfl); (simp only [go_sem, Nat.reduceMul, reduceCtorEq, reduceIte, Nat.reduceEqDiff, Nat.reduceLeDiff, Nat.reduceAdd, Nat.reduceSub, beq_self_eq_true] <;> rfl); (first | exact awake_pc | exact hf | exact h1 | exact h2 | exact h3 | exact h4 | exact h5 | exact h6)) | (apply ev_wr; (rfl); (rfl); (simp only [go_sem, Nat.reduceMul, reduceCtorEq, reduceIte, Nat.reduceEqDiff, Nat.reduceLeDiff, Nat.reduceAdd, Nat.reduceSub, beq_self_eq_true] <;> rfl)) | (apply ev_st; (rfl); (rfl); (simp only [go_sem, Nat.reduceMul, reduceCtorEq, reduceIte, Nat.reduceEqDiff, Nat.reduceLeDiff, Nat.reduceAdd, Nat.reduceSub, beq_self_eq_true] <;> rfl)) | (apply ev_yes; (rfl); (rfl); (simp only [go_sem, Nat.reduceMul, reduceCtorEq, reduceIte, Nat.reduceEqDiff, Nat.reduceLeDiff, Nat.reduceAdd, Nat.reduceSub, beq_self_eq_true] <;> rfl)) | (apply ev_nt; (rfl); (rfl); (simp only [go_sem, Nat.reduceMul, reduceCtorEq, reduceIte, Nat.reduceEqDiff, Nat.reduceLeDiff, Nat.reduceAdd, Nat.reduceSub, beq_self_eq_true] <;> rfl)) | (apply ev_no; (rfl); (rfl); (refine Or.inl ?_; simp only [go_sem, Nat.reduceMul, reduceCtorEq, reduceIte, Nat.reduceEqDiff, Nat.reduceLeDiff, Nat.reduceAdd, Nat.reduceSub, beq_self_eq_true] <;> rfl)) | (apply ev_guard; (rfl); (rfl); (simp only [go_sem, Nat.reduceMul, reduceCtorEq, reduceIte, Nat.reduceEqDiff, Nat.reduceLeDiff, Nat.reduceAdd, Nat.reduceSub, beq_self_eq_true] <;> rfl); (intro _); rotate_left; (intro _); rotate_right) | (apply wp_ift; (simp only [go_sem, Nat.reduceMul, reduceCtorEq, reduceIte, Nat.reduceEqDiff, Nat.reduceLeDiff, Nat.reduceAdd, Nat.reduceSub, beq_self_eq_true] <;> rfl)) | (apply wp_iff; (simp only [go_sem, Nat.reduceMul, reduceCtorEq, reduceIte, Nat.reduceEqDiff, Nat.reduceLeDiff, Nat.reduceAdd, Nat.reduceSub, beq_self_eq_true] <;> rfl)) | (apply wp_if; (simp only [go_sem, Nat.reduceMul, reduceCtorEq, reduceIte, Nat.reduceEqDiff, Nat.reduceLeDiff, Nat.reduceAdd, Nat.reduceSub, beq_self_eq_true] <;> rfl); (intro _); rotate_left; (intro _); rotate_right) | (apply on_n) | (apply th_r) | (apply th_e) | (apply bl_n) | (apply bl_r) | (apply bl_e) | (apply bl_o; (rfl)) | (apply wp_sk) | (apply wp_lb) | (apply wp_rt) | (apply wp_ex) | (apply bq_r; (simp only [go_sem, Nat.reduceMul, reduceCtorEq, reduceIte, Nat.reduceEqDiff, Nat.reduceLeDiff, Nat.reduceAdd, Nat.reduceSub, beq_self_eq_true] <;> rfl)) | (apply bq_n; (simp only [go_sem, Nat.reduceMul, reduceCtorEq, reduceIte, Nat.reduceEqDiff, Nat.reduceLeDiff, Nat.reduceAdd, Nat.reduceSub, beq_self_eq_true] <;> rfl))))
    rfl
theorem cmps_walk {W : World} {v0 v1 : Value} {x y : Vlu} (hx : x.Ok) (hy : y.Ok) (r0 : Rep (fun _ => False) W v0 (.agg x.cells)) (r1 : Rep (fun _ => False) W v1 (.agg y.cells)) :
    Calls Try.prog 8 #[v0, v1] W fun e w' => e = .returned (.bool true) ∧ Ex W w' :=
  calls_of_pc (cmps_pc x y hx hy) (fun _ _ _ h => rep_bool h) W [v0, v1] (.cons _ _ _ _ r0 (.cons _ _ _ _ r1 .nil))
end Go.Proofs.Ytandclggkgmpgaa
