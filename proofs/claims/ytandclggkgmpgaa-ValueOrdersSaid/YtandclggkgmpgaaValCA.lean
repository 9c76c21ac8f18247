/- Walks of order and Cmp of package value, cmp.Compare, cmp.Or, slices.CompareFunc. Conditions: what the values' parts may be. -/
import Derived.Test.YtandclggkgmpgaaValG
import Derived.Test.YtandclggkgmpgaaValJ
set_option maxRecDepth 100000
set_option linter.unusedVariables false
set_option linter.unusedSimpArgs false
set_option linter.unusedSectionVars false
namespace Go.Proofs.Ytandclggkgmpgaa
open Go.RowKit

def cmpI (a b : Int) : Int := if a < b then -1 else if a > b then 1 else 0
def orC (a b : Int) : Int := if a = 0 then b else a
mutual
def cmpV : Vlu → Vlu → Int
  | .mk k n s l, .mk k' n' s' l' => orC (cmpI k k') (orC (cmpI n n') (orC (Lib.compareBytes s.data.toList s'.data.toList) (cmpVL l l')))
def cmpVL : List Vlu → List Vlu → Int
  | [], [] => 0
  | [], _ :: _ => -1
  | _ :: _, [] => 1
  | x :: l, y :: l' => orC (cmpV x y) (cmpVL l l')
end
def In1 (a : Int) : Prop := a = -1 ∨ a = 0 ∨ a = 1
theorem cmpI_in (a b : Int) : In1 (cmpI a b) := by unfold cmpI In1; split; exact .inl rfl; split; exact .inr (.inr rfl); exact .inr (.inl rfl)
theorem orC_in {a b : Int} (h1 : In1 a) (h2 : In1 b) : In1 (orC a b) := by unfold orC; split <;> assumption
theorem compareBytes_in : ∀ a b, In1 (Lib.compareBytes a b)
  | [], [] => .inr (.inl rfl)
  | [], _ :: _ => .inl rfl
  | _ :: _, [] => .inr (.inr rfl)
  | a :: l, b :: l' => by
    rw [Lib.compareBytes]
    split
    · exact .inl rfl
    · split
      · exact .inr (.inr rfl)
      · exact compareBytes_in l l'
theorem cmpVL_in : ∀ (l l' : List Vlu), (∀ x ∈ l, ∀ y, In1 (cmpV x y)) → In1 (cmpVL l l')
  | [], [], _ => .inr (.inl (by rw [cmpVL]))
  | [], _ :: _, _ => .inl (by rw [cmpVL])
  | _ :: _, [], _ => .inr (.inr (by rw [cmpVL]))
  | x :: l, y :: l', h => by
    rw [cmpVL]
    exact orC_in (h x (by simp) y) (cmpVL_in l l' fun z hz => h z (by simp [hz]))
theorem cmpV_in : ∀ (x y : Vlu), In1 (cmpV x y)
  | .mk k n s l, .mk k' n' s' l' => by
    have ih : ∀ x ∈ l, ∀ y, In1 (cmpV x y) := fun x hx y => cmpV_in x y
    rw [cmpV]
    exact orC_in (cmpI_in _ _) (orC_in (cmpI_in _ _) (orC_in (compareBytes_in _ _) (cmpVL_in l l' ih)))
termination_by x => SizeOf.sizeOf x
decreasing_by (have := List.sizeOf_lt_of_mem hx; simp; omega)
theorem isNaN_pc (a : Int) : PC Try.prog 64 [.int .i64 a] (.bool false) := by
  refine pc_of_pwp _ Try.func64 rfl Try.results64 (by kernel_rfl) ?_
  (repeat' (first|apply th_n|apply wp_sq|apply wp_blk|apply wp_reg|apply wp_regd|(apply nm_and;kernel_rfl)|apply ev_nil|(apply ev_val;rfl;rfl;(simp +decide only [go_sem, bne_self_eq_false] <;> rfl))|(apply ev_wr;rfl;rfl;(simp +decide only [go_sem, bne_self_eq_false] <;> rfl))|(apply ev_st;rfl;rfl;(simp +decide only [go_sem, bne_self_eq_false] <;> rfl))|(apply ev_yes;rfl;rfl;(simp +decide only [go_sem, bne_self_eq_false] <;> rfl))|(apply ev_nt;rfl;rfl;(simp +decide only [go_sem, bne_self_eq_false] <;> rfl))|(apply ev_no;rfl;rfl;(refine Or.inl ?_;(simp +decide only [go_sem, bne_self_eq_false] <;> rfl)))|(apply ev_guard;rfl;rfl;(simp +decide only [go_sem, bne_self_eq_false] <;> rfl);intro _;rotate_left;intro _;rotate_right)|(apply wp_ift;(simp +decide only [go_sem, bne_self_eq_false] <;> rfl))|(apply wp_iff;(simp +decide only [go_sem, bne_self_eq_false] <;> rfl))|(apply wp_ifu;(simp +decide only [go_sem, bne_self_eq_false] <;> rfl);intro _;rotate_left;intro _;rotate_right)|(apply wp_if;(simp +decide only [go_sem, bne_self_eq_false] <;> rfl);intro _;rotate_left;intro _;rotate_right)|apply on_n|apply th_r|apply th_e|apply bl_n|apply bl_r|apply bl_e|(apply bl_o;(rfl))|apply wp_sk|apply wp_lb|apply wp_rt|apply wp_ex|(apply bq_r;(simp +decide only [go_sem, bne_self_eq_false] <;> rfl))|(apply bq_n;(simp +decide only [go_sem, bne_self_eq_false] <;> rfl))))
  rfl
theorem Compare_pc (a b : Int) : PC Try.prog 59 [.int .i64 a, .int .i64 b] (.int .i64 (cmpI a b)) := by
  have h1 := isNaN_pc a
  have h2 := isNaN_pc b
  refine pc_of_pwp _ Try.func59 rfl Try.results59 (by kernel_rfl) ?_
  unfold cmpI
  by_cases h : a < b
  · have e1 := decide_eq_true h
    rw [if_pos h]
    (repeat' (first|apply th_n|apply wp_sq|apply wp_blk|apply wp_reg|apply wp_regd|(apply nm_and;kernel_rfl)|apply ev_nil|(apply ev_val;rfl;rfl;(simp +decide only [go_sem, e1] <;> rfl))|(apply ev_call;rfl;rfl;rfl;(simp +decide only [go_sem, e1] <;> rfl);(simp +decide only [go_sem, e1] <;> rfl);(first|exact h1|exact h2))|(apply ev_wr;rfl;rfl;(simp +decide only [go_sem, e1] <;> rfl))|(apply ev_st;rfl;rfl;(simp +decide only [go_sem, e1] <;> rfl))|(apply ev_yes;rfl;rfl;(simp +decide only [go_sem, e1] <;> rfl))|(apply ev_nt;rfl;rfl;(simp +decide only [go_sem, e1] <;> rfl))|(apply ev_no;rfl;rfl;(refine Or.inl ?_;(simp +decide only [go_sem, e1] <;> rfl)))|(apply ev_guard;rfl;rfl;(simp +decide only [go_sem, e1] <;> rfl);intro _;rotate_left;intro _;rotate_right)|(apply wp_ift;(simp +decide only [go_sem, e1] <;> rfl))|(apply wp_iff;(simp +decide only [go_sem, e1] <;> rfl))|(apply wp_ifu;(simp +decide only [go_sem, e1] <;> rfl);intro _;rotate_left;intro _;rotate_right)|(apply wp_if;(simp +decide only [go_sem, e1] <;> rfl);intro _;rotate_left;intro _;rotate_right)|apply on_n|apply th_r|apply th_e|apply bl_n|apply bl_r|apply bl_e|(apply bl_o;(rfl))|apply wp_sk|apply wp_lb|apply wp_rt|apply wp_ex|(apply bq_r;(simp +decide only [go_sem, e1] <;> rfl))|(apply bq_n;(simp +decide only [go_sem, e1] <;> rfl))))
    rfl
  · have e1 := decide_eq_false h
    rw [if_neg h]
    by_cases h' : a > b
    · have e2 := decide_eq_true h'
      rw [if_pos h']
      (have hF := And.intro e1 e2; repeat' (first|apply th_n|apply wp_sq|apply wp_blk|apply wp_reg|apply wp_regd|(apply nm_and;kernel_rfl)|apply ev_nil|(apply ev_val;rfl;rfl;(simp +decide only [go_sem, hF] <;> rfl))|(apply ev_call;rfl;rfl;rfl;(simp +decide only [go_sem, hF] <;> rfl);(simp +decide only [go_sem, hF] <;> rfl);(first|exact h1|exact h2))|(apply ev_wr;rfl;rfl;(simp +decide only [go_sem, hF] <;> rfl))|(apply ev_st;rfl;rfl;(simp +decide only [go_sem, hF] <;> rfl))|(apply ev_yes;rfl;rfl;(simp +decide only [go_sem, hF] <;> rfl))|(apply ev_nt;rfl;rfl;(simp +decide only [go_sem, hF] <;> rfl))|(apply ev_no;rfl;rfl;(refine Or.inl ?_;(simp +decide only [go_sem, hF] <;> rfl)))|(apply ev_guard;rfl;rfl;(simp +decide only [go_sem, hF] <;> rfl);intro _;rotate_left;intro _;rotate_right)|(apply wp_ift;(simp +decide only [go_sem, hF] <;> rfl))|(apply wp_iff;(simp +decide only [go_sem, hF] <;> rfl))|(apply wp_ifu;(simp +decide only [go_sem, hF] <;> rfl);intro _;rotate_left;intro _;rotate_right)|(apply wp_if;(simp +decide only [go_sem, hF] <;> rfl);intro _;rotate_left;intro _;rotate_right)|apply on_n|apply th_r|apply th_e|apply bl_n|apply bl_r|apply bl_e|(apply bl_o;(rfl))|apply wp_sk|apply wp_lb|apply wp_rt|apply wp_ex|(apply bq_r;(simp +decide only [go_sem, hF] <;> rfl))|(apply bq_n;(simp +decide only [go_sem, hF] <;> rfl))))
      rfl
    · have e2 := decide_eq_false h'
      rw [if_neg h']
      (have hF := And.intro e1 e2; repeat' (first|apply th_n|apply wp_sq|apply wp_blk|apply wp_reg|apply wp_regd|(apply nm_and;kernel_rfl)|apply ev_nil|(apply ev_val;rfl;rfl;(simp +decide only [go_sem, hF] <;> rfl))|(apply ev_call;rfl;rfl;rfl;(simp +decide only [go_sem, hF] <;> rfl);(simp +decide only [go_sem, hF] <;> rfl);(first|exact h1|exact h2))|(apply ev_wr;rfl;rfl;(simp +decide only [go_sem, hF] <;> rfl))|(apply ev_st;rfl;rfl;(simp +decide only [go_sem, hF] <;> rfl))|(apply ev_yes;rfl;rfl;(simp +decide only [go_sem, hF] <;> rfl))|(apply ev_nt;rfl;rfl;(simp +decide only [go_sem, hF] <;> rfl))|(apply ev_no;rfl;rfl;(refine Or.inl ?_;(simp +decide only [go_sem, hF] <;> rfl)))|(apply ev_guard;rfl;rfl;(simp +decide only [go_sem, hF] <;> rfl);intro _;rotate_left;intro _;rotate_right)|(apply wp_ift;(simp +decide only [go_sem, hF] <;> rfl))|(apply wp_iff;(simp +decide only [go_sem, hF] <;> rfl))|(apply wp_ifu;(simp +decide only [go_sem, hF] <;> rfl);intro _;rotate_left;intro _;rotate_right)|(apply wp_if;(simp +decide only [go_sem, hF] <;> rfl);intro _;rotate_left;intro _;rotate_right)|apply on_n|apply th_r|apply th_e|apply bl_n|apply bl_r|apply bl_e|(apply bl_o;(rfl))|apply wp_sk|apply wp_lb|apply wp_rt|apply wp_ex|(apply bq_r;(simp +decide only [go_sem, hF] <;> rfl))|(apply bq_n;(simp +decide only [go_sem, hF] <;> rfl))))
      rfl
def firstC : List Int → Int
  | [] => 0
  | a :: l => orC a (firstC l)
def rowI : Row Int := ⟨fun n => [.int .i64 n], 1, fun _ => rfl⟩
set_option maxHeartbeats 1000000 in
theorem Or_pc (l : List Int) (hl : l.length ≤ maxLen) : PC Try.prog 58 [.sl l.length (rowI.cs l)] (.int .i64 (firstC l)) := by
  refine pc_of_pwp _ Try.func58 rfl Try.results58 (by kernel_rfl) ?_
  (repeat' (first|apply th_n|apply wp_sq|apply wp_blk|apply wp_reg|apply wp_regd|(apply nm_and;kernel_rfl)|apply ev_nil|(apply ev_val;rfl;rfl;(simp +decide only [go_sem] <;> rfl))|(apply ev_wr;rfl;rfl;(simp +decide only [go_sem] <;> rfl))|(apply ev_st;rfl;rfl;(simp +decide only [go_sem] <;> rfl))|(apply ev_yes;rfl;rfl;(simp +decide only [go_sem] <;> rfl))|(apply ev_nt;rfl;rfl;(simp +decide only [go_sem] <;> rfl))|(apply ev_no;rfl;rfl;(refine Or.inl ?_;(simp +decide only [go_sem] <;> rfl)))|(apply ev_guard;rfl;rfl;(simp +decide only [go_sem] <;> rfl);intro _;rotate_left;intro _;rotate_right)|(apply wp_ift;(simp +decide only [go_sem] <;> rfl))|(apply wp_iff;(simp +decide only [go_sem] <;> rfl))|(apply wp_ifu;(simp +decide only [go_sem] <;> rfl);intro _;rotate_left;intro _;rotate_right)|(apply wp_if;(simp +decide only [go_sem] <;> rfl);intro _;rotate_left;intro _;rotate_right)|apply on_n|apply th_r|apply th_e|apply bl_n|apply bl_r|apply bl_e|(apply bl_o;(rfl))|apply wp_sk|apply wp_lb|apply wp_rt|apply wp_ex|(apply bq_r;(simp +decide only [go_sem] <;> rfl))|(apply bq_n;(simp +decide only [go_sem] <;> rfl))))
  refine wp_lp (fun m f H => ∃ i : Nat, f = frm [(3, .d (.int .i64 0)), (6, .d (.sl l.length (rowI.cs l))), (7, .d (.int .i64 l.length)), (8, .d (.int .i64 i))] ∧ H = hpm [] ∧ i ≤ l.length ∧ firstC l = firstC (l.drop i) ∧ m = l.length - i) l.length _ _
    (Cv.keepH [(3, .d (.int .i64 0)), (6, .d (.sl l.length (rowI.cs l))), (7, .d (.int .i64 l.length)), (8, .d (.int .i64 0))] [] (by (repeat' (first | exact trivial | apply And.intro | ((simp +decide only [go_sem] <;> rfl)) | rfl))) (by (repeat' (first | exact trivial | apply And.intro | ((simp +decide only [go_sem] <;> rfl)) | rfl))) rfl) ⟨0, rfl, rfl, by omega, rfl, rfl⟩ ?_
  rintro n f H ⟨i, rfl, rfl, hi, hall, rfl⟩
  by_cases h : i < l.length
  · obtain ⟨e1, e2, e3⟩ := at_in h
    have hx : l[i]? = some l[i] := by simp [h]
    have e4 := rowI.rd1 hx rfl (y := .int .i64 l[i]) rfl
    have e5 := wrap_succ h hl
    rw [List.drop_eq_getElem_cons h, firstC] at hall
    generalize l[i] = v at *
    by_cases hv : v = 0
    · have e6 : (v != 0) = false := by simp [hv]
      rw [hv, orC, if_pos rfl] at hall
      (have hF := And.intro e1 (And.intro e2 (And.intro e3 (And.intro e4 (And.intro e5 e6)))); repeat' (first|apply th_n|apply wp_sq|apply wp_blk|apply wp_reg|apply wp_regd|(apply nm_and;kernel_rfl)|apply ev_nil|(apply ev_val;rfl;rfl;(simp +decide only [go_sem, hF] <;> rfl))|(apply ev_wr;rfl;rfl;(simp +decide only [go_sem, hF] <;> rfl))|(apply ev_st;rfl;rfl;(simp +decide only [go_sem, hF] <;> rfl))|(apply ev_yes;rfl;rfl;(simp +decide only [go_sem, hF] <;> rfl))|(apply ev_nt;rfl;rfl;(simp +decide only [go_sem, hF] <;> rfl))|(apply ev_no;rfl;rfl;(refine Or.inl ?_;(simp +decide only [go_sem, hF] <;> rfl)))|(apply ev_guard;rfl;rfl;(simp +decide only [go_sem, hF] <;> rfl);intro _;rotate_left;intro _;rotate_right)|(apply wp_ift;(simp +decide only [go_sem, hF] <;> rfl))|(apply wp_iff;(simp +decide only [go_sem, hF] <;> rfl))|(apply wp_ifu;(simp +decide only [go_sem, hF] <;> rfl);intro _;rotate_left;intro _;rotate_right)|(apply wp_if;(simp +decide only [go_sem, hF] <;> rfl);intro _;rotate_left;intro _;rotate_right)|apply on_n|apply th_r|apply th_e|apply bl_n|apply bl_r|apply bl_e|(apply bl_o;(rfl))|apply wp_sk|apply wp_lb|apply wp_rt|apply wp_ex|(apply bq_r;(simp +decide only [go_sem, hF] <;> rfl))|(apply bq_n;(simp +decide only [go_sem, hF] <;> rfl))))
      exact ⟨l.length - (i + 1), _, _, by omega, Cv.keepH [(3, .d (.int .i64 0)), (6, .d (.sl l.length (rowI.cs l))), (7, .d (.int .i64 l.length)), (8, .d (.int .i64 ((i + 1 : Nat) : Int)))] [] (by (repeat' (first | exact trivial | apply And.intro | ((simp +decide only [go_sem] <;> rfl)) | rfl))) (by (repeat' (first | exact trivial | apply And.intro | ((simp +decide only [go_sem] <;> rfl)) | rfl))) rfl, i + 1, rfl, rfl, h, hall, rfl⟩
    · have e6 : (v != 0) = true := by simp [hv]
      rw [orC, if_neg hv] at hall
      (have hF := And.intro e1 (And.intro e2 (And.intro e3 (And.intro e4 (And.intro e5 e6)))); repeat' (first|apply th_n|apply wp_sq|apply wp_blk|apply wp_reg|apply wp_regd|(apply nm_and;kernel_rfl)|apply ev_nil|(apply ev_val;rfl;rfl;(simp +decide only [go_sem, hF] <;> rfl))|(apply ev_wr;rfl;rfl;(simp +decide only [go_sem, hF] <;> rfl))|(apply ev_st;rfl;rfl;(simp +decide only [go_sem, hF] <;> rfl))|(apply ev_yes;rfl;rfl;(simp +decide only [go_sem, hF] <;> rfl))|(apply ev_nt;rfl;rfl;(simp +decide only [go_sem, hF] <;> rfl))|(apply ev_no;rfl;rfl;(refine Or.inl ?_;(simp +decide only [go_sem, hF] <;> rfl)))|(apply ev_guard;rfl;rfl;(simp +decide only [go_sem, hF] <;> rfl);intro _;rotate_left;intro _;rotate_right)|(apply wp_ift;(simp +decide only [go_sem, hF] <;> rfl))|(apply wp_iff;(simp +decide only [go_sem, hF] <;> rfl))|(apply wp_ifu;(simp +decide only [go_sem, hF] <;> rfl);intro _;rotate_left;intro _;rotate_right)|(apply wp_if;(simp +decide only [go_sem, hF] <;> rfl);intro _;rotate_left;intro _;rotate_right)|apply on_n|apply th_r|apply th_e|apply bl_n|apply bl_r|apply bl_e|(apply bl_o;(rfl))|apply wp_sk|apply wp_lb|apply wp_rt|apply wp_ex|(apply bq_r;(simp +decide only [go_sem, hF] <;> rfl))|(apply bq_n;(simp +decide only [go_sem, hF] <;> rfl))))
      rw [hall]; rfl
  · have e1 := at_out h
    (repeat' (first|apply th_n|apply wp_sq|apply wp_blk|apply wp_reg|apply wp_regd|(apply nm_and;kernel_rfl)|apply ev_nil|(apply ev_val;rfl;rfl;(simp +decide only [go_sem, e1] <;> rfl))|(apply ev_wr;rfl;rfl;(simp +decide only [go_sem, e1] <;> rfl))|(apply ev_st;rfl;rfl;(simp +decide only [go_sem, e1] <;> rfl))|(apply ev_yes;rfl;rfl;(simp +decide only [go_sem, e1] <;> rfl))|(apply ev_nt;rfl;rfl;(simp +decide only [go_sem, e1] <;> rfl))|(apply ev_no;rfl;rfl;(refine Or.inl ?_;(simp +decide only [go_sem, e1] <;> rfl)))|(apply ev_guard;rfl;rfl;(simp +decide only [go_sem, e1] <;> rfl);intro _;rotate_left;intro _;rotate_right)|(apply wp_ift;(simp +decide only [go_sem, e1] <;> rfl))|(apply wp_iff;(simp +decide only [go_sem, e1] <;> rfl))|(apply wp_ifu;(simp +decide only [go_sem, e1] <;> rfl);intro _;rotate_left;intro _;rotate_right)|(apply wp_if;(simp +decide only [go_sem, e1] <;> rfl);intro _;rotate_left;intro _;rotate_right)|apply on_n|apply th_r|apply th_e|apply bl_n|apply bl_r|apply bl_e|(apply bl_o;(rfl))|apply wp_sk|apply wp_lb|apply wp_rt|apply wp_ex|(apply bq_r;(simp +decide only [go_sem, e1] <;> rfl))|(apply bq_n;(simp +decide only [go_sem, e1] <;> rfl))))
    rw [hall, List.drop_eq_nil_of_le (by omega)]; rfl
set_option maxHeartbeats 2000000 in
theorem CompareFunc_pc (l l' : List Vlu) (hl : l.length ≤ maxLen) (k : FuncId) (hp : ∀ x ∈ l, ∀ y ∈ l', PC Try.prog k [.agg (rowV.toC x), .agg (rowV.toC y)] (.int .i64 (cmpV x y))) :
    PC Try.prog 61 [.sl l.length (rowV.cs l), .sl l'.length (rowV.cs l'), .fn (.func k) [] []] (.int .i64 (cmpVL l l')) := by
  refine pc_of_pwp _ Try.func61 rfl Try.results61 (by kernel_rfl) ?_
  (repeat' (first|apply th_n|apply wp_sq|apply wp_blk|apply wp_reg|apply wp_regd|(apply nm_and;kernel_rfl)|apply ev_nil|(apply ev_val;rfl;rfl;(simp +decide only [go_sem] <;> rfl))|(apply ev_wr;rfl;rfl;(simp +decide only [go_sem] <;> rfl))|(apply ev_st;rfl;rfl;(simp +decide only [go_sem] <;> rfl))|(apply ev_yes;rfl;rfl;(simp +decide only [go_sem] <;> rfl))|(apply ev_nt;rfl;rfl;(simp +decide only [go_sem] <;> rfl))|(apply ev_no;rfl;rfl;(refine Or.inl ?_;(simp +decide only [go_sem] <;> rfl)))|(apply ev_guard;rfl;rfl;(simp +decide only [go_sem] <;> rfl);intro _;rotate_left;intro _;rotate_right)|(apply wp_ift;(simp +decide only [go_sem] <;> rfl))|(apply wp_iff;(simp +decide only [go_sem] <;> rfl))|(apply wp_ifu;(simp +decide only [go_sem] <;> rfl);intro _;rotate_left;intro _;rotate_right)|(apply wp_if;(simp +decide only [go_sem] <;> rfl);intro _;rotate_left;intro _;rotate_right)|apply on_n|apply th_r|apply th_e|apply bl_n|apply bl_r|apply bl_e|(apply bl_o;(rfl))|apply wp_sk|apply wp_lb|apply wp_rt|apply wp_ex|(apply bq_r;(simp +decide only [go_sem] <;> rfl))|(apply bq_n;(simp +decide only [go_sem] <;> rfl))))
  refine wp_lp (fun m f H => ∃ i : Nat, f = frm [(0, .d (.sl l.length (rowV.cs l))), (1, .d (.sl l'.length (rowV.cs l'))), (2, .d (.fn (.func k) [] [])), (11, .d (.sl l.length (rowV.cs l))), (12, .d (.int .i64 l.length)), (13, .d (.int .i64 i))] ∧ H = hpm [] ∧ i ≤ l.length ∧ i ≤ l'.length ∧ cmpVL l l' = cmpVL (l.drop i) (l'.drop i) ∧ m = l.length - i) l.length _ _
    (Cv.keepH [(0, .d (.sl l.length (rowV.cs l))), (1, .d (.sl l'.length (rowV.cs l'))), (2, .d (.fn (.func k) [] [])), (11, .d (.sl l.length (rowV.cs l))), (12, .d (.int .i64 l.length)), (13, .d (.int .i64 0))] [] (by (repeat' (first | exact trivial | apply And.intro | ((simp +decide only [go_sem] <;> rfl)) | rfl))) (by (repeat' (first | exact trivial | apply And.intro | ((simp +decide only [go_sem] <;> rfl)) | rfl))) rfl) ⟨0, rfl, rfl, by omega, by omega, rfl, rfl⟩ ?_
  rintro n f H ⟨i, rfl, rfl, hi, hi', hall, rfl⟩
  by_cases h : i < l.length
  · obtain ⟨e1, e2, e3⟩ := at_in h
    have hx : l[i]? = some l[i] := by simp [h]
    obtain ⟨e4, e7⟩ := rowV.rd (n := 4) hx rfl
    obtain ⟨e8, e9⟩ := rowV.full l[i] (n := 4) rfl
    have e5 := wrap_succ h hl
    rw [List.drop_eq_getElem_cons h] at hall
    by_cases h' : i < l'.length
    · obtain ⟨-, -, e3'⟩ := at_in h'
      have z : decide ((i : Int) ≥ (l'.length : Int)) = false := decide_eq_false (by omega)
      have hy : l'[i]? = some l'[i] := by simp [h']
      obtain ⟨e4', e7'⟩ := rowV.rd (n := 4) hy rfl
      obtain ⟨e8', e9'⟩ := rowV.full l'[i] (n := 4) rfl
      have hc := hp l[i] (List.getElem_mem h) l'[i] (List.getElem_mem h')
      rw [List.drop_eq_getElem_cons h', cmpVL] at hall
      generalize cmpV l[i] l'[i] = v at *
      by_cases hv : v = 0
      · have e6 : (v != 0) = false := by simp [hv]
        rw [hv, orC, if_pos rfl] at hall
        (have hF := And.intro e1 (And.intro e2 (And.intro e3 (And.intro e3' (And.intro e4 (And.intro e4' (And.intro e5 (And.intro e6 (And.intro e7 (And.intro e7' (And.intro e8 (And.intro e8' (And.intro e9 (And.intro e9' z))))))))))))); repeat' (first|apply th_n|apply wp_sq|apply wp_blk|apply wp_reg|apply wp_regd|(apply nm_and;kernel_rfl)|apply ev_nil|(apply ev_val;rfl;rfl;(simp +decide only [go_sem, hF] <;> rfl))|(apply ev_call;rfl;rfl;rfl;(simp +decide only [go_sem, hF] <;> rfl);(simp +decide only [go_sem, hF] <;> rfl);(first|exact hc))|(apply ev_wr;rfl;rfl;(simp +decide only [go_sem, hF] <;> rfl))|(apply ev_st;rfl;rfl;(simp +decide only [go_sem, hF] <;> rfl))|(apply ev_yes;rfl;rfl;(simp +decide only [go_sem, hF] <;> rfl))|(apply ev_nt;rfl;rfl;(simp +decide only [go_sem, hF] <;> rfl))|(apply ev_no;rfl;rfl;(refine Or.inl ?_;(simp +decide only [go_sem, hF] <;> rfl)))|(apply ev_guard;rfl;rfl;(simp +decide only [go_sem, hF] <;> rfl);intro _;rotate_left;intro _;rotate_right)|(apply wp_ift;(simp +decide only [go_sem, hF] <;> rfl))|(apply wp_iff;(simp +decide only [go_sem, hF] <;> rfl))|(apply wp_ifu;(simp +decide only [go_sem, hF] <;> rfl);intro _;rotate_left;intro _;rotate_right)|(apply wp_if;(simp +decide only [go_sem, hF] <;> rfl);intro _;rotate_left;intro _;rotate_right)|apply on_n|apply th_r|apply th_e|apply bl_n|apply bl_r|apply bl_e|(apply bl_o;(rfl))|apply wp_sk|apply wp_lb|apply wp_rt|apply wp_ex|(apply bq_r;(simp +decide only [go_sem, hF] <;> rfl))|(apply bq_n;(simp +decide only [go_sem, hF] <;> rfl))))
        exact ⟨l.length - (i + 1), _, _, by omega, Cv.keepH [(0, .d (.sl l.length (rowV.cs l))), (1, .d (.sl l'.length (rowV.cs l'))), (2, .d (.fn (.func k) [] [])), (11, .d (.sl l.length (rowV.cs l))), (12, .d (.int .i64 l.length)), (13, .d (.int .i64 ((i + 1 : Nat) : Int)))] [] (by (repeat' (first | exact trivial | apply And.intro | ((simp +decide only [go_sem] <;> rfl)) | rfl))) (by (repeat' (first | exact trivial | apply And.intro | ((simp +decide only [go_sem] <;> rfl)) | rfl))) rfl, i + 1, rfl, rfl, h, h', hall, rfl⟩
      · have e6 : (v != 0) = true := by simp [hv]
        rw [orC, if_neg hv] at hall
        (have hF := And.intro e1 (And.intro e2 (And.intro e3 (And.intro e3' (And.intro e4 (And.intro e4' (And.intro e5 (And.intro e6 (And.intro e7 (And.intro e7' (And.intro e8 (And.intro e8' (And.intro e9 (And.intro e9' z))))))))))))); repeat' (first|apply th_n|apply wp_sq|apply wp_blk|apply wp_reg|apply wp_regd|(apply nm_and;kernel_rfl)|apply ev_nil|(apply ev_val;rfl;rfl;(simp +decide only [go_sem, hF] <;> rfl))|(apply ev_call;rfl;rfl;rfl;(simp +decide only [go_sem, hF] <;> rfl);(simp +decide only [go_sem, hF] <;> rfl);(first|exact hc))|(apply ev_wr;rfl;rfl;(simp +decide only [go_sem, hF] <;> rfl))|(apply ev_st;rfl;rfl;(simp +decide only [go_sem, hF] <;> rfl))|(apply ev_yes;rfl;rfl;(simp +decide only [go_sem, hF] <;> rfl))|(apply ev_nt;rfl;rfl;(simp +decide only [go_sem, hF] <;> rfl))|(apply ev_no;rfl;rfl;(refine Or.inl ?_;(simp +decide only [go_sem, hF] <;> rfl)))|(apply ev_guard;rfl;rfl;(simp +decide only [go_sem, hF] <;> rfl);intro _;rotate_left;intro _;rotate_right)|(apply wp_ift;(simp +decide only [go_sem, hF] <;> rfl))|(apply wp_iff;(simp +decide only [go_sem, hF] <;> rfl))|(apply wp_ifu;(simp +decide only [go_sem, hF] <;> rfl);intro _;rotate_left;intro _;rotate_right)|(apply wp_if;(simp +decide only [go_sem, hF] <;> rfl);intro _;rotate_left;intro _;rotate_right)|apply on_n|apply th_r|apply th_e|apply bl_n|apply bl_r|apply bl_e|(apply bl_o;(rfl))|apply wp_sk|apply wp_lb|apply wp_rt|apply wp_ex|(apply bq_r;(simp +decide only [go_sem, hF] <;> rfl))|(apply bq_n;(simp +decide only [go_sem, hF] <;> rfl))))
        rw [hall]; rfl
    · have z : decide ((i : Int) ≥ (l'.length : Int)) = true := decide_eq_true (by omega)
      rw [List.drop_eq_nil_of_le (show l'.length ≤ i by omega), cmpVL] at hall
      (have hF := And.intro e1 (And.intro e2 (And.intro e3 (And.intro e4 (And.intro e5 (And.intro e7 (And.intro e8 (And.intro e9 z))))))); repeat' (first|apply th_n|apply wp_sq|apply wp_blk|apply wp_reg|apply wp_regd|(apply nm_and;kernel_rfl)|apply ev_nil|(apply ev_val;rfl;rfl;(simp +decide only [go_sem, hF] <;> rfl))|(apply ev_wr;rfl;rfl;(simp +decide only [go_sem, hF] <;> rfl))|(apply ev_st;rfl;rfl;(simp +decide only [go_sem, hF] <;> rfl))|(apply ev_yes;rfl;rfl;(simp +decide only [go_sem, hF] <;> rfl))|(apply ev_nt;rfl;rfl;(simp +decide only [go_sem, hF] <;> rfl))|(apply ev_no;rfl;rfl;(refine Or.inl ?_;(simp +decide only [go_sem, hF] <;> rfl)))|(apply ev_guard;rfl;rfl;(simp +decide only [go_sem, hF] <;> rfl);intro _;rotate_left;intro _;rotate_right)|(apply wp_ift;(simp +decide only [go_sem, hF] <;> rfl))|(apply wp_iff;(simp +decide only [go_sem, hF] <;> rfl))|(apply wp_ifu;(simp +decide only [go_sem, hF] <;> rfl);intro _;rotate_left;intro _;rotate_right)|(apply wp_if;(simp +decide only [go_sem, hF] <;> rfl);intro _;rotate_left;intro _;rotate_right)|apply on_n|apply th_r|apply th_e|apply bl_n|apply bl_r|apply bl_e|(apply bl_o;(rfl))|apply wp_sk|apply wp_lb|apply wp_rt|apply wp_ex|(apply bq_r;(simp +decide only [go_sem, hF] <;> rfl))|(apply bq_n;(simp +decide only [go_sem, hF] <;> rfl))))
      rw [hall]; rfl
  · have e1 := at_out h
    rw [List.drop_eq_nil_of_le (show l.length ≤ i by omega)] at hall
    by_cases h' : i < l'.length
    · have z : decide ((l.length : Int) < (l'.length : Int)) = true := decide_eq_true (by omega)
      rw [List.drop_eq_getElem_cons h', cmpVL] at hall
      (have hF := And.intro e1 z; repeat' (first|apply th_n|apply wp_sq|apply wp_blk|apply wp_reg|apply wp_regd|(apply nm_and;kernel_rfl)|apply ev_nil|(apply ev_val;rfl;rfl;(simp +decide only [go_sem, hF] <;> rfl))|(apply ev_wr;rfl;rfl;(simp +decide only [go_sem, hF] <;> rfl))|(apply ev_st;rfl;rfl;(simp +decide only [go_sem, hF] <;> rfl))|(apply ev_yes;rfl;rfl;(simp +decide only [go_sem, hF] <;> rfl))|(apply ev_nt;rfl;rfl;(simp +decide only [go_sem, hF] <;> rfl))|(apply ev_no;rfl;rfl;(refine Or.inl ?_;(simp +decide only [go_sem, hF] <;> rfl)))|(apply ev_guard;rfl;rfl;(simp +decide only [go_sem, hF] <;> rfl);intro _;rotate_left;intro _;rotate_right)|(apply wp_ift;(simp +decide only [go_sem, hF] <;> rfl))|(apply wp_iff;(simp +decide only [go_sem, hF] <;> rfl))|(apply wp_ifu;(simp +decide only [go_sem, hF] <;> rfl);intro _;rotate_left;intro _;rotate_right)|(apply wp_if;(simp +decide only [go_sem, hF] <;> rfl);intro _;rotate_left;intro _;rotate_right)|apply on_n|apply th_r|apply th_e|apply bl_n|apply bl_r|apply bl_e|(apply bl_o;(rfl))|apply wp_sk|apply wp_lb|apply wp_rt|apply wp_ex|(apply bq_r;(simp +decide only [go_sem, hF] <;> rfl))|(apply bq_n;(simp +decide only [go_sem, hF] <;> rfl))))
      rw [hall]; rfl
    · have z : decide ((l.length : Int) < (l'.length : Int)) = false := decide_eq_false (by omega)
      rw [List.drop_eq_nil_of_le (show l'.length ≤ i by omega), cmpVL] at hall
      (have hF := And.intro e1 z; repeat' (first|apply th_n|apply wp_sq|apply wp_blk|apply wp_reg|apply wp_regd|(apply nm_and;kernel_rfl)|apply ev_nil|(apply ev_val;rfl;rfl;(simp +decide only [go_sem, hF] <;> rfl))|(apply ev_wr;rfl;rfl;(simp +decide only [go_sem, hF] <;> rfl))|(apply ev_st;rfl;rfl;(simp +decide only [go_sem, hF] <;> rfl))|(apply ev_yes;rfl;rfl;(simp +decide only [go_sem, hF] <;> rfl))|(apply ev_nt;rfl;rfl;(simp +decide only [go_sem, hF] <;> rfl))|(apply ev_no;rfl;rfl;(refine Or.inl ?_;(simp +decide only [go_sem, hF] <;> rfl)))|(apply ev_guard;rfl;rfl;(simp +decide only [go_sem, hF] <;> rfl);intro _;rotate_left;intro _;rotate_right)|(apply wp_ift;(simp +decide only [go_sem, hF] <;> rfl))|(apply wp_iff;(simp +decide only [go_sem, hF] <;> rfl))|(apply wp_ifu;(simp +decide only [go_sem, hF] <;> rfl);intro _;rotate_left;intro _;rotate_right)|(apply wp_if;(simp +decide only [go_sem, hF] <;> rfl);intro _;rotate_left;intro _;rotate_right)|apply on_n|apply th_r|apply th_e|apply bl_n|apply bl_r|apply bl_e|(apply bl_o;(rfl))|apply wp_sk|apply wp_lb|apply wp_rt|apply wp_ex|(apply bq_r;(simp +decide only [go_sem, hF] <;> rfl))|(apply bq_n;(simp +decide only [go_sem, hF] <;> rfl))))
      rw [hall]; rfl
set_option maxHeartbeats 1000000 in
theorem order_pc : ∀ (x y : Vlu), x.Ok → y.Ok → PC Try.prog 46 [.agg x.cells, .agg y.cells] (.int .i64 (cmpV x y))
  | .mk k n s l, .mk k' n' s' l', hx, hy => by
    obtain ⟨hl, hk, -⟩ := hx.parts
    obtain ⟨hl', hk', -⟩ := hy.parts
    have hc := CompareFunc_pc l l' hl 46 (fun x h1 y h2 => order_pc x y (hk x h1) (hk' y h2))
    have ho := Or_pc [cmpI k k', cmpI n n', Lib.compareBytes s.data.toList s'.data.toList, cmpVL l l'] (by simp [maxLen])
    have h1 := Compare_pc k k'
    have h2 := Compare_pc n n'
    have h3 := SCmp_pc s s'
    rw [Vlu.cells_mk, Vlu.cells_mk, cmpV]
    have e : ∀ a, orC a 0 = a := fun a => by unfold orC; split <;> simp_all
    rw [firstC, firstC, firstC, firstC, firstC, e] at ho
    generalize cmpI k k' = a1 at *
    generalize cmpI n n' = a2 at *
    generalize Lib.compareBytes s.data.toList s'.data.toList = a3 at *
    generalize cmpVL l l' = a4 at *
    generalize orC a1 _ = a5 at *
    refine pc_of_pwp _ Try.func46 rfl Try.results46 (by kernel_rfl) ?_
    (repeat' (first|apply th_n|apply wp_sq|apply wp_blk|apply wp_reg|apply wp_regd|(apply nm_and;kernel_rfl)|apply ev_nil|(apply ev_val;rfl;rfl;(simp +decide only [go_sem] <;> rfl))|(apply ev_call;rfl;rfl;rfl;(simp +decide only [go_sem] <;> rfl);(simp +decide only [go_sem] <;> rfl);(first|exact h1|exact h2|exact h3|exact hc|exact ho))|(apply ev_wr;rfl;rfl;(simp +decide only [go_sem] <;> rfl))|(apply ev_st;rfl;rfl;(simp +decide only [go_sem] <;> rfl))|(apply ev_yes;rfl;rfl;(simp +decide only [go_sem] <;> rfl))|(apply ev_nt;rfl;rfl;(simp +decide only [go_sem] <;> rfl))|(apply ev_no;rfl;rfl;(refine Or.inl ?_;(simp +decide only [go_sem] <;> rfl)))|(apply ev_guard;rfl;rfl;(simp +decide only [go_sem] <;> rfl);intro _;rotate_left;intro _;rotate_right)|(apply wp_ift;(simp +decide only [go_sem] <;> rfl))|(apply wp_iff;(simp +decide only [go_sem] <;> rfl))|(apply wp_ifu;(simp +decide only [go_sem] <;> rfl);intro _;rotate_left;intro _;rotate_right)|(apply wp_if;(simp +decide only [go_sem] <;> rfl);intro _;rotate_left;intro _;rotate_right)|apply on_n|apply th_r|apply th_e|apply bl_n|apply bl_r|apply bl_e|(apply bl_o;(rfl))|apply wp_sk|apply wp_lb|apply wp_rt|apply wp_ex|(apply bq_r;(simp +decide only [go_sem] <;> rfl))|(apply bq_n;(simp +decide only [go_sem] <;> rfl))))
    rfl
termination_by x => SizeOf.sizeOf x
decreasing_by (have := List.sizeOf_lt_of_mem h1; simp; omega)
theorem Cmp_pc (x y : Vlu) (hx : x.Ok) (hy : y.Ok) : PC Try.prog 31 [.agg x.cells, .agg y.cells] (.int .i64 (if vRight 3 x = true ∧ vRight 3 y = true then cmpV x y else 0)) := by
  have h1 := Right_pc x hx
  have h2 := Right_pc y hy
  have h3 := order_pc x y hx hy
  generalize vRight 3 x = a at *
  generalize vRight 3 y = b at *
  generalize cmpV x y = c at *
  obtain ⟨k, n, s, l⟩ := x
  obtain ⟨k', n', s', l'⟩ := y
  rw [Vlu.cells_mk, Vlu.cells_mk] at *
  refine pc_of_pwp _ Try.func31 rfl Try.results31 (by kernel_rfl) ?_
  cases a <;> cases b
  all_goals
    (repeat' (first|apply th_n|apply wp_sq|apply wp_blk|apply wp_reg|apply wp_regd|(apply nm_and;kernel_rfl)|apply ev_nil|(apply ev_val;rfl;rfl;(simp +decide only [go_sem] <;> rfl))|(apply ev_call;rfl;rfl;rfl;(simp +decide only [go_sem] <;> rfl);(simp +decide only [go_sem] <;> rfl);(first|exact h1|exact h2|exact h3))|(apply ev_wr;rfl;rfl;(simp +decide only [go_sem] <;> rfl))|(apply ev_st;rfl;rfl;(simp +decide only [go_sem] <;> rfl))|(apply ev_yes;rfl;rfl;(simp +decide only [go_sem] <;> rfl))|(apply ev_nt;rfl;rfl;(simp +decide only [go_sem] <;> rfl))|(apply ev_no;rfl;rfl;(refine Or.inl ?_;(simp +decide only [go_sem] <;> rfl)))|(apply ev_guard;rfl;rfl;(simp +decide only [go_sem] <;> rfl);intro _;rotate_left;intro _;rotate_right)|(apply wp_ift;(simp +decide only [go_sem] <;> rfl))|(apply wp_iff;(simp +decide only [go_sem] <;> rfl))|(apply wp_ifu;(simp +decide only [go_sem] <;> rfl);intro _;rotate_left;intro _;rotate_right)|(apply wp_if;(simp +decide only [go_sem] <;> rfl);intro _;rotate_left;intro _;rotate_right)|apply on_n|apply th_r|apply th_e|apply bl_n|apply bl_r|apply bl_e|(apply bl_o;(rfl))|apply wp_sk|apply wp_lb|apply wp_rt|apply wp_ex|(apply bq_r;(simp +decide only [go_sem] <;> rfl))|(apply bq_n;(simp +decide only [go_sem] <;> rfl))))
    simp; rfl
end Go.Proofs.Ytandclggkgmpgaa
