/- Walks of TypeOf, Text, TypeText; the document's example. Conditions: how long the texts are; what digits answers. -/
import Derived.Test.YtandclggkgmpgaaValT
import Derived.Test.YtandclggkgmpgaaValE
import Derived.Test.YtandclggkgmpgaaValG
import Derived.Test.YtandclggkgmpgaaValH
set_option maxRecDepth 100000
set_option linter.unusedVariables false
set_option linter.unusedSimpArgs false
set_option linter.unusedSectionVars false
namespace Go.Proofs.Ytandclggkgmpgaa
open Go.RowKit

theorem TypeText_pc (x : Typ) (hx : x.Ok) (ht : tRight 3 x = true → x.Tx) : PC Try.prog 17 [.agg x.cells] (.str (if tRight 3 x then tText x else ⟨#[]⟩)) := by
  have hr := TypeRight_pc x hx
  cases e : tRight 3 x
  · rw [e] at hr
    obtain ⟨k, l⟩ := x
    rw [Typ.cells_mk] at *
    refine pc_of_pwp _ Try.func17 rfl Try.results17 (by kernel_rfl) ?_
    (repeat' (first|apply th_n|apply wp_sq|apply wp_blk|apply wp_reg|apply wp_regd|(apply nm_and;kernel_rfl)|apply ev_nil|(apply ev_val;rfl;rfl;(simp +decide only [go_sem] <;> rfl))|(apply ev_call;rfl;rfl;rfl;(simp +decide only [go_sem] <;> rfl);(simp +decide only [go_sem] <;> rfl);(first|exact hr))|(apply ev_wr;rfl;rfl;(simp +decide only [go_sem] <;> rfl))|(apply ev_st;rfl;rfl;(simp +decide only [go_sem] <;> rfl))|(apply ev_yes;rfl;rfl;(simp +decide only [go_sem] <;> rfl))|(apply ev_nt;rfl;rfl;(simp +decide only [go_sem] <;> rfl))|(apply ev_no;rfl;rfl;(refine Or.inl ?_;(simp +decide only [go_sem] <;> rfl)))|(apply ev_guard;rfl;rfl;(simp +decide only [go_sem] <;> rfl);intro _;rotate_left;intro _;rotate_right)|(apply wp_ift;(simp +decide only [go_sem] <;> rfl))|(apply wp_iff;(simp +decide only [go_sem] <;> rfl))|(apply wp_ifu;(simp +decide only [go_sem] <;> rfl);intro _;rotate_left;intro _;rotate_right)|(apply wp_if;(simp +decide only [go_sem] <;> rfl);intro _;rotate_left;intro _;rotate_right)|apply on_n|apply th_r|apply th_e|apply bl_n|apply bl_r|apply bl_e|(apply bl_o;(rfl))|apply wp_sk|apply wp_lb|apply wp_rt|apply wp_ex|(apply bq_r;(simp +decide only [go_sem] <;> rfl))|(apply bq_n;(simp +decide only [go_sem] <;> rfl))))
    rfl
  · have hc := typeText_pc x (ht e)
    rw [e] at hr
    generalize hy : tText x = y at *
    obtain ⟨k, l⟩ := x
    rw [Typ.cells_mk] at *
    refine pc_of_pwp _ Try.func17 rfl Try.results17 (by kernel_rfl) ?_
    (repeat' (first|apply th_n|apply wp_sq|apply wp_blk|apply wp_reg|apply wp_regd|(apply nm_and;kernel_rfl)|apply ev_nil|(apply ev_val;rfl;rfl;(simp +decide only [go_sem] <;> rfl))|(apply ev_call;rfl;rfl;rfl;(simp +decide only [go_sem] <;> rfl);(simp +decide only [go_sem] <;> rfl);(first|exact hr|exact hc))|(apply ev_wr;rfl;rfl;(simp +decide only [go_sem] <;> rfl))|(apply ev_st;rfl;rfl;(simp +decide only [go_sem] <;> rfl))|(apply ev_yes;rfl;rfl;(simp +decide only [go_sem] <;> rfl))|(apply ev_nt;rfl;rfl;(simp +decide only [go_sem] <;> rfl))|(apply ev_no;rfl;rfl;(refine Or.inl ?_;(simp +decide only [go_sem] <;> rfl)))|(apply ev_guard;rfl;rfl;(simp +decide only [go_sem] <;> rfl);intro _;rotate_left;intro _;rotate_right)|(apply wp_ift;(simp +decide only [go_sem] <;> rfl))|(apply wp_iff;(simp +decide only [go_sem] <;> rfl))|(apply wp_ifu;(simp +decide only [go_sem] <;> rfl);intro _;rotate_left;intro _;rotate_right)|(apply wp_if;(simp +decide only [go_sem] <;> rfl);intro _;rotate_left;intro _;rotate_right)|apply on_n|apply th_r|apply th_e|apply bl_n|apply bl_r|apply bl_e|(apply bl_o;(rfl))|apply wp_sk|apply wp_lb|apply wp_rt|apply wp_ex|(apply bq_r;(simp +decide only [go_sem] <;> rfl))|(apply bq_n;(simp +decide only [go_sem] <;> rfl))))
    rfl
theorem Text_pc {dg : Int → ByteArray} {Q : Int → Prop} (hd : ∀ n, Q n → PC Try.prog 56 [.int .i64 n] (.str (dg n))) (x : Vlu) (hx : x.Ok) (ht : vRight 3 x = true → x.Tx dg Q) : PC Try.prog 25 [.agg x.cells] (.str (if vRight 3 x then vText dg x else ⟨#[]⟩)) := by
  have hr := Right_pc x hx
  cases e : vRight 3 x
  · rw [e] at hr
    obtain ⟨k, n, s, l⟩ := x
    rw [Vlu.cells_mk] at *
    refine pc_of_pwp _ Try.func25 rfl Try.results25 (by kernel_rfl) ?_
    (repeat' (first|apply th_n|apply wp_sq|apply wp_blk|apply wp_reg|apply wp_regd|(apply nm_and;kernel_rfl)|apply ev_nil|(apply ev_val;rfl;rfl;(simp +decide only [go_sem] <;> rfl))|(apply ev_call;rfl;rfl;rfl;(simp +decide only [go_sem] <;> rfl);(simp +decide only [go_sem] <;> rfl);(first|exact hr))|(apply ev_wr;rfl;rfl;(simp +decide only [go_sem] <;> rfl))|(apply ev_st;rfl;rfl;(simp +decide only [go_sem] <;> rfl))|(apply ev_yes;rfl;rfl;(simp +decide only [go_sem] <;> rfl))|(apply ev_nt;rfl;rfl;(simp +decide only [go_sem] <;> rfl))|(apply ev_no;rfl;rfl;(refine Or.inl ?_;(simp +decide only [go_sem] <;> rfl)))|(apply ev_guard;rfl;rfl;(simp +decide only [go_sem] <;> rfl);intro _;rotate_left;intro _;rotate_right)|(apply wp_ift;(simp +decide only [go_sem] <;> rfl))|(apply wp_iff;(simp +decide only [go_sem] <;> rfl))|(apply wp_ifu;(simp +decide only [go_sem] <;> rfl);intro _;rotate_left;intro _;rotate_right)|(apply wp_if;(simp +decide only [go_sem] <;> rfl);intro _;rotate_left;intro _;rotate_right)|apply on_n|apply th_r|apply th_e|apply bl_n|apply bl_r|apply bl_e|(apply bl_o;(rfl))|apply wp_sk|apply wp_lb|apply wp_rt|apply wp_ex|(apply bq_r;(simp +decide only [go_sem] <;> rfl))|(apply bq_n;(simp +decide only [go_sem] <;> rfl))))
    rfl
  · have hc := text_pc hd x (ht e)
    rw [e] at hr
    generalize hy : vText dg x = y at *
    obtain ⟨k, n, s, l⟩ := x
    rw [Vlu.cells_mk] at *
    refine pc_of_pwp _ Try.func25 rfl Try.results25 (by kernel_rfl) ?_
    (repeat' (first|apply th_n|apply wp_sq|apply wp_blk|apply wp_reg|apply wp_regd|(apply nm_and;kernel_rfl)|apply ev_nil|(apply ev_val;rfl;rfl;(simp +decide only [go_sem] <;> rfl))|(apply ev_call;rfl;rfl;rfl;(simp +decide only [go_sem] <;> rfl);(simp +decide only [go_sem] <;> rfl);(first|exact hr|exact hc))|(apply ev_wr;rfl;rfl;(simp +decide only [go_sem] <;> rfl))|(apply ev_st;rfl;rfl;(simp +decide only [go_sem] <;> rfl))|(apply ev_yes;rfl;rfl;(simp +decide only [go_sem] <;> rfl))|(apply ev_nt;rfl;rfl;(simp +decide only [go_sem] <;> rfl))|(apply ev_no;rfl;rfl;(refine Or.inl ?_;(simp +decide only [go_sem] <;> rfl)))|(apply ev_guard;rfl;rfl;(simp +decide only [go_sem] <;> rfl);intro _;rotate_left;intro _;rotate_right)|(apply wp_ift;(simp +decide only [go_sem] <;> rfl))|(apply wp_iff;(simp +decide only [go_sem] <;> rfl))|(apply wp_ifu;(simp +decide only [go_sem] <;> rfl);intro _;rotate_left;intro _;rotate_right)|(apply wp_if;(simp +decide only [go_sem] <;> rfl);intro _;rotate_left;intro _;rotate_right)|apply on_n|apply th_r|apply th_e|apply bl_n|apply bl_r|apply bl_e|(apply bl_o;(rfl))|apply wp_sk|apply wp_lb|apply wp_rt|apply wp_ex|(apply bq_r;(simp +decide only [go_sem] <;> rfl))|(apply bq_n;(simp +decide only [go_sem] <;> rfl))))
    rfl
theorem TypeOf_pc (x : Vlu) (hx : x.Ok) (ht : vRight 3 x = true → x.Sm) : PC Try.prog 24 [.agg x.cells] (.agg (if vRight 3 x then vType x else .mk 0 []).cells) := by
  have hr := Right_pc x hx
  cases e : vRight 3 x
  · rw [e] at hr
    obtain ⟨k, n, s, l⟩ := x
    rw [Vlu.cells_mk] at *
    refine pc_of_pwp _ Try.func24 rfl Try.results24 (by kernel_rfl) ?_
    (repeat' (first|apply th_n|apply wp_sq|apply wp_blk|apply wp_reg|apply wp_regd|(apply nm_and;kernel_rfl)|apply ev_nil|(apply ev_val;rfl;rfl;(simp +decide only [go_sem] <;> rfl))|(apply ev_call;rfl;rfl;rfl;(simp +decide only [go_sem] <;> rfl);(simp +decide only [go_sem] <;> rfl);(first|exact hr))|(apply ev_wr;rfl;rfl;(simp +decide only [go_sem] <;> rfl))|(apply ev_st;rfl;rfl;(simp +decide only [go_sem] <;> rfl))|(apply ev_yes;rfl;rfl;(simp +decide only [go_sem] <;> rfl))|(apply ev_nt;rfl;rfl;(simp +decide only [go_sem] <;> rfl))|(apply ev_no;rfl;rfl;(refine Or.inl ?_;(simp +decide only [go_sem] <;> rfl)))|(apply ev_guard;rfl;rfl;(simp +decide only [go_sem] <;> rfl);intro _;rotate_left;intro _;rotate_right)|(apply wp_ift;(simp +decide only [go_sem] <;> rfl))|(apply wp_iff;(simp +decide only [go_sem] <;> rfl))|(apply wp_ifu;(simp +decide only [go_sem] <;> rfl);intro _;rotate_left;intro _;rotate_right)|(apply wp_if;(simp +decide only [go_sem] <;> rfl);intro _;rotate_left;intro _;rotate_right)|apply on_n|apply th_r|apply th_e|apply bl_n|apply bl_r|apply bl_e|(apply bl_o;(rfl))|apply wp_sk|apply wp_lb|apply wp_rt|apply wp_ex|(apply bq_r;(simp +decide only [go_sem] <;> rfl))|(apply bq_n;(simp +decide only [go_sem] <;> rfl))))
    rfl
  · have hc := typeOf_pc x (ht e)
    rw [e] at hr
    generalize hy : vType x = y at *
    obtain ⟨k, n, s, l⟩ := x
    obtain ⟨ky, ly⟩ := y
    rw [Vlu.cells_mk] at *
    rw [if_pos rfl]
    rw [Typ.cells_mk] at *
    refine pc_of_pwp _ Try.func24 rfl Try.results24 (by kernel_rfl) ?_
    (repeat' (first|apply th_n|apply wp_sq|apply wp_blk|apply wp_reg|apply wp_regd|(apply nm_and;kernel_rfl)|apply ev_nil|(apply ev_val;rfl;rfl;(simp +decide only [go_sem] <;> rfl))|(apply ev_call;rfl;rfl;rfl;(simp +decide only [go_sem] <;> rfl);(simp +decide only [go_sem] <;> rfl);(first|exact hr|exact hc))|(apply ev_wr;rfl;rfl;(simp +decide only [go_sem] <;> rfl))|(apply ev_st;rfl;rfl;(simp +decide only [go_sem] <;> rfl))|(apply ev_yes;rfl;rfl;(simp +decide only [go_sem] <;> rfl))|(apply ev_nt;rfl;rfl;(simp +decide only [go_sem] <;> rfl))|(apply ev_no;rfl;rfl;(refine Or.inl ?_;(simp +decide only [go_sem] <;> rfl)))|(apply ev_guard;rfl;rfl;(simp +decide only [go_sem] <;> rfl);intro _;rotate_left;intro _;rotate_right)|(apply wp_ift;(simp +decide only [go_sem] <;> rfl))|(apply wp_iff;(simp +decide only [go_sem] <;> rfl))|(apply wp_ifu;(simp +decide only [go_sem] <;> rfl);intro _;rotate_left;intro _;rotate_right)|(apply wp_if;(simp +decide only [go_sem] <;> rfl);intro _;rotate_left;intro _;rotate_right)|apply on_n|apply th_r|apply th_e|apply bl_n|apply bl_r|apply bl_e|(apply bl_o;(rfl))|apply wp_sk|apply wp_lb|apply wp_rt|apply wp_ex|(apply bq_r;(simp +decide only [go_sem] <;> rfl))|(apply bq_n;(simp +decide only [go_sem] <;> rfl))))
    rfl
/-- The document's example, a value and its type. -/
def exV : Vlu := .mk 3 0 ⟨#[]⟩ [.mk 0 1 ⟨#[]⟩ [], .mk 2 0 ⟨#[97]⟩ []]
def exT : Typ := .mk 3 [.mk 0 [], .mk 2 []]
theorem i64_small {n : Int} (h : 0 ≤ n ∧ n ≤ 100) : I64 n := by constructor <;> omega
theorem exV_ok : exV.Ok := by
  refine .mk _ _ _ _ (i64_small (by omega)) (i64_small (by omega)) (by decide) (by decide) fun x hx => ?_
  simp at hx
  rcases hx with rfl | rfl
  · exact .mk _ _ _ _ (i64_small (by omega)) (i64_small (by omega)) (by decide) (by decide) (by simp)
  · exact .mk _ _ _ _ (i64_small (by omega)) (i64_small (by omega)) (by decide) (by decide) (by simp)
theorem exT_ok : exT.Ok := by
  refine .mk _ _ (i64_small (by omega)) (by decide) fun x hx => ?_
  simp at hx
  rcases hx with rfl | rfl
  · exact .mk _ _ (i64_small (by omega)) (by decide) (by simp)
  · exact .mk _ _ (i64_small (by omega)) (by decide) (by simp)
theorem exV_right : vRight 3 exV = true := by decide +kernel
theorem exT_right : tRight 3 exT = true := by decide +kernel
theorem exV_sm : exV.Sm := by
  refine .mk _ _ _ _ (by decide) fun x hx => ?_
  simp at hx
  rcases hx with rfl | rfl
  · exact .mk _ _ _ _ (by decide) (by simp)
  · exact .mk _ _ _ _ (by decide) (by simp)
theorem exT_tx : exT.Tx := by
  refine .mk _ _ (by decide) (by decide +kernel) fun x hx => ?_
  simp at hx
  rcases hx with rfl | rfl
  · exact .mk _ _ (by decide) (by decide +kernel) (by simp)
  · exact .mk _ _ (by decide) (by decide +kernel) (by simp)
theorem exV_tx : exV.Tx (fun _ => ⟨#[49]⟩) (fun n => n = 1) := by
  refine .mk _ _ _ _ (by decide) (by decide +kernel) (fun x hx => ?_) (by decide +kernel) (fun _ _ h => absurd rfl h)
  simp at hx
  rcases hx with rfl | rfl
  · exact .mk _ _ _ _ (by decide) (by decide +kernel) (by simp) (by decide +kernel) (fun _ _ _ => rfl)
  · exact .mk _ _ _ _ (by decide) (by decide +kernel) (by simp) (by decide +kernel) (fun _ h => absurd rfl h)
theorem exV_text : vText (fun _ => ⟨#[49]⟩) exV = ⟨#[40, 49, 44, 32, 39, 97, 41]⟩ := by decide +kernel
theorem exT_text : tText exT = ⟨#[40, 105, 110, 116, 44, 32, 115, 121, 109, 41]⟩ := by decide +kernel
theorem exV_type : vType exV = exT := rfl
set_option maxHeartbeats 1000000 in
theorem awake_pc : PC Try.prog 9 [] (.bool true) := by
  have h1 := Right_pc exV exV_ok
  have h2 := Text_pc (Q := fun n => n = 1) (fun n hn => by rw [hn]; exact digits1_pc) exV exV_ok (fun _ => exV_tx)
  have h3 := TypeOf_pc exV exV_ok (fun _ => exV_sm)
  have h4 := TypeText_pc exT exT_ok (fun _ => exT_tx)
  have h5 := Name_pc ⟨#[97, 49]⟩ (by decide)
  have h6 := Name_pc ⟨#[49, 97]⟩ (by decide)
  rw [show nameB (⟨#[97, 49]⟩ : ByteArray).data.toList = true by decide +kernel] at h5
  rw [show nameB (⟨#[49, 97]⟩ : ByteArray).data.toList = false by decide +kernel] at h6
  rw [exV_right] at h1
  rw [exV_right, if_pos rfl, exV_text] at h2
  rw [exV_right, if_pos rfl, exV_type] at h3
  rw [exT_right, if_pos rfl, exT_text] at h4
  refine pc_of_pwp _ Try.func9 rfl Try.results9 (by kernel_rfl) ?_
  have e1 : ((⟨#[40, 49, 44, 32, 39, 97, 41]⟩ : ByteArray).toList == (⟨#[40, 49, 44, 32, 39, 97, 41]⟩ : ByteArray).toList) = true := by simp
  have e2 : ((⟨#[40, 105, 110, 116, 44, 32, 115, 121, 109, 41]⟩ : ByteArray).toList == (⟨#[40, 105, 110, 116, 44, 32, 115, 121, 109, 41]⟩ : ByteArray).toList) = true := by simp
  (have hF := And.intro e1 e2; repeat' (first|apply th_n|apply wp_sq|apply wp_blk|apply wp_reg|apply wp_regd|(apply nm_and;kernel_rfl)|apply ev_nil|(apply ev_val;rfl;rfl;(simp +decide only [go_sem, hF, beq_self_eq_true] <;> rfl))|(apply ev_call;rfl;rfl;rfl;(simp +decide only [go_sem, hF, beq_self_eq_true] <;> rfl);(simp +decide only [go_sem, hF, beq_self_eq_true] <;> rfl);(first|exact h1|exact h2|exact h3|exact h4|exact h5|exact h6))|(apply ev_wr;rfl;rfl;(simp +decide only [go_sem, hF, beq_self_eq_true] <;> rfl))|(apply ev_st;rfl;rfl;(simp +decide only [go_sem, hF, beq_self_eq_true] <;> rfl))|(apply ev_yes;rfl;rfl;(simp +decide only [go_sem, hF, beq_self_eq_true] <;> rfl))|(apply ev_nt;rfl;rfl;(simp +decide only [go_sem, hF, beq_self_eq_true] <;> rfl))|(apply ev_no;rfl;rfl;(refine Or.inl ?_;(simp +decide only [go_sem, hF, beq_self_eq_true] <;> rfl)))|(apply ev_guard;rfl;rfl;(simp +decide only [go_sem, hF, beq_self_eq_true] <;> rfl);intro _;rotate_left;intro _;rotate_right)|(apply wp_ift;(simp +decide only [go_sem, hF, beq_self_eq_true] <;> rfl))|(apply wp_iff;(simp +decide only [go_sem, hF, beq_self_eq_true] <;> rfl))|(apply wp_ifu;(simp +decide only [go_sem, hF, beq_self_eq_true] <;> rfl);intro _;rotate_left;intro _;rotate_right)|(apply wp_if;(simp +decide only [go_sem, hF, beq_self_eq_true] <;> rfl);intro _;rotate_left;intro _;rotate_right)|apply on_n|apply th_r|apply th_e|apply bl_n|apply bl_r|apply bl_e|(apply bl_o;(rfl))|apply wp_sk|apply wp_lb|apply wp_rt|apply wp_ex|(apply bq_r;(simp +decide only [go_sem, hF, beq_self_eq_true] <;> rfl))|(apply bq_n;(simp +decide only [go_sem, hF, beq_self_eq_true] <;> rfl))))
  rfl
end Go.Proofs.Ytandclggkgmpgaa
