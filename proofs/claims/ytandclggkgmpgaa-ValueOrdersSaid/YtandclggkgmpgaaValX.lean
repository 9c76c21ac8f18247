/- Walks of Copy, Parts of package value, slices.Collect; the document's Parts. Conditions: what the value's parts may be. -/
import Derived.Test.YtandclggkgmpgaaValW
import Derived.Test.YtandclggkgmpgaaValT
set_option maxRecDepth 100000
set_option linter.unusedVariables false
set_option linter.unusedSimpArgs false
set_option linter.unusedSectionVars false
namespace Go.Proofs.Ytandclggkgmpgaa
open Go.RowKit

theorem Vlu.Sm.parts {k n : Int} {s : ByteArray} {l : List Vlu} (h : (Vlu.mk k n s l).Sm) : l.length ≤ 1000 ∧ ∀ x ∈ l, x.Sm := by cases h; exact ⟨by assumption, by assumption⟩
set_option maxHeartbeats 1000000 in
theorem Copy_pc : ∀ (x : Vlu), x.Ok → x.Sm → PC Try.prog 23 [.agg x.cells] (.agg x.cells)
  | .mk k n s l, hx, hm => by
    obtain ⟨hl, hv, hs, hk, hn⟩ := hx.parts
    obtain ⟨hl2, hm2⟩ := hm.parts
    have ih : ∀ y ∈ l, PC Try.prog 23 ([] ++ [.agg (rowV.toC y)] ++ []) (.agg (rowV.toC (id y))) := fun y hy => Copy_pc y (hv y hy) (hm2 y hy)
    have hc := mapVV_pc rowV rfl rowV rfl l hl2 23 [] [] id ih
    rw [List.map_id] at hc
    rw [Vlu.cells_mk]
    refine pc_of_pwp _ Try.func23 rfl Try.results23 (by kernel_rfl) ?_
    (repeat' (first|apply th_n|apply wp_sq|apply wp_blk|apply wp_reg|apply wp_regd|(apply nm_and;kernel_rfl)|apply ev_nil|(apply ev_val;rfl;rfl;(simp +decide only [go_sem] <;> rfl))|(apply ev_call;rfl;rfl;rfl;(simp +decide only [go_sem] <;> rfl);(simp +decide only [go_sem] <;> rfl);(first|exact hc))|(apply ev_wr;rfl;rfl;(simp +decide only [go_sem] <;> rfl))|(apply ev_st;rfl;rfl;(simp +decide only [go_sem] <;> rfl))|(apply ev_yes;rfl;rfl;(simp +decide only [go_sem] <;> rfl))|(apply ev_nt;rfl;rfl;(simp +decide only [go_sem] <;> rfl))|(apply ev_no;rfl;rfl;(refine Or.inl ?_;(simp +decide only [go_sem] <;> rfl)))|(apply ev_guard;rfl;rfl;(simp +decide only [go_sem] <;> rfl);intro _;rotate_left;intro _;rotate_right)|(apply wp_ift;(simp +decide only [go_sem] <;> rfl))|(apply wp_iff;(simp +decide only [go_sem] <;> rfl))|(apply wp_ifu;(simp +decide only [go_sem] <;> rfl);intro _;rotate_left;intro _;rotate_right)|(apply wp_if;(simp +decide only [go_sem] <;> rfl);intro _;rotate_left;intro _;rotate_right)|apply on_n|apply th_r|apply th_e|apply bl_n|apply bl_r|apply bl_e|(apply bl_o;(rfl))|apply wp_sk|apply wp_lb|apply wp_rt|apply wp_ex|(apply bq_r;(simp +decide only [go_sem] <;> rfl))|(apply bq_n;(simp +decide only [go_sem] <;> rfl))))
    rfl
set_option maxHeartbeats 1000000 in
theorem PartsC_ps (x : Vlu) (hx : x.Ok) (hm : vRight 3 x = true → x.Sm) : PS Try.prog 44 [.ep x.cells] (if vRight 3 x = true then (partsV x).map encV else []) := by
  have hR := Right_pc x hx
  have hp := parts_pc x
  have hps := parts_ps x hx
  have hC := fun h => Copy_pc x hx (hm h)
  obtain ⟨k, n, s, l⟩ := x
  rw [Vlu.cells_mk] at *
  refine ps_of_pwp Try.func44 rfl rfl (by kernel_rfl) fun y => ?_
  cases hr : vRight 3 (.mk k n s l)
  · rw [hr] at hR
    rw [if_neg (by simp)]
    (repeat' (first|apply th_n|apply wp_sq|apply wp_blk|apply wp_reg|apply wp_regd|(apply nm_and;kernel_rfl)|apply ev_nil|(apply ev_val;rfl;rfl;(simp +decide only [go_sem] <;> rfl))|(apply ev_call;rfl;rfl;rfl;(simp +decide only [go_sem] <;> rfl);(simp +decide only [go_sem] <;> rfl);(first|exact hR))|(apply ev_yld;rfl;rfl;rfl;(simp +decide only [go_sem] <;> rfl);(simp +decide only [go_sem] <;> rfl);(simp +decide only [go_sem] <;> rfl))|(apply it_r;refine Or.inr ?_;(simp +decide only [go_sem] <;> rfl))|(apply ev_wr;rfl;rfl;(simp +decide only [go_sem] <;> rfl))|(apply ev_st;rfl;rfl;(simp +decide only [go_sem] <;> rfl))|(apply ev_yes;rfl;rfl;(simp +decide only [go_sem] <;> rfl))|(apply ev_nt;rfl;rfl;(simp +decide only [go_sem] <;> rfl))|(apply ev_no;rfl;rfl;(refine Or.inl ?_;(simp +decide only [go_sem] <;> rfl)))|(apply ev_guard;rfl;rfl;(simp +decide only [go_sem] <;> rfl);intro _;rotate_left;intro _;rotate_right)|(apply wp_ift;(simp +decide only [go_sem] <;> rfl))|(apply wp_iff;(simp +decide only [go_sem] <;> rfl))|(apply wp_ifu;(simp +decide only [go_sem] <;> rfl);intro _;rotate_left;intro _;rotate_right)|(apply wp_if;(simp +decide only [go_sem] <;> rfl);intro _;rotate_left;intro _;rotate_right)|apply on_n|apply th_r|apply th_e|apply bl_n|apply bl_r|apply bl_e|(apply bl_o;(rfl))|apply wp_sk|apply wp_lb|apply wp_rt|apply wp_ex|(apply bq_r;(simp +decide only [go_sem] <;> rfl))|(apply bq_n;(simp +decide only [go_sem] <;> rfl))))
    exact it_n (.inl rfl)
  · rw [hr] at hR
    rw [if_pos rfl]
    have hC := hC hr
    generalize (partsV (.mk k n s l)).map encV = xs at *
    (repeat' (first|apply th_n|apply wp_sq|apply wp_blk|apply wp_reg|apply wp_regd|(apply nm_and;kernel_rfl)|apply ev_nil|(apply ev_val;rfl;rfl;(simp +decide only [go_sem] <;> rfl))|(apply ev_call;rfl;rfl;rfl;(simp +decide only [go_sem] <;> rfl);(simp +decide only [go_sem] <;> rfl);(first|exact hR|exact hC|exact hp|exact hps))|(apply ev_dlg0;rfl;rfl;rfl;(simp +decide only [go_sem] <;> rfl);(simp +decide only [go_sem] <;> rfl);(first|exact hR|exact hC|exact hp|exact hps);(simp +decide only [go_sem] <;> rfl))|(apply ev_yld;rfl;rfl;rfl;(simp +decide only [go_sem] <;> rfl);(simp +decide only [go_sem] <;> rfl);(simp +decide only [go_sem] <;> rfl))|(apply it_r;refine Or.inr ?_;(simp +decide only [go_sem] <;> rfl))|(apply ev_wr;rfl;rfl;(simp +decide only [go_sem] <;> rfl))|(apply ev_st;rfl;rfl;(simp +decide only [go_sem] <;> rfl))|(apply ev_yes;rfl;rfl;(simp +decide only [go_sem] <;> rfl))|(apply ev_nt;rfl;rfl;(simp +decide only [go_sem] <;> rfl))|(apply ev_no;rfl;rfl;(refine Or.inl ?_;(simp +decide only [go_sem] <;> rfl)))|(apply ev_guard;rfl;rfl;(simp +decide only [go_sem] <;> rfl);intro _;rotate_left;intro _;rotate_right)|(apply wp_ift;(simp +decide only [go_sem] <;> rfl))|(apply wp_iff;(simp +decide only [go_sem] <;> rfl))|(apply wp_ifu;(simp +decide only [go_sem] <;> rfl);intro _;rotate_left;intro _;rotate_right)|(apply wp_if;(simp +decide only [go_sem] <;> rfl);intro _;rotate_left;intro _;rotate_right)|apply on_n|apply th_r|apply th_e|apply bl_n|apply bl_r|apply bl_e|(apply bl_o;(rfl))|apply wp_sk|apply wp_lb|apply wp_rt|apply wp_ex|(apply bq_r;(simp +decide only [go_sem] <;> rfl))|(apply bq_n;(simp +decide only [go_sem] <;> rfl))))
    · exact it_n (.inl rfl)
    · exact it_n (.inr rfl)
/-- A row's cells: the one place that is new is written. -/
theorem vput4 (us : List Vlu) (a b c d : SV) : us.length * 4 + 4 ≤ ((rowV.cs us).map SV.d ++ [a, b, c, d]).length ∧ ((rowV.cs us).map SV.d ++ [a, b, c, d]).take (us.length * 4) = (rowV.cs us).map SV.d ∧ ((rowV.cs us).map SV.d ++ [a, b, c, d]).drop (us.length * 4 + 4) = [] := by
  have hl : ((rowV.cs us).map SV.d).length = us.length * 4 := by rw [List.length_map, Row.cs_length]; rfl
  refine ⟨by rw [List.length_append, hl]; simp, ?_, List.drop_eq_nil_of_le (by rw [List.length_append, hl]; simp)⟩
  rw [← hl, List.take_left]
theorem encV_inj {us L : List Vlu} (h : us.map encV = L.map encV) : rowV.cs us = rowV.cs L := by
  have : ∀ us : List Vlu, rowV.cs us = (us.map encV).flatMap fun d => match d with | [.agg cs] => cs | _ => [] := fun us => by
    induction us with
    | nil => rfl
    | cons x us ih => rw [Row.cs_cons, ih]; rfl
  rw [this us, this L, h]
set_option maxHeartbeats 1000000 in
theorem AppendSeq_pc (k : FuncId) (cap : List D) (L : List Vlu) (hL : L.length ≤ 1000000) (hps : PS Try.prog k cap (L.map encV)) : PC Try.prog 43 [.nils, .fn (.func k) [] cap] (.sl L.length (rowV.cs L)) := by
  refine pc_of_pwp _ Try.func43 rfl Try.results43 (by kernel_rfl) ?_
  (repeat' (first|apply th_n|apply wp_sq|apply wp_blk|apply wp_reg|apply wp_regd|(apply nm_and;kernel_rfl)|apply ev_nil|(apply ev_val;rfl;rfl;(simp +decide only [go_sem] <;> rfl))|(apply ev_wr;rfl;rfl;(simp +decide only [go_sem] <;> rfl))|(apply ev_st;rfl;rfl;(simp +decide only [go_sem] <;> rfl))|(apply ev_yes;rfl;rfl;(simp +decide only [go_sem] <;> rfl))|(apply ev_nt;rfl;rfl;(simp +decide only [go_sem] <;> rfl))|(apply ev_no;rfl;rfl;(refine Or.inl ?_;(simp +decide only [go_sem] <;> rfl)))|(apply ev_guard;rfl;rfl;(simp +decide only [go_sem] <;> rfl);intro _;rotate_left;intro _;rotate_right)|(apply wp_ift;(simp +decide only [go_sem] <;> rfl))|(apply wp_iff;(simp +decide only [go_sem] <;> rfl))|(apply wp_ifu;(simp +decide only [go_sem] <;> rfl);intro _;rotate_left;intro _;rotate_right)|(apply wp_if;(simp +decide only [go_sem] <;> rfl);intro _;rotate_left;intro _;rotate_right)|apply on_n|apply th_r|apply th_e|apply bl_n|apply bl_r|apply bl_e|(apply bl_o;(rfl))|apply wp_sk|apply wp_lb|apply wp_rt|apply wp_ex|(apply bq_r;(simp +decide only [go_sem] <;> rfl))|(apply bq_n;(simp +decide only [go_sem] <;> rfl))))
  refine wp_rg [7] rfl hps (fun d hd => by obtain ⟨u, _, rfl⟩ := List.mem_map.1 hd; rfl)
    (fun pre f H => ∃ ver, ∃ us : List Vlu, pre = us.map encV ∧ f = frm [(2, .loc 2 0), (6, .d (.fn (.func k) [] cap))] ∧ H = hpm [(2, .box [.vec 12 ver us.length]), (12, .vec 34 4 ver ((rowV.cs us).map .d))])
    [(2, .loc 2 0), (6, .d (.fn (.func k) [] cap))] (hpm [(2, .box [.vec 12 0 0]), (12, .vec 34 4 0 [])])
    (.trans (Cv.keepH [(2, .loc 2 0), (6, .d (.fn (.func k) [] cap))] [(2, .box [.nil])] (by (repeat' (first | exact trivial | apply And.intro | ((simp +decide only [go_sem] <;> rfl)) | rfl))) (by (repeat' (first | exact trivial | apply And.intro | ((simp +decide only [go_sem] <;> rfl)) | rfl))) rfl) (.trans (Cv.adVB _ _ 2 [.nil] 0 12 34 4 rfl (.inl rfl) rfl) (Cv.keepH _ _ (by (repeat' (first | exact trivial | apply And.intro | ((simp +decide only [go_sem] <;> rfl)) | rfl))) (by (repeat' (first | exact trivial | apply And.intro | ((simp +decide only [go_sem] <;> rfl)) | rfl))) rfl))) rfl (by (simp +decide only [go_sem] <;> rfl)) ⟨0, [], rfl, rfl, rfl⟩ ?_ ?_
  · rintro pre d rest f H hx ⟨ver, us, rfl, rfl, rfl⟩
    obtain ⟨u, -, rfl⟩ : ∃ u ∈ L, d = [.agg u.cells] := by
      have : d ∈ L.map encV := by rw [hx]; simp
      obtain ⟨u, h1, h2⟩ := List.mem_map.1 this
      exact ⟨u, h1, h2.symm⟩
    have hlen : us.length < L.length := by
      have := congrArg List.length hx
      simp at this
      omega
    obtain ⟨f8, f9⟩ : (u.cells.map SV.d).take 4 = u.cells.map SV.d ∧ u.cells.length = 4 := rowV.full u (n := 4) rfl
    obtain ⟨g1, g2⟩ : (0 : Int) ≤ (us.length : Int) ∧ (us.length : Int) < ((us.length + 1 : Nat) : Int) := by omega
    obtain ⟨g3, g4, g5⟩ := vput4 us (.d (.int .i64 0)) (.d (.int .i64 0)) (.d (.str ⟨#[]⟩)) (.d (.sl 0 []))
    (have hF := And.intro f8 (And.intro f9 (And.intro g1 (And.intro g2 (And.intro g3 (And.intro g4 g5))))); repeat' (first|apply th_n|apply wp_sq|apply wp_blk|apply wp_reg|apply wp_regd|(apply nm_and;kernel_rfl)|apply ev_nil|(apply ev_val;rfl;rfl;(simp +decide only [go_sem, hF] <;> rfl))|(apply ev_vapp;rfl;rfl;rfl;(simp +decide only [go_sem, hF] <;> rfl);(simp +decide only [go_sem, hF] <;> rfl);(simp +decide only [go_sem, hF] <;> rfl);(simp +decide only [go_sem, hF] <;> rfl);(simp +decide only [go_sem, hF] <;> rfl);rfl;(decide);(first | (simp +decide only [go_sem]; done) | omega | (simp; omega));(first | rfl | (simp +decide only [go_sem, List.length_append, List.length_map]; done) | (simp; done) | (simp; omega) | omega);(first | (simp +decide only [go_sem]; done) | omega | (simp; omega));(first | (simp +decide only [go_sem]; done) | omega | (simp; omega)))|(apply ev_vapp0;rfl;rfl;rfl;(simp +decide only [go_sem, hF] <;> rfl);(simp +decide only [go_sem, hF] <;> rfl);(simp +decide only [go_sem, hF] <;> rfl);(simp +decide only [go_sem, hF] <;> rfl);(simp +decide only [go_sem, hF] <;> rfl);rfl;(decide);(first | (simp +decide only [go_sem]; done) | omega | (simp; omega));(first | rfl | (simp +decide only [go_sem, List.length_append, List.length_map]; done) | (simp; done) | (simp; omega) | omega);(first | (simp +decide only [go_sem]; done) | omega | (simp; omega));(first | (simp +decide only [go_sem]; done) | omega | (simp; omega)))|(apply ev_wr;rfl;rfl;(simp +decide only [go_sem, hF] <;> rfl))|(apply ev_st;rfl;rfl;(simp +decide only [go_sem, hF] <;> rfl))|(apply ev_yes;rfl;rfl;(simp +decide only [go_sem, hF] <;> rfl))|(apply ev_nt;rfl;rfl;(simp +decide only [go_sem, hF] <;> rfl))|(apply ev_no;rfl;rfl;(refine Or.inl ?_;(simp +decide only [go_sem, hF] <;> rfl)))|(apply ev_guard;rfl;rfl;(simp +decide only [go_sem, hF] <;> rfl);intro _;rotate_left;intro _;rotate_right)|(apply wp_ift;(simp +decide only [go_sem, hF] <;> rfl))|(apply wp_iff;(simp +decide only [go_sem, hF] <;> rfl))|(apply wp_ifu;(simp +decide only [go_sem, hF] <;> rfl);intro _;rotate_left;intro _;rotate_right)|(apply wp_if;(simp +decide only [go_sem, hF] <;> rfl);intro _;rotate_left;intro _;rotate_right)|apply on_n|apply th_r|apply th_e|apply bl_n|apply bl_r|apply bl_e|(apply bl_o;(rfl))|apply wp_sk|apply wp_lb|apply wp_rt|apply wp_ex|(apply bq_r;(simp +decide only [go_sem, hF] <;> rfl))|(apply bq_n;(simp +decide only [go_sem, hF] <;> rfl))))
    have e10 : (us ++ [u]).length = us.length + 1 := by simp
    have e11 : (rowV.cs (us ++ [u])).map SV.d = (rowV.cs us).map SV.d ++ u.cells.map SV.d := by rw [Row.cs_append, List.map_append, Row.cs_cons, Row.cs_nil, List.append_nil]; rfl
    exact rd_n ⟨[(2, .loc 2 0), (6, .d (.fn (.func k) [] cap))], hpm [(2, .box [.vec 12 (ver + 1) (us ++ [u]).length]), (12, .vec 34 4 (ver + 1) ((rowV.cs (us ++ [u])).map .d))],
      Cv.keepH _ _ (by (repeat' (first | exact trivial | apply And.intro | ((simp +decide only [go_sem] <;> rfl)) | rfl))) (by rw [e10, e11]; (repeat' (first | exact trivial | apply And.intro | ((simp +decide only [go_sem] <;> rfl)) | rfl))) (by simp [okSV, okHO]), rfl, ver + 1, us ++ [u], by simp [encV], rfl, rfl⟩
  · rintro f H ⟨ver, us, hu, rfl, rfl⟩
    have hul : us.length = L.length := by have := congrArg List.length hu; simpa using this.symm
    have hus : rowV.cs us = rowV.cs L := encV_inj hu.symm
    (repeat' (first|apply th_n|apply wp_sq|apply wp_blk|apply wp_reg|apply wp_regd|(apply nm_and;kernel_rfl)|apply ev_nil|(apply ev_val;rfl;rfl;(simp +decide only [go_sem, toDs_map] <;> rfl))|(apply ev_wr;rfl;rfl;(simp +decide only [go_sem, toDs_map] <;> rfl))|(apply ev_st;rfl;rfl;(simp +decide only [go_sem, toDs_map] <;> rfl))|(apply ev_yes;rfl;rfl;(simp +decide only [go_sem, toDs_map] <;> rfl))|(apply ev_nt;rfl;rfl;(simp +decide only [go_sem, toDs_map] <;> rfl))|(apply ev_no;rfl;rfl;(refine Or.inl ?_;(simp +decide only [go_sem, toDs_map] <;> rfl)))|(apply ev_guard;rfl;rfl;(simp +decide only [go_sem, toDs_map] <;> rfl);intro _;rotate_left;intro _;rotate_right)|(apply wp_ift;(simp +decide only [go_sem, toDs_map] <;> rfl))|(apply wp_iff;(simp +decide only [go_sem, toDs_map] <;> rfl))|(apply wp_ifu;(simp +decide only [go_sem, toDs_map] <;> rfl);intro _;rotate_left;intro _;rotate_right)|(apply wp_if;(simp +decide only [go_sem, toDs_map] <;> rfl);intro _;rotate_left;intro _;rotate_right)|apply on_n|apply th_r|apply th_e|apply bl_n|apply bl_r|apply bl_e|(apply bl_o;(rfl))|apply wp_sk|apply wp_lb|apply wp_rt|apply wp_ex|(apply bq_r;(simp +decide only [go_sem, toDs_map] <;> rfl))|(apply bq_n;(simp +decide only [go_sem, toDs_map] <;> rfl))))
    rw [hul, hus]; rfl
theorem Collect_pc (k : FuncId) (cap : List D) (L : List Vlu) (hL : L.length ≤ 1000000) (hps : PS Try.prog k cap (L.map encV)) : PC Try.prog 29 [.fn (.func k) [] cap] (.sl L.length (rowV.cs L)) := by
  have hc := AppendSeq_pc k cap L hL hps
  refine pc_of_pwp _ Try.func29 rfl Try.results29 (by kernel_rfl) ?_
  (repeat' (first|apply th_n|apply wp_sq|apply wp_blk|apply wp_reg|apply wp_regd|(apply nm_and;kernel_rfl)|apply ev_nil|(apply ev_val;rfl;rfl;(simp +decide only [go_sem] <;> rfl))|(apply ev_call;rfl;rfl;rfl;(simp +decide only [go_sem] <;> rfl);(simp +decide only [go_sem] <;> rfl);(first|exact hc))|(apply ev_calln;rfl;rfl;rfl;(simp +decide only [go_sem] <;> rfl);(simp +decide only [go_sem] <;> rfl);(first|exact hc))|(apply ev_wr;rfl;rfl;(simp +decide only [go_sem] <;> rfl))|(apply ev_st;rfl;rfl;(simp +decide only [go_sem] <;> rfl))|(apply ev_yes;rfl;rfl;(simp +decide only [go_sem] <;> rfl))|(apply ev_nt;rfl;rfl;(simp +decide only [go_sem] <;> rfl))|(apply ev_no;rfl;rfl;(refine Or.inl ?_;(simp +decide only [go_sem] <;> rfl)))|(apply ev_guard;rfl;rfl;(simp +decide only [go_sem] <;> rfl);intro _;rotate_left;intro _;rotate_right)|(apply wp_ift;(simp +decide only [go_sem] <;> rfl))|(apply wp_iff;(simp +decide only [go_sem] <;> rfl))|(apply wp_ifu;(simp +decide only [go_sem] <;> rfl);intro _;rotate_left;intro _;rotate_right)|(apply wp_if;(simp +decide only [go_sem] <;> rfl);intro _;rotate_left;intro _;rotate_right)|apply on_n|apply th_r|apply th_e|apply bl_n|apply bl_r|apply bl_e|(apply bl_o;(rfl))|apply wp_sk|apply wp_lb|apply wp_rt|apply wp_ex|(apply bq_r;(simp +decide only [go_sem] <;> rfl))|(apply bq_n;(simp +decide only [go_sem] <;> rfl))))
  rfl
theorem partsV_pos (x : Vlu) : 0 < (partsV x).length := by obtain ⟨k, n, s, l⟩ := x; simp [partsV]
theorem partsVL_le : ∀ (l : List Vlu) (i : Nat), (partsVL (l.take i)).length ≤ (partsVL l).length
  | [], i => by simp [partsVL]
  | x :: l, 0 => by simp [partsVL]
  | x :: l, i + 1 => by
    have := partsVL_le l i
    simp only [List.take_succ_cons, partsVL, List.length_append]
    omega
theorem partsV_bound {k n : Int} {s : ByteArray} {l : List Vlu} {i : Nat} (h : i < l.length) : (partsV l[i]).length + (partsVL (l.take i)).length + 1 ≤ (partsV (.mk k n s l)).length := by
  have h1 := partsVL_le l (i + 1)
  rw [partsVL_take h, List.length_append] at h1
  rw [partsV, List.length_cons]
  omega
theorem okSV_d (ns : List Nat) (l : List D) : (l.map SV.d).all (okSV ns) = true := by simp [okSV]
set_option maxHeartbeats 1000000 in
theorem RParts_pc : ∀ (x : Vlu), x.Ok → (partsV x).length ≤ 1000000 → PC Try.prog 28 [.agg x.cells] (.sl (partsV x).length (rowV.cs (partsV x)))
  | .mk k n s l, hx, hb => by
    obtain ⟨hl, hv, hs, hk, hn⟩ := hx.parts
    have hbl : ∀ i, (h : i < l.length) → (partsV l[i]).length + (partsVL (l.take i)).length + 1 ≤ (partsV (.mk k n s l)).length := fun i h => partsV_bound h
    have ih : ∀ y ∈ l, PC Try.prog 28 [.agg y.cells] (.sl (partsV y).length (rowV.cs (partsV y))) := fun y hy => RParts_pc y (hv y hy) (by
      obtain ⟨i, hi, rfl⟩ := List.mem_iff_getElem.1 hy
      have := hbl i hi
      show (partsV l[i]).length ≤ _
      omega)
    have ec : rowV.cs (partsV (.mk k n s l)) = [.int .i64 k, .int .i64 n, .str s, .sl l.length (rowV.cs l)] ++ rowV.cs (partsVL l) := by rw [partsV, Row.cs_cons]; show Vlu.cells _ ++ _ = _; rw [Vlu.cells_mk]
    rw [Vlu.cells_mk]
    refine pc_of_pwp _ Try.func28 rfl Try.results28 (by kernel_rfl) ?_
    (repeat' (first|apply th_n|apply wp_sq|apply wp_blk|apply wp_reg|apply wp_regd|(apply nm_and;kernel_rfl)|apply ev_nil|(apply ev_vbuild (tm := 6);rfl;rfl;rfl;(simp +decide only [go_sem] <;> rfl);(simp +decide only [go_sem] <;> rfl);(simp +decide only [go_sem] <;> rfl);(simp +decide only [go_sem] <;> rfl);(decide);(simp +decide only [go_sem] <;> rfl);(first | rfl | (simp +decide only [go_sem, List.length_append, List.length_map]; done) | (simp; done) | (simp; omega) | omega))|(apply ev_val;rfl;rfl;(simp +decide only [go_sem] <;> rfl))|(apply ev_wr;rfl;rfl;(simp +decide only [go_sem] <;> rfl))|(apply ev_st;rfl;rfl;(simp +decide only [go_sem] <;> rfl))|(apply ev_yes;rfl;rfl;(simp +decide only [go_sem] <;> rfl))|(apply ev_nt;rfl;rfl;(simp +decide only [go_sem] <;> rfl))|(apply ev_no;rfl;rfl;(refine Or.inl ?_;(simp +decide only [go_sem] <;> rfl)))|(apply ev_guard;rfl;rfl;(simp +decide only [go_sem] <;> rfl);intro _;rotate_left;intro _;rotate_right)|(apply wp_ift;(simp +decide only [go_sem] <;> rfl))|(apply wp_iff;(simp +decide only [go_sem] <;> rfl))|(apply wp_ifu;(simp +decide only [go_sem] <;> rfl);intro _;rotate_left;intro _;rotate_right)|(apply wp_if;(simp +decide only [go_sem] <;> rfl);intro _;rotate_left;intro _;rotate_right)|apply on_n|apply th_r|apply th_e|apply bl_n|apply bl_r|apply bl_e|(apply bl_o;(rfl))|apply wp_sk|apply wp_lb|apply wp_rt|apply wp_ex|(apply bq_r;(simp +decide only [go_sem] <;> rfl))|(apply bq_n;(simp +decide only [go_sem] <;> rfl))))
    generalize hC : [D.int .i64 k, .int .i64 n, .str s, .sl l.length (rowV.cs l)] = C0 at ec
    refine wp_lp (fun m f H => ∃ i ver : Nat, f = frm [(1, .loc 1 0), (3, .vec 6 ver (1 + (partsVL (l.take i)).length)), (4, .d (.int .i64 i))] ∧ H = hpm [(1, .box [.d (.int .i64 k), .d (.int .i64 n), .d (.str s), .d (.sl l.length (rowV.cs l))]), (6, .vec 34 4 ver ((C0 ++ rowV.cs (partsVL (l.take i))).map .d))] ∧ i ≤ l.length ∧ m = l.length - i) l.length _ _
      (Cv.keepH [(1, .loc 1 0), (3, .vec 6 0 1), (4, .d (.int .i64 0))] [(1, .box [.d (.int .i64 k), .d (.int .i64 n), .d (.str s), .d (.sl l.length (rowV.cs l))]), (6, .vec 34 4 0 (C0.map .d))] (by (repeat' (first | exact trivial | apply And.intro | ((simp +decide only [go_sem] <;> rfl)) | rfl))) (by rw [← hC]; (repeat' (first | exact trivial | apply And.intro | ((simp +decide only [go_sem] <;> rfl)) | rfl))) (by simp [okSV, okHO])) ⟨0, 0, by simp [partsVL], by simp [partsVL, Row.cs_nil], by omega, rfl⟩ ?_
    rintro m f H ⟨i, ver, rfl, rfl, hi, rfl⟩
    by_cases h : i < l.length
    · obtain ⟨e1, e2, e3⟩ := at_in h
      have hx : l[i]? = some l[i] := by simp [h]
      obtain ⟨e4, e7⟩ := rowV.rd hx (n := 4) rfl
      have e5 := wrap_succ h hl
      have hc : PC Try.prog 28 [.agg (rowV.toC l[i])] _ := ih l[i] (List.getElem_mem h)
      have hbi := hbl i h
      have hpos := partsV_pos l[i]
      have hrl : (rowV.cs (partsV l[i])).length = (partsV l[i]).length * 4 := rowV.cs_length _
      (have hF := And.intro e1 (And.intro e2 (And.intro e3 (And.intro e4 (And.intro e7 e5)))); repeat' (first|apply th_n|apply wp_sq|apply wp_blk|apply wp_reg|apply wp_regd|(apply nm_and;kernel_rfl)|apply ev_nil|(apply ev_val;rfl;rfl;(simp +decide only [go_sem, hF] <;> rfl))|(apply ev_call;rfl;rfl;rfl;(simp +decide only [go_sem, hF] <;> rfl);(simp +decide only [go_sem, hF] <;> rfl);(first|exact hc))|(apply ev_vapp;rfl;rfl;rfl;(simp +decide only [go_sem, hF] <;> rfl);(simp +decide only [go_sem, hF] <;> rfl);(simp +decide only [go_sem, hF] <;> rfl);(simp +decide only [go_sem, hF] <;> rfl);(simp +decide only [go_sem, hF] <;> rfl);rfl;(decide);(first | (simp +decide only [go_sem]; done) | omega | (simp; omega));(first | rfl | (simp +decide only [go_sem, List.length_append, List.length_map]; done) | (simp; done) | (simp; omega) | omega);(first | (simp +decide only [go_sem]; done) | omega | (simp; omega));(first | (simp +decide only [go_sem]; done) | omega | (simp; omega)))|(apply ev_vapp0;rfl;rfl;rfl;(simp +decide only [go_sem, hF] <;> rfl);(simp +decide only [go_sem, hF] <;> rfl);(simp +decide only [go_sem, hF] <;> rfl);(simp +decide only [go_sem, hF] <;> rfl);(simp +decide only [go_sem, hF] <;> rfl);rfl;(decide);(first | (simp +decide only [go_sem]; done) | omega | (simp; omega));(first | rfl | (simp +decide only [go_sem, List.length_append, List.length_map]; done) | (simp; done) | (simp; omega) | omega);(first | (simp +decide only [go_sem]; done) | omega | (simp; omega));(first | (simp +decide only [go_sem]; done) | omega | (simp; omega)))|(apply ev_wr;rfl;rfl;(simp +decide only [go_sem, hF] <;> rfl))|(apply ev_st;rfl;rfl;(simp +decide only [go_sem, hF] <;> rfl))|(apply ev_yes;rfl;rfl;(simp +decide only [go_sem, hF] <;> rfl))|(apply ev_nt;rfl;rfl;(simp +decide only [go_sem, hF] <;> rfl))|(apply ev_no;rfl;rfl;(refine Or.inl ?_;(simp +decide only [go_sem, hF] <;> rfl)))|(apply ev_guard;rfl;rfl;(simp +decide only [go_sem, hF] <;> rfl);intro _;rotate_left;intro _;rotate_right)|(apply wp_ift;(simp +decide only [go_sem, hF] <;> rfl))|(apply wp_iff;(simp +decide only [go_sem, hF] <;> rfl))|(apply wp_ifu;(simp +decide only [go_sem, hF] <;> rfl);intro _;rotate_left;intro _;rotate_right)|(apply wp_if;(simp +decide only [go_sem, hF] <;> rfl);intro _;rotate_left;intro _;rotate_right)|apply on_n|apply th_r|apply th_e|apply bl_n|apply bl_r|apply bl_e|(apply bl_o;(rfl))|apply wp_sk|apply wp_lb|apply wp_rt|apply wp_ex|(apply bq_r;(simp +decide only [go_sem, hF] <;> rfl))|(apply bq_n;(simp +decide only [go_sem, hF] <;> rfl))))
      have e10 : 1 + (partsVL (l.take (i + 1))).length = 1 + (partsVL (l.take i)).length + (partsV l[i]).length := by rw [partsVL_take h, List.length_append]; omega
      have e11 : (C0 ++ rowV.cs (partsVL (l.take (i + 1)))).map SV.d = (C0 ++ rowV.cs (partsVL (l.take i))).map SV.d ++ (rowV.cs (partsV l[i])).map SV.d := by rw [partsVL_take h, Row.cs_append, ← List.append_assoc, List.map_append]
      exact ⟨l.length - (i + 1), _, _, by omega, Cv.keepH [(1, .loc 1 0), (3, .vec 6 (ver + 1) (1 + (partsVL (l.take (i + 1))).length)), (4, .d (.int .i64 ((i + 1 : Nat) : Int)))] [(1, .box [.d (.int .i64 k), .d (.int .i64 n), .d (.str s), .d (.sl l.length (rowV.cs l))]), (6, .vec 34 4 (ver + 1) ((C0 ++ rowV.cs (partsVL (l.take (i + 1)))).map .d))] (by rw [e10]; (repeat' (first | exact trivial | apply And.intro | ((simp +decide only [go_sem] <;> rfl)) | rfl))) (by rw [e11]; (repeat' (first | exact trivial | apply And.intro | ((simp +decide only [go_sem] <;> rfl)) | rfl))) (by simp [okSV, okHO]), i + 1, ver + 1, rfl, rfl, h, rfl⟩
    · have e1 := at_out h
      obtain rfl : i = l.length := by omega
      rw [List.take_length]
      (repeat' (first|apply th_n|apply wp_sq|apply wp_blk|apply wp_reg|apply wp_regd|(apply nm_and;kernel_rfl)|apply ev_nil|(apply ev_val;rfl;rfl;(simp +decide only [go_sem, e1, toDs_map] <;> rfl))|(apply ev_wr;rfl;rfl;(simp +decide only [go_sem, e1, toDs_map] <;> rfl))|(apply ev_st;rfl;rfl;(simp +decide only [go_sem, e1, toDs_map] <;> rfl))|(apply ev_yes;rfl;rfl;(simp +decide only [go_sem, e1, toDs_map] <;> rfl))|(apply ev_nt;rfl;rfl;(simp +decide only [go_sem, e1, toDs_map] <;> rfl))|(apply ev_no;rfl;rfl;(refine Or.inl ?_;(simp +decide only [go_sem, e1, toDs_map] <;> rfl)))|(apply ev_guard;rfl;rfl;(simp +decide only [go_sem, e1, toDs_map] <;> rfl);intro _;rotate_left;intro _;rotate_right)|(apply wp_ift;(simp +decide only [go_sem, e1, toDs_map] <;> rfl))|(apply wp_iff;(simp +decide only [go_sem, e1, toDs_map] <;> rfl))|(apply wp_ifu;(simp +decide only [go_sem, e1, toDs_map] <;> rfl);intro _;rotate_left;intro _;rotate_right)|(apply wp_if;(simp +decide only [go_sem, e1, toDs_map] <;> rfl);intro _;rotate_left;intro _;rotate_right)|apply on_n|apply th_r|apply th_e|apply bl_n|apply bl_r|apply bl_e|(apply bl_o;(rfl))|apply wp_sk|apply wp_lb|apply wp_rt|apply wp_ex|(apply bq_r;(simp +decide only [go_sem, e1, toDs_map] <;> rfl))|(apply bq_n;(simp +decide only [go_sem, e1, toDs_map] <;> rfl))))
      rw [ec, partsV, List.length_cons, Nat.add_comm]; rfl
end Go.Proofs.Ytandclggkgmpgaa
