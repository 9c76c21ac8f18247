/- Walks of what tells whether two types, two values are alike. Conditions: what their parts may be. -/
import Derived.Test.YtefiebkngpcaoaaDoorValB
set_option maxRecDepth 100000
set_option linter.unusedVariables false
set_option linter.unusedSimpArgs false
set_option linter.unusedSectionVars false
namespace Go.Proofs.YtefiebkngpcaoaaDoor
open Go.RowKit

def all2 {α : Type} (p : α → α → Bool) : List α → List α → Bool
  | [], [] => true
  | x :: l, y :: l' => p x y && all2 p l l'
  | _, _ => false
theorem all2_len {α : Type} {p : α → α → Bool} : ∀ {l l' : List α}, l.length ≠ l'.length → all2 p l l' = false
  | [], [], h => absurd rfl h
  | [], _ :: _, _ => rfl
  | _ :: _, [], _ => rfl
  | x :: l, y :: l', h => by rw [all2, all2_len (fun e => h (by simp [e])), Bool.and_false]
theorem sameTL_all2 : ∀ l l', sameTL l l' = all2 sameT l l'
  | [], [] => by rw [sameTL, all2]
  | [], _ :: _ => by rw [sameTL, all2] <;> simp
  | _ :: _, [] => by rw [sameTL, all2] <;> simp
  | x :: l, y :: l' => by rw [sameTL, all2, sameTL_all2 l l']
theorem sameVL_all2 : ∀ l l', sameVL l l' = all2 sameV l l'
  | [], [] => by rw [sameVL, all2]
  | [], _ :: _ => by rw [sameVL, all2] <;> simp
  | _ :: _, [] => by rw [sameVL, all2] <;> simp
  | x :: l, y :: l' => by rw [sameVL, all2, sameVL_all2 l l']
theorem Typ.Ok.len' {k : Int} {l : List Typ} (h : (Typ.mk k l).Ok) : l.length ≤ maxLen ∧ ∀ x ∈ l, x.Ok := by cases h; constructor <;> assumption
theorem Vlu.Ok.parts {k n : Int} {s : ByteArray} {l : List Vlu} (h : (Vlu.mk k n s l).Ok) : l.length ≤ maxLen ∧ (∀ x ∈ l, x.Ok) ∧ s.size ≤ maxLen ∧ I64 k ∧ I64 n := by cases h; exact ⟨by assumption, by assumption, by assumption, by assumption, by assumption⟩
set_option maxHeartbeats 1000000 in
theorem eqFT_pc {α : Type} (R : Row α) (hR : R.n = 2) (l l' : List α) (hl : l.length ≤ maxLen) (k : FuncId) (p : α → α → Bool) (hp : ∀ x ∈ l, ∀ y ∈ l', PC Tryd.prog k [.agg (R.toC x), .agg (R.toC y)] (.bool (p x y))) :
    PC Tryd.prog 109 [.sl l.length (R.cs l), .sl l'.length (R.cs l'), .fn (.func k) [] []] (.bool (all2 p l l')) := by
  refine pc_of_pwp _ Tryd.func109 rfl Tryd.results109 (by kernel_rfl) ?_
  by_cases hll : l.length = l'.length
  · have f0 : ((l.length : Int) != (l'.length : Int)) = false := by simp [hll]
    (repeat' (first|apply th_n|apply wp_sq|apply wp_blk|apply wp_reg|apply wp_regd|(apply nm_and;kernel_rfl)|apply ev_nil|(apply ev_val;rfl;rfl;(simp +decide only [go_sem, f0] <;> rfl))|(apply ev_wr;rfl;rfl;(simp +decide only [go_sem, f0] <;> rfl))|(apply ev_st;rfl;rfl;(simp +decide only [go_sem, f0] <;> rfl))|(apply ev_yes;rfl;rfl;(simp +decide only [go_sem, f0] <;> rfl))|(apply ev_nt;rfl;rfl;(simp +decide only [go_sem, f0] <;> rfl))|(apply ev_no;rfl;rfl;(refine Or.inl ?_;(simp +decide only [go_sem, f0] <;> rfl)))|(apply ev_guard;rfl;rfl;(simp +decide only [go_sem, f0] <;> rfl);intro _;rotate_left;intro _;rotate_right)|(apply wp_ift;(simp +decide only [go_sem, f0] <;> rfl))|(apply wp_iff;(simp +decide only [go_sem, f0] <;> rfl))|(apply wp_ifu;(simp +decide only [go_sem, f0] <;> rfl);intro _;rotate_left;intro _;rotate_right)|(apply wp_if;(simp +decide only [go_sem, f0] <;> rfl);intro _;rotate_left;intro _;rotate_right)|apply on_n|apply th_r|apply th_e|apply bl_n|apply bl_r|apply bl_e|(apply bl_o;(rfl))|apply wp_sk|apply wp_lb|apply wp_rt|apply wp_ex|(apply bq_r;(simp +decide only [go_sem, f0] <;> rfl))|(apply bq_n;(simp +decide only [go_sem, f0] <;> rfl))))
    refine wp_lp (fun m f H => ∃ i : Nat, f = frm [(1, .d (.sl l'.length (R.cs l'))), (2, .d (.fn (.func k) [] [])), (15, .d (.sl l.length (R.cs l))), (16, .d (.int .i64 l.length)), (17, .d (.int .i64 i))] ∧ H = hpm [] ∧ i ≤ l.length ∧ all2 p l l' = all2 p (l.drop i) (l'.drop i) ∧ m = l.length - i) l.length _ _
      (Cv.keepH [(1, .d (.sl l'.length (R.cs l'))), (2, .d (.fn (.func k) [] [])), (15, .d (.sl l.length (R.cs l))), (16, .d (.int .i64 l.length)), (17, .d (.int .i64 0))] [] (by (repeat' (first | exact trivial | apply And.intro | ((simp +decide only [go_sem] <;> rfl)) | rfl))) (by (repeat' (first | exact trivial | apply And.intro | ((simp +decide only [go_sem] <;> rfl)) | rfl))) rfl) ⟨0, rfl, rfl, by omega, rfl, rfl⟩ ?_
    rintro n f H ⟨i, rfl, rfl, hi, hall, rfl⟩
    by_cases h : i < l.length
    · obtain ⟨e1, e2, e3⟩ := at_in h
      have h' : i < l'.length := by omega
      have e3' := (at_in h').2.2
      have hx : l[i]? = some l[i] := by simp [h]
      have hy : l'[i]? = some l'[i] := by simp [h']
      obtain ⟨e4, e7⟩ := R.rd hx hR
      obtain ⟨e8, e9⟩ := R.full l[i] hR
      obtain ⟨e4', e7'⟩ := R.rd hy hR
      obtain ⟨e8', e9'⟩ := R.full l'[i] hR
      have e5 := wrap_succ h hl
      rw [List.drop_eq_getElem_cons h, List.drop_eq_getElem_cons h'] at hall
      have hc := hp l[i] (List.getElem_mem h) l'[i] (List.getElem_mem h')
      cases hpx : p l[i] l'[i]
      · rw [all2, hpx] at hall
        rw [hpx] at hc
        (have hF := And.intro e1 (And.intro e2 (And.intro e3 (And.intro e3' (And.intro e4 (And.intro e7 (And.intro e5 (And.intro e8 (And.intro e9 (And.intro e4' (And.intro e7' (And.intro e8' e9'))))))))))); repeat' (first|apply th_n|apply wp_sq|apply wp_blk|apply wp_reg|apply wp_regd|(apply nm_and;kernel_rfl)|apply ev_nil|(apply ev_val;rfl;rfl;(simp +decide only [go_sem, hF] <;> rfl))|(apply ev_call;rfl;rfl;rfl;(simp +decide only [go_sem, hF] <;> rfl);(simp +decide only [go_sem, hF] <;> rfl);(first|exact hc))|(apply ev_wr;rfl;rfl;(simp +decide only [go_sem, hF] <;> rfl))|(apply ev_st;rfl;rfl;(simp +decide only [go_sem, hF] <;> rfl))|(apply ev_yes;rfl;rfl;(simp +decide only [go_sem, hF] <;> rfl))|(apply ev_nt;rfl;rfl;(simp +decide only [go_sem, hF] <;> rfl))|(apply ev_no;rfl;rfl;(refine Or.inl ?_;(simp +decide only [go_sem, hF] <;> rfl)))|(apply ev_guard;rfl;rfl;(simp +decide only [go_sem, hF] <;> rfl);intro _;rotate_left;intro _;rotate_right)|(apply wp_ift;(simp +decide only [go_sem, hF] <;> rfl))|(apply wp_iff;(simp +decide only [go_sem, hF] <;> rfl))|(apply wp_ifu;(simp +decide only [go_sem, hF] <;> rfl);intro _;rotate_left;intro _;rotate_right)|(apply wp_if;(simp +decide only [go_sem, hF] <;> rfl);intro _;rotate_left;intro _;rotate_right)|apply on_n|apply th_r|apply th_e|apply bl_n|apply bl_r|apply bl_e|(apply bl_o;(rfl))|apply wp_sk|apply wp_lb|apply wp_rt|apply wp_ex|(apply bq_r;(simp +decide only [go_sem, hF] <;> rfl))|(apply bq_n;(simp +decide only [go_sem, hF] <;> rfl))))
        rw [hall]; rfl
      · rw [all2, hpx, Bool.true_and] at hall
        rw [hpx] at hc
        (have hF := And.intro e1 (And.intro e2 (And.intro e3 (And.intro e3' (And.intro e4 (And.intro e7 (And.intro e5 (And.intro e8 (And.intro e9 (And.intro e4' (And.intro e7' (And.intro e8' e9'))))))))))); repeat' (first|apply th_n|apply wp_sq|apply wp_blk|apply wp_reg|apply wp_regd|(apply nm_and;kernel_rfl)|apply ev_nil|(apply ev_val;rfl;rfl;(simp +decide only [go_sem, hF] <;> rfl))|(apply ev_call;rfl;rfl;rfl;(simp +decide only [go_sem, hF] <;> rfl);(simp +decide only [go_sem, hF] <;> rfl);(first|exact hc))|(apply ev_wr;rfl;rfl;(simp +decide only [go_sem, hF] <;> rfl))|(apply ev_st;rfl;rfl;(simp +decide only [go_sem, hF] <;> rfl))|(apply ev_yes;rfl;rfl;(simp +decide only [go_sem, hF] <;> rfl))|(apply ev_nt;rfl;rfl;(simp +decide only [go_sem, hF] <;> rfl))|(apply ev_no;rfl;rfl;(refine Or.inl ?_;(simp +decide only [go_sem, hF] <;> rfl)))|(apply ev_guard;rfl;rfl;(simp +decide only [go_sem, hF] <;> rfl);intro _;rotate_left;intro _;rotate_right)|(apply wp_ift;(simp +decide only [go_sem, hF] <;> rfl))|(apply wp_iff;(simp +decide only [go_sem, hF] <;> rfl))|(apply wp_ifu;(simp +decide only [go_sem, hF] <;> rfl);intro _;rotate_left;intro _;rotate_right)|(apply wp_if;(simp +decide only [go_sem, hF] <;> rfl);intro _;rotate_left;intro _;rotate_right)|apply on_n|apply th_r|apply th_e|apply bl_n|apply bl_r|apply bl_e|(apply bl_o;(rfl))|apply wp_sk|apply wp_lb|apply wp_rt|apply wp_ex|(apply bq_r;(simp +decide only [go_sem, hF] <;> rfl))|(apply bq_n;(simp +decide only [go_sem, hF] <;> rfl))))
        exact ⟨l.length - (i + 1), _, _, by omega, Cv.keepH [(1, .d (.sl l'.length (R.cs l'))), (2, .d (.fn (.func k) [] [])), (15, .d (.sl l.length (R.cs l))), (16, .d (.int .i64 l.length)), (17, .d (.int .i64 ((i + 1 : Nat) : Int)))] [] (by (repeat' (first | exact trivial | apply And.intro | ((simp +decide only [go_sem] <;> rfl)) | rfl))) (by (repeat' (first | exact trivial | apply And.intro | ((simp +decide only [go_sem] <;> rfl)) | rfl))) rfl, i + 1, rfl, rfl, h, hall, rfl⟩
    · have e1 := at_out h
      (repeat' (first|apply th_n|apply wp_sq|apply wp_blk|apply wp_reg|apply wp_regd|(apply nm_and;kernel_rfl)|apply ev_nil|(apply ev_val;rfl;rfl;(simp +decide only [go_sem, e1] <;> rfl))|(apply ev_wr;rfl;rfl;(simp +decide only [go_sem, e1] <;> rfl))|(apply ev_st;rfl;rfl;(simp +decide only [go_sem, e1] <;> rfl))|(apply ev_yes;rfl;rfl;(simp +decide only [go_sem, e1] <;> rfl))|(apply ev_nt;rfl;rfl;(simp +decide only [go_sem, e1] <;> rfl))|(apply ev_no;rfl;rfl;(refine Or.inl ?_;(simp +decide only [go_sem, e1] <;> rfl)))|(apply ev_guard;rfl;rfl;(simp +decide only [go_sem, e1] <;> rfl);intro _;rotate_left;intro _;rotate_right)|(apply wp_ift;(simp +decide only [go_sem, e1] <;> rfl))|(apply wp_iff;(simp +decide only [go_sem, e1] <;> rfl))|(apply wp_ifu;(simp +decide only [go_sem, e1] <;> rfl);intro _;rotate_left;intro _;rotate_right)|(apply wp_if;(simp +decide only [go_sem, e1] <;> rfl);intro _;rotate_left;intro _;rotate_right)|apply on_n|apply th_r|apply th_e|apply bl_n|apply bl_r|apply bl_e|(apply bl_o;(rfl))|apply wp_sk|apply wp_lb|apply wp_rt|apply wp_ex|(apply bq_r;(simp +decide only [go_sem, e1] <;> rfl))|(apply bq_n;(simp +decide only [go_sem, e1] <;> rfl))))
      rw [hall, List.drop_eq_nil_of_le (by omega), List.drop_eq_nil_of_le (by omega)]; rfl
  · have f0 : ((l.length : Int) != (l'.length : Int)) = true := by simp; omega
    (repeat' (first|apply th_n|apply wp_sq|apply wp_blk|apply wp_reg|apply wp_regd|(apply nm_and;kernel_rfl)|apply ev_nil|(apply ev_val;rfl;rfl;(simp +decide only [go_sem, f0] <;> rfl))|(apply ev_wr;rfl;rfl;(simp +decide only [go_sem, f0] <;> rfl))|(apply ev_st;rfl;rfl;(simp +decide only [go_sem, f0] <;> rfl))|(apply ev_yes;rfl;rfl;(simp +decide only [go_sem, f0] <;> rfl))|(apply ev_nt;rfl;rfl;(simp +decide only [go_sem, f0] <;> rfl))|(apply ev_no;rfl;rfl;(refine Or.inl ?_;(simp +decide only [go_sem, f0] <;> rfl)))|(apply ev_guard;rfl;rfl;(simp +decide only [go_sem, f0] <;> rfl);intro _;rotate_left;intro _;rotate_right)|(apply wp_ift;(simp +decide only [go_sem, f0] <;> rfl))|(apply wp_iff;(simp +decide only [go_sem, f0] <;> rfl))|(apply wp_ifu;(simp +decide only [go_sem, f0] <;> rfl);intro _;rotate_left;intro _;rotate_right)|(apply wp_if;(simp +decide only [go_sem, f0] <;> rfl);intro _;rotate_left;intro _;rotate_right)|apply on_n|apply th_r|apply th_e|apply bl_n|apply bl_r|apply bl_e|(apply bl_o;(rfl))|apply wp_sk|apply wp_lb|apply wp_rt|apply wp_ex|(apply bq_r;(simp +decide only [go_sem, f0] <;> rfl))|(apply bq_n;(simp +decide only [go_sem, f0] <;> rfl))))
    rw [all2_len hll]; rfl
set_option maxHeartbeats 1000000 in
theorem SameType_pc : ∀ (x y : Typ), x.Ok → y.Ok → PC Tryd.prog 100 [.agg x.cells, .agg y.cells] (.bool (sameT x y))
  | .mk k l, .mk k' l', hx, hy => by
    obtain ⟨hl, hk⟩ := hx.len'
    obtain ⟨hl', hk'⟩ := hy.len'
    have hc := eqFT_pc rowT rfl l l' hl 100 sameT (fun x h1 y h2 => SameType_pc x y (hk x h1) (hk' y h2))
    rw [← sameTL_all2] at hc
    rw [Typ.cells_mk, Typ.cells_mk, sameT]
    refine pc_of_pwp _ Tryd.func100 rfl Tryd.results100 (by kernel_rfl) ?_
    cases e : (k == k')
    · (repeat' (first|apply th_n|apply wp_sq|apply wp_blk|apply wp_reg|apply wp_regd|(apply nm_and;kernel_rfl)|apply ev_nil|(apply ev_val;rfl;rfl;(simp +decide only [go_sem, e] <;> rfl))|(apply ev_call;rfl;rfl;rfl;(simp +decide only [go_sem, e] <;> rfl);(simp +decide only [go_sem, e] <;> rfl);(first|exact hc))|(apply ev_wr;rfl;rfl;(simp +decide only [go_sem, e] <;> rfl))|(apply ev_st;rfl;rfl;(simp +decide only [go_sem, e] <;> rfl))|(apply ev_yes;rfl;rfl;(simp +decide only [go_sem, e] <;> rfl))|(apply ev_nt;rfl;rfl;(simp +decide only [go_sem, e] <;> rfl))|(apply ev_no;rfl;rfl;(refine Or.inl ?_;(simp +decide only [go_sem, e] <;> rfl)))|(apply ev_guard;rfl;rfl;(simp +decide only [go_sem, e] <;> rfl);intro _;rotate_left;intro _;rotate_right)|(apply wp_ift;(simp +decide only [go_sem, e] <;> rfl))|(apply wp_iff;(simp +decide only [go_sem, e] <;> rfl))|(apply wp_ifu;(simp +decide only [go_sem, e] <;> rfl);intro _;rotate_left;intro _;rotate_right)|(apply wp_if;(simp +decide only [go_sem, e] <;> rfl);intro _;rotate_left;intro _;rotate_right)|apply on_n|apply th_r|apply th_e|apply bl_n|apply bl_r|apply bl_e|(apply bl_o;(rfl))|apply wp_sk|apply wp_lb|apply wp_rt|apply wp_ex|(apply bq_r;(simp +decide only [go_sem, e] <;> rfl))|(apply bq_n;(simp +decide only [go_sem, e] <;> rfl))))
      rfl
    · (repeat' (first|apply th_n|apply wp_sq|apply wp_blk|apply wp_reg|apply wp_regd|(apply nm_and;kernel_rfl)|apply ev_nil|(apply ev_val;rfl;rfl;(simp +decide only [go_sem, e] <;> rfl))|(apply ev_call;rfl;rfl;rfl;(simp +decide only [go_sem, e] <;> rfl);(simp +decide only [go_sem, e] <;> rfl);(first|exact hc))|(apply ev_wr;rfl;rfl;(simp +decide only [go_sem, e] <;> rfl))|(apply ev_st;rfl;rfl;(simp +decide only [go_sem, e] <;> rfl))|(apply ev_yes;rfl;rfl;(simp +decide only [go_sem, e] <;> rfl))|(apply ev_nt;rfl;rfl;(simp +decide only [go_sem, e] <;> rfl))|(apply ev_no;rfl;rfl;(refine Or.inl ?_;(simp +decide only [go_sem, e] <;> rfl)))|(apply ev_guard;rfl;rfl;(simp +decide only [go_sem, e] <;> rfl);intro _;rotate_left;intro _;rotate_right)|(apply wp_ift;(simp +decide only [go_sem, e] <;> rfl))|(apply wp_iff;(simp +decide only [go_sem, e] <;> rfl))|(apply wp_ifu;(simp +decide only [go_sem, e] <;> rfl);intro _;rotate_left;intro _;rotate_right)|(apply wp_if;(simp +decide only [go_sem, e] <;> rfl);intro _;rotate_left;intro _;rotate_right)|apply on_n|apply th_r|apply th_e|apply bl_n|apply bl_r|apply bl_e|(apply bl_o;(rfl))|apply wp_sk|apply wp_lb|apply wp_rt|apply wp_ex|(apply bq_r;(simp +decide only [go_sem, e] <;> rfl))|(apply bq_n;(simp +decide only [go_sem, e] <;> rfl))))
      rfl
termination_by x => SizeOf.sizeOf x
decreasing_by (have := List.sizeOf_lt_of_mem h1; simp; omega)
end Go.Proofs.YtefiebkngpcaoaaDoor
