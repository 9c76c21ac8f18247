/- The document's TypeText walked. Conditions: the type is right, its parts' texts are short. -/
import Derived.Test.YtandclggkgmpgaaValO
set_option maxRecDepth 100000
set_option linter.unusedVariables false
set_option linter.unusedSimpArgs false
set_option linter.unusedSectionVars false
namespace Go.Proofs.Ytandclggkgmpgaa
open Go.RowKit

inductive Typ.Rt : Typ → Prop
  | mk (k : Int) (l : List Typ) (h0 : k = 0 ∨ k = 1 ∨ k = 2 ∨ k = 3) (h1 : l.length ≤ 1000) (h2 : k = 3 → l ≠ []) (h3 : ∀ x ∈ l, (tText x).size ≤ 10000) (h4 : ∀ x ∈ l, Typ.Rt x) : Typ.Rt (.mk k l)
set_option maxHeartbeats 2000000 in
theorem RTypeText_pc : ∀ (x : Typ), x.Rt → PC Try.prog 18 [.agg x.cells] (.str (tText x))
  | .mk k l, hx => by
    obtain ⟨h0, h1, h2, h3, h4⟩ : (k = 0 ∨ k = 1 ∨ k = 2 ∨ k = 3) ∧ l.length ≤ 1000 ∧ (k = 3 → l ≠ []) ∧ (∀ x ∈ l, (tText x).size ≤ 10000) ∧ ∀ x ∈ l, x.Rt := by cases hx; exact ⟨by assumption, by assumption, by assumption, by assumption, by assumption⟩
    have ih : ∀ x ∈ l, PC Try.prog 18 [.agg (rowT.toC x)] (.str (tText x)) := fun x hh => RTypeText_pc x (h4 x hh)
    have hl : l.length ≤ maxLen := by unfold maxLen; omega
    rw [Typ.cells_mk, tText, tTextL_map]
    refine pc_of_pwp _ Try.func18 rfl Try.results18 (by kernel_rfl) ?_
    rcases h0 with rfl | rfl | rfl | rfl
    · have e1 : ((0 : Int) == 0) = true := rfl
      (repeat' (first|apply th_n|apply wp_sq|apply wp_blk|apply wp_reg|apply wp_regd|(apply nm_and;kernel_rfl)|apply ev_nil|(apply ev_val;rfl;rfl;(simp +decide only [go_sem, e1] <;> rfl))|(apply ev_wr;rfl;rfl;(simp +decide only [go_sem, e1] <;> rfl))|(apply ev_st;rfl;rfl;(simp +decide only [go_sem, e1] <;> rfl))|(apply ev_yes;rfl;rfl;(simp +decide only [go_sem, e1] <;> rfl))|(apply ev_nt;rfl;rfl;(simp +decide only [go_sem, e1] <;> rfl))|(apply ev_no;rfl;rfl;(refine Or.inl ?_;(simp +decide only [go_sem, e1] <;> rfl)))|(apply ev_guard;rfl;rfl;(simp +decide only [go_sem, e1] <;> rfl);intro _;rotate_left;intro _;rotate_right)|(apply wp_ift;(simp +decide only [go_sem, e1] <;> rfl))|(apply wp_iff;(simp +decide only [go_sem, e1] <;> rfl))|(apply wp_ifu;(simp +decide only [go_sem, e1] <;> rfl);intro _;rotate_left;intro _;rotate_right)|(apply wp_if;(simp +decide only [go_sem, e1] <;> rfl);intro _;rotate_left;intro _;rotate_right)|apply on_n|apply th_r|apply th_e|apply bl_n|apply bl_r|apply bl_e|(apply bl_o;(rfl))|apply wp_sk|apply wp_lb|apply wp_rt|apply wp_ex|(apply bq_r;(simp +decide only [go_sem, e1] <;> rfl))|(apply bq_n;(simp +decide only [go_sem, e1] <;> rfl))))
      rfl
    · have e1 : ((1 : Int) == 0) = false := rfl
      have e2 : ((1 : Int) == 1) = true := rfl
      (have hF := And.intro e1 e2; repeat' (first|apply th_n|apply wp_sq|apply wp_blk|apply wp_reg|apply wp_regd|(apply nm_and;kernel_rfl)|apply ev_nil|(apply ev_val;rfl;rfl;(simp +decide only [go_sem, hF] <;> rfl))|(apply ev_wr;rfl;rfl;(simp +decide only [go_sem, hF] <;> rfl))|(apply ev_st;rfl;rfl;(simp +decide only [go_sem, hF] <;> rfl))|(apply ev_yes;rfl;rfl;(simp +decide only [go_sem, hF] <;> rfl))|(apply ev_nt;rfl;rfl;(simp +decide only [go_sem, hF] <;> rfl))|(apply ev_no;rfl;rfl;(refine Or.inl ?_;(simp +decide only [go_sem, hF] <;> rfl)))|(apply ev_guard;rfl;rfl;(simp +decide only [go_sem, hF] <;> rfl);intro _;rotate_left;intro _;rotate_right)|(apply wp_ift;(simp +decide only [go_sem, hF] <;> rfl))|(apply wp_iff;(simp +decide only [go_sem, hF] <;> rfl))|(apply wp_ifu;(simp +decide only [go_sem, hF] <;> rfl);intro _;rotate_left;intro _;rotate_right)|(apply wp_if;(simp +decide only [go_sem, hF] <;> rfl);intro _;rotate_left;intro _;rotate_right)|apply on_n|apply th_r|apply th_e|apply bl_n|apply bl_r|apply bl_e|(apply bl_o;(rfl))|apply wp_sk|apply wp_lb|apply wp_rt|apply wp_ex|(apply bq_r;(simp +decide only [go_sem, hF] <;> rfl))|(apply bq_n;(simp +decide only [go_sem, hF] <;> rfl))))
      rfl
    · have e1 : ((2 : Int) == 0) = false := rfl
      have e2 : ((2 : Int) == 1) = false := rfl
      have e3 : ((2 : Int) == 2) = true := rfl
      (have hF := And.intro e1 (And.intro e2 e3); repeat' (first|apply th_n|apply wp_sq|apply wp_blk|apply wp_reg|apply wp_regd|(apply nm_and;kernel_rfl)|apply ev_nil|(apply ev_val;rfl;rfl;(simp +decide only [go_sem, hF] <;> rfl))|(apply ev_wr;rfl;rfl;(simp +decide only [go_sem, hF] <;> rfl))|(apply ev_st;rfl;rfl;(simp +decide only [go_sem, hF] <;> rfl))|(apply ev_yes;rfl;rfl;(simp +decide only [go_sem, hF] <;> rfl))|(apply ev_nt;rfl;rfl;(simp +decide only [go_sem, hF] <;> rfl))|(apply ev_no;rfl;rfl;(refine Or.inl ?_;(simp +decide only [go_sem, hF] <;> rfl)))|(apply ev_guard;rfl;rfl;(simp +decide only [go_sem, hF] <;> rfl);intro _;rotate_left;intro _;rotate_right)|(apply wp_ift;(simp +decide only [go_sem, hF] <;> rfl))|(apply wp_iff;(simp +decide only [go_sem, hF] <;> rfl))|(apply wp_ifu;(simp +decide only [go_sem, hF] <;> rfl);intro _;rotate_left;intro _;rotate_right)|(apply wp_if;(simp +decide only [go_sem, hF] <;> rfl);intro _;rotate_left;intro _;rotate_right)|apply on_n|apply th_r|apply th_e|apply bl_n|apply bl_r|apply bl_e|(apply bl_o;(rfl))|apply wp_sk|apply wp_lb|apply wp_rt|apply wp_ex|(apply bq_r;(simp +decide only [go_sem, hF] <;> rfl))|(apply bq_n;(simp +decide only [go_sem, hF] <;> rfl))))
      rfl
    · have e1 : ((3 : Int) == 0) = false := rfl
      have e2 : ((3 : Int) == 1) = false := rfl
      have e3 : ((3 : Int) == 2) = false := rfl
      have hp := accS_paren (l.map tText) (by simpa using h2 rfl)
      have hsz := accS_size (xs := l.map tText) (B := 10000) (by simpa using h3)
      rw [List.length_map] at hp
      (have hF := And.intro e1 (And.intro e2 e3); repeat' (first|apply th_n|apply wp_sq|apply wp_blk|apply wp_reg|apply wp_regd|(apply nm_and;kernel_rfl)|apply ev_nil|(apply ev_val;rfl;rfl;(simp +decide only [go_sem, hF] <;> rfl))|(apply ev_wr;rfl;rfl;(simp +decide only [go_sem, hF] <;> rfl))|(apply ev_st;rfl;rfl;(simp +decide only [go_sem, hF] <;> rfl))|(apply ev_yes;rfl;rfl;(simp +decide only [go_sem, hF] <;> rfl))|(apply ev_nt;rfl;rfl;(simp +decide only [go_sem, hF] <;> rfl))|(apply ev_no;rfl;rfl;(refine Or.inl ?_;(simp +decide only [go_sem, hF] <;> rfl)))|(apply ev_guard;rfl;rfl;(simp +decide only [go_sem, hF] <;> rfl);intro _;rotate_left;intro _;rotate_right)|(apply wp_ift;(simp +decide only [go_sem, hF] <;> rfl))|(apply wp_iff;(simp +decide only [go_sem, hF] <;> rfl))|(apply wp_ifu;(simp +decide only [go_sem, hF] <;> rfl);intro _;rotate_left;intro _;rotate_right)|(apply wp_if;(simp +decide only [go_sem, hF] <;> rfl);intro _;rotate_left;intro _;rotate_right)|apply on_n|apply th_r|apply th_e|apply bl_n|apply bl_r|apply bl_e|(apply bl_o;(rfl))|apply wp_sk|apply wp_lb|apply wp_rt|apply wp_ex|(apply bq_r;(simp +decide only [go_sem, hF] <;> rfl))|(apply bq_n;(simp +decide only [go_sem, hF] <;> rfl))))
      clear e1 e2 e3
      refine wp_lp (fun m f H => ∃ i : Nat, f = frm [(1, .loc 1 0), (3, .d (.str (accS (l.map tText) i))), (4, .d (.int .i64 i))] ∧ H = hpm [(1, .box [.d (.int .i64 3), .d (.sl l.length (rowT.cs l))])] ∧ i ≤ l.length ∧ m = l.length - i) l.length _ _
        (Cv.keepH [(1, .loc 1 0), (3, .d (.str ⟨#[40]⟩)), (4, .d (.int .i64 0))] [(1, .box [.d (.int .i64 3), .d (.sl l.length (rowT.cs l))])] (by (repeat' (first | exact trivial | apply And.intro | ((simp +decide only [go_sem] <;> rfl)) | rfl))) (by (repeat' (first | exact trivial | apply And.intro | ((simp +decide only [go_sem] <;> rfl)) | rfl))) rfl) ⟨0, rfl, rfl, by omega, rfl⟩ ?_
      rintro _ f H ⟨i, rfl, rfl, hi, rfl⟩
      have hszi := hsz i
      have hmul : i * (10000 + 2) ≤ 1000 * (10000 + 2) := Nat.mul_le_mul_right _ (by omega)
      by_cases h : i < l.length
      · obtain ⟨e1, e2, e3⟩ := at_in h
        have hx : l[i]? = some l[i] := by simp [h]
        obtain ⟨e4, e7⟩ := rowT.rd (n := 2) hx rfl
        have e5 := wrap_succ h hl
        have hc := ih l[i] (List.getElem_mem h)
        have ht := h3 l[i] (List.getElem_mem h)
        have hg : (l.map tText).getD i ⟨#[]⟩ = tText l[i] := by simp [List.getD, h]
        have s2 : (⟨#[44, 32]⟩ : ByteArray).size = 2 := rfl
        have hn : accS (l.map tText) (i + 1) = (if 0 < i then accS (l.map tText) i ++ ⟨#[44, 32]⟩ else accS (l.map tText) i) ++ tText l[i] := by rw [accS, hg]
        have fin : ∀ {f : Frm} {H : Hp}, Slots f [(1, .loc 1 0), (3, .d (.str (accS (l.map tText) (i + 1)))), (4, .d (.int .i64 ((i + 1 : Nat) : Int)))] → Names H [(1, .box [.d (.int .i64 3), .d (.sl l.length (rowT.cs l))])] →
            ∃ m f' H', m < l.length - i ∧ Cv f H f' H' ∧ ∃ i : Nat, f' = frm [(1, .loc 1 0), (3, .d (.str (accS (l.map tText) i))), (4, .d (.int .i64 i))] ∧ H' = hpm [(1, .box [.d (.int .i64 3), .d (.sl l.length (rowT.cs l))])] ∧ i ≤ l.length ∧ m = l.length - i :=
          fun hf hn => ⟨l.length - (i + 1), _, _, by omega, Cv.keepH _ _ hf hn rfl, i + 1, rfl, rfl, h, rfl⟩
        by_cases hz : 0 < i
        · have z : decide ((i : Int) > 0) = true := decide_eq_true (by omega)
          rw [if_pos hz] at hn
          have f1 : fits (accS (l.map tText) i) ⟨#[44, 32]⟩ = true := decide_eq_true (by omega)
          have f2 : fits (accS (l.map tText) i ++ ⟨#[44, 32]⟩) (tText l[i]) = true := decide_eq_true (by rw [ByteArray.size_append]; omega)
          (have hF := And.intro e1 (And.intro e2 (And.intro e3 (And.intro e4 (And.intro e7 (And.intro e5 (And.intro z (And.intro f1 f2))))))); repeat' (first|apply th_n|apply wp_sq|apply wp_blk|apply wp_reg|apply wp_regd|(apply nm_and;kernel_rfl)|apply ev_nil|(apply ev_val;rfl;rfl;(simp +decide only [go_sem, hF] <;> rfl))|(apply ev_call;rfl;rfl;rfl;(simp +decide only [go_sem, hF] <;> rfl);(simp +decide only [go_sem, hF] <;> rfl);(first|exact hc))|(apply ev_wr;rfl;rfl;(simp +decide only [go_sem, hF] <;> rfl))|(apply ev_st;rfl;rfl;(simp +decide only [go_sem, hF] <;> rfl))|(apply ev_yes;rfl;rfl;(simp +decide only [go_sem, hF] <;> rfl))|(apply ev_nt;rfl;rfl;(simp +decide only [go_sem, hF] <;> rfl))|(apply ev_no;rfl;rfl;(refine Or.inl ?_;(simp +decide only [go_sem, hF] <;> rfl)))|(apply ev_guard;rfl;rfl;(simp +decide only [go_sem, hF] <;> rfl);intro _;rotate_left;intro _;rotate_right)|(apply wp_ift;(simp +decide only [go_sem, hF] <;> rfl))|(apply wp_iff;(simp +decide only [go_sem, hF] <;> rfl))|(apply wp_ifu;(simp +decide only [go_sem, hF] <;> rfl);intro _;rotate_left;intro _;rotate_right)|(apply wp_if;(simp +decide only [go_sem, hF] <;> rfl);intro _;rotate_left;intro _;rotate_right)|apply on_n|apply th_r|apply th_e|apply bl_n|apply bl_r|apply bl_e|(apply bl_o;(rfl))|apply wp_sk|apply wp_lb|apply wp_rt|apply wp_ex|(apply bq_r;(simp +decide only [go_sem, hF] <;> rfl))|(apply bq_n;(simp +decide only [go_sem, hF] <;> rfl))))
          refine fin ?_ ?_
          · rw [hn]; (repeat' (first | exact trivial | apply And.intro | ((simp +decide only [go_sem] <;> rfl)) | rfl))
          · (repeat' (first | exact trivial | apply And.intro | ((simp +decide only [go_sem] <;> rfl)) | rfl))
        · have z : decide ((i : Int) > 0) = false := decide_eq_false (by omega)
          rw [if_neg hz] at hn
          have f2 : fits (accS (l.map tText) i) (tText l[i]) = true := decide_eq_true (by omega)
          (have hF := And.intro e1 (And.intro e2 (And.intro e3 (And.intro e4 (And.intro e7 (And.intro e5 (And.intro z f2)))))); repeat' (first|apply th_n|apply wp_sq|apply wp_blk|apply wp_reg|apply wp_regd|(apply nm_and;kernel_rfl)|apply ev_nil|(apply ev_val;rfl;rfl;(simp +decide only [go_sem, hF] <;> rfl))|(apply ev_call;rfl;rfl;rfl;(simp +decide only [go_sem, hF] <;> rfl);(simp +decide only [go_sem, hF] <;> rfl);(first|exact hc))|(apply ev_wr;rfl;rfl;(simp +decide only [go_sem, hF] <;> rfl))|(apply ev_st;rfl;rfl;(simp +decide only [go_sem, hF] <;> rfl))|(apply ev_yes;rfl;rfl;(simp +decide only [go_sem, hF] <;> rfl))|(apply ev_nt;rfl;rfl;(simp +decide only [go_sem, hF] <;> rfl))|(apply ev_no;rfl;rfl;(refine Or.inl ?_;(simp +decide only [go_sem, hF] <;> rfl)))|(apply ev_guard;rfl;rfl;(simp +decide only [go_sem, hF] <;> rfl);intro _;rotate_left;intro _;rotate_right)|(apply wp_ift;(simp +decide only [go_sem, hF] <;> rfl))|(apply wp_iff;(simp +decide only [go_sem, hF] <;> rfl))|(apply wp_ifu;(simp +decide only [go_sem, hF] <;> rfl);intro _;rotate_left;intro _;rotate_right)|(apply wp_if;(simp +decide only [go_sem, hF] <;> rfl);intro _;rotate_left;intro _;rotate_right)|apply on_n|apply th_r|apply th_e|apply bl_n|apply bl_r|apply bl_e|(apply bl_o;(rfl))|apply wp_sk|apply wp_lb|apply wp_rt|apply wp_ex|(apply bq_r;(simp +decide only [go_sem, hF] <;> rfl))|(apply bq_n;(simp +decide only [go_sem, hF] <;> rfl))))
          refine fin ?_ ?_
          · rw [hn]; (repeat' (first | exact trivial | apply And.intro | ((simp +decide only [go_sem] <;> rfl)) | rfl))
          · (repeat' (first | exact trivial | apply And.intro | ((simp +decide only [go_sem] <;> rfl)) | rfl))
      · have e1 := at_out h
        obtain rfl : i = l.length := by omega
        have s1 : (⟨#[44]⟩ : ByteArray).size = 1 := rfl
        have s2 : (⟨#[41]⟩ : ByteArray).size = 1 := rfl
        rw [if_neg (by decide), if_neg (by decide), if_pos rfl, ← hp]
        by_cases hone : l.length = 1
        · have z : ((l.length : Int) == 1) = true := by simp [hone]
          have f1 : fits (accS (l.map tText) l.length) ⟨#[44]⟩ = true := decide_eq_true (by omega)
          have f2 : fits (accS (l.map tText) l.length ++ ⟨#[44]⟩) ⟨#[41]⟩ = true := decide_eq_true (by rw [ByteArray.size_append]; omega)
          (have hF := And.intro e1 (And.intro z (And.intro f1 f2)); repeat' (first|apply th_n|apply wp_sq|apply wp_blk|apply wp_reg|apply wp_regd|(apply nm_and;kernel_rfl)|apply ev_nil|(apply ev_val;rfl;rfl;(simp +decide only [go_sem, hF] <;> rfl))|(apply ev_wr;rfl;rfl;(simp +decide only [go_sem, hF] <;> rfl))|(apply ev_st;rfl;rfl;(simp +decide only [go_sem, hF] <;> rfl))|(apply ev_yes;rfl;rfl;(simp +decide only [go_sem, hF] <;> rfl))|(apply ev_nt;rfl;rfl;(simp +decide only [go_sem, hF] <;> rfl))|(apply ev_no;rfl;rfl;(refine Or.inl ?_;(simp +decide only [go_sem, hF] <;> rfl)))|(apply ev_guard;rfl;rfl;(simp +decide only [go_sem, hF] <;> rfl);intro _;rotate_left;intro _;rotate_right)|(apply wp_ift;(simp +decide only [go_sem, hF] <;> rfl))|(apply wp_iff;(simp +decide only [go_sem, hF] <;> rfl))|(apply wp_ifu;(simp +decide only [go_sem, hF] <;> rfl);intro _;rotate_left;intro _;rotate_right)|(apply wp_if;(simp +decide only [go_sem, hF] <;> rfl);intro _;rotate_left;intro _;rotate_right)|apply on_n|apply th_r|apply th_e|apply bl_n|apply bl_r|apply bl_e|(apply bl_o;(rfl))|apply wp_sk|apply wp_lb|apply wp_rt|apply wp_ex|(apply bq_r;(simp +decide only [go_sem, hF] <;> rfl))|(apply bq_n;(simp +decide only [go_sem, hF] <;> rfl))))
          rw [if_pos hone]; rfl
        · have z : ((l.length : Int) == 1) = false := by simp; omega
          have f2 : fits (accS (l.map tText) l.length) ⟨#[41]⟩ = true := decide_eq_true (by omega)
          (have hF := And.intro e1 (And.intro z f2); repeat' (first|apply th_n|apply wp_sq|apply wp_blk|apply wp_reg|apply wp_regd|(apply nm_and;kernel_rfl)|apply ev_nil|(apply ev_val;rfl;rfl;(simp +decide only [go_sem, hF] <;> rfl))|(apply ev_wr;rfl;rfl;(simp +decide only [go_sem, hF] <;> rfl))|(apply ev_st;rfl;rfl;(simp +decide only [go_sem, hF] <;> rfl))|(apply ev_yes;rfl;rfl;(simp +decide only [go_sem, hF] <;> rfl))|(apply ev_nt;rfl;rfl;(simp +decide only [go_sem, hF] <;> rfl))|(apply ev_no;rfl;rfl;(refine Or.inl ?_;(simp +decide only [go_sem, hF] <;> rfl)))|(apply ev_guard;rfl;rfl;(simp +decide only [go_sem, hF] <;> rfl);intro _;rotate_left;intro _;rotate_right)|(apply wp_ift;(simp +decide only [go_sem, hF] <;> rfl))|(apply wp_iff;(simp +decide only [go_sem, hF] <;> rfl))|(apply wp_ifu;(simp +decide only [go_sem, hF] <;> rfl);intro _;rotate_left;intro _;rotate_right)|(apply wp_if;(simp +decide only [go_sem, hF] <;> rfl);intro _;rotate_left;intro _;rotate_right)|apply on_n|apply th_r|apply th_e|apply bl_n|apply bl_r|apply bl_e|(apply bl_o;(rfl))|apply wp_sk|apply wp_lb|apply wp_rt|apply wp_ex|(apply bq_r;(simp +decide only [go_sem, hF] <;> rfl))|(apply bq_n;(simp +decide only [go_sem, hF] <;> rfl))))
          rw [if_neg hone]; rfl
termination_by x => SizeOf.sizeOf x
decreasing_by (have := List.sizeOf_lt_of_mem hh; simp; omega)
end Go.Proofs.Ytandclggkgmpgaa
