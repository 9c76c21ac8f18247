/- The document's decimal text of any number: walk of Dec. Condition: the number is one of 64 bits. -/
import Derived.Test.YtandclggkgmpgaaValDg
import Derived.Test.YtandclggkgmpgaaValJ
set_option maxRecDepth 100000
set_option linter.unusedVariables false
set_option linter.unusedSimpArgs false
set_option linter.unusedSectionVars false
namespace Go.Proofs.Ytandclggkgmpgaa
open Go.RowKit

/-- The digits ahead, as far as there are any. -/
def restD (m : Nat) : List Int := if m = 0 then [] else (revD m).reverse
theorem restD_zero : restD 0 = [] := rfl
theorem revD_split (m : Nat) : (revD m).reverse = restD (m / 10) ++ [48 + ((m % 10 : Nat) : Int)] := by
  by_cases h : m < 10
  · rw [revD_one h, show m / 10 = 0 by omega, Nat.mod_eq_of_lt h]; rfl
  · rw [revD_more h, restD, if_neg (by omega)]; simp
theorem restD_split {m : Nat} (h : 0 < m) : restD m = restD (m / 10) ++ [48 + ((m % 10 : Nat) : Int)] := by
  rw [← revD_split, restD, if_neg (by omega)]
theorem text_cons (x : Int) (l : List Int) : (⟨[UInt8.ofNat x.toNat].toArray⟩ : ByteArray) ++ asText l = asText (x :: l) := by
  apply ba_ext'
  rw [ByteArray.data_append, Array.toList_append]; simp [asText]
where ba_ext' {a b : ByteArray} (h : a.data.toList = b.data.toList) : a = b := by cases a; cases b; simp at h; rw [h]
theorem text_one (x : Int) : (⟨[UInt8.ofNat x.toNat].toArray⟩ : ByteArray) = asText [x] := rfl
theorem text_size (l : List Int) : (asText l).size = l.length := by simp [asText, ByteArray.size]
theorem dig_pos (m : Nat) (hm : m ≤ 9223372036854775808) : (m : Int).tmod 10 = ((m % 10 : Nat) : Int) ∧ IntKind.i64.wrap (48 + ((m % 10 : Nat) : Int)) = 48 + ((m % 10 : Nat) : Int) ∧ IntKind.u8.wrap (48 + ((m % 10 : Nat) : Int)) = 48 + ((m % 10 : Nat) : Int) ∧ IntKind.i64.wrap ((m : Int).tdiv 10) = ((m / 10 : Nat) : Int) ∧ ((10 : Int) = 0) = False := by
  refine ⟨rfl, by rw [wrap_in (by omega)], (dig_facts m hm).2.2.1, ?_, by simp⟩
  rw [show (m : Int).tdiv 10 = ((m / 10 : Nat) : Int) from rfl, wrap_in (by omega)]
set_option maxHeartbeats 4000000 in
theorem Dec_pc (n : Int) (hn : -9223372036854775808 ≤ n ∧ n ≤ 9223372036854775807) : PC Try.prog 42 [.int .i64 n] (.str (asText (decL n))) := by
  have hm : n.natAbs ≤ 9223372036854775808 := by omega
  have hL := revD_len20 hm
  have hR : decL n = (if n < 0 then [45] else []) ++ (revD n.natAbs).reverse := rfl
  generalize hM : n.natAbs = M at *
  have hsp := revD_split M
  have hLr : ((revD M).reverse).length ≤ 19 := by simpa using hL
  refine pc_of_pwp _ Try.func42 rfl Try.results42 (by kernel_rfl) ?_
  by_cases hneg : n < 0
  · have e0 : decide (n ≥ 0) = false := by simpa using hneg
    have hn2 : n = -(M : Int) := by omega
    rw [if_pos hneg] at hR
    rw [hn2] at e0 ⊢
    obtain ⟨e1, e2, e3, e4, e5⟩ := dig_facts M hm
    obtain ⟨r, hr⟩ : ∃ r, M % 10 = r := ⟨_, rfl⟩
    obtain ⟨q, hq⟩ : ∃ q, M / 10 = q := ⟨_, rfl⟩
    rw [hr] at e1 e2 e3 hsp
    rw [hq] at e4 hsp
    (have hF := And.intro e0 (And.intro e1 (And.intro e2 (And.intro e3 (And.intro e4 e5)))); repeat' (first|apply th_n|apply wp_sq|apply wp_blk|apply wp_reg|apply wp_regd|(apply nm_and;kernel_rfl)|apply ev_nil|(apply ev_val;rfl;rfl;(simp +decide only [go_sem, hF] <;> rfl))|(apply ev_wr;rfl;rfl;(simp +decide only [go_sem, hF] <;> rfl))|(apply ev_st;rfl;rfl;(simp +decide only [go_sem, hF] <;> rfl))|(apply ev_yes;rfl;rfl;(simp +decide only [go_sem, hF] <;> rfl))|(apply ev_nt;rfl;rfl;(simp +decide only [go_sem, hF] <;> rfl))|(apply ev_no;rfl;rfl;(refine Or.inl ?_;(simp +decide only [go_sem, hF] <;> rfl)))|(apply ev_guard;rfl;rfl;(simp +decide only [go_sem, hF] <;> rfl);intro _;rotate_left;intro _;rotate_right)|(apply wp_ift;(simp +decide only [go_sem, hF] <;> rfl))|(apply wp_iff;(simp +decide only [go_sem, hF] <;> rfl))|(apply wp_ifu;(simp +decide only [go_sem, hF] <;> rfl);intro _;rotate_left;intro _;rotate_right)|(apply wp_if;(simp +decide only [go_sem, hF] <;> rfl);intro _;rotate_left;intro _;rotate_right)|apply on_n|apply th_r|apply th_e|apply bl_n|apply bl_r|apply bl_e|(apply bl_o;(rfl))|apply wp_sk|apply wp_lb|apply wp_rt|apply wp_ex|(apply bq_r;(simp +decide only [go_sem, hF] <;> rfl))|(apply bq_n;(simp +decide only [go_sem, hF] <;> rfl))))
    refine wp_lp (fun m f H => ∃ (acc : List Int), f = frm [(0, .d (.int .i64 (-(m : Int)))), (4, .d (.str (asText acc)))] ∧ H = hpm [] ∧ restD m ++ acc = (revD M).reverse ∧ m ≤ M) q _ _
      (Cv.keepH [(0, .d (.int .i64 (-(q : Int)))), (4, .d (.str (asText [48 + (r : Int)])))] [] (by (repeat' (first | exact trivial | apply And.intro | ((simp +decide only [go_sem] <;> rfl)) | rfl))) (by (repeat' (first | exact trivial | apply And.intro | ((simp +decide only [go_sem] <;> rfl)) | rfl))) rfl) ⟨_, rfl, rfl, hsp.symm, by omega⟩ ?_
    rintro m f H ⟨acc, rfl, rfl, hacc, hmM⟩
    have hal : acc.length ≤ 19 := by have := congrArg List.length hacc; simp at this; omega
    by_cases hz : m = 0
    · have e6 : decide (-(m : Int) < 0) = false := by simp [hz]
      rw [hz, restD_zero, List.nil_append] at hacc
      have f1 : fits ⟨#[45]⟩ (asText acc) = true := decide_eq_true (by rw [text_size, show (⟨#[45]⟩ : ByteArray).size = 1 from rfl]; omega)
      (have hF := And.intro e6 f1; repeat' (first|apply th_n|apply wp_sq|apply wp_blk|apply wp_reg|apply wp_regd|(apply nm_and;kernel_rfl)|apply ev_nil|(apply ev_val;rfl;rfl;(simp +decide only [go_sem, hF] <;> rfl))|(apply ev_wr;rfl;rfl;(simp +decide only [go_sem, hF] <;> rfl))|(apply ev_st;rfl;rfl;(simp +decide only [go_sem, hF] <;> rfl))|(apply ev_yes;rfl;rfl;(simp +decide only [go_sem, hF] <;> rfl))|(apply ev_nt;rfl;rfl;(simp +decide only [go_sem, hF] <;> rfl))|(apply ev_no;rfl;rfl;(refine Or.inl ?_;(simp +decide only [go_sem, hF] <;> rfl)))|(apply ev_guard;rfl;rfl;(simp +decide only [go_sem, hF] <;> rfl);intro _;rotate_left;intro _;rotate_right)|(apply wp_ift;(simp +decide only [go_sem, hF] <;> rfl))|(apply wp_iff;(simp +decide only [go_sem, hF] <;> rfl))|(apply wp_ifu;(simp +decide only [go_sem, hF] <;> rfl);intro _;rotate_left;intro _;rotate_right)|(apply wp_if;(simp +decide only [go_sem, hF] <;> rfl);intro _;rotate_left;intro _;rotate_right)|apply on_n|apply th_r|apply th_e|apply bl_n|apply bl_r|apply bl_e|(apply bl_o;(rfl))|apply wp_sk|apply wp_lb|apply wp_rt|apply wp_ex|(apply bq_r;(simp +decide only [go_sem, hF] <;> rfl))|(apply bq_n;(simp +decide only [go_sem, hF] <;> rfl))))
      rw [← hn2, hR, ← hacc]
      show D.str _ = _
      rw [show (⟨#[45]⟩ : ByteArray) = ⟨[UInt8.ofNat ((45 : Int)).toNat].toArray⟩ from rfl, text_cons]; rfl
    · have e6 : decide (-(m : Int) < 0) = true := by simp; omega
      obtain ⟨g1, g2, g3, g4, g5⟩ := dig_facts m (by omega)
      have hs := restD_split (m := m) (by omega)
      obtain ⟨r', hr'⟩ : ∃ r, m % 10 = r := ⟨_, rfl⟩
      obtain ⟨q', hq'⟩ : ∃ q, m / 10 = q := ⟨_, rfl⟩
      rw [hr'] at g1 g2 g3 hs
      rw [hq'] at g4 hs
      have f1 : fits ⟨[UInt8.ofNat (48 + (r' : Int)).toNat].toArray⟩ (asText acc) = true := decide_eq_true (by rw [text_size, show (⟨[UInt8.ofNat (48 + (r' : Int)).toNat].toArray⟩ : ByteArray).size = 1 from rfl]; omega)
      have f2 := text_cons (48 + (r' : Int)) acc
      (have hF := And.intro e6 (And.intro g1 (And.intro g2 (And.intro g3 (And.intro g4 (And.intro g5 (And.intro f1 f2)))))); repeat' (first|apply th_n|apply wp_sq|apply wp_blk|apply wp_reg|apply wp_regd|(apply nm_and;kernel_rfl)|apply ev_nil|(apply ev_val;rfl;rfl;(simp +decide only [go_sem, hF] <;> rfl))|(apply ev_wr;rfl;rfl;(simp +decide only [go_sem, hF] <;> rfl))|(apply ev_st;rfl;rfl;(simp +decide only [go_sem, hF] <;> rfl))|(apply ev_yes;rfl;rfl;(simp +decide only [go_sem, hF] <;> rfl))|(apply ev_nt;rfl;rfl;(simp +decide only [go_sem, hF] <;> rfl))|(apply ev_no;rfl;rfl;(refine Or.inl ?_;(simp +decide only [go_sem, hF] <;> rfl)))|(apply ev_guard;rfl;rfl;(simp +decide only [go_sem, hF] <;> rfl);intro _;rotate_left;intro _;rotate_right)|(apply wp_ift;(simp +decide only [go_sem, hF] <;> rfl))|(apply wp_iff;(simp +decide only [go_sem, hF] <;> rfl))|(apply wp_ifu;(simp +decide only [go_sem, hF] <;> rfl);intro _;rotate_left;intro _;rotate_right)|(apply wp_if;(simp +decide only [go_sem, hF] <;> rfl);intro _;rotate_left;intro _;rotate_right)|apply on_n|apply th_r|apply th_e|apply bl_n|apply bl_r|apply bl_e|(apply bl_o;(rfl))|apply wp_sk|apply wp_lb|apply wp_rt|apply wp_ex|(apply bq_r;(simp +decide only [go_sem, hF] <;> rfl))|(apply bq_n;(simp +decide only [go_sem, hF] <;> rfl))))
      exact ⟨q', frm [(0, .d (.int .i64 (-(q' : Int)))), (4, .d (.str (asText ((48 + (r' : Int)) :: acc))))], hpm [], by omega, Cv.keepH _ _ (by (repeat' (first | exact trivial | apply And.intro | ((simp +decide only [go_sem] <;> rfl)) | rfl))) (by (repeat' (first | exact trivial | apply And.intro | ((simp +decide only [go_sem] <;> rfl)) | rfl))) rfl, _, rfl, rfl, by rw [← hacc, hs]; simp, by omega⟩
  · have e0 : decide (n ≥ 0) = true := by simpa using hneg
    have hn2 : n = (M : Int) := by omega
    rw [if_neg hneg] at hR
    rw [hn2] at e0 ⊢
    obtain ⟨e1, e2, e3, e4, e5⟩ := dig_pos M hm
    obtain ⟨r, hr⟩ : ∃ r, M % 10 = r := ⟨_, rfl⟩
    obtain ⟨q, hq⟩ : ∃ q, M / 10 = q := ⟨_, rfl⟩
    rw [hr] at e1 e2 e3 hsp
    rw [hq] at e4 hsp
    (have hF := And.intro e0 (And.intro e1 (And.intro e2 (And.intro e3 (And.intro e4 e5)))); repeat' (first|apply th_n|apply wp_sq|apply wp_blk|apply wp_reg|apply wp_regd|(apply nm_and;kernel_rfl)|apply ev_nil|(apply ev_val;rfl;rfl;(simp +decide only [go_sem, hF] <;> rfl))|(apply ev_wr;rfl;rfl;(simp +decide only [go_sem, hF] <;> rfl))|(apply ev_st;rfl;rfl;(simp +decide only [go_sem, hF] <;> rfl))|(apply ev_yes;rfl;rfl;(simp +decide only [go_sem, hF] <;> rfl))|(apply ev_nt;rfl;rfl;(simp +decide only [go_sem, hF] <;> rfl))|(apply ev_no;rfl;rfl;(refine Or.inl ?_;(simp +decide only [go_sem, hF] <;> rfl)))|(apply ev_guard;rfl;rfl;(simp +decide only [go_sem, hF] <;> rfl);intro _;rotate_left;intro _;rotate_right)|(apply wp_ift;(simp +decide only [go_sem, hF] <;> rfl))|(apply wp_iff;(simp +decide only [go_sem, hF] <;> rfl))|(apply wp_ifu;(simp +decide only [go_sem, hF] <;> rfl);intro _;rotate_left;intro _;rotate_right)|(apply wp_if;(simp +decide only [go_sem, hF] <;> rfl);intro _;rotate_left;intro _;rotate_right)|apply on_n|apply th_r|apply th_e|apply bl_n|apply bl_r|apply bl_e|(apply bl_o;(rfl))|apply wp_sk|apply wp_lb|apply wp_rt|apply wp_ex|(apply bq_r;(simp +decide only [go_sem, hF] <;> rfl))|(apply bq_n;(simp +decide only [go_sem, hF] <;> rfl))))
    refine wp_lp (fun m f H => ∃ (acc : List Int), f = frm [(0, .d (.int .i64 (m : Int))), (3, .d (.str (asText acc)))] ∧ H = hpm [] ∧ restD m ++ acc = (revD M).reverse ∧ m ≤ M) q _ _
      (Cv.keepH [(0, .d (.int .i64 (q : Int))), (3, .d (.str (asText [48 + (r : Int)])))] [] (by (repeat' (first | exact trivial | apply And.intro | ((simp +decide only [go_sem] <;> rfl)) | rfl))) (by (repeat' (first | exact trivial | apply And.intro | ((simp +decide only [go_sem] <;> rfl)) | rfl))) rfl) ⟨_, rfl, rfl, hsp.symm, by omega⟩ ?_
    rintro m f H ⟨acc, rfl, rfl, hacc, hmM⟩
    have hal : acc.length ≤ 19 := by have := congrArg List.length hacc; simp at this; omega
    by_cases hz : m = 0
    · have e6 : decide ((m : Int) > 0) = false := by simp [hz]
      rw [hz, restD_zero, List.nil_append] at hacc
      (repeat' (first|apply th_n|apply wp_sq|apply wp_blk|apply wp_reg|apply wp_regd|(apply nm_and;kernel_rfl)|apply ev_nil|(apply ev_val;rfl;rfl;(simp +decide only [go_sem, e6] <;> rfl))|(apply ev_wr;rfl;rfl;(simp +decide only [go_sem, e6] <;> rfl))|(apply ev_st;rfl;rfl;(simp +decide only [go_sem, e6] <;> rfl))|(apply ev_yes;rfl;rfl;(simp +decide only [go_sem, e6] <;> rfl))|(apply ev_nt;rfl;rfl;(simp +decide only [go_sem, e6] <;> rfl))|(apply ev_no;rfl;rfl;(refine Or.inl ?_;(simp +decide only [go_sem, e6] <;> rfl)))|(apply ev_guard;rfl;rfl;(simp +decide only [go_sem, e6] <;> rfl);intro _;rotate_left;intro _;rotate_right)|(apply wp_ift;(simp +decide only [go_sem, e6] <;> rfl))|(apply wp_iff;(simp +decide only [go_sem, e6] <;> rfl))|(apply wp_ifu;(simp +decide only [go_sem, e6] <;> rfl);intro _;rotate_left;intro _;rotate_right)|(apply wp_if;(simp +decide only [go_sem, e6] <;> rfl);intro _;rotate_left;intro _;rotate_right)|apply on_n|apply th_r|apply th_e|apply bl_n|apply bl_r|apply bl_e|(apply bl_o;(rfl))|apply wp_sk|apply wp_lb|apply wp_rt|apply wp_ex|(apply bq_r;(simp +decide only [go_sem, e6] <;> rfl))|(apply bq_n;(simp +decide only [go_sem, e6] <;> rfl))))
      rw [← hn2, hR, ← hacc]; rfl
    · have e6 : decide ((m : Int) > 0) = true := by simp; omega
      obtain ⟨g1, g2, g3, g4, g5⟩ := dig_pos m (by omega)
      have hs := restD_split (m := m) (by omega)
      obtain ⟨r', hr'⟩ : ∃ r, m % 10 = r := ⟨_, rfl⟩
      obtain ⟨q', hq'⟩ : ∃ q, m / 10 = q := ⟨_, rfl⟩
      rw [hr'] at g1 g2 g3 hs
      rw [hq'] at g4 hs
      have f1 : fits ⟨[UInt8.ofNat (48 + (r' : Int)).toNat].toArray⟩ (asText acc) = true := decide_eq_true (by rw [text_size, show (⟨[UInt8.ofNat (48 + (r' : Int)).toNat].toArray⟩ : ByteArray).size = 1 from rfl]; omega)
      have f2 := text_cons (48 + (r' : Int)) acc
      (have hF := And.intro e6 (And.intro g1 (And.intro g2 (And.intro g3 (And.intro g4 (And.intro g5 (And.intro f1 f2)))))); repeat' (first|apply th_n|apply wp_sq|apply wp_blk|apply wp_reg|apply wp_regd|(apply nm_and;kernel_rfl)|apply ev_nil|(apply ev_val;rfl;rfl;(simp +decide only [go_sem, hF] <;> rfl))|(apply ev_wr;rfl;rfl;(simp +decide only [go_sem, hF] <;> rfl))|(apply ev_st;rfl;rfl;(simp +decide only [go_sem, hF] <;> rfl))|(apply ev_yes;rfl;rfl;(simp +decide only [go_sem, hF] <;> rfl))|(apply ev_nt;rfl;rfl;(simp +decide only [go_sem, hF] <;> rfl))|(apply ev_no;rfl;rfl;(refine Or.inl ?_;(simp +decide only [go_sem, hF] <;> rfl)))|(apply ev_guard;rfl;rfl;(simp +decide only [go_sem, hF] <;> rfl);intro _;rotate_left;intro _;rotate_right)|(apply wp_ift;(simp +decide only [go_sem, hF] <;> rfl))|(apply wp_iff;(simp +decide only [go_sem, hF] <;> rfl))|(apply wp_ifu;(simp +decide only [go_sem, hF] <;> rfl);intro _;rotate_left;intro _;rotate_right)|(apply wp_if;(simp +decide only [go_sem, hF] <;> rfl);intro _;rotate_left;intro _;rotate_right)|apply on_n|apply th_r|apply th_e|apply bl_n|apply bl_r|apply bl_e|(apply bl_o;(rfl))|apply wp_sk|apply wp_lb|apply wp_rt|apply wp_ex|(apply bq_r;(simp +decide only [go_sem, hF] <;> rfl))|(apply bq_n;(simp +decide only [go_sem, hF] <;> rfl))))
      exact ⟨q', frm [(0, .d (.int .i64 (q' : Int))), (3, .d (.str (asText ((48 + (r' : Int)) :: acc))))], hpm [], by omega, Cv.keepH _ _ (by (repeat' (first | exact trivial | apply And.intro | ((simp +decide only [go_sem] <;> rfl)) | rfl))) (by (repeat' (first | exact trivial | apply And.intro | ((simp +decide only [go_sem] <;> rfl)) | rfl))) rfl, _, rfl, rfl, by rw [← hacc, hs]; simp, by omega⟩
end Go.Proofs.Ytandclggkgmpgaa
