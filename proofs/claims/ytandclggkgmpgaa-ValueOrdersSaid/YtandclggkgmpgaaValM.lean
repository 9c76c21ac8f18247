/- slices.Reverse on bytes that are written where they lie. Condition: how many. -/
import Derived.Test.YtandclggkgmpgaaValA
import Derived.Test.YtandclggkgmpgaaPM
import Derived.Test.YtandclggkgmpgaaTy
import Derived.Test.YtandclggkgmpgaaProg
import Derived.KernelRfl
set_option maxRecDepth 100000
set_option linter.unusedVariables false
set_option linter.unusedSimpArgs false
set_option linter.unusedSectionVars false
namespace Go.Proofs.Ytandclggkgmpgaa
open Go.RowKit

/-- Half turned: the first i and the last i have changed places. -/
def turned (cs : List Int) (i : Nat) : List Int := (List.range cs.length).map fun j => if j < i ∨ cs.length - 1 - j < i then cs.getD (cs.length - 1 - j) 0 else cs.getD j 0
theorem turned_len (cs : List Int) (i : Nat) : (turned cs i).length = cs.length := by simp [turned]
theorem turned_get (cs : List Int) (i j : Nat) (h : j < cs.length) : (turned cs i)[j]? = some (if j < i ∨ cs.length - 1 - j < i then cs.getD (cs.length - 1 - j) 0 else cs.getD j 0) := by
  simp [turned, List.getElem?_range h]
theorem turned_zero (cs : List Int) : turned cs 0 = cs := by
  apply List.ext_getElem?
  intro j
  by_cases h : j < cs.length
  · rw [turned_get cs 0 j h]; simp [h]
  · rw [List.getElem?_eq_none (by rw [turned_len]; omega), List.getElem?_eq_none (by omega)]
theorem turned_all (cs : List Int) (i : Nat) (hi : cs.length ≤ 2 * i + 1) : turned cs i = cs.reverse := by
  apply List.ext_getElem?
  intro j
  by_cases h : j < cs.length
  · rw [turned_get cs i j h, List.getElem?_reverse h]
    have h2 : cs.length - 1 - j < cs.length := by omega
    rw [List.getElem?_eq_getElem h2]
    split
    · simp [h2]
    · have : cs.length - 1 - j = j := by omega
      simp [this, h]
  · rw [List.getElem?_eq_none (by rw [turned_len]; omega), List.getElem?_eq_none (by simp; omega)]
theorem turned_step (cs : List Int) (i : Nat) (h : i < cs.length - 1 - i) :
    ((turned cs i).set i ((turned cs i).getD (cs.length - 1 - i) 0)).set (cs.length - 1 - i) ((turned cs i).getD i 0) = turned cs (i + 1) := by
  have g1 : (turned cs i).getD (cs.length - 1 - i) 0 = cs.getD (cs.length - 1 - i) 0 := by
    rw [List.getD_eq_getElem?_getD, turned_get _ _ _ (by omega), if_neg (by omega)]; rfl
  have g2 : (turned cs i).getD i 0 = cs.getD i 0 := by
    rw [List.getD_eq_getElem?_getD, turned_get _ _ _ (by omega), if_neg (by omega)]; rfl
  rw [g1, g2]
  apply List.ext_getElem?
  intro j
  by_cases hj : j < cs.length
  · rw [turned_get cs (i + 1) j hj, List.getElem?_set, List.getElem?_set, turned_get cs i j hj]
    simp only [List.length_set, turned_len]
    by_cases h1 : cs.length - 1 - i = j
    · subst h1
      rw [if_pos rfl, if_pos hj, if_pos (by omega), show cs.length - 1 - (cs.length - 1 - i) = i by omega]
    · rw [if_neg h1]
      by_cases h2 : i = j
      · subst h2
        rw [if_pos rfl, if_pos hj, if_pos (by omega)]
      · rw [if_neg h2]
        congr 1
        have e : (j < i + 1 ∨ cs.length - 1 - j < i + 1) ↔ (j < i ∨ cs.length - 1 - j < i) := by omega
        simp only [e]
  · rw [List.getElem?_eq_none (by simp [turned_len]; omega), List.getElem?_eq_none (by rw [turned_len]; omega)]
/-- Numbers of one kind as cells. -/
def nums (k : IntKind) (L : List Int) : List SV := L.map fun n => .d (.int k n)
theorem nums_len (k : IntKind) (L : List Int) : (nums k L).length = L.length := List.length_map ..
/-- One place is written. -/
theorem nums_put (k : IntKind) (L : List Int) (j : Nat) (x : Int) (h : j < L.length) : (nums k L).take j ++ [SV.d (.int k x)] ++ (nums k L).drop (j + 1) = nums k (L.set j x) := by
  rw [List.set_eq_take_append_cons_drop, if_pos h]
  simp [nums]
theorem nums_head (k : IntKind) (L : List Int) (j : Nat) (h : j < L.length) : ((nums k L).drop j).head? = some (.d (.int k (L.getD j 0))) := by
  rw [List.head?_drop]
  simp [nums, h]
set_option maxHeartbeats 1000000 in
theorem Reverse_pm (cs : List Int) (ver : Nat) (hn : cs.length ≤ 1000000) : PM Try.prog 63 [.vec 1000000 ver cs.length] (hpm [(1000000, .vec 5 1 ver (nums .u8 cs))]) (.d (.tup [])) (hpm [(1000000, .vec 5 1 ver (nums .u8 cs.reverse))]) := by
  refine pm_of_pwp _ Try.func63 rfl Try.results63 (by kernel_rfl) ?_ ?_ ?_
  · intro s hs
    have : s ≠ 1000000 := Nat.ne_of_lt hs
    simp [hpm, this]
  · intro r e size k
    simp only [hpm]
    split <;> simp
  · have e0 : IntKind.i64.wrap ((cs.length : Int) - 1) = (cs.length : Int) - 1 := wrap_in (by omega)
    (repeat' (first|apply th_n|apply wp_sq|apply wp_blk|apply wp_reg|apply wp_regd|(apply nm_and;kernel_rfl)|apply ev_nil|(apply ev_val;rfl;rfl;(simp +decide only [go_sem, e0] <;> rfl))|(apply ev_wr;rfl;rfl;(simp +decide only [go_sem, e0] <;> rfl))|(apply ev_st;rfl;rfl;(simp +decide only [go_sem, e0] <;> rfl))|(apply ev_yes;rfl;rfl;(simp +decide only [go_sem, e0] <;> rfl))|(apply ev_nt;rfl;rfl;(simp +decide only [go_sem, e0] <;> rfl))|(apply ev_no;rfl;rfl;(refine Or.inl ?_;(simp +decide only [go_sem, e0] <;> rfl)))|(apply ev_guard;rfl;rfl;(simp +decide only [go_sem, e0] <;> rfl);intro _;rotate_left;intro _;rotate_right)|(apply wp_ift;(simp +decide only [go_sem, e0] <;> rfl))|(apply wp_iff;(simp +decide only [go_sem, e0] <;> rfl))|(apply wp_ifu;(simp +decide only [go_sem, e0] <;> rfl);intro _;rotate_left;intro _;rotate_right)|(apply wp_if;(simp +decide only [go_sem, e0] <;> rfl);intro _;rotate_left;intro _;rotate_right)|apply on_n|apply th_r|apply th_e|apply bl_n|apply bl_r|apply bl_e|(apply bl_o;(rfl))|apply wp_sk|apply wp_lb|apply wp_rt|apply wp_ex|(apply bq_r;(simp +decide only [go_sem, e0] <;> rfl))|(apply bq_n;(simp +decide only [go_sem, e0] <;> rfl))))
    refine wp_lp (fun m f H => ∃ i : Nat, f = frm [(0, .vec 1000000 ver cs.length), (2, .d (.int .i64 i)), (3, .d (.int .i64 ((cs.length : Int) - 1 - i)))] ∧ H = hpm [(1000000, .vec 5 1 ver (nums .u8 (turned cs i)))] ∧ 2 * i ≤ cs.length + 1 ∧ m + i = cs.length) cs.length _ _
      (Cv.keepH [(0, .vec 1000000 ver cs.length), (2, .d (.int .i64 0)), (3, .d (.int .i64 ((cs.length : Int) - 1)))] [(1000000, .vec 5 1 ver (nums .u8 cs))] (by (repeat' (first | exact trivial | apply And.intro | ((simp +decide only [go_sem] <;> rfl)) | rfl))) (by (repeat' (first | exact trivial | apply And.intro | ((simp +decide only [go_sem] <;> rfl)) | rfl))) (by first | rfl | (simp [okSV, okHO, okSA, nums]; done))) ⟨0, by simp, by rw [turned_zero], by omega, rfl⟩ ?_
    rintro n f H ⟨i, rfl, rfl, hi, hm⟩
    by_cases h : (i : Int) < (cs.length : Int) - 1 - i
    · have h' : i < cs.length - 1 - i := by omega
      have e1 : decide ((i : Int) < (cs.length : Int) - 1 - i) = true := by simpa using h
      have e2 : IntKind.i64.wrap ((i : Int) + 1) = ((i + 1 : Nat) : Int) := by rw [wrap_in (by omega)]; omega
      have e3 : IntKind.i64.wrap ((cs.length : Int) - 1 - i - 1) = (cs.length : Int) - 1 - ((i + 1 : Nat) : Int) := by rw [wrap_in (by omega)]; omega
      have e4 : (0 : Int) ≤ i := by omega
      have e5 : (i : Int) < cs.length := by omega
      have hst := turned_step cs i h'
      obtain ⟨j, hj⟩ : ∃ j : Nat, (cs.length : Int) - 1 - i = j := ⟨cs.length - 1 - i, by omega⟩
      have hj' : cs.length - 1 - i = j := by omega
      rw [hj'] at hst
      rw [hj] at e1 e3 h
      rw [hj]
      have e6 : (0 : Int) ≤ j := by omega
      have e7 : (j : Int) < cs.length := by omega
      have hl := turned_len cs i
      generalize turned cs i = L at *
      have f1 := nums_head .u8 L j (by omega)
      have f2 := nums_head .u8 L i (by omega)
      have f3 : i + 1 ≤ (nums .u8 L).length := by rw [nums_len]; omega
      have f4 : j + 1 ≤ (nums .u8 (L.set i (L.getD j 0))).length := by rw [nums_len, List.length_set]; omega
      have f5 := nums_put .u8 L i (L.getD j 0) (by omega)
      have f6 := nums_put .u8 (L.set i (L.getD j 0)) j (L.getD i 0) (by simp; omega)
      (have hF := And.intro e1 (And.intro e2 (And.intro e3 (And.intro e4 (And.intro e5 (And.intro e6 (And.intro e7 (And.intro f1 (And.intro f2 (And.intro f3 (And.intro f4 (And.intro f5 f6))))))))))); repeat' (first|apply th_n|apply wp_sq|apply wp_blk|apply wp_reg|apply wp_regd|(apply nm_and;kernel_rfl)|apply ev_nil|(apply ev_val;rfl;rfl;(simp +decide only [go_sem, hF] <;> rfl))|(apply ev_wr;rfl;rfl;(simp +decide only [go_sem, hF] <;> rfl))|(apply ev_st;rfl;rfl;(simp +decide only [go_sem, hF] <;> rfl))|(apply ev_yes;rfl;rfl;(simp +decide only [go_sem, hF] <;> rfl))|(apply ev_nt;rfl;rfl;(simp +decide only [go_sem, hF] <;> rfl))|(apply ev_no;rfl;rfl;(refine Or.inl ?_;(simp +decide only [go_sem, hF] <;> rfl)))|(apply ev_guard;rfl;rfl;(simp +decide only [go_sem, hF] <;> rfl);intro _;rotate_left;intro _;rotate_right)|(apply wp_ift;(simp +decide only [go_sem, hF] <;> rfl))|(apply wp_iff;(simp +decide only [go_sem, hF] <;> rfl))|(apply wp_ifu;(simp +decide only [go_sem, hF] <;> rfl);intro _;rotate_left;intro _;rotate_right)|(apply wp_if;(simp +decide only [go_sem, hF] <;> rfl);intro _;rotate_left;intro _;rotate_right)|apply on_n|apply th_r|apply th_e|apply bl_n|apply bl_r|apply bl_e|(apply bl_o;(rfl))|apply wp_sk|apply wp_lb|apply wp_rt|apply wp_ex|(apply bq_r;(simp +decide only [go_sem, hF] <;> rfl))|(apply bq_n;(simp +decide only [go_sem, hF] <;> rfl))))
      refine ⟨n - 1, frm [(0, .vec 1000000 ver cs.length), (2, .d (.int .i64 ((i + 1 : Nat) : Int))), (3, .d (.int .i64 ((cs.length : Int) - 1 - ((i + 1 : Nat) : Int))))], hpm [(1000000, .vec 5 1 ver (nums .u8 (turned cs (i + 1))))], by omega, Cv.keepH _ _ (by (repeat' (first | exact trivial | apply And.intro | ((simp +decide only [go_sem] <;> rfl)) | rfl))) (by rw [← hst]; (repeat' (first | exact trivial | apply And.intro | ((simp +decide only [go_sem] <;> rfl)) | rfl))) (by first | rfl | (simp [okSV, okHO, okSA, nums]; done)), i + 1, rfl, rfl, by omega, by omega⟩
    · have e1 : decide ((i : Int) < (cs.length : Int) - 1 - i) = false := by simpa using h
      (repeat' (first|apply th_n|apply wp_sq|apply wp_blk|apply wp_reg|apply wp_regd|(apply nm_and;kernel_rfl)|apply ev_nil|(apply ev_val;rfl;rfl;(simp +decide only [go_sem, e1] <;> rfl))|(apply ev_wr;rfl;rfl;(simp +decide only [go_sem, e1] <;> rfl))|(apply ev_st;rfl;rfl;(simp +decide only [go_sem, e1] <;> rfl))|(apply ev_yes;rfl;rfl;(simp +decide only [go_sem, e1] <;> rfl))|(apply ev_nt;rfl;rfl;(simp +decide only [go_sem, e1] <;> rfl))|(apply ev_no;rfl;rfl;(refine Or.inl ?_;(simp +decide only [go_sem, e1] <;> rfl)))|(apply ev_guard;rfl;rfl;(simp +decide only [go_sem, e1] <;> rfl);intro _;rotate_left;intro _;rotate_right)|(apply wp_ift;(simp +decide only [go_sem, e1] <;> rfl))|(apply wp_iff;(simp +decide only [go_sem, e1] <;> rfl))|(apply wp_ifu;(simp +decide only [go_sem, e1] <;> rfl);intro _;rotate_left;intro _;rotate_right)|(apply wp_if;(simp +decide only [go_sem, e1] <;> rfl);intro _;rotate_left;intro _;rotate_right)|apply on_n|apply th_r|apply th_e|apply bl_n|apply bl_r|apply bl_e|(apply bl_o;(rfl))|apply wp_sk|apply wp_lb|apply wp_rt|apply wp_ex|(apply bq_r;(simp +decide only [go_sem, e1] <;> rfl))|(apply bq_n;(simp +decide only [go_sem, e1] <;> rfl))))
      have := turned_all cs i (by omega)
      exact bm_n ⟨frm [], Cv.keepH [] [(1000000, .vec 5 1 ver (nums .u8 cs.reverse))] (by (repeat' (first | exact trivial | apply And.intro | ((simp +decide only [go_sem] <;> rfl)) | rfl))) (by rw [← this]; (repeat' (first | exact trivial | apply And.intro | ((simp +decide only [go_sem] <;> rfl)) | rfl))) (by first | rfl | (simp [okSV, okHO, okSA, nums]; done)), pres0⟩
end Go.Proofs.Ytandclggkgmpgaa
