/- Expressions: nest, right, alike: walks. Conditions: how they came in. -/
import Derived.Test.YtefiebkngpcaoaaDoorAstN
import Derived.Test.YtefiebkngpcaoaaDoorAstG
set_option maxRecDepth 100000
set_option linter.unusedVariables false
set_option linter.unusedSimpArgs false
set_option linter.unusedSectionVars false
namespace Go.Proofs.YtefiebkngpcaoaaDoor
open Go.RowKit

/-- How many stand within one another, as far as there is room. -/
def nst : Nat → Exp → Int
  | 0, _ => 1001
  | r + 1, .mk _ _ _ _ l => min (l.foldl (fun n x => max n (nst r x)) 0 + 1) 1001
def nstL (r : Nat) (l : List Exp) : Int := l.foldl (fun n x => max n (nst r x)) 0
theorem nst_succ (r : Nat) (op n : Int) (a s : ByteArray) (l : List Exp) : nst (r + 1) (.mk op n a s l) = min (nstL r l + 1) 1001 := by rw [nst]; rfl
theorem foldl_max {α : Type} (g : α → Int) (hg : ∀ x, 0 ≤ g x ∧ g x ≤ 1001) : ∀ (l : List α) (n : Int), 0 ≤ n → n ≤ 1001 → 0 ≤ l.foldl (fun n x => max n (g x)) n ∧ l.foldl (fun n x => max n (g x)) n ≤ 1001
  | [], n, h1, h2 => ⟨h1, h2⟩
  | x :: l, n, h1, h2 => by
    rw [List.foldl_cons]
    have := hg x
    exact foldl_max g hg l _ (by omega) (by omega)
theorem nst_in : ∀ (r : Nat) (x : Exp), 0 ≤ nst r x ∧ nst r x ≤ 1001
  | 0, x => by rw [nst]; omega
  | r + 1, .mk op n a s l => by
    rw [nst_succ]
    have := foldl_max (nst r) (nst_in r) l 0 (by omega) (by omega)
    unfold nstL
    omega
theorem nstL_in (r : Nat) (l : List Exp) : 0 ≤ nstL r l ∧ nstL r l ≤ 1001 := foldl_max (nst r) (nst_in r) l 0 (by omega) (by omega)
theorem nstL_take {r : Nat} {l : List Exp} {i : Nat} (h : i < l.length) : nstL r (l.take (i + 1)) = max (nstL r (l.take i)) (nst r l[i]) := by
  unfold nstL
  rw [List.take_succ_eq_append_getElem h, List.foldl_append]; rfl
theorem nstL_zero {l : List Exp} (h : l ≠ []) : nstL 0 l = 1001 := by
  cases l with
  | nil => exact absurd rfl h
  | cons x l =>
    have : ∀ (l : List Exp) (n : Int), n = 1001 → l.foldl (fun n x => max n (nst 0 x)) n = 1001 := by
      intro l
      induction l with
      | nil => intro n h; exact h
      | cons y l ih => intro n h; rw [List.foldl_cons]; exact ih _ (by rw [h, nst]; rfl)
    unfold nstL
    rw [List.foldl_cons]
    exact this l _ (by rw [nst]; rfl)
theorem max_if (a b : Int) : (if b > a then b else a) = max a b := by rw [Int.max_def]; split <;> split <;> omega
theorem min_if (a b : Int) : (if b < a then b else a) = min a b := by rw [Int.min_def]; split <;> split <;> omega
set_option maxHeartbeats 1000000 in
theorem nest_pc : ∀ (r : Nat), r ≤ 999 → ∀ (x : Exp), x.Ok → PC Tryd.prog 39 [.agg x.cells, .int .i64 ((r + 1 : Nat) : Int)] (.int .i64 (nst (r + 1) x)) := by
  intro r
  induction r with
  | zero =>
    rintro - ⟨op, n, a, s, l⟩ hx
    obtain ⟨-, -, -, -, hl, hk⟩ := hx.parts
    rw [Exp.cells_mk, nst_succ]
    refine pc_of_pwp _ Tryd.func39 rfl Tryd.results39 (by kernel_rfl) ?_
    (repeat' (first|apply th_n|apply wp_sq|apply wp_blk|apply wp_reg|apply wp_regd|(apply nm_and;kernel_rfl)|apply ev_nil|(apply ev_val;rfl;rfl;(simp +decide only [go_sem] <;> rfl))|(apply ev_wr;rfl;rfl;(simp +decide only [go_sem] <;> rfl))|(apply ev_st;rfl;rfl;(simp +decide only [go_sem] <;> rfl))|(apply ev_yes;rfl;rfl;(simp +decide only [go_sem] <;> rfl))|(apply ev_nt;rfl;rfl;(simp +decide only [go_sem] <;> rfl))|(apply ev_no;rfl;rfl;(refine Or.inl ?_;(simp +decide only [go_sem] <;> rfl)))|(apply ev_guard;rfl;rfl;(simp +decide only [go_sem] <;> rfl);intro _;rotate_left;intro _;rotate_right)|(apply wp_ift;(simp +decide only [go_sem] <;> rfl))|(apply wp_iff;(simp +decide only [go_sem] <;> rfl))|(apply wp_ifu;(simp +decide only [go_sem] <;> rfl);intro _;rotate_left;intro _;rotate_right)|(apply wp_if;(simp +decide only [go_sem] <;> rfl);intro _;rotate_left;intro _;rotate_right)|apply on_n|apply th_r|apply th_e|apply bl_n|apply bl_r|apply bl_e|(apply bl_o;(rfl))|apply wp_sk|apply wp_lb|apply wp_rt|apply wp_ex|(apply bq_r;(simp +decide only [go_sem] <;> rfl))|(apply bq_n;(simp +decide only [go_sem] <;> rfl))))
    refine wp_for l.length (fun i => [(1, .d (.int .i64 ((0 + 1 : Nat) : Int))), (5, .d (.int .i64 0)), (9, .d (.sl l.length (rowE.cs l))), (10, .d (.int .i64 l.length)), (11, .d (.int .i64 i))]) (fun _ => []) (fun i => i = 0)
      (Cv.keepH _ _ (by (repeat' (first | exact trivial | apply And.intro | ((simp +decide only [go_sem] <;> rfl)) | rfl))) (by (repeat' (first | exact trivial | apply And.intro | ((simp +decide only [go_sem] <;> rfl)) | rfl))) rfl) rfl (fun i h hC => ?_) (fun hC => ?_)
    · have e1 := rnd (R := rowE) (n := 5) h rfl hl
      have e2 : decide (((0 + 1 : Nat) : Int) ≤ 1) = true := rfl
      (have hF := And.intro e1 e2; repeat' (first|apply th_n|apply wp_sq|apply wp_blk|apply wp_reg|apply wp_regd|(apply nm_and;kernel_rfl)|apply ev_nil|(apply ev_val;rfl;rfl;(simp +decide only [go_sem, hF] <;> rfl))|(apply ev_wr;rfl;rfl;(simp +decide only [go_sem, hF] <;> rfl))|(apply ev_st;rfl;rfl;(simp +decide only [go_sem, hF] <;> rfl))|(apply ev_yes;rfl;rfl;(simp +decide only [go_sem, hF] <;> rfl))|(apply ev_nt;rfl;rfl;(simp +decide only [go_sem, hF] <;> rfl))|(apply ev_no;rfl;rfl;(refine Or.inl ?_;(simp +decide only [go_sem, hF] <;> rfl)))|(apply ev_guard;rfl;rfl;(simp +decide only [go_sem, hF] <;> rfl);intro _;rotate_left;intro _;rotate_right)|(apply wp_ift;(simp +decide only [go_sem, hF] <;> rfl))|(apply wp_iff;(simp +decide only [go_sem, hF] <;> rfl))|(apply wp_ifu;(simp +decide only [go_sem, hF] <;> rfl);intro _;rotate_left;intro _;rotate_right)|(apply wp_if;(simp +decide only [go_sem, hF] <;> rfl);intro _;rotate_left;intro _;rotate_right)|apply on_n|apply th_r|apply th_e|apply bl_n|apply bl_r|apply bl_e|(apply bl_o;(rfl))|apply wp_sk|apply wp_lb|apply wp_rt|apply wp_ex|(apply bq_r;(simp +decide only [go_sem, hF] <;> rfl))|(apply bq_n;(simp +decide only [go_sem, hF] <;> rfl))))
      rw [nstL_zero (by intro e; rw [e] at h; simp at h)]; rfl
    · have e1 : decide ((l.length : Int) < (l.length : Int)) = false := by simp
      have e2 : l = [] := List.eq_nil_of_length_eq_zero hC
      have e3 : IntKind.i64.wrap (0 + 1) = 1 := rfl
      (have hF := And.intro e1 e3; repeat' (first|apply th_n|apply wp_sq|apply wp_blk|apply wp_reg|apply wp_regd|(apply nm_and;kernel_rfl)|apply ev_nil|(apply ev_val;rfl;rfl;(simp +decide only [go_sem, hF, min_if] <;> rfl))|(apply ev_wr;rfl;rfl;(simp +decide only [go_sem, hF, min_if] <;> rfl))|(apply ev_st;rfl;rfl;(simp +decide only [go_sem, hF, min_if] <;> rfl))|(apply ev_yes;rfl;rfl;(simp +decide only [go_sem, hF, min_if] <;> rfl))|(apply ev_nt;rfl;rfl;(simp +decide only [go_sem, hF, min_if] <;> rfl))|(apply ev_no;rfl;rfl;(refine Or.inl ?_;(simp +decide only [go_sem, hF, min_if] <;> rfl)))|(apply ev_guard;rfl;rfl;(simp +decide only [go_sem, hF, min_if] <;> rfl);intro _;rotate_left;intro _;rotate_right)|(apply wp_ift;(simp +decide only [go_sem, hF, min_if] <;> rfl))|(apply wp_iff;(simp +decide only [go_sem, hF, min_if] <;> rfl))|(apply wp_ifu;(simp +decide only [go_sem, hF, min_if] <;> rfl);intro _;rotate_left;intro _;rotate_right)|(apply wp_if;(simp +decide only [go_sem, hF, min_if] <;> rfl);intro _;rotate_left;intro _;rotate_right)|apply on_n|apply th_r|apply th_e|apply bl_n|apply bl_r|apply bl_e|(apply bl_o;(rfl))|apply wp_sk|apply wp_lb|apply wp_rt|apply wp_ex|(apply bq_r;(simp +decide only [go_sem, hF, min_if] <;> rfl))|(apply bq_n;(simp +decide only [go_sem, hF, min_if] <;> rfl))))
      rw [e2]; rfl
  | succ r ih =>
    rintro hr ⟨op, n, a, s, l⟩ hx
    obtain ⟨-, -, -, -, hl, hk⟩ := hx.parts
    have ih : ∀ y ∈ l, PC Tryd.prog 39 [.agg (rowE.toC y), .int .i64 ((r + 1 : Nat) : Int)] (.int .i64 (nst (r + 1) y)) := fun y hy => ih (by omega) y (hk y hy)
    rw [Exp.cells_mk, nst_succ]
    refine pc_of_pwp _ Tryd.func39 rfl Tryd.results39 (by kernel_rfl) ?_
    (repeat' (first|apply th_n|apply wp_sq|apply wp_blk|apply wp_reg|apply wp_regd|(apply nm_and;kernel_rfl)|apply ev_nil|(apply ev_val;rfl;rfl;(simp +decide only [go_sem] <;> rfl))|(apply ev_wr;rfl;rfl;(simp +decide only [go_sem] <;> rfl))|(apply ev_st;rfl;rfl;(simp +decide only [go_sem] <;> rfl))|(apply ev_yes;rfl;rfl;(simp +decide only [go_sem] <;> rfl))|(apply ev_nt;rfl;rfl;(simp +decide only [go_sem] <;> rfl))|(apply ev_no;rfl;rfl;(refine Or.inl ?_;(simp +decide only [go_sem] <;> rfl)))|(apply ev_guard;rfl;rfl;(simp +decide only [go_sem] <;> rfl);intro _;rotate_left;intro _;rotate_right)|(apply wp_ift;(simp +decide only [go_sem] <;> rfl))|(apply wp_iff;(simp +decide only [go_sem] <;> rfl))|(apply wp_ifu;(simp +decide only [go_sem] <;> rfl);intro _;rotate_left;intro _;rotate_right)|(apply wp_if;(simp +decide only [go_sem] <;> rfl);intro _;rotate_left;intro _;rotate_right)|apply on_n|apply th_r|apply th_e|apply bl_n|apply bl_r|apply bl_e|(apply bl_o;(rfl))|apply wp_sk|apply wp_lb|apply wp_rt|apply wp_ex|(apply bq_r;(simp +decide only [go_sem] <;> rfl))|(apply bq_n;(simp +decide only [go_sem] <;> rfl))))
    refine wp_for l.length (fun i => [(1, .d (.int .i64 ((r + 1 + 1 : Nat) : Int))), (5, .d (.int .i64 (nstL (r + 1) (l.take i)))), (9, .d (.sl l.length (rowE.cs l))), (10, .d (.int .i64 l.length)), (11, .d (.int .i64 i))]) (fun _ => []) (fun _ => True)
      (Cv.keepH _ _ (by (repeat' (first | exact trivial | apply And.intro | ((simp +decide only [go_sem] <;> rfl)) | rfl))) (by (repeat' (first | exact trivial | apply And.intro | ((simp +decide only [go_sem] <;> rfl)) | rfl))) rfl) trivial (fun i h hC => ?_) (fun hC => ?_)
    · have e1 := rnd (R := rowE) (n := 5) h rfl hl
      have e2 : decide (((r + 1 + 1 : Nat) : Int) ≤ 1) = false := decide_eq_false (by omega)
      have e3 : IntKind.i64.wrap (((r + 1 + 1 : Nat) : Int) - 1) = ((r + 1 : Nat) : Int) := by rw [wrap_in (by omega)]; omega
      have hc := ih l[i] (List.getElem_mem h)
      have ht := nstL_take (r := r + 1) h
      (have hF := And.intro e1 (And.intro e2 e3); repeat' (first|apply th_n|apply wp_sq|apply wp_blk|apply wp_reg|apply wp_regd|(apply nm_and;kernel_rfl)|apply ev_nil|(apply ev_val;rfl;rfl;(simp +decide only [go_sem, hF, max_if] <;> rfl))|(apply ev_call;rfl;rfl;rfl;(simp +decide only [go_sem, hF, max_if] <;> rfl);(simp +decide only [go_sem, hF, max_if] <;> rfl);(first|exact hc))|(apply ev_wr;rfl;rfl;(simp +decide only [go_sem, hF, max_if] <;> rfl))|(apply ev_st;rfl;rfl;(simp +decide only [go_sem, hF, max_if] <;> rfl))|(apply ev_yes;rfl;rfl;(simp +decide only [go_sem, hF, max_if] <;> rfl))|(apply ev_nt;rfl;rfl;(simp +decide only [go_sem, hF, max_if] <;> rfl))|(apply ev_no;rfl;rfl;(refine Or.inl ?_;(simp +decide only [go_sem, hF, max_if] <;> rfl)))|(apply ev_guard;rfl;rfl;(simp +decide only [go_sem, hF, max_if] <;> rfl);intro _;rotate_left;intro _;rotate_right)|(apply wp_ift;(simp +decide only [go_sem, hF, max_if] <;> rfl))|(apply wp_iff;(simp +decide only [go_sem, hF, max_if] <;> rfl))|(apply wp_ifu;(simp +decide only [go_sem, hF, max_if] <;> rfl);intro _;rotate_left;intro _;rotate_right)|(apply wp_if;(simp +decide only [go_sem, hF, max_if] <;> rfl);intro _;rotate_left;intro _;rotate_right)|apply on_n|apply th_r|apply th_e|apply bl_n|apply bl_r|apply bl_e|(apply bl_o;(rfl))|apply wp_sk|apply wp_lb|apply wp_rt|apply wp_ex|(apply bq_r;(simp +decide only [go_sem, hF, max_if] <;> rfl))|(apply bq_n;(simp +decide only [go_sem, hF, max_if] <;> rfl))))
      exact ⟨Cv.keepH _ _ (by rw [ht]; (repeat' (first | exact trivial | apply And.intro | ((simp +decide only [go_sem] <;> rfl)) | rfl))) (by (repeat' (first | exact trivial | apply And.intro | ((simp +decide only [go_sem] <;> rfl)) | rfl))) rfl, trivial⟩
    · have e1 : decide ((l.length : Int) < (l.length : Int)) = false := by simp
      have hin := nstL_in (r + 1) l
      rw [List.take_length]
      have e3 : IntKind.i64.wrap (nstL (r + 1) l + 1) = nstL (r + 1) l + 1 := wrap_in (by omega)
      (have hF := And.intro e1 e3; repeat' (first|apply th_n|apply wp_sq|apply wp_blk|apply wp_reg|apply wp_regd|(apply nm_and;kernel_rfl)|apply ev_nil|(apply ev_val;rfl;rfl;(simp +decide only [go_sem, hF, min_if] <;> rfl))|(apply ev_wr;rfl;rfl;(simp +decide only [go_sem, hF, min_if] <;> rfl))|(apply ev_st;rfl;rfl;(simp +decide only [go_sem, hF, min_if] <;> rfl))|(apply ev_yes;rfl;rfl;(simp +decide only [go_sem, hF, min_if] <;> rfl))|(apply ev_nt;rfl;rfl;(simp +decide only [go_sem, hF, min_if] <;> rfl))|(apply ev_no;rfl;rfl;(refine Or.inl ?_;(simp +decide only [go_sem, hF, min_if] <;> rfl)))|(apply ev_guard;rfl;rfl;(simp +decide only [go_sem, hF, min_if] <;> rfl);intro _;rotate_left;intro _;rotate_right)|(apply wp_ift;(simp +decide only [go_sem, hF, min_if] <;> rfl))|(apply wp_iff;(simp +decide only [go_sem, hF, min_if] <;> rfl))|(apply wp_ifu;(simp +decide only [go_sem, hF, min_if] <;> rfl);intro _;rotate_left;intro _;rotate_right)|(apply wp_if;(simp +decide only [go_sem, hF, min_if] <;> rfl);intro _;rotate_left;intro _;rotate_right)|apply on_n|apply th_r|apply th_e|apply bl_n|apply bl_r|apply bl_e|(apply bl_o;(rfl))|apply wp_sk|apply wp_lb|apply wp_rt|apply wp_ex|(apply bq_r;(simp +decide only [go_sem, hF, min_if] <;> rfl))|(apply bq_n;(simp +decide only [go_sem, hF, min_if] <;> rfl))))
      rfl
theorem Nest_pc (x : Exp) (hx : x.Ok) : PC Tryd.prog 19 [.agg x.cells] (.int .i64 (nst 1000 x)) := by
  have hc : PC Tryd.prog 39 [.agg x.cells, .int .i64 1000] (.int .i64 (nst 1000 x)) := nest_pc 999 (by omega) x hx
  obtain ⟨op, n, a, s, l⟩ := x
  generalize nst 1000 (Exp.mk op n a s l) = y at *
  rw [Exp.cells_mk] at *
  refine pc_of_pwp _ Tryd.func19 rfl Tryd.results19 (by kernel_rfl) ?_
  (repeat' (first|apply th_n|apply wp_sq|apply wp_blk|apply wp_reg|apply wp_regd|(apply nm_and;kernel_rfl)|apply ev_nil|(apply ev_val;rfl;rfl;(simp +decide only [go_sem] <;> rfl))|(apply ev_call;rfl;rfl;rfl;(simp +decide only [go_sem] <;> rfl);(simp +decide only [go_sem] <;> rfl);(first|exact hc))|(apply ev_wr;rfl;rfl;(simp +decide only [go_sem] <;> rfl))|(apply ev_st;rfl;rfl;(simp +decide only [go_sem] <;> rfl))|(apply ev_yes;rfl;rfl;(simp +decide only [go_sem] <;> rfl))|(apply ev_nt;rfl;rfl;(simp +decide only [go_sem] <;> rfl))|(apply ev_no;rfl;rfl;(refine Or.inl ?_;(simp +decide only [go_sem] <;> rfl)))|(apply ev_guard;rfl;rfl;(simp +decide only [go_sem] <;> rfl);intro _;rotate_left;intro _;rotate_right)|(apply wp_ift;(simp +decide only [go_sem] <;> rfl))|(apply wp_iff;(simp +decide only [go_sem] <;> rfl))|(apply wp_ifu;(simp +decide only [go_sem] <;> rfl);intro _;rotate_left;intro _;rotate_right)|(apply wp_if;(simp +decide only [go_sem] <;> rfl);intro _;rotate_left;intro _;rotate_right)|apply on_n|apply th_r|apply th_e|apply bl_n|apply bl_r|apply bl_e|(apply bl_o;(rfl))|apply wp_sk|apply wp_lb|apply wp_rt|apply wp_ex|(apply bq_r;(simp +decide only [go_sem] <;> rfl))|(apply bq_n;(simp +decide only [go_sem] <;> rfl))))
  rfl
set_option maxHeartbeats 1000000 in
theorem Rnest_pc : ∀ (r : Nat), r ≤ 1000 → ∀ (x : Exp), x.Ok → PC Tryd.prog 42 [.agg x.cells, .int .i64 (r : Int)] (.int .i64 (nst r x)) := by
  intro r
  induction r with
  | zero =>
    rintro - ⟨op, n, a, s, l⟩ hx
    rw [Exp.cells_mk, nst]
    refine pc_of_pwp _ Tryd.func42 rfl Tryd.results42 (by kernel_rfl) ?_
    have e2 : (((0 : Nat) : Int) == 0) = true := rfl
    (repeat' (first|apply th_n|apply wp_sq|apply wp_blk|apply wp_reg|apply wp_regd|(apply nm_and;kernel_rfl)|apply ev_nil|(apply ev_val;rfl;rfl;(simp +decide only [go_sem, e2] <;> rfl))|(apply ev_wr;rfl;rfl;(simp +decide only [go_sem, e2] <;> rfl))|(apply ev_st;rfl;rfl;(simp +decide only [go_sem, e2] <;> rfl))|(apply ev_yes;rfl;rfl;(simp +decide only [go_sem, e2] <;> rfl))|(apply ev_nt;rfl;rfl;(simp +decide only [go_sem, e2] <;> rfl))|(apply ev_no;rfl;rfl;(refine Or.inl ?_;(simp +decide only [go_sem, e2] <;> rfl)))|(apply ev_guard;rfl;rfl;(simp +decide only [go_sem, e2] <;> rfl);intro _;rotate_left;intro _;rotate_right)|(apply wp_ift;(simp +decide only [go_sem, e2] <;> rfl))|(apply wp_iff;(simp +decide only [go_sem, e2] <;> rfl))|(apply wp_ifu;(simp +decide only [go_sem, e2] <;> rfl);intro _;rotate_left;intro _;rotate_right)|(apply wp_if;(simp +decide only [go_sem, e2] <;> rfl);intro _;rotate_left;intro _;rotate_right)|apply on_n|apply th_r|apply th_e|apply bl_n|apply bl_r|apply bl_e|(apply bl_o;(rfl))|apply wp_sk|apply wp_lb|apply wp_rt|apply wp_ex|(apply bq_r;(simp +decide only [go_sem, e2] <;> rfl))|(apply bq_n;(simp +decide only [go_sem, e2] <;> rfl))))
    rfl
  | succ r ih =>
    rintro hr ⟨op, n, a, s, l⟩ hx
    obtain ⟨-, -, -, -, hl, hk⟩ := hx.parts
    have ih : ∀ y ∈ l, PC Tryd.prog 42 [.agg (rowE.toC y), .int .i64 (r : Int)] (.int .i64 (nst r y)) := fun y hy => ih (by omega) y (hk y hy)
    have e2 : (((r + 1 : Nat) : Int) == 0) = false := by simp; omega
    rw [Exp.cells_mk, nst_succ]
    refine pc_of_pwp _ Tryd.func42 rfl Tryd.results42 (by kernel_rfl) ?_
    (repeat' (first|apply th_n|apply wp_sq|apply wp_blk|apply wp_reg|apply wp_regd|(apply nm_and;kernel_rfl)|apply ev_nil|(apply ev_val;rfl;rfl;(simp +decide only [go_sem, e2] <;> rfl))|(apply ev_wr;rfl;rfl;(simp +decide only [go_sem, e2] <;> rfl))|(apply ev_st;rfl;rfl;(simp +decide only [go_sem, e2] <;> rfl))|(apply ev_yes;rfl;rfl;(simp +decide only [go_sem, e2] <;> rfl))|(apply ev_nt;rfl;rfl;(simp +decide only [go_sem, e2] <;> rfl))|(apply ev_no;rfl;rfl;(refine Or.inl ?_;(simp +decide only [go_sem, e2] <;> rfl)))|(apply ev_guard;rfl;rfl;(simp +decide only [go_sem, e2] <;> rfl);intro _;rotate_left;intro _;rotate_right)|(apply wp_ift;(simp +decide only [go_sem, e2] <;> rfl))|(apply wp_iff;(simp +decide only [go_sem, e2] <;> rfl))|(apply wp_ifu;(simp +decide only [go_sem, e2] <;> rfl);intro _;rotate_left;intro _;rotate_right)|(apply wp_if;(simp +decide only [go_sem, e2] <;> rfl);intro _;rotate_left;intro _;rotate_right)|apply on_n|apply th_r|apply th_e|apply bl_n|apply bl_r|apply bl_e|(apply bl_o;(rfl))|apply wp_sk|apply wp_lb|apply wp_rt|apply wp_ex|(apply bq_r;(simp +decide only [go_sem, e2] <;> rfl))|(apply bq_n;(simp +decide only [go_sem, e2] <;> rfl))))
    refine wp_for l.length (fun i => [(1, .d (.int .i64 ((r + 1 : Nat) : Int))), (2, .loc 2 0), (5, .d (.int .i64 (nstL r (l.take i)))), (6, .d (.int .i64 i))]) (fun _ => [(2, .box [.d (.int .i64 op), .d (.int .i64 n), .d (.str a), .d (.str s), .d (.sl l.length (rowE.cs l))])]) (fun _ => True)
      (Cv.keepH _ _ (by (repeat' (first | exact trivial | apply And.intro | ((simp +decide only [go_sem] <;> rfl)) | rfl))) (by (repeat' (first | exact trivial | apply And.intro | ((simp +decide only [go_sem] <;> rfl)) | rfl))) rfl) trivial (fun i h hC => ?_) (fun hC => ?_)
    · have e1 := rnd (R := rowE) (n := 5) h rfl hl
      have e3 : IntKind.i64.wrap (((r + 1 : Nat) : Int) - 1) = (r : Int) := by rw [wrap_in (by omega)]; omega
      have hc := ih l[i] (List.getElem_mem h)
      have ht := nstL_take (r := r) h
      by_cases hm : nst r l[i] > nstL r (l.take i)
      · have e4 : decide (nst r l[i] > nstL r (l.take i)) = true := decide_eq_true hm
        have e5 : nstL r (l.take (i + 1)) = nst r l[i] := by rw [ht]; omega
        (have hF := And.intro e1 (And.intro e3 e4); repeat' (first|apply th_n|apply wp_sq|apply wp_blk|apply wp_reg|apply wp_regd|(apply nm_and;kernel_rfl)|apply ev_nil|(apply ev_val;rfl;rfl;(simp +decide only [go_sem, hF] <;> rfl))|(apply ev_call;rfl;rfl;rfl;(simp +decide only [go_sem, hF] <;> rfl);(simp +decide only [go_sem, hF] <;> rfl);(first|exact hc))|(apply ev_wr;rfl;rfl;(simp +decide only [go_sem, hF] <;> rfl))|(apply ev_st;rfl;rfl;(simp +decide only [go_sem, hF] <;> rfl))|(apply ev_yes;rfl;rfl;(simp +decide only [go_sem, hF] <;> rfl))|(apply ev_nt;rfl;rfl;(simp +decide only [go_sem, hF] <;> rfl))|(apply ev_no;rfl;rfl;(refine Or.inl ?_;(simp +decide only [go_sem, hF] <;> rfl)))|(apply ev_guard;rfl;rfl;(simp +decide only [go_sem, hF] <;> rfl);intro _;rotate_left;intro _;rotate_right)|(apply wp_ift;(simp +decide only [go_sem, hF] <;> rfl))|(apply wp_iff;(simp +decide only [go_sem, hF] <;> rfl))|(apply wp_ifu;(simp +decide only [go_sem, hF] <;> rfl);intro _;rotate_left;intro _;rotate_right)|(apply wp_if;(simp +decide only [go_sem, hF] <;> rfl);intro _;rotate_left;intro _;rotate_right)|apply on_n|apply th_r|apply th_e|apply bl_n|apply bl_r|apply bl_e|(apply bl_o;(rfl))|apply wp_sk|apply wp_lb|apply wp_rt|apply wp_ex|(apply bq_r;(simp +decide only [go_sem, hF] <;> rfl))|(apply bq_n;(simp +decide only [go_sem, hF] <;> rfl))))
        exact ⟨Cv.keepH _ _ (by rw [e5]; (repeat' (first | exact trivial | apply And.intro | ((simp +decide only [go_sem] <;> rfl)) | rfl))) (by (repeat' (first | exact trivial | apply And.intro | ((simp +decide only [go_sem] <;> rfl)) | rfl))) rfl, trivial⟩
      · have e4 : decide (nst r l[i] > nstL r (l.take i)) = false := decide_eq_false hm
        have e5 : nstL r (l.take (i + 1)) = nstL r (l.take i) := by rw [ht]; omega
        (have hF := And.intro e1 (And.intro e3 e4); repeat' (first|apply th_n|apply wp_sq|apply wp_blk|apply wp_reg|apply wp_regd|(apply nm_and;kernel_rfl)|apply ev_nil|(apply ev_val;rfl;rfl;(simp +decide only [go_sem, hF] <;> rfl))|(apply ev_call;rfl;rfl;rfl;(simp +decide only [go_sem, hF] <;> rfl);(simp +decide only [go_sem, hF] <;> rfl);(first|exact hc))|(apply ev_wr;rfl;rfl;(simp +decide only [go_sem, hF] <;> rfl))|(apply ev_st;rfl;rfl;(simp +decide only [go_sem, hF] <;> rfl))|(apply ev_yes;rfl;rfl;(simp +decide only [go_sem, hF] <;> rfl))|(apply ev_nt;rfl;rfl;(simp +decide only [go_sem, hF] <;> rfl))|(apply ev_no;rfl;rfl;(refine Or.inl ?_;(simp +decide only [go_sem, hF] <;> rfl)))|(apply ev_guard;rfl;rfl;(simp +decide only [go_sem, hF] <;> rfl);intro _;rotate_left;intro _;rotate_right)|(apply wp_ift;(simp +decide only [go_sem, hF] <;> rfl))|(apply wp_iff;(simp +decide only [go_sem, hF] <;> rfl))|(apply wp_ifu;(simp +decide only [go_sem, hF] <;> rfl);intro _;rotate_left;intro _;rotate_right)|(apply wp_if;(simp +decide only [go_sem, hF] <;> rfl);intro _;rotate_left;intro _;rotate_right)|apply on_n|apply th_r|apply th_e|apply bl_n|apply bl_r|apply bl_e|(apply bl_o;(rfl))|apply wp_sk|apply wp_lb|apply wp_rt|apply wp_ex|(apply bq_r;(simp +decide only [go_sem, hF] <;> rfl))|(apply bq_n;(simp +decide only [go_sem, hF] <;> rfl))))
        exact ⟨Cv.keepH _ _ (by rw [e5]; (repeat' (first | exact trivial | apply And.intro | ((simp +decide only [go_sem] <;> rfl)) | rfl))) (by (repeat' (first | exact trivial | apply And.intro | ((simp +decide only [go_sem] <;> rfl)) | rfl))) rfl, trivial⟩
    · have e1 : decide ((l.length : Int) < (l.length : Int)) = false := by simp
      have hin := nstL_in r l
      rw [List.take_length]
      have e3 : IntKind.i64.wrap (nstL r l + 1) = nstL r l + 1 := wrap_in (by omega)
      (have hF := And.intro e1 e3; repeat' (first|apply th_n|apply wp_sq|apply wp_blk|apply wp_reg|apply wp_regd|(apply nm_and;kernel_rfl)|apply ev_nil|(apply ev_val;rfl;rfl;(simp +decide only [go_sem, hF] <;> rfl))|(apply ev_wr;rfl;rfl;(simp +decide only [go_sem, hF] <;> rfl))|(apply ev_st;rfl;rfl;(simp +decide only [go_sem, hF] <;> rfl))|(apply ev_yes;rfl;rfl;(simp +decide only [go_sem, hF] <;> rfl))|(apply ev_nt;rfl;rfl;(simp +decide only [go_sem, hF] <;> rfl))|(apply ev_no;rfl;rfl;(refine Or.inl ?_;(simp +decide only [go_sem, hF] <;> rfl)))|(apply ev_guard;rfl;rfl;(simp +decide only [go_sem, hF] <;> rfl);intro _;rotate_left;intro _;rotate_right)|(apply wp_ift;(simp +decide only [go_sem, hF] <;> rfl))|(apply wp_iff;(simp +decide only [go_sem, hF] <;> rfl))|(apply wp_ifu;(simp +decide only [go_sem, hF] <;> rfl);intro _;rotate_left;intro _;rotate_right)|(apply wp_if;(simp +decide only [go_sem, hF] <;> rfl);intro _;rotate_left;intro _;rotate_right)|apply on_n|apply th_r|apply th_e|apply bl_n|apply bl_r|apply bl_e|(apply bl_o;(rfl))|apply wp_sk|apply wp_lb|apply wp_rt|apply wp_ex|(apply bq_r;(simp +decide only [go_sem, hF] <;> rfl))|(apply bq_n;(simp +decide only [go_sem, hF] <;> rfl))))
      · show D.int _ _ = D.int _ _
        rename_i hd
        have := of_decide_eq_true hd
        congr 1; omega
      · show D.int _ _ = D.int _ _
        rename_i hd
        have := of_decide_eq_false hd
        congr 1; omega
theorem RNest_pc (x : Exp) (hx : x.Ok) : PC Tryd.prog 23 [.agg x.cells] (.int .i64 (nst 1000 x)) := by
  have hc : PC Tryd.prog 42 [.agg x.cells, .int .i64 1000] (.int .i64 (nst 1000 x)) := Rnest_pc 1000 (by omega) x hx
  obtain ⟨op, n, a, s, l⟩ := x
  generalize nst 1000 (Exp.mk op n a s l) = y at *
  rw [Exp.cells_mk] at *
  refine pc_of_pwp _ Tryd.func23 rfl Tryd.results23 (by kernel_rfl) ?_
  (repeat' (first|apply th_n|apply wp_sq|apply wp_blk|apply wp_reg|apply wp_regd|(apply nm_and;kernel_rfl)|apply ev_nil|(apply ev_val;rfl;rfl;(simp +decide only [go_sem] <;> rfl))|(apply ev_call;rfl;rfl;rfl;(simp +decide only [go_sem] <;> rfl);(simp +decide only [go_sem] <;> rfl);(first|exact hc))|(apply ev_wr;rfl;rfl;(simp +decide only [go_sem] <;> rfl))|(apply ev_st;rfl;rfl;(simp +decide only [go_sem] <;> rfl))|(apply ev_yes;rfl;rfl;(simp +decide only [go_sem] <;> rfl))|(apply ev_nt;rfl;rfl;(simp +decide only [go_sem] <;> rfl))|(apply ev_no;rfl;rfl;(refine Or.inl ?_;(simp +decide only [go_sem] <;> rfl)))|(apply ev_guard;rfl;rfl;(simp +decide only [go_sem] <;> rfl);intro _;rotate_left;intro _;rotate_right)|(apply wp_ift;(simp +decide only [go_sem] <;> rfl))|(apply wp_iff;(simp +decide only [go_sem] <;> rfl))|(apply wp_ifu;(simp +decide only [go_sem] <;> rfl);intro _;rotate_left;intro _;rotate_right)|(apply wp_if;(simp +decide only [go_sem] <;> rfl);intro _;rotate_left;intro _;rotate_right)|apply on_n|apply th_r|apply th_e|apply bl_n|apply bl_r|apply bl_e|(apply bl_o;(rfl))|apply wp_sk|apply wp_lb|apply wp_rt|apply wp_ex|(apply bq_r;(simp +decide only [go_sem] <;> rfl))|(apply bq_n;(simp +decide only [go_sem] <;> rfl))))
  rfl
/-- How many within, and which fields, an expression has. -/
def shp (op : Int) : Int × Int × Bool × Bool × Bool :=
  if op = 0 then (0, 0, true, false, false) else if op = 1 ∨ op = 2 ∨ op = 11 then (0, 0, false, false, false)
  else if op = 3 ∨ op = 4 ∨ op = 7 ∨ op = 8 ∨ op = 9 then (0, 0, false, true, false) else if op = 5 then (0, 0, false, true, true)
  else if op = 6 then (1, 4, false, false, false) else if op = 10 then (1, 1, false, true, false) else if op = 12 then (1, 1, true, false, false)
  else if op = 13 ∨ op = 14 then (1, 1, false, false, false) else if op = 25 then (3, 3, false, false, false) else (2, 2, false, false, false)
set_option maxHeartbeats 2000000 in
theorem shape_pc (op n : Int) (a s : ByteArray) (l : List Exp) : PC Tryd.prog 99 [.agg [.int .i64 op, .int .i64 n, .str a, .str s, .sl l.length (rowE.cs l)]]
    (.tup [.int .i64 (shp op).1, .int .i64 (shp op).2.1, .bool (shp op).2.2.1, .bool (shp op).2.2.2.1, .bool (shp op).2.2.2.2]) := by
  refine pc_of_pwp _ Tryd.func99 rfl Tryd.results99 (by kernel_rfl) ?_
  (repeat' (first|apply th_n|apply wp_sq|apply wp_blk|apply wp_reg|apply wp_regd|(apply nm_and;kernel_rfl)|apply ev_nil|(apply ev_val;rfl;rfl;(simp +decide only [go_sem] <;> rfl))|(apply ev_wr;rfl;rfl;(simp +decide only [go_sem] <;> rfl))|(apply ev_st;rfl;rfl;(simp +decide only [go_sem] <;> rfl))|(apply ev_yes;rfl;rfl;(simp +decide only [go_sem] <;> rfl))|(apply ev_nt;rfl;rfl;(simp +decide only [go_sem] <;> rfl))|(apply ev_no;rfl;rfl;(refine Or.inl ?_;(simp +decide only [go_sem] <;> rfl)))|(apply ev_guard;rfl;rfl;(simp +decide only [go_sem] <;> rfl);intro _;rotate_left;intro _;rotate_right)|(apply wp_ift;(simp +decide only [go_sem] <;> rfl))|(apply wp_iff;(simp +decide only [go_sem] <;> rfl))|(apply wp_ifu;(simp +decide only [go_sem] <;> rfl);intro _;rotate_left;intro _;rotate_right)|(apply wp_if;(simp +decide only [go_sem] <;> rfl);intro _;rotate_left;intro _;rotate_right)|apply on_n|apply th_r|apply th_e|apply bl_n|apply bl_r|apply bl_e|(apply bl_o;(rfl))|apply wp_sk|apply wp_lb|apply wp_rt|apply wp_ex|(apply bq_r;(simp +decide only [go_sem] <;> rfl))|(apply bq_n;(simp +decide only [go_sem] <;> rfl))))
  all_goals simp only [beq_iff_eq, beq_eq_false_iff_ne, ne_eq] at *
  all_goals simp [packD, shp, *]
/-- Is an expression right, what is within it aside? -/
def flatE (op n : Int) (a s : ByteArray) (k : Nat) : Bool :=
  !(decide (op < 0) || decide (op > 25) || decide ((k : Int) < (shp op).1) || decide ((k : Int) > (shp op).2.1)) && !(decide (n < 0) || (decide (n > 0) && !(shp op).2.2.1) || (op == 12 && decide (n ≥ 4))) &&
  !(((shp op).2.2.2.1 && op == 3 && !nameB a.data.toList) || ((shp op).2.2.2.1 && op != 3 && !nameA a) || (!(shp op).2.2.2.1 && !(a.toList == (⟨#[]⟩ : ByteArray).toList))) &&
  (((shp op).2.2.2.2 && nameA s) || (!(shp op).2.2.2.2 && (s.toList == (⟨#[]⟩ : ByteArray).toList)))
theorem flatE_parts (op n : Int) (a s : ByteArray) (k : Nat) : ∃ A1 A2 A3 A4 : Bool, A1 = (decide (op < 0) || decide (op > 25) || decide ((k : Int) < (shp op).1) || decide ((k : Int) > (shp op).2.1)) ∧
    A2 = (decide (n < 0) || (decide (n > 0) && !(shp op).2.2.1) || (op == 12 && decide (n ≥ 4))) ∧
    A3 = (((shp op).2.2.2.1 && op == 3 && !nameB a.data.toList) || ((shp op).2.2.2.1 && op != 3 && !nameA a) || (!(shp op).2.2.2.1 && !(a.toList == (⟨#[]⟩ : ByteArray).toList))) ∧
    A4 = (((shp op).2.2.2.2 && nameA s) || (!(shp op).2.2.2.2 && (s.toList == (⟨#[]⟩ : ByteArray).toList))) ∧ flatE op n a s k = (!A1 && !A2 && !A3 && A4) := ⟨_, _, _, _, rfl, rfl, rfl, rfl, rfl⟩
set_option maxHeartbeats 4000000 in
theorem flat_pc (op n : Int) (a s : ByteArray) (l : List Exp) (ha : a.size ≤ maxLen) (hs : s.size ≤ maxLen) : PC Tryd.prog 57 [.agg [.int .i64 op, .int .i64 n, .str a, .str s, .sl l.length (rowE.cs l)]] (.bool (flatE op n a s l.length)) := by
  have h1 := shape_pc op n a s l
  have h2 := Name_pc a ha
  have h3 := Name_pc' a ha
  have h4 := Name_pc' s hs
  obtain ⟨A1, A2, A3, A4, hA1, hA2, hA3, hA4, hfl⟩ := flatE_parts op n a s l.length
  rw [hfl]
  clear hfl
  generalize shp op = sh at *
  obtain ⟨sl, sm, s1, s2, s3⟩ := sh
  simp only at hA1 hA2 hA3 hA4 h1
  generalize nameB a.data.toList = na at *
  generalize nameA a = nb at *
  generalize nameA s = ns at *
  refine pc_of_pwp _ Tryd.func57 rfl Tryd.results57 (by kernel_rfl) ?_
  (repeat' (first|(refine wp_cut (x := .region 2 _ _) (fun f H => f = frm [(1, .loc 1 0), (5, .d (.bool s1)), (6, .d (.bool s2)), (7, .d (.bool s3)), (16, .d (.bool A1))] ∧ H = hpm [(1, .box [.d (.int .i64 op), .d (.int .i64 n), .d (.str a), .d (.str s), .d (.sl l.length (rowE.cs l))])]) ?_ ?_)|(refine wp_cut (x := .block 0 _) (fun f H => f = frm [(1, .loc 1 0), (7, .d (.bool s3))] ∧ H = hpm [(1, .box [.d (.int .i64 op), .d (.int .i64 n), .d (.str a), .d (.str s), .d (.sl l.length (rowE.cs l))])] ∧ A1 = false ∧ A2 = false ∧ A3 = false) ?_ ?_)|apply th_n|apply wp_sq|apply wp_blk|apply wp_reg|apply wp_regd|(apply nm_and;kernel_rfl)|apply ev_nil|(apply ev_val;rfl;rfl;(simp +decide only [go_sem] <;> rfl))|(apply ev_call;rfl;rfl;rfl;(simp +decide only [go_sem] <;> rfl);(simp +decide only [go_sem] <;> rfl);(first|exact h1))|(apply ev_wr;rfl;rfl;(simp +decide only [go_sem] <;> rfl))|(apply ev_st;rfl;rfl;(simp +decide only [go_sem] <;> rfl))|(apply ev_yes;rfl;rfl;(simp +decide only [go_sem] <;> rfl))|(apply ev_nt;rfl;rfl;(simp +decide only [go_sem] <;> rfl))|(apply ev_no;rfl;rfl;(refine Or.inl ?_;(simp +decide only [go_sem] <;> rfl)))|(apply ev_guard;rfl;rfl;(simp +decide only [go_sem] <;> rfl);intro _;rotate_left;intro _;rotate_right)|(apply wp_ift;(simp +decide only [go_sem] <;> rfl))|(apply wp_iff;(simp +decide only [go_sem] <;> rfl))|(apply wp_ifu;(simp +decide only [go_sem] <;> rfl);intro _;rotate_left;intro _;rotate_right)|(apply wp_if;(simp +decide only [go_sem] <;> rfl);intro _;rotate_left;intro _;rotate_right)|apply on_n|apply th_r|apply th_e|apply bl_n|apply bl_r|apply bl_e|(apply bl_o;(rfl))|apply wp_sk|apply wp_lb|apply wp_rt|apply wp_ex|(apply bq_r;(simp +decide only [go_sem] <;> rfl))|(apply bq_n;(simp +decide only [go_sem] <;> rfl))))
  · rintro f H ⟨rfl, rfl, e1, e2, e3⟩
    (repeat' (first|apply th_n|apply wp_sq|apply wp_blk|apply wp_reg|apply wp_regd|(apply nm_and;kernel_rfl)|apply ev_nil|(apply ev_val;rfl;rfl;(simp +decide only [go_sem] <;> rfl))|(apply ev_call;rfl;rfl;rfl;(simp +decide only [go_sem] <;> rfl);(simp +decide only [go_sem] <;> rfl);(first|exact h4))|(apply ev_wr;rfl;rfl;(simp +decide only [go_sem] <;> rfl))|(apply ev_st;rfl;rfl;(simp +decide only [go_sem] <;> rfl))|(apply ev_yes;rfl;rfl;(simp +decide only [go_sem] <;> rfl))|(apply ev_nt;rfl;rfl;(simp +decide only [go_sem] <;> rfl))|(apply ev_no;rfl;rfl;(refine Or.inl ?_;(simp +decide only [go_sem] <;> rfl)))|(apply ev_guard;rfl;rfl;(simp +decide only [go_sem] <;> rfl);intro _;rotate_left;intro _;rotate_right)|(apply wp_ift;(simp +decide only [go_sem] <;> rfl))|(apply wp_iff;(simp +decide only [go_sem] <;> rfl))|(apply wp_ifu;(simp +decide only [go_sem] <;> rfl);intro _;rotate_left;intro _;rotate_right)|(apply wp_if;(simp +decide only [go_sem] <;> rfl);intro _;rotate_left;intro _;rotate_right)|apply on_n|apply th_r|apply th_e|apply bl_n|apply bl_r|apply bl_e|(apply bl_o;(rfl))|apply wp_sk|apply wp_lb|apply wp_rt|apply wp_ex|(apply bq_r;(simp +decide only [go_sem] <;> rfl))|(apply bq_n;(simp +decide only [go_sem] <;> rfl))))
    all_goals (rw [hA4, e1, e2, e3]; show D.bool _ = D.bool _; simp_all)
  · rintro f H ⟨rfl, rfl⟩
    cases A1
    rotate_left
    · (repeat' (first|apply th_n|apply wp_sq|apply wp_blk|apply wp_reg|apply wp_regd|(apply nm_and;kernel_rfl)|apply ev_nil|(apply ev_val;rfl;rfl;(simp +decide only [go_sem] <;> rfl))|(apply ev_wr;rfl;rfl;(simp +decide only [go_sem] <;> rfl))|(apply ev_st;rfl;rfl;(simp +decide only [go_sem] <;> rfl))|(apply ev_yes;rfl;rfl;(simp +decide only [go_sem] <;> rfl))|(apply ev_nt;rfl;rfl;(simp +decide only [go_sem] <;> rfl))|(apply ev_no;rfl;rfl;(refine Or.inl ?_;(simp +decide only [go_sem] <;> rfl)))|(apply ev_guard;rfl;rfl;(simp +decide only [go_sem] <;> rfl);intro _;rotate_left;intro _;rotate_right)|(apply wp_ift;(simp +decide only [go_sem] <;> rfl))|(apply wp_iff;(simp +decide only [go_sem] <;> rfl))|(apply wp_ifu;(simp +decide only [go_sem] <;> rfl);intro _;rotate_left;intro _;rotate_right)|(apply wp_if;(simp +decide only [go_sem] <;> rfl);intro _;rotate_left;intro _;rotate_right)|apply on_n|apply th_r|apply th_e|apply bl_n|apply bl_r|apply bl_e|(apply bl_o;(rfl))|apply wp_sk|apply wp_lb|apply wp_rt|apply wp_ex|(apply bq_r;(simp +decide only [go_sem] <;> rfl))|(apply bq_n;(simp +decide only [go_sem] <;> rfl))))
      rfl
    (repeat' (first|(refine wp_cut (x := .region 4 _ _) (fun f H => f = frm [(1, .loc 1 0), (6, .d (.bool s2)), (7, .d (.bool s3)), (39, .d (.bool A2))] ∧ H = hpm [(1, .box [.d (.int .i64 op), .d (.int .i64 n), .d (.str a), .d (.str s), .d (.sl l.length (rowE.cs l))])]) ?_ ?_)|apply th_n|apply wp_sq|apply wp_blk|apply wp_reg|apply wp_regd|(apply nm_and;kernel_rfl)|apply ev_nil|(apply ev_val;rfl;rfl;(simp +decide only [go_sem] <;> rfl))|(apply ev_wr;rfl;rfl;(simp +decide only [go_sem] <;> rfl))|(apply ev_st;rfl;rfl;(simp +decide only [go_sem] <;> rfl))|(apply ev_yes;rfl;rfl;(simp +decide only [go_sem] <;> rfl))|(apply ev_nt;rfl;rfl;(simp +decide only [go_sem] <;> rfl))|(apply ev_no;rfl;rfl;(refine Or.inl ?_;(simp +decide only [go_sem] <;> rfl)))|(apply ev_guard;rfl;rfl;(simp +decide only [go_sem] <;> rfl);intro _;rotate_left;intro _;rotate_right)|(apply wp_ift;(simp +decide only [go_sem] <;> rfl))|(apply wp_iff;(simp +decide only [go_sem] <;> rfl))|(apply wp_ifu;(simp +decide only [go_sem] <;> rfl);intro _;rotate_left;intro _;rotate_right)|(apply wp_if;(simp +decide only [go_sem] <;> rfl);intro _;rotate_left;intro _;rotate_right)|apply on_n|apply th_r|apply th_e|apply bl_n|apply bl_r|apply bl_e|(apply bl_o;(rfl))|apply wp_sk|apply wp_lb|apply wp_rt|apply wp_ex|(apply bq_r;(simp +decide only [go_sem] <;> rfl))|(apply bq_n;(simp +decide only [go_sem] <;> rfl))))
    · rintro f H ⟨rfl, rfl⟩
      cases A2
      rotate_left
      · (repeat' (first|apply th_n|apply wp_sq|apply wp_blk|apply wp_reg|apply wp_regd|(apply nm_and;kernel_rfl)|apply ev_nil|(apply ev_val;rfl;rfl;(simp +decide only [go_sem] <;> rfl))|(apply ev_wr;rfl;rfl;(simp +decide only [go_sem] <;> rfl))|(apply ev_st;rfl;rfl;(simp +decide only [go_sem] <;> rfl))|(apply ev_yes;rfl;rfl;(simp +decide only [go_sem] <;> rfl))|(apply ev_nt;rfl;rfl;(simp +decide only [go_sem] <;> rfl))|(apply ev_no;rfl;rfl;(refine Or.inl ?_;(simp +decide only [go_sem] <;> rfl)))|(apply ev_guard;rfl;rfl;(simp +decide only [go_sem] <;> rfl);intro _;rotate_left;intro _;rotate_right)|(apply wp_ift;(simp +decide only [go_sem] <;> rfl))|(apply wp_iff;(simp +decide only [go_sem] <;> rfl))|(apply wp_ifu;(simp +decide only [go_sem] <;> rfl);intro _;rotate_left;intro _;rotate_right)|(apply wp_if;(simp +decide only [go_sem] <;> rfl);intro _;rotate_left;intro _;rotate_right)|apply on_n|apply th_r|apply th_e|apply bl_n|apply bl_r|apply bl_e|(apply bl_o;(rfl))|apply wp_sk|apply wp_lb|apply wp_rt|apply wp_ex|(apply bq_r;(simp +decide only [go_sem] <;> rfl))|(apply bq_n;(simp +decide only [go_sem] <;> rfl))))
        rfl
      (repeat' (first|(refine wp_cut (x := .seq (.region 6 _ _) _) (fun f H => f = frm [(1, .loc 1 0), (7, .d (.bool s3)), (62, .d (.bool A3))] ∧ H = hpm [(1, .box [.d (.int .i64 op), .d (.int .i64 n), .d (.str a), .d (.str s), .d (.sl l.length (rowE.cs l))])]) ?_ ?_)|apply th_n|apply wp_sq|apply wp_blk|apply wp_reg|apply wp_regd|(apply nm_and;kernel_rfl)|apply ev_nil|(apply ev_val;rfl;rfl;(simp +decide only [go_sem] <;> rfl))|(apply ev_call;rfl;rfl;rfl;(simp +decide only [go_sem] <;> rfl);(simp +decide only [go_sem] <;> rfl);(first|exact h2|exact h3))|(apply ev_wr;rfl;rfl;(simp +decide only [go_sem] <;> rfl))|(apply ev_st;rfl;rfl;(simp +decide only [go_sem] <;> rfl))|(apply ev_yes;rfl;rfl;(simp +decide only [go_sem] <;> rfl))|(apply ev_nt;rfl;rfl;(simp +decide only [go_sem] <;> rfl))|(apply ev_no;rfl;rfl;(refine Or.inl ?_;(simp +decide only [go_sem] <;> rfl)))|(apply ev_guard;rfl;rfl;(simp +decide only [go_sem] <;> rfl);intro _;rotate_left;intro _;rotate_right)|(apply wp_ift;(simp +decide only [go_sem] <;> rfl))|(apply wp_iff;(simp +decide only [go_sem] <;> rfl))|(apply wp_ifu;(simp +decide only [go_sem] <;> rfl);intro _;rotate_left;intro _;rotate_right)|(apply wp_if;(simp +decide only [go_sem] <;> rfl);intro _;rotate_left;intro _;rotate_right)|apply on_n|apply th_r|apply th_e|apply bl_n|apply bl_r|apply bl_e|(apply bl_o;(rfl))|apply wp_sk|apply wp_lb|apply wp_rt|apply wp_ex|(apply bq_r;(simp +decide only [go_sem] <;> rfl))|(apply bq_n;(simp +decide only [go_sem] <;> rfl))))
      · rintro f H ⟨rfl, rfl⟩
        cases A3
        · (repeat' (first|apply th_n|apply wp_sq|apply wp_blk|apply wp_reg|apply wp_regd|(apply nm_and;kernel_rfl)|apply ev_nil|(apply ev_val;rfl;rfl;(simp +decide only [go_sem] <;> rfl))|(apply ev_wr;rfl;rfl;(simp +decide only [go_sem] <;> rfl))|(apply ev_st;rfl;rfl;(simp +decide only [go_sem] <;> rfl))|(apply ev_yes;rfl;rfl;(simp +decide only [go_sem] <;> rfl))|(apply ev_nt;rfl;rfl;(simp +decide only [go_sem] <;> rfl))|(apply ev_no;rfl;rfl;(refine Or.inl ?_;(simp +decide only [go_sem] <;> rfl)))|(apply ev_guard;rfl;rfl;(simp +decide only [go_sem] <;> rfl);intro _;rotate_left;intro _;rotate_right)|(apply wp_ift;(simp +decide only [go_sem] <;> rfl))|(apply wp_iff;(simp +decide only [go_sem] <;> rfl))|(apply wp_ifu;(simp +decide only [go_sem] <;> rfl);intro _;rotate_left;intro _;rotate_right)|(apply wp_if;(simp +decide only [go_sem] <;> rfl);intro _;rotate_left;intro _;rotate_right)|apply on_n|apply th_r|apply th_e|apply bl_n|apply bl_r|apply bl_e|(apply bl_o;(rfl))|apply wp_sk|apply wp_lb|apply wp_rt|apply wp_ex|(apply bq_r;(simp +decide only [go_sem] <;> rfl))|(apply bq_n;(simp +decide only [go_sem] <;> rfl))))
          exact ⟨_, _, Cv.keepH [(1, .loc 1 0), (7, .d (.bool s3))] [(1, .box [.d (.int .i64 op), .d (.int .i64 n), .d (.str a), .d (.str s), .d (.sl l.length (rowE.cs l))])] (by (repeat' (first | exact trivial | apply And.intro | ((simp +decide only [go_sem] <;> rfl)) | rfl))) (by (repeat' (first | exact trivial | apply And.intro | ((simp +decide only [go_sem] <;> rfl)) | rfl))) rfl, rfl, rfl, rfl, rfl, rfl⟩
        · (repeat' (first|apply th_n|apply wp_sq|apply wp_blk|apply wp_reg|apply wp_regd|(apply nm_and;kernel_rfl)|apply ev_nil|(apply ev_val;rfl;rfl;(simp +decide only [go_sem] <;> rfl))|(apply ev_wr;rfl;rfl;(simp +decide only [go_sem] <;> rfl))|(apply ev_st;rfl;rfl;(simp +decide only [go_sem] <;> rfl))|(apply ev_yes;rfl;rfl;(simp +decide only [go_sem] <;> rfl))|(apply ev_nt;rfl;rfl;(simp +decide only [go_sem] <;> rfl))|(apply ev_no;rfl;rfl;(refine Or.inl ?_;(simp +decide only [go_sem] <;> rfl)))|(apply ev_guard;rfl;rfl;(simp +decide only [go_sem] <;> rfl);intro _;rotate_left;intro _;rotate_right)|(apply wp_ift;(simp +decide only [go_sem] <;> rfl))|(apply wp_iff;(simp +decide only [go_sem] <;> rfl))|(apply wp_ifu;(simp +decide only [go_sem] <;> rfl);intro _;rotate_left;intro _;rotate_right)|(apply wp_if;(simp +decide only [go_sem] <;> rfl);intro _;rotate_left;intro _;rotate_right)|apply on_n|apply th_r|apply th_e|apply bl_n|apply bl_r|apply bl_e|(apply bl_o;(rfl))|apply wp_sk|apply wp_lb|apply wp_rt|apply wp_ex|(apply bq_r;(simp +decide only [go_sem] <;> rfl))|(apply bq_n;(simp +decide only [go_sem] <;> rfl))))
          rfl
      all_goals (refine ⟨_, _, Cv.keepH [(1, .loc 1 0), (7, .d (.bool s3)), (62, .d (.bool A3))] [(1, .box [.d (.int .i64 op), .d (.int .i64 n), .d (.str a), .d (.str s), .d (.sl l.length (rowE.cs l))])] ?_ (by (repeat' (first | exact trivial | apply And.intro | ((simp +decide only [go_sem] <;> rfl)) | rfl))) rfl, rfl, rfl⟩; rw [hA3]; (simp_all [go_sem, Slots] <;> grind))
    all_goals (refine ⟨_, _, Cv.keepH [(1, .loc 1 0), (6, .d (.bool s2)), (7, .d (.bool s3)), (39, .d (.bool A2))] [(1, .box [.d (.int .i64 op), .d (.int .i64 n), .d (.str a), .d (.str s), .d (.sl l.length (rowE.cs l))])] ?_ (by (repeat' (first | exact trivial | apply And.intro | ((simp +decide only [go_sem] <;> rfl)) | rfl))) rfl, rfl, rfl⟩; rw [hA2]; (simp_all [go_sem, Slots] <;> grind))
  all_goals (refine ⟨_, _, Cv.keepH [(1, .loc 1 0), (5, .d (.bool s1)), (6, .d (.bool s2)), (7, .d (.bool s3)), (16, .d (.bool A1))] [(1, .box [.d (.int .i64 op), .d (.int .i64 n), .d (.str a), .d (.str s), .d (.sl l.length (rowE.cs l))])] ?_ (by (repeat' (first | exact trivial | apply And.intro | ((simp +decide only [go_sem] <;> rfl)) | rfl))) rfl, rfl, rfl⟩; rw [hA1]; (simp_all [go_sem, Slots] <;> grind))
end Go.Proofs.YtefiebkngpcaoaaDoor
