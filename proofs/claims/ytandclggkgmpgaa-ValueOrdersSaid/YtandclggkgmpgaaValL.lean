/- Walks of what tells whether a type, a value is of a size that is looked at. Conditions: what their parts may be. -/
import Derived.Test.YtandclggkgmpgaaValF
set_option maxRecDepth 100000
set_option linter.unusedVariables false
set_option linter.unusedSimpArgs false
set_option linter.unusedSectionVars false
namespace Go.Proofs.Ytandclggkgmpgaa
open Go.RowKit

def smallT : Nat → Int → Typ → Int
  | 0, _, _ => -1
  | d + 1, room, .mk _ l => if room < 1 ∨ 20 < l.length then -1 else l.foldl (fun r x => if 0 ≤ r then smallT d r x else r) (room - 1)
theorem smallT_low {d : Nat} : ∀ (l : List Typ) (r : Int), r < 0 → l.foldl (fun r x => if 0 ≤ r then smallT d r x else r) r = r
  | [], r, _ => rfl
  | x :: l, r, h => by rw [List.foldl_cons, if_neg (by omega)]; exact smallT_low l r h
theorem smallT_in : ∀ (d : Nat) (room : Int) (x : Typ), room ≤ 400 → -1 ≤ smallT d room x ∧ smallT d room x ≤ 400
  | 0, room, x, h => by rw [smallT]; omega
  | d + 1, room, .mk _ l, h => by
    rw [smallT]
    split
    · omega
    · rename_i hn
      have : ∀ (l : List Typ) (r : Int), -1 ≤ r → r ≤ 400 → -1 ≤ l.foldl (fun r x => if 0 ≤ r then smallT d r x else r) r ∧ l.foldl (fun r x => if 0 ≤ r then smallT d r x else r) r ≤ 400 := by
        intro l
        induction l with
        | nil => intro r h1 h2; exact ⟨h1, h2⟩
        | cons x l ih =>
          intro r h1 h2
          rw [List.foldl_cons]
          split
          · have := smallT_in d r x h2
            exact ih _ this.1 this.2
          · exact ih _ h1 h2
      exact this l _ (by omega) (by omega)
set_option maxHeartbeats 2000000 in
theorem smallType_pc : ∀ (d : Nat), d ≤ 8 → ∀ (room : Int), -1 ≤ room → room ≤ 400 → ∀ (x : Typ), x.Ok → PC Try.prog 12 [.agg x.cells, .int .i64 d, .int .i64 room] (.int .i64 (smallT d room x)) := by
  intro d
  induction d with
  | zero =>
    intro hd room hr1 hr2 x hx
    obtain ⟨k, l⟩ := x
    rw [Typ.cells_mk, smallT]
    refine pc_of_pwp _ Try.func12 rfl Try.results12 (by kernel_rfl) ?_
    have e0 : (((0 : Nat) : Int) == 0) = true := rfl
    (repeat' (first|apply th_n|apply wp_sq|apply wp_blk|apply wp_reg|apply wp_regd|(apply nm_and;kernel_rfl)|apply ev_nil|(apply ev_val;rfl;rfl;(simp +decide only [go_sem, e0] <;> rfl))|(apply ev_wr;rfl;rfl;(simp +decide only [go_sem, e0] <;> rfl))|(apply ev_st;rfl;rfl;(simp +decide only [go_sem, e0] <;> rfl))|(apply ev_yes;rfl;rfl;(simp +decide only [go_sem, e0] <;> rfl))|(apply ev_nt;rfl;rfl;(simp +decide only [go_sem, e0] <;> rfl))|(apply ev_no;rfl;rfl;(refine Or.inl ?_;(simp +decide only [go_sem, e0] <;> rfl)))|(apply ev_guard;rfl;rfl;(simp +decide only [go_sem, e0] <;> rfl);intro _;rotate_left;intro _;rotate_right)|(apply wp_ift;(simp +decide only [go_sem, e0] <;> rfl))|(apply wp_iff;(simp +decide only [go_sem, e0] <;> rfl))|(apply wp_ifu;(simp +decide only [go_sem, e0] <;> rfl);intro _;rotate_left;intro _;rotate_right)|(apply wp_if;(simp +decide only [go_sem, e0] <;> rfl);intro _;rotate_left;intro _;rotate_right)|apply on_n|apply th_r|apply th_e|apply bl_n|apply bl_r|apply bl_e|(apply bl_o;(rfl))|apply wp_sk|apply wp_lb|apply wp_rt|apply wp_ex|(apply bq_r;(simp +decide only [go_sem, e0] <;> rfl))|(apply bq_n;(simp +decide only [go_sem, e0] <;> rfl))))
    rfl
  | succ d ih =>
    intro hd room hr1 hr2 x hx
    obtain ⟨k, l⟩ := x
    obtain ⟨hl, hk⟩ := hx.len'
    have hw : IntKind.i64.wrap (((d + 1 : Nat) : Int) - 1) = (d : Int) := by rw [wrap_in (by omega)]; omega
    have hwr : IntKind.i64.wrap (room - 1) = room - 1 := wrap_in (by omega)
    rw [Typ.cells_mk, smallT]
    refine pc_of_pwp _ Try.func12 rfl Try.results12 (by kernel_rfl) ?_
    have e0 : (((d + 1 : Nat) : Int) == 0) = false := by simp; omega
    by_cases h1 : room < 1
    · have f1 : decide (room < 1) = true := decide_eq_true h1
      (have hF := And.intro e0 f1; repeat' (first|apply th_n|apply wp_sq|apply wp_blk|apply wp_reg|apply wp_regd|(apply nm_and;kernel_rfl)|apply ev_nil|(apply ev_val;rfl;rfl;(simp +decide only [go_sem, hF] <;> rfl))|(apply ev_wr;rfl;rfl;(simp +decide only [go_sem, hF] <;> rfl))|(apply ev_st;rfl;rfl;(simp +decide only [go_sem, hF] <;> rfl))|(apply ev_yes;rfl;rfl;(simp +decide only [go_sem, hF] <;> rfl))|(apply ev_nt;rfl;rfl;(simp +decide only [go_sem, hF] <;> rfl))|(apply ev_no;rfl;rfl;(refine Or.inl ?_;(simp +decide only [go_sem, hF] <;> rfl)))|(apply ev_guard;rfl;rfl;(simp +decide only [go_sem, hF] <;> rfl);intro _;rotate_left;intro _;rotate_right)|(apply wp_ift;(simp +decide only [go_sem, hF] <;> rfl))|(apply wp_iff;(simp +decide only [go_sem, hF] <;> rfl))|(apply wp_ifu;(simp +decide only [go_sem, hF] <;> rfl);intro _;rotate_left;intro _;rotate_right)|(apply wp_if;(simp +decide only [go_sem, hF] <;> rfl);intro _;rotate_left;intro _;rotate_right)|apply on_n|apply th_r|apply th_e|apply bl_n|apply bl_r|apply bl_e|(apply bl_o;(rfl))|apply wp_sk|apply wp_lb|apply wp_rt|apply wp_ex|(apply bq_r;(simp +decide only [go_sem, hF] <;> rfl))|(apply bq_n;(simp +decide only [go_sem, hF] <;> rfl))))
      rw [if_pos (by simp [h1])]; rfl
    have f1 : decide (room < 1) = false := decide_eq_false h1

    by_cases h20 : 20 < l.length
    · have f2 : decide ((l.length : Int) > 20) = true := decide_eq_true (by omega)
      (have hF := And.intro e0 (And.intro f1 f2); repeat' (first|apply th_n|apply wp_sq|apply wp_blk|apply wp_reg|apply wp_regd|(apply nm_and;kernel_rfl)|apply ev_nil|(apply ev_val;rfl;rfl;(simp +decide only [go_sem, hF] <;> rfl))|(apply ev_wr;rfl;rfl;(simp +decide only [go_sem, hF] <;> rfl))|(apply ev_st;rfl;rfl;(simp +decide only [go_sem, hF] <;> rfl))|(apply ev_yes;rfl;rfl;(simp +decide only [go_sem, hF] <;> rfl))|(apply ev_nt;rfl;rfl;(simp +decide only [go_sem, hF] <;> rfl))|(apply ev_no;rfl;rfl;(refine Or.inl ?_;(simp +decide only [go_sem, hF] <;> rfl)))|(apply ev_guard;rfl;rfl;(simp +decide only [go_sem, hF] <;> rfl);intro _;rotate_left;intro _;rotate_right)|(apply wp_ift;(simp +decide only [go_sem, hF] <;> rfl))|(apply wp_iff;(simp +decide only [go_sem, hF] <;> rfl))|(apply wp_ifu;(simp +decide only [go_sem, hF] <;> rfl);intro _;rotate_left;intro _;rotate_right)|(apply wp_if;(simp +decide only [go_sem, hF] <;> rfl);intro _;rotate_left;intro _;rotate_right)|apply on_n|apply th_r|apply th_e|apply bl_n|apply bl_r|apply bl_e|(apply bl_o;(rfl))|apply wp_sk|apply wp_lb|apply wp_rt|apply wp_ex|(apply bq_r;(simp +decide only [go_sem, hF] <;> rfl))|(apply bq_n;(simp +decide only [go_sem, hF] <;> rfl))))
      rw [if_pos (by simp [h20])]; rfl
    have f2 : decide ((l.length : Int) > 20) = false := decide_eq_false (by omega)
    rw [if_neg (by simp only [not_or]; exact ⟨h1, h20⟩)]
    (have hF := And.intro e0 (And.intro f1 (And.intro f2 hwr)); repeat' (first|apply th_n|apply wp_sq|apply wp_blk|apply wp_reg|apply wp_regd|(apply nm_and;kernel_rfl)|apply ev_nil|(apply ev_val;rfl;rfl;(simp +decide only [go_sem, hF] <;> rfl))|(apply ev_wr;rfl;rfl;(simp +decide only [go_sem, hF] <;> rfl))|(apply ev_st;rfl;rfl;(simp +decide only [go_sem, hF] <;> rfl))|(apply ev_yes;rfl;rfl;(simp +decide only [go_sem, hF] <;> rfl))|(apply ev_nt;rfl;rfl;(simp +decide only [go_sem, hF] <;> rfl))|(apply ev_no;rfl;rfl;(refine Or.inl ?_;(simp +decide only [go_sem, hF] <;> rfl)))|(apply ev_guard;rfl;rfl;(simp +decide only [go_sem, hF] <;> rfl);intro _;rotate_left;intro _;rotate_right)|(apply wp_ift;(simp +decide only [go_sem, hF] <;> rfl))|(apply wp_iff;(simp +decide only [go_sem, hF] <;> rfl))|(apply wp_ifu;(simp +decide only [go_sem, hF] <;> rfl);intro _;rotate_left;intro _;rotate_right)|(apply wp_if;(simp +decide only [go_sem, hF] <;> rfl);intro _;rotate_left;intro _;rotate_right)|apply on_n|apply th_r|apply th_e|apply bl_n|apply bl_r|apply bl_e|(apply bl_o;(rfl))|apply wp_sk|apply wp_lb|apply wp_rt|apply wp_ex|(apply bq_r;(simp +decide only [go_sem, hF] <;> rfl))|(apply bq_n;(simp +decide only [go_sem, hF] <;> rfl))))
    refine wp_lp (fun m f H => ∃ (i : Nat) (r : Int), f = frm [(1, .d (.int .i64 ((d + 1 : Nat) : Int))), (2, .d (.int .i64 r)), (3, .loc 3 0), (7, .d (.int .i64 i))] ∧ H = hpm [(3, .box [.d (.int .i64 k), .d (.sl l.length (rowT.cs l))])] ∧ i ≤ l.length ∧ -1 ≤ r ∧ r ≤ 400 ∧
        l.foldl (fun r x => if 0 ≤ r then smallT d r x else r) (room - 1) = (l.drop i).foldl (fun r x => if 0 ≤ r then smallT d r x else r) r ∧ m = l.length - i) l.length _ _
      (Cv.keepH [(1, .d (.int .i64 ((d + 1 : Nat) : Int))), (2, .d (.int .i64 (room - 1))), (3, .loc 3 0), (7, .d (.int .i64 0))] [(3, .box [.d (.int .i64 k), .d (.sl l.length (rowT.cs l))])] (by (repeat' (first | exact trivial | apply And.intro | ((simp +decide only [go_sem] <;> rfl)) | rfl))) (by (repeat' (first | exact trivial | apply And.intro | ((simp +decide only [go_sem] <;> rfl)) | rfl))) rfl) ⟨0, room - 1, rfl, rfl, by omega, by omega, by omega, rfl, rfl⟩ ?_
    clear f1 f2 e0 hwr
    rintro _ f H ⟨i, r, rfl, rfl, hi, q1, q2, hall, rfl⟩
    by_cases h : i < l.length
    · obtain ⟨e1, e2, e3⟩ := at_in h
      by_cases hr : 0 ≤ r
      · have e0 : decide (r ≥ 0) = true := decide_eq_true hr
        have hx : l[i]? = some l[i] := by simp [h]
        obtain ⟨e4, e7⟩ := rowT.rd (n := 2) hx rfl
        have e5 := wrap_succ h hl
        have hc : PC Try.prog 12 [.agg (rowT.toC l[i]), .int .i64 d, .int .i64 r] (.int .i64 (smallT d r l[i])) := ih (by omega) r q1 q2 l[i] (hk _ (List.getElem_mem h))
        have hin := smallT_in d r l[i] q2
        rw [List.drop_eq_getElem_cons h, List.foldl_cons, if_pos hr] at hall
        (have hF := And.intro e0 (And.intro e1 (And.intro e2 (And.intro e3 (And.intro e4 (And.intro e7 (And.intro e5 hw)))))); repeat' (first|apply th_n|apply wp_sq|apply wp_blk|apply wp_reg|apply wp_regd|(apply nm_and;kernel_rfl)|apply ev_nil|(apply ev_val;rfl;rfl;(simp +decide only [go_sem, hF] <;> rfl))|(apply ev_call;rfl;rfl;rfl;(simp +decide only [go_sem, hF] <;> rfl);(simp +decide only [go_sem, hF] <;> rfl);(first|exact hc))|(apply ev_wr;rfl;rfl;(simp +decide only [go_sem, hF] <;> rfl))|(apply ev_st;rfl;rfl;(simp +decide only [go_sem, hF] <;> rfl))|(apply ev_yes;rfl;rfl;(simp +decide only [go_sem, hF] <;> rfl))|(apply ev_nt;rfl;rfl;(simp +decide only [go_sem, hF] <;> rfl))|(apply ev_no;rfl;rfl;(refine Or.inl ?_;(simp +decide only [go_sem, hF] <;> rfl)))|(apply ev_guard;rfl;rfl;(simp +decide only [go_sem, hF] <;> rfl);intro _;rotate_left;intro _;rotate_right)|(apply wp_ift;(simp +decide only [go_sem, hF] <;> rfl))|(apply wp_iff;(simp +decide only [go_sem, hF] <;> rfl))|(apply wp_ifu;(simp +decide only [go_sem, hF] <;> rfl);intro _;rotate_left;intro _;rotate_right)|(apply wp_if;(simp +decide only [go_sem, hF] <;> rfl);intro _;rotate_left;intro _;rotate_right)|apply on_n|apply th_r|apply th_e|apply bl_n|apply bl_r|apply bl_e|(apply bl_o;(rfl))|apply wp_sk|apply wp_lb|apply wp_rt|apply wp_ex|(apply bq_r;(simp +decide only [go_sem, hF] <;> rfl))|(apply bq_n;(simp +decide only [go_sem, hF] <;> rfl))))
        exact ⟨l.length - (i + 1), _, _, by omega, Cv.keepH [(1, .d (.int .i64 ((d + 1 : Nat) : Int))), (2, .d (.int .i64 (smallT d r l[i]))), (3, .loc 3 0), (7, .d (.int .i64 ((i + 1 : Nat) : Int)))] [(3, .box [.d (.int .i64 k), .d (.sl l.length (rowT.cs l))])] (by (repeat' (first | exact trivial | apply And.intro | ((simp +decide only [go_sem] <;> rfl)) | rfl))) (by (repeat' (first | exact trivial | apply And.intro | ((simp +decide only [go_sem] <;> rfl)) | rfl))) rfl, i + 1, _, rfl, rfl, h, hin.1, hin.2, hall, rfl⟩
      · have e0 : decide (r ≥ 0) = false := decide_eq_false hr
        (have hF := And.intro e0 e1; repeat' (first|apply th_n|apply wp_sq|apply wp_blk|apply wp_reg|apply wp_regd|(apply nm_and;kernel_rfl)|apply ev_nil|(apply ev_val;rfl;rfl;(simp +decide only [go_sem, hF] <;> rfl))|(apply ev_wr;rfl;rfl;(simp +decide only [go_sem, hF] <;> rfl))|(apply ev_st;rfl;rfl;(simp +decide only [go_sem, hF] <;> rfl))|(apply ev_yes;rfl;rfl;(simp +decide only [go_sem, hF] <;> rfl))|(apply ev_nt;rfl;rfl;(simp +decide only [go_sem, hF] <;> rfl))|(apply ev_no;rfl;rfl;(refine Or.inl ?_;(simp +decide only [go_sem, hF] <;> rfl)))|(apply ev_guard;rfl;rfl;(simp +decide only [go_sem, hF] <;> rfl);intro _;rotate_left;intro _;rotate_right)|(apply wp_ift;(simp +decide only [go_sem, hF] <;> rfl))|(apply wp_iff;(simp +decide only [go_sem, hF] <;> rfl))|(apply wp_ifu;(simp +decide only [go_sem, hF] <;> rfl);intro _;rotate_left;intro _;rotate_right)|(apply wp_if;(simp +decide only [go_sem, hF] <;> rfl);intro _;rotate_left;intro _;rotate_right)|apply on_n|apply th_r|apply th_e|apply bl_n|apply bl_r|apply bl_e|(apply bl_o;(rfl))|apply wp_sk|apply wp_lb|apply wp_rt|apply wp_ex|(apply bq_r;(simp +decide only [go_sem, hF] <;> rfl))|(apply bq_n;(simp +decide only [go_sem, hF] <;> rfl))))
        rw [hall, smallT_low _ _ (by omega)]; rfl
    · have e1 := at_out h
      (repeat' (first|apply th_n|apply wp_sq|apply wp_blk|apply wp_reg|apply wp_regd|(apply nm_and;kernel_rfl)|apply ev_nil|(apply ev_val;rfl;rfl;(simp +decide only [go_sem, e1] <;> rfl))|(apply ev_wr;rfl;rfl;(simp +decide only [go_sem, e1] <;> rfl))|(apply ev_st;rfl;rfl;(simp +decide only [go_sem, e1] <;> rfl))|(apply ev_yes;rfl;rfl;(simp +decide only [go_sem, e1] <;> rfl))|(apply ev_nt;rfl;rfl;(simp +decide only [go_sem, e1] <;> rfl))|(apply ev_no;rfl;rfl;(refine Or.inl ?_;(simp +decide only [go_sem, e1] <;> rfl)))|(apply ev_guard;rfl;rfl;(simp +decide only [go_sem, e1] <;> rfl);intro _;rotate_left;intro _;rotate_right)|(apply wp_ift;(simp +decide only [go_sem, e1] <;> rfl))|(apply wp_iff;(simp +decide only [go_sem, e1] <;> rfl))|(apply wp_ifu;(simp +decide only [go_sem, e1] <;> rfl);intro _;rotate_left;intro _;rotate_right)|(apply wp_if;(simp +decide only [go_sem, e1] <;> rfl);intro _;rotate_left;intro _;rotate_right)|apply on_n|apply th_r|apply th_e|apply bl_n|apply bl_r|apply bl_e|(apply bl_o;(rfl))|apply wp_sk|apply wp_lb|apply wp_rt|apply wp_ex|(apply bq_r;(simp +decide only [go_sem, e1] <;> rfl))|(apply bq_n;(simp +decide only [go_sem, e1] <;> rfl))))
      rw [hall, List.drop_eq_nil_of_le (by omega)]; rfl
def smallV : Nat → Int → Vlu → Int
  | 0, _, _ => -1
  | d + 1, room, .mk _ _ s l => if room < 1 ∨ 1000 < s.size ∨ 20 < l.length then -1 else l.foldl (fun r x => if 0 ≤ r then smallV d r x else r) (room - 1)
theorem smallV_low {d : Nat} : ∀ (l : List Vlu) (r : Int), r < 0 → l.foldl (fun r x => if 0 ≤ r then smallV d r x else r) r = r
  | [], r, _ => rfl
  | x :: l, r, h => by rw [List.foldl_cons, if_neg (by omega)]; exact smallV_low l r h
theorem smallV_in : ∀ (d : Nat) (room : Int) (x : Vlu), room ≤ 400 → -1 ≤ smallV d room x ∧ smallV d room x ≤ 400
  | 0, room, x, h => by rw [smallV]; omega
  | d + 1, room, .mk _ _ s l, h => by
    rw [smallV]
    split
    · omega
    · rename_i hn
      have : ∀ (l : List Vlu) (r : Int), -1 ≤ r → r ≤ 400 → -1 ≤ l.foldl (fun r x => if 0 ≤ r then smallV d r x else r) r ∧ l.foldl (fun r x => if 0 ≤ r then smallV d r x else r) r ≤ 400 := by
        intro l
        induction l with
        | nil => intro r h1 h2; exact ⟨h1, h2⟩
        | cons x l ih =>
          intro r h1 h2
          rw [List.foldl_cons]
          split
          · have := smallV_in d r x h2
            exact ih _ this.1 this.2
          · exact ih _ h1 h2
      exact this l _ (by omega) (by omega)
set_option maxHeartbeats 2000000 in
theorem small_pc : ∀ (d : Nat), d ≤ 8 → ∀ (room : Int), -1 ≤ room → room ≤ 400 → ∀ (x : Vlu), x.Ok → PC Try.prog 37 [.agg x.cells, .int .i64 d, .int .i64 room] (.int .i64 (smallV d room x)) := by
  intro d
  induction d with
  | zero =>
    intro hd room hr1 hr2 x hx
    obtain ⟨k, n, s, l⟩ := x
    rw [Vlu.cells_mk, smallV]
    refine pc_of_pwp _ Try.func37 rfl Try.results37 (by kernel_rfl) ?_
    have e0 : (((0 : Nat) : Int) == 0) = true := rfl
    (repeat' (first|apply th_n|apply wp_sq|apply wp_blk|apply wp_reg|apply wp_regd|(apply nm_and;kernel_rfl)|apply ev_nil|(apply ev_val;rfl;rfl;(simp +decide only [go_sem, e0] <;> rfl))|(apply ev_wr;rfl;rfl;(simp +decide only [go_sem, e0] <;> rfl))|(apply ev_st;rfl;rfl;(simp +decide only [go_sem, e0] <;> rfl))|(apply ev_yes;rfl;rfl;(simp +decide only [go_sem, e0] <;> rfl))|(apply ev_nt;rfl;rfl;(simp +decide only [go_sem, e0] <;> rfl))|(apply ev_no;rfl;rfl;(refine Or.inl ?_;(simp +decide only [go_sem, e0] <;> rfl)))|(apply ev_guard;rfl;rfl;(simp +decide only [go_sem, e0] <;> rfl);intro _;rotate_left;intro _;rotate_right)|(apply wp_ift;(simp +decide only [go_sem, e0] <;> rfl))|(apply wp_iff;(simp +decide only [go_sem, e0] <;> rfl))|(apply wp_ifu;(simp +decide only [go_sem, e0] <;> rfl);intro _;rotate_left;intro _;rotate_right)|(apply wp_if;(simp +decide only [go_sem, e0] <;> rfl);intro _;rotate_left;intro _;rotate_right)|apply on_n|apply th_r|apply th_e|apply bl_n|apply bl_r|apply bl_e|(apply bl_o;(rfl))|apply wp_sk|apply wp_lb|apply wp_rt|apply wp_ex|(apply bq_r;(simp +decide only [go_sem, e0] <;> rfl))|(apply bq_n;(simp +decide only [go_sem, e0] <;> rfl))))
    rfl
  | succ d ih =>
    intro hd room hr1 hr2 x hx
    obtain ⟨k, n, s, l⟩ := x
    obtain ⟨hl, hk, -⟩ := hx.parts
    have hw : IntKind.i64.wrap (((d + 1 : Nat) : Int) - 1) = (d : Int) := by rw [wrap_in (by omega)]; omega
    have hwr : IntKind.i64.wrap (room - 1) = room - 1 := wrap_in (by omega)
    rw [Vlu.cells_mk, smallV]
    refine pc_of_pwp _ Try.func37 rfl Try.results37 (by kernel_rfl) ?_
    have e0 : (((d + 1 : Nat) : Int) == 0) = false := by simp; omega
    by_cases h1 : room < 1
    · have f1 : decide (room < 1) = true := decide_eq_true h1
      (have hF := And.intro e0 f1; repeat' (first|apply th_n|apply wp_sq|apply wp_blk|apply wp_reg|apply wp_regd|(apply nm_and;kernel_rfl)|apply ev_nil|(apply ev_val;rfl;rfl;(simp +decide only [go_sem, hF] <;> rfl))|(apply ev_wr;rfl;rfl;(simp +decide only [go_sem, hF] <;> rfl))|(apply ev_st;rfl;rfl;(simp +decide only [go_sem, hF] <;> rfl))|(apply ev_yes;rfl;rfl;(simp +decide only [go_sem, hF] <;> rfl))|(apply ev_nt;rfl;rfl;(simp +decide only [go_sem, hF] <;> rfl))|(apply ev_no;rfl;rfl;(refine Or.inl ?_;(simp +decide only [go_sem, hF] <;> rfl)))|(apply ev_guard;rfl;rfl;(simp +decide only [go_sem, hF] <;> rfl);intro _;rotate_left;intro _;rotate_right)|(apply wp_ift;(simp +decide only [go_sem, hF] <;> rfl))|(apply wp_iff;(simp +decide only [go_sem, hF] <;> rfl))|(apply wp_ifu;(simp +decide only [go_sem, hF] <;> rfl);intro _;rotate_left;intro _;rotate_right)|(apply wp_if;(simp +decide only [go_sem, hF] <;> rfl);intro _;rotate_left;intro _;rotate_right)|apply on_n|apply th_r|apply th_e|apply bl_n|apply bl_r|apply bl_e|(apply bl_o;(rfl))|apply wp_sk|apply wp_lb|apply wp_rt|apply wp_ex|(apply bq_r;(simp +decide only [go_sem, hF] <;> rfl))|(apply bq_n;(simp +decide only [go_sem, hF] <;> rfl))))
      rw [if_pos (by simp [h1])]; rfl
    have f1 : decide (room < 1) = false := decide_eq_false h1
    by_cases h1000 : 1000 < s.size
    · have f3 : decide ((s.size : Int) > 1000) = true := decide_eq_true (by omega)
      (have hF := And.intro e0 (And.intro f1 f3); repeat' (first|apply th_n|apply wp_sq|apply wp_blk|apply wp_reg|apply wp_regd|(apply nm_and;kernel_rfl)|apply ev_nil|(apply ev_val;rfl;rfl;(simp +decide only [go_sem, hF] <;> rfl))|(apply ev_wr;rfl;rfl;(simp +decide only [go_sem, hF] <;> rfl))|(apply ev_st;rfl;rfl;(simp +decide only [go_sem, hF] <;> rfl))|(apply ev_yes;rfl;rfl;(simp +decide only [go_sem, hF] <;> rfl))|(apply ev_nt;rfl;rfl;(simp +decide only [go_sem, hF] <;> rfl))|(apply ev_no;rfl;rfl;(refine Or.inl ?_;(simp +decide only [go_sem, hF] <;> rfl)))|(apply ev_guard;rfl;rfl;(simp +decide only [go_sem, hF] <;> rfl);intro _;rotate_left;intro _;rotate_right)|(apply wp_ift;(simp +decide only [go_sem, hF] <;> rfl))|(apply wp_iff;(simp +decide only [go_sem, hF] <;> rfl))|(apply wp_ifu;(simp +decide only [go_sem, hF] <;> rfl);intro _;rotate_left;intro _;rotate_right)|(apply wp_if;(simp +decide only [go_sem, hF] <;> rfl);intro _;rotate_left;intro _;rotate_right)|apply on_n|apply th_r|apply th_e|apply bl_n|apply bl_r|apply bl_e|(apply bl_o;(rfl))|apply wp_sk|apply wp_lb|apply wp_rt|apply wp_ex|(apply bq_r;(simp +decide only [go_sem, hF] <;> rfl))|(apply bq_n;(simp +decide only [go_sem, hF] <;> rfl))))
      rw [if_pos (by simp [h1000])]; rfl
    have f3 : decide ((s.size : Int) > 1000) = false := decide_eq_false (by omega)
    by_cases h20 : 20 < l.length
    · have f2 : decide ((l.length : Int) > 20) = true := decide_eq_true (by omega)
      (have hF := And.intro e0 (And.intro f1 (And.intro f3 f2)); repeat' (first|apply th_n|apply wp_sq|apply wp_blk|apply wp_reg|apply wp_regd|(apply nm_and;kernel_rfl)|apply ev_nil|(apply ev_val;rfl;rfl;(simp +decide only [go_sem, hF] <;> rfl))|(apply ev_wr;rfl;rfl;(simp +decide only [go_sem, hF] <;> rfl))|(apply ev_st;rfl;rfl;(simp +decide only [go_sem, hF] <;> rfl))|(apply ev_yes;rfl;rfl;(simp +decide only [go_sem, hF] <;> rfl))|(apply ev_nt;rfl;rfl;(simp +decide only [go_sem, hF] <;> rfl))|(apply ev_no;rfl;rfl;(refine Or.inl ?_;(simp +decide only [go_sem, hF] <;> rfl)))|(apply ev_guard;rfl;rfl;(simp +decide only [go_sem, hF] <;> rfl);intro _;rotate_left;intro _;rotate_right)|(apply wp_ift;(simp +decide only [go_sem, hF] <;> rfl))|(apply wp_iff;(simp +decide only [go_sem, hF] <;> rfl))|(apply wp_ifu;(simp +decide only [go_sem, hF] <;> rfl);intro _;rotate_left;intro _;rotate_right)|(apply wp_if;(simp +decide only [go_sem, hF] <;> rfl);intro _;rotate_left;intro _;rotate_right)|apply on_n|apply th_r|apply th_e|apply bl_n|apply bl_r|apply bl_e|(apply bl_o;(rfl))|apply wp_sk|apply wp_lb|apply wp_rt|apply wp_ex|(apply bq_r;(simp +decide only [go_sem, hF] <;> rfl))|(apply bq_n;(simp +decide only [go_sem, hF] <;> rfl))))
      rw [if_pos (by simp [h20])]; rfl
    have f2 : decide ((l.length : Int) > 20) = false := decide_eq_false (by omega)
    rw [if_neg (by simp only [not_or]; exact ⟨h1, h1000, h20⟩)]
    (have hF := And.intro e0 (And.intro f1 (And.intro f3 (And.intro f2 hwr))); repeat' (first|apply th_n|apply wp_sq|apply wp_blk|apply wp_reg|apply wp_regd|(apply nm_and;kernel_rfl)|apply ev_nil|(apply ev_val;rfl;rfl;(simp +decide only [go_sem, hF] <;> rfl))|(apply ev_wr;rfl;rfl;(simp +decide only [go_sem, hF] <;> rfl))|(apply ev_st;rfl;rfl;(simp +decide only [go_sem, hF] <;> rfl))|(apply ev_yes;rfl;rfl;(simp +decide only [go_sem, hF] <;> rfl))|(apply ev_nt;rfl;rfl;(simp +decide only [go_sem, hF] <;> rfl))|(apply ev_no;rfl;rfl;(refine Or.inl ?_;(simp +decide only [go_sem, hF] <;> rfl)))|(apply ev_guard;rfl;rfl;(simp +decide only [go_sem, hF] <;> rfl);intro _;rotate_left;intro _;rotate_right)|(apply wp_ift;(simp +decide only [go_sem, hF] <;> rfl))|(apply wp_iff;(simp +decide only [go_sem, hF] <;> rfl))|(apply wp_ifu;(simp +decide only [go_sem, hF] <;> rfl);intro _;rotate_left;intro _;rotate_right)|(apply wp_if;(simp +decide only [go_sem, hF] <;> rfl);intro _;rotate_left;intro _;rotate_right)|apply on_n|apply th_r|apply th_e|apply bl_n|apply bl_r|apply bl_e|(apply bl_o;(rfl))|apply wp_sk|apply wp_lb|apply wp_rt|apply wp_ex|(apply bq_r;(simp +decide only [go_sem, hF] <;> rfl))|(apply bq_n;(simp +decide only [go_sem, hF] <;> rfl))))
    refine wp_lp (fun m f H => ∃ (i : Nat) (r : Int), f = frm [(1, .d (.int .i64 ((d + 1 : Nat) : Int))), (2, .d (.int .i64 r)), (3, .loc 3 0), (7, .d (.int .i64 i))] ∧ H = hpm [(3, .box [.d (.int .i64 k), .d (.int .i64 n), .d (.str s), .d (.sl l.length (rowV.cs l))])] ∧ i ≤ l.length ∧ -1 ≤ r ∧ r ≤ 400 ∧
        l.foldl (fun r x => if 0 ≤ r then smallV d r x else r) (room - 1) = (l.drop i).foldl (fun r x => if 0 ≤ r then smallV d r x else r) r ∧ m = l.length - i) l.length _ _
      (Cv.keepH [(1, .d (.int .i64 ((d + 1 : Nat) : Int))), (2, .d (.int .i64 (room - 1))), (3, .loc 3 0), (7, .d (.int .i64 0))] [(3, .box [.d (.int .i64 k), .d (.int .i64 n), .d (.str s), .d (.sl l.length (rowV.cs l))])] (by (repeat' (first | exact trivial | apply And.intro | ((simp +decide only [go_sem] <;> rfl)) | rfl))) (by (repeat' (first | exact trivial | apply And.intro | ((simp +decide only [go_sem] <;> rfl)) | rfl))) rfl) ⟨0, room - 1, rfl, rfl, by omega, by omega, by omega, rfl, rfl⟩ ?_
    clear f1 f2 e0 hwr
    rintro _ f H ⟨i, r, rfl, rfl, hi, q1, q2, hall, rfl⟩
    by_cases h : i < l.length
    · obtain ⟨e1, e2, e3⟩ := at_in h
      by_cases hr : 0 ≤ r
      · have e0 : decide (r ≥ 0) = true := decide_eq_true hr
        have hx : l[i]? = some l[i] := by simp [h]
        obtain ⟨e4, e7⟩ := rowV.rd (n := 4) hx rfl
        have e5 := wrap_succ h hl
        have hc : PC Try.prog 37 [.agg (rowV.toC l[i]), .int .i64 d, .int .i64 r] (.int .i64 (smallV d r l[i])) := ih (by omega) r q1 q2 l[i] (hk _ (List.getElem_mem h))
        have hin := smallV_in d r l[i] q2
        rw [List.drop_eq_getElem_cons h, List.foldl_cons, if_pos hr] at hall
        (have hF := And.intro e0 (And.intro e1 (And.intro e2 (And.intro e3 (And.intro e4 (And.intro e7 (And.intro e5 hw)))))); repeat' (first|apply th_n|apply wp_sq|apply wp_blk|apply wp_reg|apply wp_regd|(apply nm_and;kernel_rfl)|apply ev_nil|(apply ev_val;rfl;rfl;(simp +decide only [go_sem, hF] <;> rfl))|(apply ev_call;rfl;rfl;rfl;(simp +decide only [go_sem, hF] <;> rfl);(simp +decide only [go_sem, hF] <;> rfl);(first|exact hc))|(apply ev_wr;rfl;rfl;(simp +decide only [go_sem, hF] <;> rfl))|(apply ev_st;rfl;rfl;(simp +decide only [go_sem, hF] <;> rfl))|(apply ev_yes;rfl;rfl;(simp +decide only [go_sem, hF] <;> rfl))|(apply ev_nt;rfl;rfl;(simp +decide only [go_sem, hF] <;> rfl))|(apply ev_no;rfl;rfl;(refine Or.inl ?_;(simp +decide only [go_sem, hF] <;> rfl)))|(apply ev_guard;rfl;rfl;(simp +decide only [go_sem, hF] <;> rfl);intro _;rotate_left;intro _;rotate_right)|(apply wp_ift;(simp +decide only [go_sem, hF] <;> rfl))|(apply wp_iff;(simp +decide only [go_sem, hF] <;> rfl))|(apply wp_ifu;(simp +decide only [go_sem, hF] <;> rfl);intro _;rotate_left;intro _;rotate_right)|(apply wp_if;(simp +decide only [go_sem, hF] <;> rfl);intro _;rotate_left;intro _;rotate_right)|apply on_n|apply th_r|apply th_e|apply bl_n|apply bl_r|apply bl_e|(apply bl_o;(rfl))|apply wp_sk|apply wp_lb|apply wp_rt|apply wp_ex|(apply bq_r;(simp +decide only [go_sem, hF] <;> rfl))|(apply bq_n;(simp +decide only [go_sem, hF] <;> rfl))))
        exact ⟨l.length - (i + 1), _, _, by omega, Cv.keepH [(1, .d (.int .i64 ((d + 1 : Nat) : Int))), (2, .d (.int .i64 (smallV d r l[i]))), (3, .loc 3 0), (7, .d (.int .i64 ((i + 1 : Nat) : Int)))] [(3, .box [.d (.int .i64 k), .d (.int .i64 n), .d (.str s), .d (.sl l.length (rowV.cs l))])] (by (repeat' (first | exact trivial | apply And.intro | ((simp +decide only [go_sem] <;> rfl)) | rfl))) (by (repeat' (first | exact trivial | apply And.intro | ((simp +decide only [go_sem] <;> rfl)) | rfl))) rfl, i + 1, _, rfl, rfl, h, hin.1, hin.2, hall, rfl⟩
      · have e0 : decide (r ≥ 0) = false := decide_eq_false hr
        (have hF := And.intro e0 e1; repeat' (first|apply th_n|apply wp_sq|apply wp_blk|apply wp_reg|apply wp_regd|(apply nm_and;kernel_rfl)|apply ev_nil|(apply ev_val;rfl;rfl;(simp +decide only [go_sem, hF] <;> rfl))|(apply ev_wr;rfl;rfl;(simp +decide only [go_sem, hF] <;> rfl))|(apply ev_st;rfl;rfl;(simp +decide only [go_sem, hF] <;> rfl))|(apply ev_yes;rfl;rfl;(simp +decide only [go_sem, hF] <;> rfl))|(apply ev_nt;rfl;rfl;(simp +decide only [go_sem, hF] <;> rfl))|(apply ev_no;rfl;rfl;(refine Or.inl ?_;(simp +decide only [go_sem, hF] <;> rfl)))|(apply ev_guard;rfl;rfl;(simp +decide only [go_sem, hF] <;> rfl);intro _;rotate_left;intro _;rotate_right)|(apply wp_ift;(simp +decide only [go_sem, hF] <;> rfl))|(apply wp_iff;(simp +decide only [go_sem, hF] <;> rfl))|(apply wp_ifu;(simp +decide only [go_sem, hF] <;> rfl);intro _;rotate_left;intro _;rotate_right)|(apply wp_if;(simp +decide only [go_sem, hF] <;> rfl);intro _;rotate_left;intro _;rotate_right)|apply on_n|apply th_r|apply th_e|apply bl_n|apply bl_r|apply bl_e|(apply bl_o;(rfl))|apply wp_sk|apply wp_lb|apply wp_rt|apply wp_ex|(apply bq_r;(simp +decide only [go_sem, hF] <;> rfl))|(apply bq_n;(simp +decide only [go_sem, hF] <;> rfl))))
        rw [hall, smallV_low _ _ (by omega)]; rfl
    · have e1 := at_out h
      (repeat' (first|apply th_n|apply wp_sq|apply wp_blk|apply wp_reg|apply wp_regd|(apply nm_and;kernel_rfl)|apply ev_nil|(apply ev_val;rfl;rfl;(simp +decide only [go_sem, e1] <;> rfl))|(apply ev_wr;rfl;rfl;(simp +decide only [go_sem, e1] <;> rfl))|(apply ev_st;rfl;rfl;(simp +decide only [go_sem, e1] <;> rfl))|(apply ev_yes;rfl;rfl;(simp +decide only [go_sem, e1] <;> rfl))|(apply ev_nt;rfl;rfl;(simp +decide only [go_sem, e1] <;> rfl))|(apply ev_no;rfl;rfl;(refine Or.inl ?_;(simp +decide only [go_sem, e1] <;> rfl)))|(apply ev_guard;rfl;rfl;(simp +decide only [go_sem, e1] <;> rfl);intro _;rotate_left;intro _;rotate_right)|(apply wp_ift;(simp +decide only [go_sem, e1] <;> rfl))|(apply wp_iff;(simp +decide only [go_sem, e1] <;> rfl))|(apply wp_ifu;(simp +decide only [go_sem, e1] <;> rfl);intro _;rotate_left;intro _;rotate_right)|(apply wp_if;(simp +decide only [go_sem, e1] <;> rfl);intro _;rotate_left;intro _;rotate_right)|apply on_n|apply th_r|apply th_e|apply bl_n|apply bl_r|apply bl_e|(apply bl_o;(rfl))|apply wp_sk|apply wp_lb|apply wp_rt|apply wp_ex|(apply bq_r;(simp +decide only [go_sem, e1] <;> rfl))|(apply bq_n;(simp +decide only [go_sem, e1] <;> rfl))))
      rw [hall, List.drop_eq_nil_of_le (by omega)]; rfl
end Go.Proofs.Ytandclggkgmpgaa
