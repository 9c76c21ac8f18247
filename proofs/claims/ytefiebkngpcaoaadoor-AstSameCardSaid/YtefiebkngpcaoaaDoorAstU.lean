/- How much of a program is looked at: types, states, ports: walks. Conditions: how they came in. -/
import Derived.Test.YtefiebkngpcaoaaDoorAstX
import Derived.Test.YtefiebkngpcaoaaDoorAstO
set_option maxRecDepth 100000
set_option linter.unusedVariables false
set_option linter.unusedSimpArgs false
set_option linter.unusedSectionVars false
namespace Go.Proofs.YtefiebkngpcaoaaDoor
open Go.RowKit

/-- What room is left behind a list, as long as there is any. -/
def gone {α : Type} (g : Int → α → Int) (room : Int) (l : List α) : Int := l.foldl (fun r x => if 0 ≤ r then g r x else r) room
section
variable {α : Type} {g : Int → α → Int}
theorem gone_take {room : Int} {l : List α} {i : Nat} (h : i < l.length) : gone g room (l.take (i + 1)) = if 0 ≤ gone g room (l.take i) then g (gone g room (l.take i)) l[i] else gone g room (l.take i) := by
  unfold gone
  rw [List.take_succ_eq_append_getElem h, List.foldl_append]; rfl
theorem gone_low : ∀ (l : List α) (r : Int), r < 0 → gone g r l = r
  | [], r, _ => rfl
  | x :: l, r, h => by unfold gone; rw [List.foldl_cons, if_neg (by omega)]; exact gone_low l r h
theorem gone_stop {room : Int} {l : List α} {i : Nat} (h : gone g room (l.take i) < 0) : gone g room l = gone g room (l.take i) := by
  conv => lhs; rw [← List.take_append_drop i l]; unfold gone; rw [List.foldl_append]
  exact gone_low _ _ h
theorem gone_in (hg : ∀ r x, -1 ≤ r → r ≤ 600 → -1 ≤ g r x ∧ g r x ≤ 600) : ∀ (l : List α) (r : Int), -1 ≤ r → r ≤ 600 → -1 ≤ gone g r l ∧ gone g r l ≤ 600
  | [], r, h1, h2 => ⟨h1, h2⟩
  | x :: l, r, h1, h2 => by
    unfold gone
    rw [List.foldl_cons]
    split
    · have := hg r x h1 h2
      exact gone_in hg l _ this.1 this.2
    · exact gone_in hg l _ h1 h2
end
def kindR : Nat → Int → Typ → Int
  | 0, _, _ => -1
  | d + 1, room, .mk _ l => if room < 1 ∨ 20 < l.length then -1 else l.foldl (fun r x => if 0 ≤ r then kindR d r x else r) (room - 1)
theorem kindR_succ (d : Nat) (room k : Int) (l : List Typ) : kindR (d + 1) room (.mk k l) = if room < 1 ∨ 20 < l.length then -1 else gone (kindR d) (room - 1) l := by rw [kindR]; rfl
theorem kindR_in : ∀ (d : Nat) (room : Int) (x : Typ), -1 ≤ room → room ≤ 600 → -1 ≤ kindR d room x ∧ kindR d room x ≤ 600
  | 0, room, x, _, h => by rw [kindR]; omega
  | d + 1, room, .mk k l, h1, h => by
    rw [kindR_succ]
    split
    · omega
    · exact gone_in (kindR_in d) l _ (by omega) (by omega)
set_option maxHeartbeats 2000000 in
theorem kind_pc : ∀ (d : Nat), d ≤ 10 → ∀ (room : Int), -1 ≤ room → room ≤ 600 → ∀ (x : Typ), x.Ok → PC Tryd.prog 60 [.agg x.cells, .int .i64 (d : Int), .int .i64 room] (.int .i64 (kindR d room x)) := by
  intro d
  induction d with
  | zero =>
    rintro - room - - ⟨k, l⟩ hx
    rw [Typ.cells_mk, kindR]
    refine pc_of_pwp _ Tryd.func60 rfl Tryd.results60 (by kernel_rfl) ?_
    have e1 : (((0 : Nat) : Int) == 0) = true := rfl
    (repeat' (first|apply th_n|apply wp_sq|apply wp_blk|apply wp_reg|apply wp_regd|(apply nm_and;kernel_rfl)|apply ev_nil|(apply ev_val;rfl;rfl;(simp +decide only [go_sem, e1] <;> rfl))|(apply ev_wr;rfl;rfl;(simp +decide only [go_sem, e1] <;> rfl))|(apply ev_st;rfl;rfl;(simp +decide only [go_sem, e1] <;> rfl))|(apply ev_yes;rfl;rfl;(simp +decide only [go_sem, e1] <;> rfl))|(apply ev_nt;rfl;rfl;(simp +decide only [go_sem, e1] <;> rfl))|(apply ev_no;rfl;rfl;(refine Or.inl ?_;(simp +decide only [go_sem, e1] <;> rfl)))|(apply ev_guard;rfl;rfl;(simp +decide only [go_sem, e1] <;> rfl);intro _;rotate_left;intro _;rotate_right)|(apply wp_ift;(simp +decide only [go_sem, e1] <;> rfl))|(apply wp_iff;(simp +decide only [go_sem, e1] <;> rfl))|(apply wp_ifu;(simp +decide only [go_sem, e1] <;> rfl);intro _;rotate_left;intro _;rotate_right)|(apply wp_if;(simp +decide only [go_sem, e1] <;> rfl);intro _;rotate_left;intro _;rotate_right)|apply on_n|apply th_r|apply th_e|apply bl_n|apply bl_r|apply bl_e|(apply bl_o;(rfl))|apply wp_sk|apply wp_lb|apply wp_rt|apply wp_ex|(apply bq_r;(simp +decide only [go_sem, e1] <;> rfl))|(apply bq_n;(simp +decide only [go_sem, e1] <;> rfl))))
    rfl
  | succ d ih =>
    rintro hd room hr1 hr2 ⟨k, l⟩ hx
    obtain ⟨hl, hk⟩ := hx.len'
    have e1 : (((d + 1 : Nat) : Int) == 0) = false := by simp; omega
    have e2 : IntKind.i64.wrap (((d + 1 : Nat) : Int) - 1) = (d : Int) := by rw [wrap_in (by omega)]; omega
    have e3 : IntKind.i64.wrap (room - 1) = room - 1 := wrap_in (by omega)
    rw [Typ.cells_mk, kindR_succ]
    refine pc_of_pwp _ Tryd.func60 rfl Tryd.results60 (by kernel_rfl) ?_
    (have hF := And.intro e1 e3; repeat' (first|apply th_n|apply wp_sq|apply wp_blk|apply wp_reg|apply wp_regd|(apply nm_and;kernel_rfl)|apply ev_nil|(apply ev_val;rfl;rfl;(simp +decide only [go_sem, hF] <;> rfl))|(apply ev_wr;rfl;rfl;(simp +decide only [go_sem, hF] <;> rfl))|(apply ev_st;rfl;rfl;(simp +decide only [go_sem, hF] <;> rfl))|(apply ev_yes;rfl;rfl;(simp +decide only [go_sem, hF] <;> rfl))|(apply ev_nt;rfl;rfl;(simp +decide only [go_sem, hF] <;> rfl))|(apply ev_no;rfl;rfl;(refine Or.inl ?_;(simp +decide only [go_sem, hF] <;> rfl)))|(apply ev_guard;rfl;rfl;(simp +decide only [go_sem, hF] <;> rfl);intro _;rotate_left;intro _;rotate_right)|(apply wp_ift;(simp +decide only [go_sem, hF] <;> rfl))|(apply wp_iff;(simp +decide only [go_sem, hF] <;> rfl))|(apply wp_ifu;(simp +decide only [go_sem, hF] <;> rfl);intro _;rotate_left;intro _;rotate_right)|(apply wp_if;(simp +decide only [go_sem, hF] <;> rfl);intro _;rotate_left;intro _;rotate_right)|apply on_n|apply th_r|apply th_e|apply bl_n|apply bl_r|apply bl_e|(apply bl_o;(rfl))|apply wp_sk|apply wp_lb|apply wp_rt|apply wp_ex|(apply bq_r;(simp +decide only [go_sem, hF] <;> rfl))|(apply bq_n;(simp +decide only [go_sem, hF] <;> rfl))))
    all_goals first
      | (show D.int _ _ = D.int _ _; rename_i q; simp at q; rw [if_pos (by omega)]; done)
      | skip
    rename_i q1 q2
    simp at q1 q2
    rw [if_neg (by omega)]
    refine wp_for l.length (fun i => [(1, .d (.int .i64 ((d + 1 : Nat) : Int))), (2, .d (.int .i64 (gone (kindR d) (room - 1) (l.take i)))), (3, .loc 3 0), (7, .d (.int .i64 i))]) (fun _ => [(3, .box [.d (.int .i64 k), .d (.sl l.length (rowT.cs l))])]) (fun _ => True)
      (Cv.keepH _ _ (by (repeat' (first | exact trivial | apply And.intro | ((simp +decide only [go_sem] <;> rfl)) | rfl))) (by (repeat' (first | exact trivial | apply And.intro | ((simp +decide only [go_sem] <;> rfl)) | rfl))) rfl) trivial (fun i h _ => ?_) (fun _ => ?_)
    · have hin := gone_in (kindR_in d) (l.take i) (room - 1) (by omega) (by omega)
      have ht := gone_take (g := kindR d) (room := room - 1) h
      have e4 := rnd (R := rowT) (n := 2) h rfl hl
      by_cases hr : 0 ≤ gone (kindR d) (room - 1) (l.take i)
      · have e5 : decide (gone (kindR d) (room - 1) (l.take i) ≥ 0) = true := decide_eq_true hr
        have hc : PC Tryd.prog 60 [.agg (rowT.toC l[i]), .int .i64 (d : Int), .int .i64 (gone (kindR d) (room - 1) (l.take i))] _ := ih (by omega) _ hin.1 hin.2 l[i] (hk _ (List.getElem_mem h))
        rw [if_pos hr] at ht
        (have hF := And.intro e2 (And.intro e4 e5); repeat' (first|apply th_n|apply wp_sq|apply wp_blk|apply wp_reg|apply wp_regd|(apply nm_and;kernel_rfl)|apply ev_nil|(apply ev_val;rfl;rfl;(simp +decide only [go_sem, hF] <;> rfl))|(apply ev_call;rfl;rfl;rfl;(simp +decide only [go_sem, hF] <;> rfl);(simp +decide only [go_sem, hF] <;> rfl);(first|exact hc))|(apply ev_wr;rfl;rfl;(simp +decide only [go_sem, hF] <;> rfl))|(apply ev_st;rfl;rfl;(simp +decide only [go_sem, hF] <;> rfl))|(apply ev_yes;rfl;rfl;(simp +decide only [go_sem, hF] <;> rfl))|(apply ev_nt;rfl;rfl;(simp +decide only [go_sem, hF] <;> rfl))|(apply ev_no;rfl;rfl;(refine Or.inl ?_;(simp +decide only [go_sem, hF] <;> rfl)))|(apply ev_guard;rfl;rfl;(simp +decide only [go_sem, hF] <;> rfl);intro _;rotate_left;intro _;rotate_right)|(apply wp_ift;(simp +decide only [go_sem, hF] <;> rfl))|(apply wp_iff;(simp +decide only [go_sem, hF] <;> rfl))|(apply wp_ifu;(simp +decide only [go_sem, hF] <;> rfl);intro _;rotate_left;intro _;rotate_right)|(apply wp_if;(simp +decide only [go_sem, hF] <;> rfl);intro _;rotate_left;intro _;rotate_right)|apply on_n|apply th_r|apply th_e|apply bl_n|apply bl_r|apply bl_e|(apply bl_o;(rfl))|apply wp_sk|apply wp_lb|apply wp_rt|apply wp_ex|(apply bq_r;(simp +decide only [go_sem, hF] <;> rfl))|(apply bq_n;(simp +decide only [go_sem, hF] <;> rfl))))
        exact ⟨Cv.keepH _ _ (by rw [ht]; (repeat' (first | exact trivial | apply And.intro | ((simp +decide only [go_sem] <;> rfl)) | rfl))) (by (repeat' (first | exact trivial | apply And.intro | ((simp +decide only [go_sem] <;> rfl)) | rfl))) rfl, trivial⟩
      · have e5 : decide (gone (kindR d) (room - 1) (l.take i) ≥ 0) = false := decide_eq_false hr
        (have hF := And.intro e4 e5; repeat' (first|apply th_n|apply wp_sq|apply wp_blk|apply wp_reg|apply wp_regd|(apply nm_and;kernel_rfl)|apply ev_nil|(apply ev_val;rfl;rfl;(simp +decide only [go_sem, hF] <;> rfl))|(apply ev_wr;rfl;rfl;(simp +decide only [go_sem, hF] <;> rfl))|(apply ev_st;rfl;rfl;(simp +decide only [go_sem, hF] <;> rfl))|(apply ev_yes;rfl;rfl;(simp +decide only [go_sem, hF] <;> rfl))|(apply ev_nt;rfl;rfl;(simp +decide only [go_sem, hF] <;> rfl))|(apply ev_no;rfl;rfl;(refine Or.inl ?_;(simp +decide only [go_sem, hF] <;> rfl)))|(apply ev_guard;rfl;rfl;(simp +decide only [go_sem, hF] <;> rfl);intro _;rotate_left;intro _;rotate_right)|(apply wp_ift;(simp +decide only [go_sem, hF] <;> rfl))|(apply wp_iff;(simp +decide only [go_sem, hF] <;> rfl))|(apply wp_ifu;(simp +decide only [go_sem, hF] <;> rfl);intro _;rotate_left;intro _;rotate_right)|(apply wp_if;(simp +decide only [go_sem, hF] <;> rfl);intro _;rotate_left;intro _;rotate_right)|apply on_n|apply th_r|apply th_e|apply bl_n|apply bl_r|apply bl_e|(apply bl_o;(rfl))|apply wp_sk|apply wp_lb|apply wp_rt|apply wp_ex|(apply bq_r;(simp +decide only [go_sem, hF] <;> rfl))|(apply bq_n;(simp +decide only [go_sem, hF] <;> rfl))))
        rw [gone_stop (by omega : gone (kindR d) (room - 1) (l.take i) < 0)]; rfl
    · have e4 : decide ((l.length : Int) < (l.length : Int)) = false := by simp
      rw [List.take_length]
      (repeat' (first|apply th_n|apply wp_sq|apply wp_blk|apply wp_reg|apply wp_regd|(apply nm_and;kernel_rfl)|apply ev_nil|(apply ev_val;rfl;rfl;(simp +decide only [go_sem, e4] <;> rfl))|(apply ev_wr;rfl;rfl;(simp +decide only [go_sem, e4] <;> rfl))|(apply ev_st;rfl;rfl;(simp +decide only [go_sem, e4] <;> rfl))|(apply ev_yes;rfl;rfl;(simp +decide only [go_sem, e4] <;> rfl))|(apply ev_nt;rfl;rfl;(simp +decide only [go_sem, e4] <;> rfl))|(apply ev_no;rfl;rfl;(refine Or.inl ?_;(simp +decide only [go_sem, e4] <;> rfl)))|(apply ev_guard;rfl;rfl;(simp +decide only [go_sem, e4] <;> rfl);intro _;rotate_left;intro _;rotate_right)|(apply wp_ift;(simp +decide only [go_sem, e4] <;> rfl))|(apply wp_iff;(simp +decide only [go_sem, e4] <;> rfl))|(apply wp_ifu;(simp +decide only [go_sem, e4] <;> rfl);intro _;rotate_left;intro _;rotate_right)|(apply wp_if;(simp +decide only [go_sem, e4] <;> rfl);intro _;rotate_left;intro _;rotate_right)|apply on_n|apply th_r|apply th_e|apply bl_n|apply bl_r|apply bl_e|(apply bl_o;(rfl))|apply wp_sk|apply wp_lb|apply wp_rt|apply wp_ex|(apply bq_r;(simp +decide only [go_sem, e4] <;> rfl))|(apply bq_n;(simp +decide only [go_sem, e4] <;> rfl))))
      rfl
def setR (r : Int) (x : Stt) : Int := exprR 40 r x.e
def portR (r : Int) (x : Prt) : Int := kindR 10 r x.t
theorem setR_in (r : Int) (x : Stt) (_ : -1 ≤ r) (h : r ≤ 600) : -1 ≤ setR r x ∧ setR r x ≤ 600 := exprR_in 40 r x.e h
theorem portR_in (r : Int) (x : Prt) (h1 : -1 ≤ r) (h : r ≤ 600) : -1 ≤ portR r x ∧ portR r x ≤ 600 := kindR_in 10 r x.t h1 h
set_option maxHeartbeats 2000000 in
theorem sets_pc (l : List Stt) (hl : Lst Stt.Ok l) (room : Int) (h1 : -1 ≤ room) (h2 : room ≤ 600) : PC Tryd.prog 44 [.sl l.length (rowStt.cs l), .int .i64 room] (.int .i64 (gone setR room l)) := by
  refine pc_of_pwp _ Tryd.func44 rfl Tryd.results44 (by kernel_rfl) ?_
  (repeat' (first|apply th_n|apply wp_sq|apply wp_blk|apply wp_reg|apply wp_regd|(apply nm_and;kernel_rfl)|apply ev_nil|(apply ev_val;rfl;rfl;(simp +decide only [go_sem] <;> rfl))|(apply ev_wr;rfl;rfl;(simp +decide only [go_sem] <;> rfl))|(apply ev_st;rfl;rfl;(simp +decide only [go_sem] <;> rfl))|(apply ev_yes;rfl;rfl;(simp +decide only [go_sem] <;> rfl))|(apply ev_nt;rfl;rfl;(simp +decide only [go_sem] <;> rfl))|(apply ev_no;rfl;rfl;(refine Or.inl ?_;(simp +decide only [go_sem] <;> rfl)))|(apply ev_guard;rfl;rfl;(simp +decide only [go_sem] <;> rfl);intro _;rotate_left;intro _;rotate_right)|(apply wp_ift;(simp +decide only [go_sem] <;> rfl))|(apply wp_iff;(simp +decide only [go_sem] <;> rfl))|(apply wp_ifu;(simp +decide only [go_sem] <;> rfl);intro _;rotate_left;intro _;rotate_right)|(apply wp_if;(simp +decide only [go_sem] <;> rfl);intro _;rotate_left;intro _;rotate_right)|apply on_n|apply th_r|apply th_e|apply bl_n|apply bl_r|apply bl_e|(apply bl_o;(rfl))|apply wp_sk|apply wp_lb|apply wp_rt|apply wp_ex|(apply bq_r;(simp +decide only [go_sem] <;> rfl))|(apply bq_n;(simp +decide only [go_sem] <;> rfl))))
  refine wp_for l.length (fun i => [(0, .d (.sl l.length (rowStt.cs l))), (1, .d (.int .i64 (gone setR room (l.take i)))), (5, .d (.int .i64 i))]) (fun _ => []) (fun _ => True)
    (Cv.keepH _ _ (by (repeat' (first | exact trivial | apply And.intro | ((simp +decide only [go_sem] <;> rfl)) | rfl))) (by (repeat' (first | exact trivial | apply And.intro | ((simp +decide only [go_sem] <;> rfl)) | rfl))) rfl) trivial (fun i h _ => ?_) (fun _ => ?_)
  · have hin := gone_in setR_in (l.take i) room h1 h2
    have ht := gone_take (g := setR) (room := room) h
    have e4 := rnd (R := rowStt) (n := 6) h rfl hl.1
    have e6 := Row.fld (R := rowStt) (n := 6) h rfl 1 5 (by omega)
    rw [show ((rowStt.toC l[i]).drop 1).take 5 = l[i].e.cells from take_E' _] at e6
    by_cases hr : 0 ≤ gone setR room (l.take i)
    · have e5 : decide (gone setR room (l.take i) ≥ 0) = true := decide_eq_true hr
      have hc : PC Tryd.prog 11 [.agg l[i].e.cells, .int .i64 40, .int .i64 (gone setR room (l.take i))] (.int .i64 (setR (gone setR room (l.take i)) l[i])) := expr_pc 40 (by omega) _ hin.1 hin.2 l[i].e (hl.2 _ (List.getElem_mem h)).e
      rw [if_pos hr] at ht
      (have hF := And.intro e4 (And.intro e5 e6); repeat' (first|apply th_n|apply wp_sq|apply wp_blk|apply wp_reg|apply wp_regd|(apply nm_and;kernel_rfl)|apply ev_nil|(apply ev_val;rfl;rfl;(simp +decide only [go_sem, hF] <;> rfl))|(apply ev_call;rfl;rfl;rfl;(simp +decide only [go_sem, hF] <;> rfl);(simp +decide only [go_sem, hF] <;> rfl);(first|exact hc))|(apply ev_wr;rfl;rfl;(simp +decide only [go_sem, hF] <;> rfl))|(apply ev_st;rfl;rfl;(simp +decide only [go_sem, hF] <;> rfl))|(apply ev_yes;rfl;rfl;(simp +decide only [go_sem, hF] <;> rfl))|(apply ev_nt;rfl;rfl;(simp +decide only [go_sem, hF] <;> rfl))|(apply ev_no;rfl;rfl;(refine Or.inl ?_;(simp +decide only [go_sem, hF] <;> rfl)))|(apply ev_guard;rfl;rfl;(simp +decide only [go_sem, hF] <;> rfl);intro _;rotate_left;intro _;rotate_right)|(apply wp_ift;(simp +decide only [go_sem, hF] <;> rfl))|(apply wp_iff;(simp +decide only [go_sem, hF] <;> rfl))|(apply wp_ifu;(simp +decide only [go_sem, hF] <;> rfl);intro _;rotate_left;intro _;rotate_right)|(apply wp_if;(simp +decide only [go_sem, hF] <;> rfl);intro _;rotate_left;intro _;rotate_right)|apply on_n|apply th_r|apply th_e|apply bl_n|apply bl_r|apply bl_e|(apply bl_o;(rfl))|apply wp_sk|apply wp_lb|apply wp_rt|apply wp_ex|(apply bq_r;(simp +decide only [go_sem, hF] <;> rfl))|(apply bq_n;(simp +decide only [go_sem, hF] <;> rfl))))
      exact ⟨Cv.keepH _ _ (by rw [ht]; (repeat' (first | exact trivial | apply And.intro | ((simp +decide only [go_sem] <;> rfl)) | rfl))) (by (repeat' (first | exact trivial | apply And.intro | ((simp +decide only [go_sem] <;> rfl)) | rfl))) rfl, trivial⟩
    · have e5 : decide (gone setR room (l.take i) ≥ 0) = false := decide_eq_false hr
      (have hF := And.intro e4 e5; repeat' (first|apply th_n|apply wp_sq|apply wp_blk|apply wp_reg|apply wp_regd|(apply nm_and;kernel_rfl)|apply ev_nil|(apply ev_val;rfl;rfl;(simp +decide only [go_sem, hF] <;> rfl))|(apply ev_wr;rfl;rfl;(simp +decide only [go_sem, hF] <;> rfl))|(apply ev_st;rfl;rfl;(simp +decide only [go_sem, hF] <;> rfl))|(apply ev_yes;rfl;rfl;(simp +decide only [go_sem, hF] <;> rfl))|(apply ev_nt;rfl;rfl;(simp +decide only [go_sem, hF] <;> rfl))|(apply ev_no;rfl;rfl;(refine Or.inl ?_;(simp +decide only [go_sem, hF] <;> rfl)))|(apply ev_guard;rfl;rfl;(simp +decide only [go_sem, hF] <;> rfl);intro _;rotate_left;intro _;rotate_right)|(apply wp_ift;(simp +decide only [go_sem, hF] <;> rfl))|(apply wp_iff;(simp +decide only [go_sem, hF] <;> rfl))|(apply wp_ifu;(simp +decide only [go_sem, hF] <;> rfl);intro _;rotate_left;intro _;rotate_right)|(apply wp_if;(simp +decide only [go_sem, hF] <;> rfl);intro _;rotate_left;intro _;rotate_right)|apply on_n|apply th_r|apply th_e|apply bl_n|apply bl_r|apply bl_e|(apply bl_o;(rfl))|apply wp_sk|apply wp_lb|apply wp_rt|apply wp_ex|(apply bq_r;(simp +decide only [go_sem, hF] <;> rfl))|(apply bq_n;(simp +decide only [go_sem, hF] <;> rfl))))
      rw [gone_stop (by omega : gone setR room (l.take i) < 0)]; rfl
  · have e4 : decide ((l.length : Int) < (l.length : Int)) = false := by simp
    rw [List.take_length]
    (repeat' (first|apply th_n|apply wp_sq|apply wp_blk|apply wp_reg|apply wp_regd|(apply nm_and;kernel_rfl)|apply ev_nil|(apply ev_val;rfl;rfl;(simp +decide only [go_sem, e4] <;> rfl))|(apply ev_wr;rfl;rfl;(simp +decide only [go_sem, e4] <;> rfl))|(apply ev_st;rfl;rfl;(simp +decide only [go_sem, e4] <;> rfl))|(apply ev_yes;rfl;rfl;(simp +decide only [go_sem, e4] <;> rfl))|(apply ev_nt;rfl;rfl;(simp +decide only [go_sem, e4] <;> rfl))|(apply ev_no;rfl;rfl;(refine Or.inl ?_;(simp +decide only [go_sem, e4] <;> rfl)))|(apply ev_guard;rfl;rfl;(simp +decide only [go_sem, e4] <;> rfl);intro _;rotate_left;intro _;rotate_right)|(apply wp_ift;(simp +decide only [go_sem, e4] <;> rfl))|(apply wp_iff;(simp +decide only [go_sem, e4] <;> rfl))|(apply wp_ifu;(simp +decide only [go_sem, e4] <;> rfl);intro _;rotate_left;intro _;rotate_right)|(apply wp_if;(simp +decide only [go_sem, e4] <;> rfl);intro _;rotate_left;intro _;rotate_right)|apply on_n|apply th_r|apply th_e|apply bl_n|apply bl_r|apply bl_e|(apply bl_o;(rfl))|apply wp_sk|apply wp_lb|apply wp_rt|apply wp_ex|(apply bq_r;(simp +decide only [go_sem, e4] <;> rfl))|(apply bq_n;(simp +decide only [go_sem, e4] <;> rfl))))
    rfl
set_option maxHeartbeats 2000000 in
theorem ports_pc (l : List Prt) (hl : Lst Prt.Ok l) (room : Int) (h1 : -1 ≤ room) (h2 : room ≤ 600) : PC Tryd.prog 43 [.sl l.length (rowPrt.cs l), .int .i64 room] (.int .i64 (gone portR room l)) := by
  refine pc_of_pwp _ Tryd.func43 rfl Tryd.results43 (by kernel_rfl) ?_
  (repeat' (first|apply th_n|apply wp_sq|apply wp_blk|apply wp_reg|apply wp_regd|(apply nm_and;kernel_rfl)|apply ev_nil|(apply ev_val;rfl;rfl;(simp +decide only [go_sem] <;> rfl))|(apply ev_wr;rfl;rfl;(simp +decide only [go_sem] <;> rfl))|(apply ev_st;rfl;rfl;(simp +decide only [go_sem] <;> rfl))|(apply ev_yes;rfl;rfl;(simp +decide only [go_sem] <;> rfl))|(apply ev_nt;rfl;rfl;(simp +decide only [go_sem] <;> rfl))|(apply ev_no;rfl;rfl;(refine Or.inl ?_;(simp +decide only [go_sem] <;> rfl)))|(apply ev_guard;rfl;rfl;(simp +decide only [go_sem] <;> rfl);intro _;rotate_left;intro _;rotate_right)|(apply wp_ift;(simp +decide only [go_sem] <;> rfl))|(apply wp_iff;(simp +decide only [go_sem] <;> rfl))|(apply wp_ifu;(simp +decide only [go_sem] <;> rfl);intro _;rotate_left;intro _;rotate_right)|(apply wp_if;(simp +decide only [go_sem] <;> rfl);intro _;rotate_left;intro _;rotate_right)|apply on_n|apply th_r|apply th_e|apply bl_n|apply bl_r|apply bl_e|(apply bl_o;(rfl))|apply wp_sk|apply wp_lb|apply wp_rt|apply wp_ex|(apply bq_r;(simp +decide only [go_sem] <;> rfl))|(apply bq_n;(simp +decide only [go_sem] <;> rfl))))
  refine wp_for l.length (fun i => [(0, .d (.sl l.length (rowPrt.cs l))), (1, .d (.int .i64 (gone portR room (l.take i)))), (5, .d (.int .i64 i))]) (fun _ => []) (fun _ => True)
    (Cv.keepH _ _ (by (repeat' (first | exact trivial | apply And.intro | ((simp +decide only [go_sem] <;> rfl)) | rfl))) (by (repeat' (first | exact trivial | apply And.intro | ((simp +decide only [go_sem] <;> rfl)) | rfl))) rfl) trivial (fun i h _ => ?_) (fun _ => ?_)
  · have hin := gone_in portR_in (l.take i) room h1 h2
    have ht := gone_take (g := portR) (room := room) h
    have e4 := rnd (R := rowPrt) (n := 3) h rfl hl.1
    have e6 := Row.fld (R := rowPrt) (n := 3) h rfl 1 2 (by omega)
    rw [show ((rowPrt.toC l[i]).drop 1).take 2 = l[i].t.cells from take_T _] at e6
    by_cases hr : 0 ≤ gone portR room (l.take i)
    · have e5 : decide (gone portR room (l.take i) ≥ 0) = true := decide_eq_true hr
      have hc : PC Tryd.prog 60 [.agg l[i].t.cells, .int .i64 10, .int .i64 (gone portR room (l.take i))] (.int .i64 (portR (gone portR room (l.take i)) l[i])) := kind_pc 10 (by omega) _ hin.1 hin.2 l[i].t (hl.2 _ (List.getElem_mem h)).t
      rw [if_pos hr] at ht
      (have hF := And.intro e4 (And.intro e5 e6); repeat' (first|apply th_n|apply wp_sq|apply wp_blk|apply wp_reg|apply wp_regd|(apply nm_and;kernel_rfl)|apply ev_nil|(apply ev_val;rfl;rfl;(simp +decide only [go_sem, hF] <;> rfl))|(apply ev_call;rfl;rfl;rfl;(simp +decide only [go_sem, hF] <;> rfl);(simp +decide only [go_sem, hF] <;> rfl);(first|exact hc))|(apply ev_wr;rfl;rfl;(simp +decide only [go_sem, hF] <;> rfl))|(apply ev_st;rfl;rfl;(simp +decide only [go_sem, hF] <;> rfl))|(apply ev_yes;rfl;rfl;(simp +decide only [go_sem, hF] <;> rfl))|(apply ev_nt;rfl;rfl;(simp +decide only [go_sem, hF] <;> rfl))|(apply ev_no;rfl;rfl;(refine Or.inl ?_;(simp +decide only [go_sem, hF] <;> rfl)))|(apply ev_guard;rfl;rfl;(simp +decide only [go_sem, hF] <;> rfl);intro _;rotate_left;intro _;rotate_right)|(apply wp_ift;(simp +decide only [go_sem, hF] <;> rfl))|(apply wp_iff;(simp +decide only [go_sem, hF] <;> rfl))|(apply wp_ifu;(simp +decide only [go_sem, hF] <;> rfl);intro _;rotate_left;intro _;rotate_right)|(apply wp_if;(simp +decide only [go_sem, hF] <;> rfl);intro _;rotate_left;intro _;rotate_right)|apply on_n|apply th_r|apply th_e|apply bl_n|apply bl_r|apply bl_e|(apply bl_o;(rfl))|apply wp_sk|apply wp_lb|apply wp_rt|apply wp_ex|(apply bq_r;(simp +decide only [go_sem, hF] <;> rfl))|(apply bq_n;(simp +decide only [go_sem, hF] <;> rfl))))
      exact ⟨Cv.keepH _ _ (by rw [ht]; (repeat' (first | exact trivial | apply And.intro | ((simp +decide only [go_sem] <;> rfl)) | rfl))) (by (repeat' (first | exact trivial | apply And.intro | ((simp +decide only [go_sem] <;> rfl)) | rfl))) rfl, trivial⟩
    · have e5 : decide (gone portR room (l.take i) ≥ 0) = false := decide_eq_false hr
      (have hF := And.intro e4 e5; repeat' (first|apply th_n|apply wp_sq|apply wp_blk|apply wp_reg|apply wp_regd|(apply nm_and;kernel_rfl)|apply ev_nil|(apply ev_val;rfl;rfl;(simp +decide only [go_sem, hF] <;> rfl))|(apply ev_wr;rfl;rfl;(simp +decide only [go_sem, hF] <;> rfl))|(apply ev_st;rfl;rfl;(simp +decide only [go_sem, hF] <;> rfl))|(apply ev_yes;rfl;rfl;(simp +decide only [go_sem, hF] <;> rfl))|(apply ev_nt;rfl;rfl;(simp +decide only [go_sem, hF] <;> rfl))|(apply ev_no;rfl;rfl;(refine Or.inl ?_;(simp +decide only [go_sem, hF] <;> rfl)))|(apply ev_guard;rfl;rfl;(simp +decide only [go_sem, hF] <;> rfl);intro _;rotate_left;intro _;rotate_right)|(apply wp_ift;(simp +decide only [go_sem, hF] <;> rfl))|(apply wp_iff;(simp +decide only [go_sem, hF] <;> rfl))|(apply wp_ifu;(simp +decide only [go_sem, hF] <;> rfl);intro _;rotate_left;intro _;rotate_right)|(apply wp_if;(simp +decide only [go_sem, hF] <;> rfl);intro _;rotate_left;intro _;rotate_right)|apply on_n|apply th_r|apply th_e|apply bl_n|apply bl_r|apply bl_e|(apply bl_o;(rfl))|apply wp_sk|apply wp_lb|apply wp_rt|apply wp_ex|(apply bq_r;(simp +decide only [go_sem, hF] <;> rfl))|(apply bq_n;(simp +decide only [go_sem, hF] <;> rfl))))
      rw [gone_stop (by omega : gone portR room (l.take i) < 0)]; rfl
  · have e4 : decide ((l.length : Int) < (l.length : Int)) = false := by simp
    rw [List.take_length]
    (repeat' (first|apply th_n|apply wp_sq|apply wp_blk|apply wp_reg|apply wp_regd|(apply nm_and;kernel_rfl)|apply ev_nil|(apply ev_val;rfl;rfl;(simp +decide only [go_sem, e4] <;> rfl))|(apply ev_wr;rfl;rfl;(simp +decide only [go_sem, e4] <;> rfl))|(apply ev_st;rfl;rfl;(simp +decide only [go_sem, e4] <;> rfl))|(apply ev_yes;rfl;rfl;(simp +decide only [go_sem, e4] <;> rfl))|(apply ev_nt;rfl;rfl;(simp +decide only [go_sem, e4] <;> rfl))|(apply ev_no;rfl;rfl;(refine Or.inl ?_;(simp +decide only [go_sem, e4] <;> rfl)))|(apply ev_guard;rfl;rfl;(simp +decide only [go_sem, e4] <;> rfl);intro _;rotate_left;intro _;rotate_right)|(apply wp_ift;(simp +decide only [go_sem, e4] <;> rfl))|(apply wp_iff;(simp +decide only [go_sem, e4] <;> rfl))|(apply wp_ifu;(simp +decide only [go_sem, e4] <;> rfl);intro _;rotate_left;intro _;rotate_right)|(apply wp_if;(simp +decide only [go_sem, e4] <;> rfl);intro _;rotate_left;intro _;rotate_right)|apply on_n|apply th_r|apply th_e|apply bl_n|apply bl_r|apply bl_e|(apply bl_o;(rfl))|apply wp_sk|apply wp_lb|apply wp_rt|apply wp_ex|(apply bq_r;(simp +decide only [go_sem, e4] <;> rfl))|(apply bq_n;(simp +decide only [go_sem, e4] <;> rfl))))
    rfl
end Go.Proofs.YtefiebkngpcaoaaDoor
