/- Walks of Copy, parts of package value. Conditions: what the value's parts may be. -/
import Derived.Test.YtandclggkgmpgaaValG
import Derived.Test.YtandclggkgmpgaaPI
set_option maxRecDepth 100000
set_option linter.unusedVariables false
set_option linter.unusedSimpArgs false
set_option linter.unusedSectionVars false
namespace Go.Proofs.Ytandclggkgmpgaa
open Go.RowKit

mutual
def partsV : Vlu → List Vlu
  | .mk k n s l => .mk k n s l :: partsVL l
def partsVL : List Vlu → List Vlu
  | [] => []
  | x :: l => partsV x ++ partsVL l
end
/-- What is handed out. -/
def encV (x : Vlu) : List D := [.agg x.cells]
theorem parts_pc (x : Vlu) : PC Try.prog 45 [.agg x.cells] (.fn (.func 57) [] [.ep x.cells]) := by
  obtain ⟨k, n, s, l⟩ := x
  rw [Vlu.cells_mk]
  refine pc_of_pwp _ Try.func45 rfl Try.results45 (by kernel_rfl) ?_
  (repeat' (first|apply th_n|apply wp_sq|apply wp_blk|apply wp_reg|apply wp_regd|(apply nm_and;kernel_rfl)|apply ev_nil|(apply ev_ice (tm := 1);rfl;rfl;rfl;(simp +decide only [go_sem] <;> rfl);(simp +decide only [go_sem] <;> rfl))|(apply ev_val;rfl;rfl;(simp +decide only [go_sem] <;> rfl))|(apply ev_wr;rfl;rfl;(simp +decide only [go_sem] <;> rfl))|(apply ev_st;rfl;rfl;(simp +decide only [go_sem] <;> rfl))|(apply ev_yes;rfl;rfl;(simp +decide only [go_sem] <;> rfl))|(apply ev_nt;rfl;rfl;(simp +decide only [go_sem] <;> rfl))|(apply ev_no;rfl;rfl;(refine Or.inl ?_;(simp +decide only [go_sem] <;> rfl)))|(apply ev_guard;rfl;rfl;(simp +decide only [go_sem] <;> rfl);intro _;rotate_left;intro _;rotate_right)|(apply wp_ift;(simp +decide only [go_sem] <;> rfl))|(apply wp_iff;(simp +decide only [go_sem] <;> rfl))|(apply wp_ifu;(simp +decide only [go_sem] <;> rfl);intro _;rotate_left;intro _;rotate_right)|(apply wp_if;(simp +decide only [go_sem] <;> rfl);intro _;rotate_left;intro _;rotate_right)|apply on_n|apply th_r|apply th_e|apply bl_n|apply bl_r|apply bl_e|(apply bl_o;(rfl))|apply wp_sk|apply wp_lb|apply wp_rt|apply wp_ex|(apply bq_r;(simp +decide only [go_sem] <;> rfl))|(apply bq_n;(simp +decide only [go_sem] <;> rfl))))
  rfl
theorem Parts_pc (x : Vlu) : PC Try.prog 30 [.agg x.cells] (.fn (.func 44) [] [.ep x.cells]) := by
  obtain ⟨k, n, s, l⟩ := x
  rw [Vlu.cells_mk]
  refine pc_of_pwp _ Try.func30 rfl Try.results30 (by kernel_rfl) ?_
  (repeat' (first|apply th_n|apply wp_sq|apply wp_blk|apply wp_reg|apply wp_regd|(apply nm_and;kernel_rfl)|apply ev_nil|(apply ev_ice (tm := 1);rfl;rfl;rfl;(simp +decide only [go_sem] <;> rfl);(simp +decide only [go_sem] <;> rfl))|(apply ev_val;rfl;rfl;(simp +decide only [go_sem] <;> rfl))|(apply ev_wr;rfl;rfl;(simp +decide only [go_sem] <;> rfl))|(apply ev_st;rfl;rfl;(simp +decide only [go_sem] <;> rfl))|(apply ev_yes;rfl;rfl;(simp +decide only [go_sem] <;> rfl))|(apply ev_nt;rfl;rfl;(simp +decide only [go_sem] <;> rfl))|(apply ev_no;rfl;rfl;(refine Or.inl ?_;(simp +decide only [go_sem] <;> rfl)))|(apply ev_guard;rfl;rfl;(simp +decide only [go_sem] <;> rfl);intro _;rotate_left;intro _;rotate_right)|(apply wp_ift;(simp +decide only [go_sem] <;> rfl))|(apply wp_iff;(simp +decide only [go_sem] <;> rfl))|(apply wp_ifu;(simp +decide only [go_sem] <;> rfl);intro _;rotate_left;intro _;rotate_right)|(apply wp_if;(simp +decide only [go_sem] <;> rfl);intro _;rotate_left;intro _;rotate_right)|apply on_n|apply th_r|apply th_e|apply bl_n|apply bl_r|apply bl_e|(apply bl_o;(rfl))|apply wp_sk|apply wp_lb|apply wp_rt|apply wp_ex|(apply bq_r;(simp +decide only [go_sem] <;> rfl))|(apply bq_n;(simp +decide only [go_sem] <;> rfl))))
  rfl
theorem partsVL_drop {l : List Vlu} {i : Nat} (h : i < l.length) : partsVL (l.drop i) = partsV l[i] ++ partsVL (l.drop (i + 1)) := by
  rw [List.drop_eq_getElem_cons h, partsVL]
theorem partsVL_take {l : List Vlu} {i : Nat} (h : i < l.length) : partsVL (l.take (i + 1)) = partsVL (l.take i) ++ partsV l[i] := by
  rw [List.take_succ_eq_append_getElem h]
  have : ∀ a b : List Vlu, partsVL (a ++ b) = partsVL a ++ partsVL b := fun a b => by
    induction a with
    | nil => rfl
    | cons x a ih => simp [partsVL, ih]
  rw [this]
  simp [partsVL]
set_option maxHeartbeats 4000000 in
theorem parts_ps : ∀ (x : Vlu), x.Ok → PS Try.prog 57 [.ep x.cells] ((partsV x).map encV)
  | .mk k n s l, hx => by
    obtain ⟨hl, hv, hs, hk, hn⟩ := hx.parts
    have ih : ∀ y ∈ l, PS Try.prog 57 [.ep y.cells] ((partsV y).map encV) := fun y hy => parts_ps y (hv y hy)
    have ex : encV (.mk k n s l) = [.agg [.int .i64 k, .int .i64 n, .str s, .sl l.length (rowV.cs l)]] := by rw [encV, Vlu.cells_mk]
    rw [Vlu.cells_mk, partsV, List.map_cons, ex]
    refine ps_of_pwp Try.func57 rfl rfl (by kernel_rfl) fun y => ?_
    (repeat' (first|apply th_n|apply wp_sq|apply wp_blk|apply wp_reg|apply wp_regd|(apply nm_and;kernel_rfl)|apply ev_nil|(apply ev_val;rfl;rfl;(simp +decide only [go_sem] <;> rfl))|(apply ev_yld;rfl;rfl;rfl;(simp +decide only [go_sem] <;> rfl);(simp +decide only [go_sem] <;> rfl);(simp +decide only [go_sem] <;> rfl))|(apply it_r;refine Or.inr ?_;(simp +decide only [go_sem] <;> rfl))|(apply ev_wr;rfl;rfl;(simp +decide only [go_sem] <;> rfl))|(apply ev_st;rfl;rfl;(simp +decide only [go_sem] <;> rfl))|(apply ev_yes;rfl;rfl;(simp +decide only [go_sem] <;> rfl))|(apply ev_nt;rfl;rfl;(simp +decide only [go_sem] <;> rfl))|(apply ev_no;rfl;rfl;(refine Or.inl ?_;(simp +decide only [go_sem] <;> rfl)))|(apply ev_guard;rfl;rfl;(simp +decide only [go_sem] <;> rfl);intro _;rotate_left;intro _;rotate_right)|(apply wp_ift;(simp +decide only [go_sem] <;> rfl))|(apply wp_iff;(simp +decide only [go_sem] <;> rfl))|(apply wp_ifu;(simp +decide only [go_sem] <;> rfl);intro _;rotate_left;intro _;rotate_right)|(apply wp_if;(simp +decide only [go_sem] <;> rfl);intro _;rotate_left;intro _;rotate_right)|apply on_n|apply th_r|apply th_e|apply bl_n|apply bl_r|apply bl_e|(apply bl_o;(rfl))|apply wp_sk|apply wp_lb|apply wp_rt|apply wp_ex|(apply bq_r;(simp +decide only [go_sem] <;> rfl))|(apply bq_n;(simp +decide only [go_sem] <;> rfl))))
    generalize [D.agg [.int .i64 k, .int .i64 n, .str s, .sl l.length (rowV.cs l)]] = c0
    refine wp_lp (fun m f H => ∃ i : Nat, f = frm [(1000000, .trace y ([c0] ++ (partsVL (l.take i)).map encV) ((partsVL (l.drop i)).map encV)), (2, .loc 2 0), (11, .d (.sl l.length (rowV.cs l))), (12, .d (.int .i64 l.length)), (13, .d (.int .i64 i))] ∧ H = hpm [(2, .box [.yld y])] ∧ i ≤ l.length ∧ m = l.length - i) l.length _ _
      (Cv.keepH [(1000000, .trace y [c0] ((partsVL l).map encV)), (2, .loc 2 0), (11, .d (.sl l.length (rowV.cs l))), (12, .d (.int .i64 l.length)), (13, .d (.int .i64 0))] [(2, .box [.yld y])] (by (repeat' (first | exact trivial | apply And.intro | ((simp +decide only [go_sem] <;> rfl)) | rfl))) (by (repeat' (first | exact trivial | apply And.intro | ((simp +decide only [go_sem] <;> rfl)) | rfl))) rfl) ⟨0, rfl, rfl, by omega, rfl⟩ ?_
    rintro m f H ⟨i, rfl, rfl, hi, rfl⟩
    by_cases h : i < l.length
    · obtain ⟨e1, e2, e3⟩ := at_in h
      have hx : l[i]? = some l[i] := by simp [h]
      obtain ⟨e4, e7⟩ := rowV.rd hx (n := 4) rfl
      obtain ⟨e8, e9⟩ := rowV.full l[i] (n := 4) rfl
      have e5 := wrap_succ h hl
      have hc := parts_pc l[i]
      rw [partsVL_drop h, List.map_append]
      generalize hA : [c0] ++ (partsVL (l.take i)).map encV = A
      generalize hB : (partsVL (l.drop (i + 1))).map encV = B
      (have hF := And.intro e1 (And.intro e2 (And.intro e3 (And.intro e4 (And.intro e7 (And.intro e5 (And.intro e8 e9)))))); repeat' (first|apply th_n|apply wp_sq|apply wp_blk|apply wp_reg|apply wp_regd|(apply nm_and;kernel_rfl)|apply ev_nil|(apply ev_val;rfl;rfl;(simp +decide only [go_sem, hF] <;> rfl))|(apply ev_call;rfl;rfl;rfl;(simp +decide only [go_sem, hF] <;> rfl);(simp +decide only [go_sem, hF] <;> rfl);(first|exact hc))|(apply ev_yld;rfl;rfl;rfl;(simp +decide only [go_sem, hF] <;> rfl);(simp +decide only [go_sem, hF] <;> rfl);(simp +decide only [go_sem, hF] <;> rfl))|(apply it_r;refine Or.inr ?_;(simp +decide only [go_sem, hF] <;> rfl))|(apply ev_wr;rfl;rfl;(simp +decide only [go_sem, hF] <;> rfl))|(apply ev_st;rfl;rfl;(simp +decide only [go_sem, hF] <;> rfl))|(apply ev_yes;rfl;rfl;(simp +decide only [go_sem, hF] <;> rfl))|(apply ev_nt;rfl;rfl;(simp +decide only [go_sem, hF] <;> rfl))|(apply ev_no;rfl;rfl;(refine Or.inl ?_;(simp +decide only [go_sem, hF] <;> rfl)))|(apply ev_guard;rfl;rfl;(simp +decide only [go_sem, hF] <;> rfl);intro _;rotate_left;intro _;rotate_right)|(apply wp_ift;(simp +decide only [go_sem, hF] <;> rfl))|(apply wp_iff;(simp +decide only [go_sem, hF] <;> rfl))|(apply wp_ifu;(simp +decide only [go_sem, hF] <;> rfl);intro _;rotate_left;intro _;rotate_right)|(apply wp_if;(simp +decide only [go_sem, hF] <;> rfl);intro _;rotate_left;intro _;rotate_right)|apply on_n|apply th_r|apply th_e|apply bl_n|apply bl_r|apply bl_e|(apply bl_o;(rfl))|apply wp_sk|apply wp_lb|apply wp_rt|apply wp_ex|(apply bq_r;(simp +decide only [go_sem, hF] <;> rfl))|(apply bq_n;(simp +decide only [go_sem, hF] <;> rfl))))
      refine wp_rg [19] rfl (ih l[i] (List.getElem_mem h)) (fun d hd => by obtain ⟨u, _, rfl⟩ := List.mem_map.1 hd; rfl)
        (fun pre f H => ∃ rest, (partsV l[i]).map encV = pre ++ rest ∧ f = frm [(1000000, .trace y (A ++ pre) (rest ++ B)), (2, .loc 2 0), (11, .d (.sl l.length (rowV.cs l))), (12, .d (.int .i64 l.length)), (13, .d (.int .i64 i)), (18, .d (.fn (.func 57) [] [.ep l[i].cells]))] ∧ H = hpm [(2, .box [.yld y])])
        [(1000000, .trace y A ((partsV l[i]).map encV ++ B)), (2, .loc 2 0), (11, .d (.sl l.length (rowV.cs l))), (12, .d (.int .i64 l.length)), (13, .d (.int .i64 i)), (18, .d (.fn (.func 57) [] [.ep l[i].cells]))] (hpm [(2, .box [.yld y])])
        (Cv.keepH _ _ (by (repeat' (first | exact trivial | apply And.intro | ((simp +decide only [go_sem] <;> rfl)) | rfl))) (by (repeat' (first | exact trivial | apply And.intro | ((simp +decide only [go_sem] <;> rfl)) | rfl))) rfl) rfl (by (simp +decide only [go_sem] <;> rfl)) ⟨_, rfl, by rw [List.append_nil], rfl⟩ ?_ ?_
      · rintro pre d rest f H hx ⟨rest', hr', rfl, rfl⟩
        obtain rfl : rest' = d :: rest := List.append_cancel_left (hr'.symm.trans hx)
        obtain ⟨u, -, rfl⟩ : ∃ u ∈ partsV l[i], d = [.agg u.cells] := by
          have : d ∈ (partsV l[i]).map encV := by rw [hx]; simp
          obtain ⟨u, h1, h2⟩ := List.mem_map.1 this
          exact ⟨u, h1, h2.symm⟩
        obtain ⟨f8, f9⟩ : (u.cells.map SV.d).take 4 = u.cells.map SV.d ∧ u.cells.length = 4 := rowV.full u (n := 4) rfl
        (have hF := And.intro f8 f9; repeat' (first|apply th_n|apply wp_sq|apply wp_blk|apply wp_reg|apply wp_regd|(apply nm_and;kernel_rfl)|apply ev_nil|(apply ev_val;rfl;rfl;(simp +decide only [go_sem, hF] <;> rfl))|(apply ev_yld;rfl;rfl;rfl;(simp +decide only [go_sem, hF] <;> rfl);(simp +decide only [go_sem, hF] <;> rfl);(simp +decide only [go_sem, hF] <;> rfl))|(apply it_r;refine Or.inr ?_;(simp +decide only [go_sem, hF] <;> rfl))|(apply ev_wr;rfl;rfl;(simp +decide only [go_sem, hF] <;> rfl))|(apply ev_st;rfl;rfl;(simp +decide only [go_sem, hF] <;> rfl))|(apply ev_yes;rfl;rfl;(simp +decide only [go_sem, hF] <;> rfl))|(apply ev_nt;rfl;rfl;(simp +decide only [go_sem, hF] <;> rfl))|(apply ev_no;rfl;rfl;(refine Or.inl ?_;(simp +decide only [go_sem, hF] <;> rfl)))|(apply ev_guard;rfl;rfl;(simp +decide only [go_sem, hF] <;> rfl);intro _;rotate_left;intro _;rotate_right)|(apply wp_ift;(simp +decide only [go_sem, hF] <;> rfl))|(apply wp_iff;(simp +decide only [go_sem, hF] <;> rfl))|(apply wp_ifu;(simp +decide only [go_sem, hF] <;> rfl);intro _;rotate_left;intro _;rotate_right)|(apply wp_if;(simp +decide only [go_sem, hF] <;> rfl);intro _;rotate_left;intro _;rotate_right)|apply on_n|apply th_r|apply th_e|apply bl_n|apply bl_r|apply bl_e|(apply bl_o;(rfl))|apply wp_sk|apply wp_lb|apply wp_rt|apply wp_ex|(apply bq_r;(simp +decide only [go_sem, hF] <;> rfl))|(apply bq_n;(simp +decide only [go_sem, hF] <;> rfl))))
        · exact rd_n ⟨[(1000000, .trace y (A ++ pre ++ [[.agg u.cells]]) (rest ++ B)), (2, .loc 2 0), (11, .d (.sl l.length (rowV.cs l))), (12, .d (.int .i64 l.length)), (13, .d (.int .i64 i)), (18, .d (.fn (.func 57) [] [.ep l[i].cells]))], hpm [(2, .box [.yld y])],
            Cv.keepH _ _ (by (repeat' (first | exact trivial | apply And.intro | ((simp +decide only [go_sem] <;> rfl)) | rfl))) (by (repeat' (first | exact trivial | apply And.intro | ((simp +decide only [go_sem] <;> rfl)) | rfl))) rfl, rfl, rest, by rw [hx]; simp, by rw [List.append_assoc], rfl⟩
        · refine rd_r ⟨[(1000000, .stop)], hpm [], Cv.keepH _ _ (by (repeat' (first | exact trivial | apply And.intro | ((simp +decide only [go_sem] <;> rfl)) | rfl))) (by (repeat' (first | exact trivial | apply And.intro | ((simp +decide only [go_sem] <;> rfl)) | rfl))) rfl, rfl, ?_⟩
          (repeat' (first|apply th_n|apply wp_sq|apply wp_blk|apply wp_reg|apply wp_regd|(apply nm_and;kernel_rfl)|apply ev_nil|(apply ev_val;rfl;rfl;(simp +decide only [go_sem] <;> rfl))|(apply ev_yld;rfl;rfl;rfl;(simp +decide only [go_sem] <;> rfl);(simp +decide only [go_sem] <;> rfl);(simp +decide only [go_sem] <;> rfl))|(apply it_r;refine Or.inr ?_;(simp +decide only [go_sem] <;> rfl))|(apply ev_wr;rfl;rfl;(simp +decide only [go_sem] <;> rfl))|(apply ev_st;rfl;rfl;(simp +decide only [go_sem] <;> rfl))|(apply ev_yes;rfl;rfl;(simp +decide only [go_sem] <;> rfl))|(apply ev_nt;rfl;rfl;(simp +decide only [go_sem] <;> rfl))|(apply ev_no;rfl;rfl;(refine Or.inl ?_;(simp +decide only [go_sem] <;> rfl)))|(apply ev_guard;rfl;rfl;(simp +decide only [go_sem] <;> rfl);intro _;rotate_left;intro _;rotate_right)|(apply wp_ift;(simp +decide only [go_sem] <;> rfl))|(apply wp_iff;(simp +decide only [go_sem] <;> rfl))|(apply wp_ifu;(simp +decide only [go_sem] <;> rfl);intro _;rotate_left;intro _;rotate_right)|(apply wp_if;(simp +decide only [go_sem] <;> rfl);intro _;rotate_left;intro _;rotate_right)|apply on_n|apply th_r|apply th_e|apply bl_n|apply bl_r|apply bl_e|(apply bl_o;(rfl))|apply wp_sk|apply wp_lb|apply wp_rt|apply wp_ex|(apply bq_r;(simp +decide only [go_sem] <;> rfl))|(apply bq_n;(simp +decide only [go_sem] <;> rfl))))
      · rintro f H ⟨rest, hr, rfl, rfl⟩
        obtain rfl : rest = [] := by simpa using hr
        rw [← hA, ← hB, List.append_assoc, ← List.map_append, ← partsVL_take h]
        (repeat' (first|apply th_n|apply wp_sq|apply wp_blk|apply wp_reg|apply wp_regd|(apply nm_and;kernel_rfl)|apply ev_nil|(apply ev_val;rfl;rfl;(simp +decide only [go_sem, e5] <;> rfl))|(apply ev_yld;rfl;rfl;rfl;(simp +decide only [go_sem, e5] <;> rfl);(simp +decide only [go_sem, e5] <;> rfl);(simp +decide only [go_sem, e5] <;> rfl))|(apply it_r;refine Or.inr ?_;(simp +decide only [go_sem, e5] <;> rfl))|(apply ev_wr;rfl;rfl;(simp +decide only [go_sem, e5] <;> rfl))|(apply ev_st;rfl;rfl;(simp +decide only [go_sem, e5] <;> rfl))|(apply ev_yes;rfl;rfl;(simp +decide only [go_sem, e5] <;> rfl))|(apply ev_nt;rfl;rfl;(simp +decide only [go_sem, e5] <;> rfl))|(apply ev_no;rfl;rfl;(refine Or.inl ?_;(simp +decide only [go_sem, e5] <;> rfl)))|(apply ev_guard;rfl;rfl;(simp +decide only [go_sem, e5] <;> rfl);intro _;rotate_left;intro _;rotate_right)|(apply wp_ift;(simp +decide only [go_sem, e5] <;> rfl))|(apply wp_iff;(simp +decide only [go_sem, e5] <;> rfl))|(apply wp_ifu;(simp +decide only [go_sem, e5] <;> rfl);intro _;rotate_left;intro _;rotate_right)|(apply wp_if;(simp +decide only [go_sem, e5] <;> rfl);intro _;rotate_left;intro _;rotate_right)|apply on_n|apply th_r|apply th_e|apply bl_n|apply bl_r|apply bl_e|(apply bl_o;(rfl))|apply wp_sk|apply wp_lb|apply wp_rt|apply wp_ex|(apply bq_r;(simp +decide only [go_sem, e5] <;> rfl))|(apply bq_n;(simp +decide only [go_sem, e5] <;> rfl))))
        exact ⟨l.length - (i + 1), _, _, by omega, Cv.keepH [(1000000, .trace y ([c0] ++ (partsVL (l.take (i + 1))).map encV) ((partsVL (l.drop (i + 1))).map encV)), (2, .loc 2 0), (11, .d (.sl l.length (rowV.cs l))), (12, .d (.int .i64 l.length)), (13, .d (.int .i64 ((i + 1 : Nat) : Int)))] [(2, .box [.yld y])] (by (repeat' (first | exact trivial | apply And.intro | ((simp +decide only [go_sem] <;> rfl)) | rfl))) (by (repeat' (first | exact trivial | apply And.intro | ((simp +decide only [go_sem] <;> rfl)) | rfl))) rfl, i + 1, rfl, rfl, h, rfl⟩
    · have e1 := at_out h
      obtain rfl : i = l.length := by omega
      rw [List.take_length, List.drop_length]
      (repeat' (first|apply th_n|apply wp_sq|apply wp_blk|apply wp_reg|apply wp_regd|(apply nm_and;kernel_rfl)|apply ev_nil|(apply ev_val;rfl;rfl;(simp +decide only [go_sem, e1] <;> rfl))|(apply ev_yld;rfl;rfl;rfl;(simp +decide only [go_sem, e1] <;> rfl);(simp +decide only [go_sem, e1] <;> rfl);(simp +decide only [go_sem, e1] <;> rfl))|(apply it_r;refine Or.inr ?_;(simp +decide only [go_sem, e1] <;> rfl))|(apply ev_wr;rfl;rfl;(simp +decide only [go_sem, e1] <;> rfl))|(apply ev_st;rfl;rfl;(simp +decide only [go_sem, e1] <;> rfl))|(apply ev_yes;rfl;rfl;(simp +decide only [go_sem, e1] <;> rfl))|(apply ev_nt;rfl;rfl;(simp +decide only [go_sem, e1] <;> rfl))|(apply ev_no;rfl;rfl;(refine Or.inl ?_;(simp +decide only [go_sem, e1] <;> rfl)))|(apply ev_guard;rfl;rfl;(simp +decide only [go_sem, e1] <;> rfl);intro _;rotate_left;intro _;rotate_right)|(apply wp_ift;(simp +decide only [go_sem, e1] <;> rfl))|(apply wp_iff;(simp +decide only [go_sem, e1] <;> rfl))|(apply wp_ifu;(simp +decide only [go_sem, e1] <;> rfl);intro _;rotate_left;intro _;rotate_right)|(apply wp_if;(simp +decide only [go_sem, e1] <;> rfl);intro _;rotate_left;intro _;rotate_right)|apply on_n|apply th_r|apply th_e|apply bl_n|apply bl_r|apply bl_e|(apply bl_o;(rfl))|apply wp_sk|apply wp_lb|apply wp_rt|apply wp_ex|(apply bq_r;(simp +decide only [go_sem, e1] <;> rfl))|(apply bq_n;(simp +decide only [go_sem, e1] <;> rfl))))
      exact it_n (.inl (by simp [frm, upd, partsVL]))
end Go.Proofs.Ytandclggkgmpgaa
