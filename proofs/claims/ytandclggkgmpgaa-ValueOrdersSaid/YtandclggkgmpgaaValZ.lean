/- ValueParts walked. Conditions: the value is as what comes in is. -/
import Derived.Test.YtandclggkgmpgaaValY
import Derived.Test.YtandclggkgmpgaaValK
import Derived.Test.YtandclggkgmpgaaValU
set_option maxRecDepth 100000
set_option linter.unusedVariables false
set_option linter.unusedSimpArgs false
set_option linter.unusedSectionVars false
namespace Go.Proofs.Ytandclggkgmpgaa
open Go.RowKit

theorem sameV_refl : ∀ x : Vlu, sameV x x = true
  | .mk k n s l => by
    rw [sameV, sameVL_all2]
    have h : ∀ x ∈ l, sameV x x = true := fun x hx => sameV_refl x
    have : ∀ l : List Vlu, (∀ x ∈ l, sameV x x = true) → all2 sameV l l = true := by
      intro l
      induction l with
      | nil => intro _; rfl
      | cons x l ih => intro h; rw [all2, h x (by simp), ih fun y hy => h y (by simp [hy])]; rfl
    simp [this l h]
termination_by x => SizeOf.sizeOf x
decreasing_by (have := List.sizeOf_lt_of_mem hx; simp; omega)
theorem vRight_cases {n : Nat} {k v : Int} {s : ByteArray} {l : List Vlu} (h : vRight n (.mk k v s l) = true) : l = [] ∨ (∃ m, n = m + 1 ∧ l.length ≤ 4 ∧ ∀ x ∈ l, vRight m x = true) := by
  by_cases h0 : k = 0
  · subst h0; rw [vRight_k0] at h; simp at h; exact .inl h.2
  by_cases h1 : k = 1
  · subst h1; rw [vRight_k1] at h; simp at h; exact .inl h.2
  by_cases h2 : k = 2
  · subst h2; rw [vRight_k2] at h; simp at h; exact .inl h.2
  by_cases h3 : k = 3
  · subst h3
    by_cases hc : v = 0 ∧ eb s = true ∧ 1 ≤ l.length ∧ l.length ≤ 4
    · obtain ⟨rfl, hb, l1, l4⟩ := hc
      cases n with
      | zero => rw [vRight_zero] at h; cases h
      | succ m =>
        rw [vRight_succ hb l1 l4] at h
        exact .inr ⟨m, rfl, l4, by simpa using h⟩
    · rw [vRight_no hc] at h; cases h
  rw [vRight_other h0 h1 h2 h3] at h; cases h
theorem partsVL_sum {b : Nat} : ∀ l : List Vlu, (∀ x ∈ l, (partsV x).length ≤ b) → (partsVL l).length ≤ l.length * b
  | [], _ => by simp [partsVL]
  | x :: l, h => by
    have := partsVL_sum l fun y hy => h y (by simp [hy])
    have := h x (by simp)
    simp only [partsVL, List.length_append, List.length_cons, Nat.succ_mul]
    omega
def bndP : Nat → Nat
  | 0 => 1
  | n + 1 => 1 + 4 * bndP n
theorem right_bnd : ∀ (n : Nat) (x : Vlu), vRight n x = true → (partsV x).length ≤ bndP n ∧ x.Sm
  | n, .mk k v s l, h => by
    rcases vRight_cases h with rfl | ⟨m, rfl, l4, hl⟩
    · refine ⟨?_, .mk _ _ _ _ (by simp) (by simp)⟩
      have : 1 ≤ bndP n := by cases n <;> simp [bndP] <;> omega
      simpa [partsV, partsVL] using this
    · have ih := fun x hx => right_bnd m x (hl x hx)
      refine ⟨?_, .mk _ _ _ _ (by omega) fun x hx => (ih x hx).2⟩
      have h1 := partsVL_sum l fun x hx => (ih x hx).1
      have h2 : l.length * bndP m ≤ 4 * bndP m := Nat.mul_le_mul_right _ l4
      simp only [partsV, List.length_cons, bndP]
      omega
theorem partsV_ok : ∀ (x : Vlu), x.Ok → ∀ y ∈ partsV x, y.Ok
  | .mk k n s l, hx => by
    obtain ⟨hl, hv, hs, hk, hn⟩ := hx.parts
    have ih : ∀ x ∈ l, ∀ y ∈ partsV x, y.Ok := fun x h => partsV_ok x (hv x h)
    have : ∀ l : List Vlu, (∀ x ∈ l, ∀ y ∈ partsV x, y.Ok) → ∀ y ∈ partsVL l, y.Ok := by
      intro l
      induction l with
      | nil => intro _ y hy; simp [partsVL] at hy
      | cons x l ih =>
        intro h y hy
        rw [partsVL, List.mem_append] at hy
        exact hy.elim (h x (by simp) y) (ih (fun z hz => h z (by simp [hz])) y)
    intro y hy
    rw [partsV, List.mem_cons] at hy
    exact hy.elim (fun e => e ▸ hx) (this l ih y)
/-- What comes behind a block, told once. -/
theorem wp_tail {P : Program} {c : Code} {i : Nat} {K : Frm → Hp → Prop} {E : Exit → Frm → Hp → Prop} {f : Frm} {H : Hp} (T : Frm → Hp → Prop) (h1 : ∀ f H, T f H → K f H)
    (h2 : ∀ K', (∀ f H, T f H → K' f H) → pwp P c (pBlock i (pThen K' E)) f H) : pwp P c (pBlock i (pThen K E)) f H := h2 K h1
set_option maxHeartbeats 4000000 in
theorem partsLaw_pc (x : Vlu) (hx : x.Ok) (st : Int) (hs0 : 0 ≤ st) (hs1 : st ≤ 255) : PC Try.prog 6 [.agg x.cells, .int .u8 st] (.bool true) := by
  have hf : PC Try.prog 19 [.sl 1 x.cells] (.bool (fewV [x])) := by
    have h := few_pc [x] (by simp) (by simpa using hx)
    rw [Row.cs_cons, Row.cs_nil, List.append_nil] at h
    exact h
  have hr := RRight_pc x hx
  have hP := Parts_pc x
  have hps := PartsC_ps x hx (fun h => (right_bnd 3 x h).2)
  have hbd := fun h => (right_bnd 3 x h).1
  have hCo := fun (h : (if vRight 3 x = true then partsV x else []).length ≤ 1000000) => Collect_pc 44 [.ep x.cells] (if vRight 3 x = true then partsV x else []) h (by split <;> rename_i h <;> simpa [h] using hps)
  have hW := RParts_pc x hx
  have hok := partsV_ok x hx
  generalize hL : partsV x = L at *
  generalize fewV [x] = fw at *
  generalize vRight 3 x = r at *
  clear hL
  obtain ⟨k, n, s, l⟩ := x
  rw [Vlu.cells_mk] at *
  refine pc_of_pwp _ Try.func6 rfl Try.results6 (by kernel_rfl) ?_
  cases fw
  · (repeat' (first|apply th_n|apply wp_sq|apply wp_blk|apply wp_reg|apply wp_regd|(apply nm_and;kernel_rfl)|apply ev_nil|(apply ev_val;rfl;rfl;(simp +decide only [go_sem] <;> rfl))|(apply ev_call;rfl;rfl;rfl;(simp +decide only [go_sem] <;> rfl);(simp +decide only [go_sem] <;> rfl);(first|exact awake_pc|exact hf))|(apply ev_wr;rfl;rfl;(simp +decide only [go_sem] <;> rfl))|(apply ev_st;rfl;rfl;(simp +decide only [go_sem] <;> rfl))|(apply ev_yes;rfl;rfl;(simp +decide only [go_sem] <;> rfl))|(apply ev_nt;rfl;rfl;(simp +decide only [go_sem] <;> rfl))|(apply ev_no;rfl;rfl;(refine Or.inl ?_;(simp +decide only [go_sem] <;> rfl)))|(apply ev_guard;rfl;rfl;(simp +decide only [go_sem] <;> rfl);intro _;rotate_left;intro _;rotate_right)|(apply wp_ift;(simp +decide only [go_sem] <;> rfl))|(apply wp_iff;(simp +decide only [go_sem] <;> rfl))|(apply wp_ifu;(simp +decide only [go_sem] <;> rfl);intro _;rotate_left;intro _;rotate_right)|(apply wp_if;(simp +decide only [go_sem] <;> rfl);intro _;rotate_left;intro _;rotate_right)|apply on_n|apply th_r|apply th_e|apply bl_n|apply bl_r|apply bl_e|(apply bl_o;(rfl))|apply wp_sk|apply wp_lb|apply wp_rt|apply wp_ex|(apply bq_r;(simp +decide only [go_sem] <;> rfl))|(apply bq_n;(simp +decide only [go_sem] <;> rfl))))
    rfl
  cases r
  · rw [if_neg (by simp)] at hCo hps
    have hCo := hCo (by simp)
    rw [Row.cs_nil] at hCo
    (repeat' (first|apply th_n|apply wp_sq|apply wp_blk|apply wp_reg|apply wp_regd|(apply nm_and;kernel_rfl)|apply ev_nil|(apply ev_val;rfl;rfl;(simp +decide only [go_sem] <;> rfl))|(apply ev_call;rfl;rfl;rfl;(simp +decide only [go_sem] <;> rfl);(simp +decide only [go_sem] <;> rfl);(first|exact awake_pc|exact hf|exact hr|exact hP|exact hCo))|(apply ev_wr;rfl;rfl;(simp +decide only [go_sem] <;> rfl))|(apply ev_st;rfl;rfl;(simp +decide only [go_sem] <;> rfl))|(apply ev_yes;rfl;rfl;(simp +decide only [go_sem] <;> rfl))|(apply ev_nt;rfl;rfl;(simp +decide only [go_sem] <;> rfl))|(apply ev_no;rfl;rfl;(refine Or.inl ?_;(simp +decide only [go_sem] <;> rfl)))|(apply ev_guard;rfl;rfl;(simp +decide only [go_sem] <;> rfl);intro _;rotate_left;intro _;rotate_right)|(apply wp_ift;(simp +decide only [go_sem] <;> rfl))|(apply wp_iff;(simp +decide only [go_sem] <;> rfl))|(apply wp_ifu;(simp +decide only [go_sem] <;> rfl);intro _;rotate_left;intro _;rotate_right)|(apply wp_if;(simp +decide only [go_sem] <;> rfl);intro _;rotate_left;intro _;rotate_right)|apply on_n|apply th_r|apply th_e|apply bl_n|apply bl_r|apply bl_e|(apply bl_o;(rfl))|apply wp_sk|apply wp_lb|apply wp_rt|apply wp_ex|(apply bq_r;(simp +decide only [go_sem] <;> rfl))|(apply bq_n;(simp +decide only [go_sem] <;> rfl))))
    generalize hC : [D.int .i64 k, .int .i64 n, .str s, .sl l.length (rowV.cs l)] = C at *
    refine wp_rg [27] rfl hps (fun d hd => by cases hd)
      (fun pre f H => f = frm [(5, .nil), (6, .d (.sl 0 [])), (7, .loc 7 0), (3, .loc 3 0), (26, .d (.fn (.func 44) [] [.ep C]))] ∧ H = hpm [(3, .box [.d (.int .u8 st)]), (7, .box [.d (.int .i64 0)])])
      [(5, .nil), (6, .d (.sl 0 [])), (7, .loc 7 0), (3, .loc 3 0), (26, .d (.fn (.func 44) [] [.ep C]))] (hpm [(3, .box [.d (.int .u8 st)]), (7, .box [.d (.int .i64 0)])])
      (Cv.keepH _ _ (by (repeat' (first | exact trivial | apply And.intro | ((simp +decide only [go_sem] <;> rfl)) | rfl))) (by (repeat' (first | exact trivial | apply And.intro | ((simp +decide only [go_sem] <;> rfl)) | rfl))) rfl) rfl (by (simp +decide only [go_sem] <;> rfl)) ⟨rfl, rfl⟩ ?_ ?_
    · rintro pre d rest f H hx -
      cases pre <;> cases hx
    · rintro f H ⟨rfl, rfl⟩
      have e1 : decide ((0 : Int) < 0) = false := rfl
      have e2 : decide ((0 : Int) > 0) = false := rfl
      (have hF := And.intro e1 e2; repeat' (first|apply th_n|apply wp_sq|apply wp_blk|apply wp_reg|apply wp_regd|(apply nm_and;kernel_rfl)|apply ev_nil|(apply ev_val;rfl;rfl;(simp +decide only [go_sem, hF, bne_self_eq_false] <;> rfl))|(apply ev_wr;rfl;rfl;(simp +decide only [go_sem, hF, bne_self_eq_false] <;> rfl))|(apply ev_st;rfl;rfl;(simp +decide only [go_sem, hF, bne_self_eq_false] <;> rfl))|(apply ev_yes;rfl;rfl;(simp +decide only [go_sem, hF, bne_self_eq_false] <;> rfl))|(apply ev_nt;rfl;rfl;(simp +decide only [go_sem, hF, bne_self_eq_false] <;> rfl))|(apply ev_no;rfl;rfl;(refine Or.inl ?_;(simp +decide only [go_sem, hF, bne_self_eq_false] <;> rfl)))|(apply ev_guard;rfl;rfl;(simp +decide only [go_sem, hF, bne_self_eq_false] <;> rfl);intro _;rotate_left;intro _;rotate_right)|(apply wp_ift;(simp +decide only [go_sem, hF, bne_self_eq_false] <;> rfl))|(apply wp_iff;(simp +decide only [go_sem, hF, bne_self_eq_false] <;> rfl))|(apply wp_ifu;(simp +decide only [go_sem, hF, bne_self_eq_false] <;> rfl);intro _;rotate_left;intro _;rotate_right)|(apply wp_if;(simp +decide only [go_sem, hF, bne_self_eq_false] <;> rfl);intro _;rotate_left;intro _;rotate_right)|apply on_n|apply th_r|apply th_e|apply bl_n|apply bl_r|apply bl_e|(apply bl_o;(rfl))|apply wp_sk|apply wp_lb|apply wp_rt|apply wp_ex|(apply bq_r;(simp +decide only [go_sem, hF, bne_self_eq_false] <;> rfl))|(apply bq_n;(simp +decide only [go_sem, hF, bne_self_eq_false] <;> rfl))))
      refine wp_lp (fun m f H => f = frm [(6, .d (.sl 0 [])), (8, .d (.int .i64 0))] ∧ H = hpm [] ∧ m = 0) 0 _ _
        (Cv.keepH [(6, .d (.sl 0 [])), (8, .d (.int .i64 0))] [] (by (repeat' (first | exact trivial | apply And.intro | ((simp +decide only [go_sem] <;> rfl)) | rfl))) (by (repeat' (first | exact trivial | apply And.intro | ((simp +decide only [go_sem] <;> rfl)) | rfl))) rfl) ⟨rfl, rfl, rfl⟩ ?_
      rintro m f H ⟨rfl, rfl, rfl⟩
      (repeat' (first|apply th_n|apply wp_sq|apply wp_blk|apply wp_reg|apply wp_regd|(apply nm_and;kernel_rfl)|apply ev_nil|(apply ev_val;rfl;rfl;(simp +decide only [go_sem, e1] <;> rfl))|(apply ev_wr;rfl;rfl;(simp +decide only [go_sem, e1] <;> rfl))|(apply ev_st;rfl;rfl;(simp +decide only [go_sem, e1] <;> rfl))|(apply ev_yes;rfl;rfl;(simp +decide only [go_sem, e1] <;> rfl))|(apply ev_nt;rfl;rfl;(simp +decide only [go_sem, e1] <;> rfl))|(apply ev_no;rfl;rfl;(refine Or.inl ?_;(simp +decide only [go_sem, e1] <;> rfl)))|(apply ev_guard;rfl;rfl;(simp +decide only [go_sem, e1] <;> rfl);intro _;rotate_left;intro _;rotate_right)|(apply wp_ift;(simp +decide only [go_sem, e1] <;> rfl))|(apply wp_iff;(simp +decide only [go_sem, e1] <;> rfl))|(apply wp_ifu;(simp +decide only [go_sem, e1] <;> rfl);intro _;rotate_left;intro _;rotate_right)|(apply wp_if;(simp +decide only [go_sem, e1] <;> rfl);intro _;rotate_left;intro _;rotate_right)|apply on_n|apply th_r|apply th_e|apply bl_n|apply bl_r|apply bl_e|(apply bl_o;(rfl))|apply wp_sk|apply wp_lb|apply wp_rt|apply wp_ex|(apply bq_r;(simp +decide only [go_sem, e1] <;> rfl))|(apply bq_n;(simp +decide only [go_sem, e1] <;> rfl))))
      rfl
  · rw [if_pos rfl] at hCo hps
    have hb : L.length ≤ 85 := hbd rfl
    have hCo := hCo (by omega)
    have hW := hW (by omega)
    (repeat' (first|apply th_n|apply wp_sq|apply wp_blk|apply wp_reg|apply wp_regd|(apply nm_and;kernel_rfl)|apply ev_nil|(apply ev_val;rfl;rfl;(simp +decide only [go_sem] <;> rfl))|(apply ev_call;rfl;rfl;rfl;(simp +decide only [go_sem] <;> rfl);(simp +decide only [go_sem] <;> rfl);(first|exact awake_pc|exact hf|exact hr|exact hP|exact hCo|exact hW))|(apply ev_wr;rfl;rfl;(simp +decide only [go_sem] <;> rfl))|(apply ev_st;rfl;rfl;(simp +decide only [go_sem] <;> rfl))|(apply ev_yes;rfl;rfl;(simp +decide only [go_sem] <;> rfl))|(apply ev_nt;rfl;rfl;(simp +decide only [go_sem] <;> rfl))|(apply ev_no;rfl;rfl;(refine Or.inl ?_;(simp +decide only [go_sem] <;> rfl)))|(apply ev_guard;rfl;rfl;(simp +decide only [go_sem] <;> rfl);intro _;rotate_left;intro _;rotate_right)|(apply wp_ift;(simp +decide only [go_sem] <;> rfl))|(apply wp_iff;(simp +decide only [go_sem] <;> rfl))|(apply wp_ifu;(simp +decide only [go_sem] <;> rfl);intro _;rotate_left;intro _;rotate_right)|(apply wp_if;(simp +decide only [go_sem] <;> rfl);intro _;rotate_left;intro _;rotate_right)|apply on_n|apply th_r|apply th_e|apply bl_n|apply bl_r|apply bl_e|(apply bl_o;(rfl))|apply wp_sk|apply wp_lb|apply wp_rt|apply wp_ex|(apply bq_r;(simp +decide only [go_sem] <;> rfl))|(apply bq_n;(simp +decide only [go_sem] <;> rfl))))
    generalize hC : [D.int .i64 k, .int .i64 n, .str s, .sl l.length (rowV.cs l)] = C at *
    refine wp_tail (fun f H => ∃ c : Nat, c ≤ L.length ∧ (c < L.length → (c : Int) = if 1 > st then 1 else st) ∧ f = frm [(5, .d (.sl L.length (rowV.cs L))), (6, .d (.sl L.length (rowV.cs L))), (7, .loc 7 0), (3, .loc 3 0), (26, .d (.fn (.func 44) [] [.ep C]))] ∧ H = hpm [(3, .box [.d (.int .u8 st)]), (7, .box [.d (.int .i64 c)])]) ?_ fun K' hK => ?_
    · rintro f H ⟨c, c1, c2, rfl, rfl⟩
      have hw2 : IntKind.i64.wrap st = st := wrap_in (by omega)
      have g1 : decide ((c : Int) > (L.length : Int)) = false := decide_eq_false (by omega)
      have hml : L.length ≤ maxLen := by simp only [maxLen]; omega
      have key : ∀ b : Bool, decide ((c : Int) < (L.length : Int)) = b → (b = true → ((c : Int) != if 1 > st then 1 else st) = false) → b = b := fun b _ _ => rfl
      cases g2 : decide ((c : Int) < (L.length : Int))
      all_goals
        have g3 : decide ((c : Int) < (L.length : Int)) = true → ((c : Int) != if 1 > st then 1 else st) = false := fun h => by have := c2 (by simpa using h); rw [this]; simp
        try have g4 := g3 g2
        clear g3 key
        first | (have hF := And.intro g1 (And.intro g2 (And.intro g4 hw2)); repeat' (first|apply th_n|apply wp_sq|apply wp_blk|apply wp_reg|apply wp_regd|(apply nm_and;kernel_rfl)|apply ev_nil|(apply ev_val;rfl;rfl;(simp +decide only [go_sem, hF, bne_self_eq_false] <;> rfl))|(apply ev_wr;rfl;rfl;(simp +decide only [go_sem, hF, bne_self_eq_false] <;> rfl))|(apply ev_st;rfl;rfl;(simp +decide only [go_sem, hF, bne_self_eq_false] <;> rfl))|(apply ev_yes;rfl;rfl;(simp +decide only [go_sem, hF, bne_self_eq_false] <;> rfl))|(apply ev_nt;rfl;rfl;(simp +decide only [go_sem, hF, bne_self_eq_false] <;> rfl))|(apply ev_no;rfl;rfl;(refine Or.inl ?_;(simp +decide only [go_sem, hF, bne_self_eq_false] <;> rfl)))|(apply ev_guard;rfl;rfl;(simp +decide only [go_sem, hF, bne_self_eq_false] <;> rfl);intro _;rotate_left;intro _;rotate_right)|(apply wp_ift;(simp +decide only [go_sem, hF, bne_self_eq_false] <;> rfl))|(apply wp_iff;(simp +decide only [go_sem, hF, bne_self_eq_false] <;> rfl))|(apply wp_ifu;(simp +decide only [go_sem, hF, bne_self_eq_false] <;> rfl);intro _;rotate_left;intro _;rotate_right)|(apply wp_if;(simp +decide only [go_sem, hF, bne_self_eq_false] <;> rfl);intro _;rotate_left;intro _;rotate_right)|apply on_n|apply th_r|apply th_e|apply bl_n|apply bl_r|apply bl_e|(apply bl_o;(rfl))|apply wp_sk|apply wp_lb|apply wp_rt|apply wp_ex|(apply bq_r;(simp +decide only [go_sem, hF, bne_self_eq_false] <;> rfl))|(apply bq_n;(simp +decide only [go_sem, hF, bne_self_eq_false] <;> rfl)))) | (have hF := And.intro g1 (And.intro g2 hw2); repeat' (first|apply th_n|apply wp_sq|apply wp_blk|apply wp_reg|apply wp_regd|(apply nm_and;kernel_rfl)|apply ev_nil|(apply ev_val;rfl;rfl;(simp +decide only [go_sem, hF, bne_self_eq_false] <;> rfl))|(apply ev_wr;rfl;rfl;(simp +decide only [go_sem, hF, bne_self_eq_false] <;> rfl))|(apply ev_st;rfl;rfl;(simp +decide only [go_sem, hF, bne_self_eq_false] <;> rfl))|(apply ev_yes;rfl;rfl;(simp +decide only [go_sem, hF, bne_self_eq_false] <;> rfl))|(apply ev_nt;rfl;rfl;(simp +decide only [go_sem, hF, bne_self_eq_false] <;> rfl))|(apply ev_no;rfl;rfl;(refine Or.inl ?_;(simp +decide only [go_sem, hF, bne_self_eq_false] <;> rfl)))|(apply ev_guard;rfl;rfl;(simp +decide only [go_sem, hF, bne_self_eq_false] <;> rfl);intro _;rotate_left;intro _;rotate_right)|(apply wp_ift;(simp +decide only [go_sem, hF, bne_self_eq_false] <;> rfl))|(apply wp_iff;(simp +decide only [go_sem, hF, bne_self_eq_false] <;> rfl))|(apply wp_ifu;(simp +decide only [go_sem, hF, bne_self_eq_false] <;> rfl);intro _;rotate_left;intro _;rotate_right)|(apply wp_if;(simp +decide only [go_sem, hF, bne_self_eq_false] <;> rfl);intro _;rotate_left;intro _;rotate_right)|apply on_n|apply th_r|apply th_e|apply bl_n|apply bl_r|apply bl_e|(apply bl_o;(rfl))|apply wp_sk|apply wp_lb|apply wp_rt|apply wp_ex|(apply bq_r;(simp +decide only [go_sem, hF, bne_self_eq_false] <;> rfl))|(apply bq_n;(simp +decide only [go_sem, hF, bne_self_eq_false] <;> rfl))))
        clear g1 g2 hw2
        refine wp_lp (fun m f H => ∃ i : Nat, f = frm [(5, .d (.sl L.length (rowV.cs L))), (6, .d (.sl L.length (rowV.cs L))), (8, .d (.int .i64 i))] ∧ H = hpm [] ∧ i ≤ L.length ∧ m = L.length - i) L.length _ _
          (Cv.keepH [(5, .d (.sl L.length (rowV.cs L))), (6, .d (.sl L.length (rowV.cs L))), (8, .d (.int .i64 0))] [] (by (repeat' (first | exact trivial | apply And.intro | ((simp +decide only [go_sem] <;> rfl)) | rfl))) (by (repeat' (first | exact trivial | apply And.intro | ((simp +decide only [go_sem] <;> rfl)) | rfl))) rfl) ⟨0, rfl, rfl, by omega, rfl⟩ ?_
        rintro m f H ⟨i, rfl, rfl, hi, rfl⟩
        by_cases h : i < L.length
        · obtain ⟨e1, e2, e3⟩ := at_in h
          have hxi : L[i]? = some L[i] := by simp [h]
          obtain ⟨e4, e7⟩ := rowV.rd hxi (n := 4) rfl
          have e5 := wrap_succ h hml
          have hc : PC Try.prog 22 [.agg (rowV.toC L[i]), .agg (rowV.toC L[i])] (.bool (sameV L[i] L[i])) := RSame_pc L[i] L[i] (hok _ (List.getElem_mem h)) (hok _ (List.getElem_mem h))
          rw [sameV_refl] at hc
          (have hF := And.intro e1 (And.intro e2 (And.intro e3 (And.intro e4 (And.intro e7 e5)))); repeat' (first|apply th_n|apply wp_sq|apply wp_blk|apply wp_reg|apply wp_regd|(apply nm_and;kernel_rfl)|apply ev_nil|(apply ev_val;rfl;rfl;(simp +decide only [go_sem, hF] <;> rfl))|(apply ev_call;rfl;rfl;rfl;(simp +decide only [go_sem, hF] <;> rfl);(simp +decide only [go_sem, hF] <;> rfl);(first|exact hc))|(apply ev_wr;rfl;rfl;(simp +decide only [go_sem, hF] <;> rfl))|(apply ev_st;rfl;rfl;(simp +decide only [go_sem, hF] <;> rfl))|(apply ev_yes;rfl;rfl;(simp +decide only [go_sem, hF] <;> rfl))|(apply ev_nt;rfl;rfl;(simp +decide only [go_sem, hF] <;> rfl))|(apply ev_no;rfl;rfl;(refine Or.inl ?_;(simp +decide only [go_sem, hF] <;> rfl)))|(apply ev_guard;rfl;rfl;(simp +decide only [go_sem, hF] <;> rfl);intro _;rotate_left;intro _;rotate_right)|(apply wp_ift;(simp +decide only [go_sem, hF] <;> rfl))|(apply wp_iff;(simp +decide only [go_sem, hF] <;> rfl))|(apply wp_ifu;(simp +decide only [go_sem, hF] <;> rfl);intro _;rotate_left;intro _;rotate_right)|(apply wp_if;(simp +decide only [go_sem, hF] <;> rfl);intro _;rotate_left;intro _;rotate_right)|apply on_n|apply th_r|apply th_e|apply bl_n|apply bl_r|apply bl_e|(apply bl_o;(rfl))|apply wp_sk|apply wp_lb|apply wp_rt|apply wp_ex|(apply bq_r;(simp +decide only [go_sem, hF] <;> rfl))|(apply bq_n;(simp +decide only [go_sem, hF] <;> rfl))))
          exact ⟨L.length - (i + 1), _, _, by omega, Cv.keepH [(5, .d (.sl L.length (rowV.cs L))), (6, .d (.sl L.length (rowV.cs L))), (8, .d (.int .i64 ((i + 1 : Nat) : Int)))] [] (by (repeat' (first | exact trivial | apply And.intro | ((simp +decide only [go_sem] <;> rfl)) | rfl))) (by (repeat' (first | exact trivial | apply And.intro | ((simp +decide only [go_sem] <;> rfl)) | rfl))) rfl, i + 1, rfl, rfl, h, rfl⟩
        · have e1 := at_out h
          (repeat' (first|apply th_n|apply wp_sq|apply wp_blk|apply wp_reg|apply wp_regd|(apply nm_and;kernel_rfl)|apply ev_nil|(apply ev_val;rfl;rfl;(simp +decide only [go_sem, e1] <;> rfl))|(apply ev_wr;rfl;rfl;(simp +decide only [go_sem, e1] <;> rfl))|(apply ev_st;rfl;rfl;(simp +decide only [go_sem, e1] <;> rfl))|(apply ev_yes;rfl;rfl;(simp +decide only [go_sem, e1] <;> rfl))|(apply ev_nt;rfl;rfl;(simp +decide only [go_sem, e1] <;> rfl))|(apply ev_no;rfl;rfl;(refine Or.inl ?_;(simp +decide only [go_sem, e1] <;> rfl)))|(apply ev_guard;rfl;rfl;(simp +decide only [go_sem, e1] <;> rfl);intro _;rotate_left;intro _;rotate_right)|(apply wp_ift;(simp +decide only [go_sem, e1] <;> rfl))|(apply wp_iff;(simp +decide only [go_sem, e1] <;> rfl))|(apply wp_ifu;(simp +decide only [go_sem, e1] <;> rfl);intro _;rotate_left;intro _;rotate_right)|(apply wp_if;(simp +decide only [go_sem, e1] <;> rfl);intro _;rotate_left;intro _;rotate_right)|apply on_n|apply th_r|apply th_e|apply bl_n|apply bl_r|apply bl_e|(apply bl_o;(rfl))|apply wp_sk|apply wp_lb|apply wp_rt|apply wp_ex|(apply bq_r;(simp +decide only [go_sem, e1] <;> rfl))|(apply bq_n;(simp +decide only [go_sem, e1] <;> rfl))))
          rfl
    · refine wp_rg [27] rfl hps (fun d hd => by obtain ⟨u, _, rfl⟩ := List.mem_map.1 hd; rfl)
        (fun pre f H => (pre = [] ∨ (pre.length : Int) < st) ∧ f = frm [(5, .d (.sl L.length (rowV.cs L))), (6, .d (.sl L.length (rowV.cs L))), (7, .loc 7 0), (3, .loc 3 0), (26, .d (.fn (.func 44) [] [.ep C]))] ∧ H = hpm [(3, .box [.d (.int .u8 st)]), (7, .box [.d (.int .i64 pre.length)])])
        [(5, .d (.sl L.length (rowV.cs L))), (6, .d (.sl L.length (rowV.cs L))), (7, .loc 7 0), (3, .loc 3 0), (26, .d (.fn (.func 44) [] [.ep C]))] (hpm [(3, .box [.d (.int .u8 st)]), (7, .box [.d (.int .i64 0)])])
        (Cv.keepH _ _ (by (repeat' (first | exact trivial | apply And.intro | ((simp +decide only [go_sem] <;> rfl)) | rfl))) (by (repeat' (first | exact trivial | apply And.intro | ((simp +decide only [go_sem] <;> rfl)) | rfl))) rfl) rfl (by (simp +decide only [go_sem] <;> rfl)) ⟨.inl rfl, rfl, rfl⟩ ?_ ?_
      · rintro pre d rest f H hx ⟨h1, rfl, rfl⟩
        have hlen : pre.length < L.length := by
          have := congrArg List.length hx
          simp at this
          omega
        obtain ⟨u, -, rfl⟩ : ∃ u ∈ L, d = [.agg u.cells] := by
          have : d ∈ L.map encV := by rw [hx]; simp
          obtain ⟨u, h1, h2⟩ := List.mem_map.1 this
          exact ⟨u, h1, h2.symm⟩
        have hw : IntKind.i64.wrap ((pre.length : Int) + 1) = ((pre.length + 1 : Nat) : Int) := by rw [wrap_in (by omega)]; omega
        have hw2 : IntKind.i64.wrap st = st := wrap_in (by omega)
        by_cases hge : ((pre.length + 1 : Nat) : Int) ≥ st
        · have e1 := decide_eq_true hge
          (have hF := And.intro hw (And.intro hw2 e1); repeat' (first|apply th_n|apply wp_sq|apply wp_blk|apply wp_reg|apply wp_regd|(apply nm_and;kernel_rfl)|apply ev_nil|(apply ev_val;rfl;rfl;(simp +decide only [go_sem, hF] <;> rfl))|(apply ev_wr;rfl;rfl;(simp +decide only [go_sem, hF] <;> rfl))|(apply ev_st;rfl;rfl;(simp +decide only [go_sem, hF] <;> rfl))|(apply ev_yes;rfl;rfl;(simp +decide only [go_sem, hF] <;> rfl))|(apply ev_nt;rfl;rfl;(simp +decide only [go_sem, hF] <;> rfl))|(apply ev_no;rfl;rfl;(refine Or.inl ?_;(simp +decide only [go_sem, hF] <;> rfl)))|(apply ev_guard;rfl;rfl;(simp +decide only [go_sem, hF] <;> rfl);intro _;rotate_left;intro _;rotate_right)|(apply wp_ift;(simp +decide only [go_sem, hF] <;> rfl))|(apply wp_iff;(simp +decide only [go_sem, hF] <;> rfl))|(apply wp_ifu;(simp +decide only [go_sem, hF] <;> rfl);intro _;rotate_left;intro _;rotate_right)|(apply wp_if;(simp +decide only [go_sem, hF] <;> rfl);intro _;rotate_left;intro _;rotate_right)|apply on_n|apply th_r|apply th_e|apply bl_n|apply bl_r|apply bl_e|(apply bl_o;(rfl))|apply wp_sk|apply wp_lb|apply wp_rt|apply wp_ex|(apply bq_r;(simp +decide only [go_sem, hF] <;> rfl))|(apply bq_n;(simp +decide only [go_sem, hF] <;> rfl))))
          exact rd_e ⟨[(5, .d (.sl L.length (rowV.cs L))), (6, .d (.sl L.length (rowV.cs L))), (7, .loc 7 0), (3, .loc 3 0), (26, .d (.fn (.func 44) [] [.ep C]))], hpm [(3, .box [.d (.int .u8 st)]), (7, .box [.d (.int .i64 ((pre.length + 1 : Nat) : Int))])],
            Cv.keepH _ _ (by (repeat' (first | exact trivial | apply And.intro | ((simp +decide only [go_sem] <;> rfl)) | rfl))) (by (repeat' (first | exact trivial | apply And.intro | ((simp +decide only [go_sem] <;> rfl)) | rfl))) rfl, rfl, bl_e (th_n (hK _ _ ⟨pre.length + 1, by omega, fun _ => by split <;> rcases h1 with rfl | h1 <;> simp at * <;> omega, rfl, rfl⟩))⟩
        · have e1 := decide_eq_false hge
          (have hF := And.intro hw (And.intro hw2 e1); repeat' (first|apply th_n|apply wp_sq|apply wp_blk|apply wp_reg|apply wp_regd|(apply nm_and;kernel_rfl)|apply ev_nil|(apply ev_val;rfl;rfl;(simp +decide only [go_sem, hF] <;> rfl))|(apply ev_wr;rfl;rfl;(simp +decide only [go_sem, hF] <;> rfl))|(apply ev_st;rfl;rfl;(simp +decide only [go_sem, hF] <;> rfl))|(apply ev_yes;rfl;rfl;(simp +decide only [go_sem, hF] <;> rfl))|(apply ev_nt;rfl;rfl;(simp +decide only [go_sem, hF] <;> rfl))|(apply ev_no;rfl;rfl;(refine Or.inl ?_;(simp +decide only [go_sem, hF] <;> rfl)))|(apply ev_guard;rfl;rfl;(simp +decide only [go_sem, hF] <;> rfl);intro _;rotate_left;intro _;rotate_right)|(apply wp_ift;(simp +decide only [go_sem, hF] <;> rfl))|(apply wp_iff;(simp +decide only [go_sem, hF] <;> rfl))|(apply wp_ifu;(simp +decide only [go_sem, hF] <;> rfl);intro _;rotate_left;intro _;rotate_right)|(apply wp_if;(simp +decide only [go_sem, hF] <;> rfl);intro _;rotate_left;intro _;rotate_right)|apply on_n|apply th_r|apply th_e|apply bl_n|apply bl_r|apply bl_e|(apply bl_o;(rfl))|apply wp_sk|apply wp_lb|apply wp_rt|apply wp_ex|(apply bq_r;(simp +decide only [go_sem, hF] <;> rfl))|(apply bq_n;(simp +decide only [go_sem, hF] <;> rfl))))
          exact rd_n ⟨[(5, .d (.sl L.length (rowV.cs L))), (6, .d (.sl L.length (rowV.cs L))), (7, .loc 7 0), (3, .loc 3 0), (26, .d (.fn (.func 44) [] [.ep C]))], hpm [(3, .box [.d (.int .u8 st)]), (7, .box [.d (.int .i64 ((pre.length + 1 : Nat) : Int))])],
            Cv.keepH _ _ (by (repeat' (first | exact trivial | apply And.intro | ((simp +decide only [go_sem] <;> rfl)) | rfl))) (by (repeat' (first | exact trivial | apply And.intro | ((simp +decide only [go_sem] <;> rfl)) | rfl))) rfl, rfl, .inr (by simp; omega), rfl, by simp⟩
      · rintro f H ⟨h1, rfl, rfl⟩
        refine bl_n (th_n (hK _ _ ⟨L.length, by omega, by omega, rfl, by simp⟩))
theorem partsLaw_walk {W : World} {v0 : Value} {x : Vlu} {st : Int} (hx : x.Ok) (hs : 0 ≤ st ∧ st ≤ 255) (r0 : Rep (fun _ => False) W v0 (.agg x.cells)) :
    Calls Try.prog 6 #[v0, .int .u8 st] W fun e w' => e = .returned (.bool true) ∧ Ex W w' :=
  calls_of_pc (partsLaw_pc x hx st hs.1 hs.2) (fun _ _ _ h => rep_bool h) W [v0, .int .u8 st] (.cons _ _ _ _ r0 (.cons _ _ _ _ (.int _ _) .nil))
end Go.Proofs.Ytandclggkgmpgaa
