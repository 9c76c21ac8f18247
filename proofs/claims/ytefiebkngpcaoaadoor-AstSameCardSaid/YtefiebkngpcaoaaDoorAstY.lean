/- AstSame walked. Conditions: how the arguments came in. -/
import Derived.Test.YtefiebkngpcaoaaDoorAstQ
import Derived.Test.YtefiebkngpcaoaaDoorAstT
import Derived.Test.YtefiebkngpcaoaaDoorAstV
import Derived.Test.YtefiebkngpcaoaaDoorPL2
set_option maxRecDepth 100000
set_option linter.unusedVariables false
set_option linter.unusedSimpArgs false
set_option linter.unusedSectionVars false
namespace Go.Proofs.YtefiebkngpcaoaaDoor
open Go.RowKit

set_option maxHeartbeats 1000000 in
theorem RSame_pc' (x y : Prg) (hx : x.Ok) (hy : y.Ok) : PC Tryd.prog 26 [.agg x.cells, .agg y.cells] (.bool (samePrg x y)) := by
  obtain ⟨l, s⟩ := x
  obtain ⟨l', s'⟩ := y
  have hl : Lst Mdl.Ok l := hx.models
  have hl' : Lst Mdl.Ok l' := hy.models
  clear hx hy
  unfold samePrg
  simp only
  show PC Tryd.prog 26 [.agg [_, _], .agg [_, _]] _
  refine pc_of_pwp _ Tryd.func26 rfl Tryd.results26 (by kernel_rfl) ?_
  by_cases ha : s.toList = s'.toList
  rotate_left
  · have f1 : (s.toList == s'.toList) = false := by simp [ha]
    (repeat' (first|apply th_n|apply wp_sq|apply wp_blk|apply wp_reg|apply wp_regd|(apply nm_and;kernel_rfl)|apply ev_nil|(apply ev_val;rfl;rfl;(simp +decide only [go_sem, f1] <;> rfl))|(apply ev_wr;rfl;rfl;(simp +decide only [go_sem, f1] <;> rfl))|(apply ev_st;rfl;rfl;(simp +decide only [go_sem, f1] <;> rfl))|(apply ev_yes;rfl;rfl;(simp +decide only [go_sem, f1] <;> rfl))|(apply ev_nt;rfl;rfl;(simp +decide only [go_sem, f1] <;> rfl))|(apply ev_no;rfl;rfl;(refine Or.inl ?_;(simp +decide only [go_sem, f1] <;> rfl)))|(apply ev_guard;rfl;rfl;(simp +decide only [go_sem, f1] <;> rfl);intro _;rotate_left;intro _;rotate_right)|(apply wp_ift;(simp +decide only [go_sem, f1] <;> rfl))|(apply wp_iff;(simp +decide only [go_sem, f1] <;> rfl))|(apply wp_ifu;(simp +decide only [go_sem, f1] <;> rfl);intro _;rotate_left;intro _;rotate_right)|(apply wp_if;(simp +decide only [go_sem, f1] <;> rfl);intro _;rotate_left;intro _;rotate_right)|apply on_n|apply th_r|apply th_e|apply bl_n|apply bl_r|apply bl_e|(apply bl_o;(rfl))|apply wp_sk|apply wp_lb|apply wp_rt|apply wp_ex|(apply bq_r;(simp +decide only [go_sem, f1] <;> rfl))|(apply bq_n;(simp +decide only [go_sem, f1] <;> rfl))))
    show D.bool _ = D.bool _
    simp [ha]
  have f1 : (s.toList == s'.toList) = true := by simp [ha]
  rw [show (s.toList == s'.toList) = true by simp [ha], Bool.true_and]
  by_cases hll : l.length = l'.length
  · have f0 : ((l.length : Int) != (l'.length : Int)) = false := by simp [hll]
    (have hF := And.intro f0 f1; repeat' (first|apply th_n|apply wp_sq|apply wp_blk|apply wp_reg|apply wp_regd|(apply nm_and;kernel_rfl)|apply ev_nil|(apply ev_val;rfl;rfl;(simp +decide only [go_sem, hF] <;> rfl))|(apply ev_wr;rfl;rfl;(simp +decide only [go_sem, hF] <;> rfl))|(apply ev_st;rfl;rfl;(simp +decide only [go_sem, hF] <;> rfl))|(apply ev_yes;rfl;rfl;(simp +decide only [go_sem, hF] <;> rfl))|(apply ev_nt;rfl;rfl;(simp +decide only [go_sem, hF] <;> rfl))|(apply ev_no;rfl;rfl;(refine Or.inl ?_;(simp +decide only [go_sem, hF] <;> rfl)))|(apply ev_guard;rfl;rfl;(simp +decide only [go_sem, hF] <;> rfl);intro _;rotate_left;intro _;rotate_right)|(apply wp_ift;(simp +decide only [go_sem, hF] <;> rfl))|(apply wp_iff;(simp +decide only [go_sem, hF] <;> rfl))|(apply wp_ifu;(simp +decide only [go_sem, hF] <;> rfl);intro _;rotate_left;intro _;rotate_right)|(apply wp_if;(simp +decide only [go_sem, hF] <;> rfl);intro _;rotate_left;intro _;rotate_right)|apply on_n|apply th_r|apply th_e|apply bl_n|apply bl_r|apply bl_e|(apply bl_o;(rfl))|apply wp_sk|apply wp_lb|apply wp_rt|apply wp_ex|(apply bq_r;(simp +decide only [go_sem, hF] <;> rfl))|(apply bq_n;(simp +decide only [go_sem, hF] <;> rfl))))
    refine wp_for l.length (fun i => [(2, .loc 2 0), (3, .loc 3 0), (5, .d (.int .i64 i))]) (fun _ => [(2, .box [.d (.sl l.length (rowMdl.cs l)), .d (.str s)]), (3, .box [.d (.sl l'.length (rowMdl.cs l')), .d (.str s')])]) (fun i => all2 sameMdl (l.take i) (l'.take i) = true)
      (Cv.keepH _ _ (by (repeat' (first | exact trivial | apply And.intro | ((simp +decide only [go_sem] <;> rfl)) | rfl))) (by (repeat' (first | exact trivial | apply And.intro | ((simp +decide only [go_sem] <;> rfl)) | rfl))) rfl) rfl (fun i h hC => ?_) (fun hC => ?_)
    · have h' : i < l'.length := by omega
      have e1 := rnd (R := rowMdl) (n := 14) h rfl hl.1
      have e2 := rnd (R := rowMdl) (n := 14) h' rfl hl'.1
      have hc := RSameModel_pc l[i] l'[i] (hl.2 _ (List.getElem_mem h)) (hl'.2 _ (List.getElem_mem h'))
      have ht := all2_take sameMdl l l' i h h'
      cases hpx : sameMdl l[i] l'[i] <;> rw [hpx] at hc
      · (have hF := And.intro e1 e2; repeat' (first|apply th_n|apply wp_sq|apply wp_blk|apply wp_reg|apply wp_regd|(apply nm_and;kernel_rfl)|apply ev_nil|(apply ev_val;rfl;rfl;(simp +decide only [go_sem, hF] <;> rfl))|(apply ev_call;rfl;rfl;rfl;(simp +decide only [go_sem, hF] <;> rfl);(simp +decide only [go_sem, hF] <;> rfl);(first|exact hc))|(apply ev_wr;rfl;rfl;(simp +decide only [go_sem, hF] <;> rfl))|(apply ev_st;rfl;rfl;(simp +decide only [go_sem, hF] <;> rfl))|(apply ev_yes;rfl;rfl;(simp +decide only [go_sem, hF] <;> rfl))|(apply ev_nt;rfl;rfl;(simp +decide only [go_sem, hF] <;> rfl))|(apply ev_no;rfl;rfl;(refine Or.inl ?_;(simp +decide only [go_sem, hF] <;> rfl)))|(apply ev_guard;rfl;rfl;(simp +decide only [go_sem, hF] <;> rfl);intro _;rotate_left;intro _;rotate_right)|(apply wp_ift;(simp +decide only [go_sem, hF] <;> rfl))|(apply wp_iff;(simp +decide only [go_sem, hF] <;> rfl))|(apply wp_ifu;(simp +decide only [go_sem, hF] <;> rfl);intro _;rotate_left;intro _;rotate_right)|(apply wp_if;(simp +decide only [go_sem, hF] <;> rfl);intro _;rotate_left;intro _;rotate_right)|apply on_n|apply th_r|apply th_e|apply bl_n|apply bl_r|apply bl_e|(apply bl_o;(rfl))|apply wp_sk|apply wp_lb|apply wp_rt|apply wp_ex|(apply bq_r;(simp +decide only [go_sem, hF] <;> rfl))|(apply bq_n;(simp +decide only [go_sem, hF] <;> rfl))))
        rw [all2_no h h' hpx]; rfl
      · (have hF := And.intro e1 e2; repeat' (first|apply th_n|apply wp_sq|apply wp_blk|apply wp_reg|apply wp_regd|(apply nm_and;kernel_rfl)|apply ev_nil|(apply ev_val;rfl;rfl;(simp +decide only [go_sem, hF] <;> rfl))|(apply ev_call;rfl;rfl;rfl;(simp +decide only [go_sem, hF] <;> rfl);(simp +decide only [go_sem, hF] <;> rfl);(first|exact hc))|(apply ev_wr;rfl;rfl;(simp +decide only [go_sem, hF] <;> rfl))|(apply ev_st;rfl;rfl;(simp +decide only [go_sem, hF] <;> rfl))|(apply ev_yes;rfl;rfl;(simp +decide only [go_sem, hF] <;> rfl))|(apply ev_nt;rfl;rfl;(simp +decide only [go_sem, hF] <;> rfl))|(apply ev_no;rfl;rfl;(refine Or.inl ?_;(simp +decide only [go_sem, hF] <;> rfl)))|(apply ev_guard;rfl;rfl;(simp +decide only [go_sem, hF] <;> rfl);intro _;rotate_left;intro _;rotate_right)|(apply wp_ift;(simp +decide only [go_sem, hF] <;> rfl))|(apply wp_iff;(simp +decide only [go_sem, hF] <;> rfl))|(apply wp_ifu;(simp +decide only [go_sem, hF] <;> rfl);intro _;rotate_left;intro _;rotate_right)|(apply wp_if;(simp +decide only [go_sem, hF] <;> rfl);intro _;rotate_left;intro _;rotate_right)|apply on_n|apply th_r|apply th_e|apply bl_n|apply bl_r|apply bl_e|(apply bl_o;(rfl))|apply wp_sk|apply wp_lb|apply wp_rt|apply wp_ex|(apply bq_r;(simp +decide only [go_sem, hF] <;> rfl))|(apply bq_n;(simp +decide only [go_sem, hF] <;> rfl))))
        exact ⟨Cv.keepH _ _ (by (repeat' (first | exact trivial | apply And.intro | ((simp +decide only [go_sem] <;> rfl)) | rfl))) (by (repeat' (first | exact trivial | apply And.intro | ((simp +decide only [go_sem] <;> rfl)) | rfl))) rfl, by rw [ht, hC, hpx]; rfl⟩
    · have e1 : decide ((l.length : Int) < (l.length : Int)) = false := by simp
      (repeat' (first|apply th_n|apply wp_sq|apply wp_blk|apply wp_reg|apply wp_regd|(apply nm_and;kernel_rfl)|apply ev_nil|(apply ev_val;rfl;rfl;(simp +decide only [go_sem, e1] <;> rfl))|(apply ev_wr;rfl;rfl;(simp +decide only [go_sem, e1] <;> rfl))|(apply ev_st;rfl;rfl;(simp +decide only [go_sem, e1] <;> rfl))|(apply ev_yes;rfl;rfl;(simp +decide only [go_sem, e1] <;> rfl))|(apply ev_nt;rfl;rfl;(simp +decide only [go_sem, e1] <;> rfl))|(apply ev_no;rfl;rfl;(refine Or.inl ?_;(simp +decide only [go_sem, e1] <;> rfl)))|(apply ev_guard;rfl;rfl;(simp +decide only [go_sem, e1] <;> rfl);intro _;rotate_left;intro _;rotate_right)|(apply wp_ift;(simp +decide only [go_sem, e1] <;> rfl))|(apply wp_iff;(simp +decide only [go_sem, e1] <;> rfl))|(apply wp_ifu;(simp +decide only [go_sem, e1] <;> rfl);intro _;rotate_left;intro _;rotate_right)|(apply wp_if;(simp +decide only [go_sem, e1] <;> rfl);intro _;rotate_left;intro _;rotate_right)|apply on_n|apply th_r|apply th_e|apply bl_n|apply bl_r|apply bl_e|(apply bl_o;(rfl))|apply wp_sk|apply wp_lb|apply wp_rt|apply wp_ex|(apply bq_r;(simp +decide only [go_sem, e1] <;> rfl))|(apply bq_n;(simp +decide only [go_sem, e1] <;> rfl))))
      rw [List.take_length, hll, List.take_length] at hC
      rw [hC]; rfl
  · have f0 : ((l.length : Int) != (l'.length : Int)) = true := by simp; omega
    (have hF := And.intro f0 f1; repeat' (first|apply th_n|apply wp_sq|apply wp_blk|apply wp_reg|apply wp_regd|(apply nm_and;kernel_rfl)|apply ev_nil|(apply ev_val;rfl;rfl;(simp +decide only [go_sem, hF] <;> rfl))|(apply ev_wr;rfl;rfl;(simp +decide only [go_sem, hF] <;> rfl))|(apply ev_st;rfl;rfl;(simp +decide only [go_sem, hF] <;> rfl))|(apply ev_yes;rfl;rfl;(simp +decide only [go_sem, hF] <;> rfl))|(apply ev_nt;rfl;rfl;(simp +decide only [go_sem, hF] <;> rfl))|(apply ev_no;rfl;rfl;(refine Or.inl ?_;(simp +decide only [go_sem, hF] <;> rfl)))|(apply ev_guard;rfl;rfl;(simp +decide only [go_sem, hF] <;> rfl);intro _;rotate_left;intro _;rotate_right)|(apply wp_ift;(simp +decide only [go_sem, hF] <;> rfl))|(apply wp_iff;(simp +decide only [go_sem, hF] <;> rfl))|(apply wp_ifu;(simp +decide only [go_sem, hF] <;> rfl);intro _;rotate_left;intro _;rotate_right)|(apply wp_if;(simp +decide only [go_sem, hF] <;> rfl);intro _;rotate_left;intro _;rotate_right)|apply on_n|apply th_r|apply th_e|apply bl_n|apply bl_r|apply bl_e|(apply bl_o;(rfl))|apply wp_sk|apply wp_lb|apply wp_rt|apply wp_ex|(apply bq_r;(simp +decide only [go_sem, hF] <;> rfl))|(apply bq_n;(simp +decide only [go_sem, hF] <;> rfl))))
    rw [all2_len hll]; rfl
theorem all2_refl {α : Type} {p : α → α → Bool} : ∀ l : List α, (∀ x ∈ l, p x x = true) → all2 p l l = true
  | [], _ => rfl
  | x :: l, h => by rw [all2, h x (by simp), all2_refl l fun y hy => h y (by simp [hy])]; rfl
theorem sameTy_refl : ∀ x : Typ, sameT x x = true
  | .mk k l => by
    have h : ∀ x ∈ l, sameT x x = true := fun x hx => sameTy_refl x
    rw [sameT, sameTL_all2, all2_refl l h]; simp
termination_by x => SizeOf.sizeOf x
theorem samePrg_refl (x : Prg) : samePrg x x = true := by
  have hs : ∀ y : Stt, sameStt y y = true := fun y => by simp [sameStt, sameE_refl]
  have hp : ∀ y : Prt, samePrt y y = true := fun y => by simp [samePrt, sameTy_refl]
  have he : ∀ l : List Exp, sameEL l l = true := fun l => by rw [sameEL_all2]; exact all2_refl l fun y _ => sameE_refl y
  have hm : ∀ y : Emt, sameEmt y y = true := fun y => by simp [sameEmt, sameE_refl, he]
  have hk : ∀ y : Lnk, sameLnk y y = true := fun y => by simp [sameLnk, sameEn]
  have ha : ∀ y : Akt, sameAkt y y = true := fun y => by simp [sameAkt, hk]
  have hr : ∀ y : Rul, sameRul y y = true := fun y => by simp [sameRul, sameE_refl, all2_refl _ fun z _ => ha z]
  have hd : ∀ y : Mdl, sameMdl y y = true := fun y => by
    simp [sameMdl, he, all2_refl _ fun z _ => hs z, all2_refl _ fun z _ => hp z, all2_refl _ fun z _ => hm z, all2_refl _ fun z _ => hk z, all2_refl _ fun z _ => hr z, all2_refl y.parts fun z _ => (by simp [samePt] : samePt z z = true)]
  simp [samePrg, all2_refl _ fun z _ => hd z]
theorem smallP_01 (p : Prg) : smallP p = 0 ∨ smallP p = 1 := by
  unfold smallP
  split
  · exact .inl rfl
  · split
    · exact .inl rfl
    · split
      · exact .inl rfl
      · exact .inr rfl
set_option maxHeartbeats 1000000 in
theorem same_pc (x y : Prg) (hx : x.Ok) (hy : y.Ok) : PC Tryd.prog 7 [.agg x.cells, .agg y.cells] (.bool true) := by
  have h1 := Small_pc x hx
  have h2 := Small_pc y hy
  have h3 := Same_pc' x y hx hy
  have h4 := RSame_pc' x y hx hy
  have h5 := Same_pc' x x hx hx
  rw [samePrg_refl] at h5
  generalize samePrg x y = r at *
  have s1 := smallP_01 x
  have s2 := smallP_01 y
  generalize smallP x = a at *
  generalize smallP y = b at *
  obtain ⟨l, s⟩ := x
  obtain ⟨l', s'⟩ := y
  clear hx hy
  show PC Tryd.prog 7 [.agg [_, _], .agg [_, _]] _
  refine pc_of_pwp _ Tryd.func7 rfl Tryd.results7 (by kernel_rfl) ?_
  rcases s1 with rfl | rfl
  · (repeat' (first|apply th_n|apply wp_sq|apply wp_blk|apply wp_reg|apply wp_regd|(apply nm_and;kernel_rfl)|apply ev_nil|(apply ev_val;rfl;rfl;(simp +decide only [go_sem] <;> rfl))|(apply ev_call;rfl;rfl;rfl;(simp +decide only [go_sem] <;> rfl);(simp +decide only [go_sem] <;> rfl);(first|exact h1|exact h2))|(apply ev_wr;rfl;rfl;(simp +decide only [go_sem] <;> rfl))|(apply ev_st;rfl;rfl;(simp +decide only [go_sem] <;> rfl))|(apply ev_yes;rfl;rfl;(simp +decide only [go_sem] <;> rfl))|(apply ev_nt;rfl;rfl;(simp +decide only [go_sem] <;> rfl))|(apply ev_no;rfl;rfl;(refine Or.inl ?_;(simp +decide only [go_sem] <;> rfl)))|(apply ev_guard;rfl;rfl;(simp +decide only [go_sem] <;> rfl);intro _;rotate_left;intro _;rotate_right)|(apply wp_ift;(simp +decide only [go_sem] <;> rfl))|(apply wp_iff;(simp +decide only [go_sem] <;> rfl))|(apply wp_ifu;(simp +decide only [go_sem] <;> rfl);intro _;rotate_left;intro _;rotate_right)|(apply wp_if;(simp +decide only [go_sem] <;> rfl);intro _;rotate_left;intro _;rotate_right)|apply on_n|apply th_r|apply th_e|apply bl_n|apply bl_r|apply bl_e|(apply bl_o;(rfl))|apply wp_sk|apply wp_lb|apply wp_rt|apply wp_ex|(apply bq_r;(simp +decide only [go_sem] <;> rfl))|(apply bq_n;(simp +decide only [go_sem] <;> rfl))))
    rfl
  rcases s2 with rfl | rfl
  · (repeat' (first|apply th_n|apply wp_sq|apply wp_blk|apply wp_reg|apply wp_regd|(apply nm_and;kernel_rfl)|apply ev_nil|(apply ev_val;rfl;rfl;(simp +decide only [go_sem] <;> rfl))|(apply ev_call;rfl;rfl;rfl;(simp +decide only [go_sem] <;> rfl);(simp +decide only [go_sem] <;> rfl);(first|exact h1|exact h2))|(apply ev_wr;rfl;rfl;(simp +decide only [go_sem] <;> rfl))|(apply ev_st;rfl;rfl;(simp +decide only [go_sem] <;> rfl))|(apply ev_yes;rfl;rfl;(simp +decide only [go_sem] <;> rfl))|(apply ev_nt;rfl;rfl;(simp +decide only [go_sem] <;> rfl))|(apply ev_no;rfl;rfl;(refine Or.inl ?_;(simp +decide only [go_sem] <;> rfl)))|(apply ev_guard;rfl;rfl;(simp +decide only [go_sem] <;> rfl);intro _;rotate_left;intro _;rotate_right)|(apply wp_ift;(simp +decide only [go_sem] <;> rfl))|(apply wp_iff;(simp +decide only [go_sem] <;> rfl))|(apply wp_ifu;(simp +decide only [go_sem] <;> rfl);intro _;rotate_left;intro _;rotate_right)|(apply wp_if;(simp +decide only [go_sem] <;> rfl);intro _;rotate_left;intro _;rotate_right)|apply on_n|apply th_r|apply th_e|apply bl_n|apply bl_r|apply bl_e|(apply bl_o;(rfl))|apply wp_sk|apply wp_lb|apply wp_rt|apply wp_ex|(apply bq_r;(simp +decide only [go_sem] <;> rfl))|(apply bq_n;(simp +decide only [go_sem] <;> rfl))))
    rfl
  (repeat' (first|apply th_n|apply wp_sq|apply wp_blk|apply wp_reg|apply wp_regd|(apply nm_and;kernel_rfl)|apply ev_nil|(apply ev_val;rfl;rfl;(simp +decide only [go_sem, beq_self_eq_true] <;> rfl))|(apply ev_call;rfl;rfl;rfl;(simp +decide only [go_sem, beq_self_eq_true] <;> rfl);(simp +decide only [go_sem, beq_self_eq_true] <;> rfl);(first|exact awake_pc|exact h1|exact h2|exact h3|exact h4|exact h5))|(apply ev_wr;rfl;rfl;(simp +decide only [go_sem, beq_self_eq_true] <;> rfl))|(apply ev_st;rfl;rfl;(simp +decide only [go_sem, beq_self_eq_true] <;> rfl))|(apply ev_yes;rfl;rfl;(simp +decide only [go_sem, beq_self_eq_true] <;> rfl))|(apply ev_nt;rfl;rfl;(simp +decide only [go_sem, beq_self_eq_true] <;> rfl))|(apply ev_no;rfl;rfl;(refine Or.inl ?_;(simp +decide only [go_sem, beq_self_eq_true] <;> rfl)))|(apply ev_guard;rfl;rfl;(simp +decide only [go_sem, beq_self_eq_true] <;> rfl);intro _;rotate_left;intro _;rotate_right)|(apply wp_ift;(simp +decide only [go_sem, beq_self_eq_true] <;> rfl))|(apply wp_iff;(simp +decide only [go_sem, beq_self_eq_true] <;> rfl))|(apply wp_ifu;(simp +decide only [go_sem, beq_self_eq_true] <;> rfl);intro _;rotate_left;intro _;rotate_right)|(apply wp_if;(simp +decide only [go_sem, beq_self_eq_true] <;> rfl);intro _;rotate_left;intro _;rotate_right)|apply on_n|apply th_r|apply th_e|apply bl_n|apply bl_r|apply bl_e|(apply bl_o;(rfl))|apply wp_sk|apply wp_lb|apply wp_rt|apply wp_ex|(apply bq_r;(simp +decide only [go_sem, beq_self_eq_true] <;> rfl))|(apply bq_n;(simp +decide only [go_sem, beq_self_eq_true] <;> rfl))))
  all_goals rfl
theorem same_walk {W : World} {v0 v1 : Value} {x y : Prg} (hg : Globs (fun _ => False) W) (hx : x.Ok) (hy : y.Ok) (r0 : Rep (fun _ => False) W v0 (.agg x.cells)) (r1 : Rep (fun _ => False) W v1 (.agg y.cells)) :
    Calls Tryd.prog 7 #[v0, v1] W fun e w' => e = .returned (.bool true) ∧ Ex W w' :=
  calls_of_pcg (same_pc x y hx hy) (fun _ _ _ h => rep_bool h) W hg [v0, v1] (.cons _ _ _ _ r0 (.cons _ _ _ _ r1 .nil))
end Go.Proofs.YtefiebkngpcaoaaDoor
