/- ValueRights walked. Conditions: the value is as what comes in is. -/
import Derived.Test.YtandclggkgmpgaaValRT
import Derived.Test.YtandclggkgmpgaaValZ
import Derived.Test.YtandclggkgmpgaaValV
set_option maxRecDepth 100000
set_option linter.unusedVariables false
set_option linter.unusedSimpArgs false
set_option linter.unusedSectionVars false
namespace Go.Proofs.Ytandclggkgmpgaa
open Go.RowKit

theorem right_type : ∀ (n : Nat) (x : Vlu), vRight n x = true → tRight n (vType x) = true
  | n, .mk k v s l, h => by
    rw [vType, vTypeL_map]
    by_cases k0 : k = 0
    · subst k0
      rw [vRight_k0] at h
      rw [tRight_leaf (by omega)]
      simp only [Bool.and_eq_true] at h
      simpa using h.2
    by_cases k1 : k = 1
    · subst k1
      rw [vRight_k1] at h
      rw [tRight_leaf (by omega)]
      simp only [Bool.and_eq_true] at h
      simpa using h.2
    by_cases k2 : k = 2
    · subst k2
      rw [vRight_k2] at h
      rw [tRight_leaf (by omega)]
      simp only [Bool.and_eq_true] at h
      simpa using h.2
    by_cases k3 : k = 3
    · subst k3
      by_cases hh : v = 0 ∧ eb s = true ∧ 1 ≤ l.length ∧ l.length ≤ 4
      · obtain ⟨rfl, hs, l1, l4⟩ := hh
        cases n with
        | zero => rw [vRight_zero] at h; cases h
        | succ n =>
          rw [vRight_succ hs l1 l4, List.all_eq_true] at h
          rw [tRight_succ (by simpa using l1) (by simpa using l4), List.all_eq_true]
          intro y hy
          obtain ⟨x, hx, rfl⟩ := List.mem_map.1 hy
          exact right_type n x (h x hx)
      · rw [vRight_no hh] at h; cases h
    · rw [vRight_other k0 k1 k2 k3] at h; cases h
theorem fold_nonneg {d : Nat} : ∀ (l : List Vlu) (r : Int), 0 ≤ l.foldl (fun r x => if 0 ≤ r then smallV d r x else r) r → 0 ≤ r ∧ ∀ x ∈ l, ∃ r', 0 ≤ smallV d r' x
  | [], r, h => ⟨h, by simp⟩
  | x :: l, r, h => by
    rw [List.foldl_cons] at h
    by_cases hr : 0 ≤ r
    · rw [if_pos hr] at h
      obtain ⟨h1, h2⟩ := fold_nonneg l _ h
      refine ⟨hr, fun y hy => ?_⟩
      rcases List.mem_cons.1 hy with rfl | hy
      · exact ⟨r, h1⟩
      · exact h2 y hy
    · rw [if_neg hr, smallV_low _ _ (by omega)] at h
      exact absurd h hr
theorem small_sm : ∀ (d : Nat) (x : Vlu) (r : Int), 0 ≤ smallV d r x → x.Sm
  | 0, x, r, h => by rw [smallV] at h; omega
  | d + 1, .mk k n s l, r, h => by
    rw [smallV] at h
    split at h
    · omega
    · rename_i hn
      obtain ⟨-, h2⟩ := fold_nonneg l _ h
      refine .mk _ _ _ _ (by simp only [not_or] at hn; omega) fun x hx => ?_
      obtain ⟨r', h3⟩ := h2 x hx
      exact small_sm d x r' h3
theorem few_sm {l : List Vlu} (h : fewV l = true) : ∀ x ∈ l, x.Sm := fun x hx => by
  have := List.all_eq_true.1 h x hx
  simp at this
  exact small_sm 8 x 400 this
theorem name_size {s : ByteArray} (h : nameB s.data.toList = true) : s.size ≤ 16 := by
  have e : s.size = s.data.toList.length := (Array.length_toList (xs := s.data)).symm
  rw [e]
  unfold nameB at h
  split at h
  · cases h
  · rename_i b r hb
    simp only [Bool.and_eq_true, decide_eq_true_eq] at h
    rw [hb, List.length_cons]; omega
theorem dg_size {n : Int} (h : I64 n) : (dg n).size ≤ 20 := by
  obtain ⟨h1, h2⟩ := h
  have := revD_len20 (m := n.natAbs) (by omega)
  rw [dg, text_size, decL, List.length_append, List.length_reverse]
  split <;> simp <;> omega
theorem vr_text : ∀ (n : Nat) (x : Vlu), x.Ok → vRight n x = true → (vText dg x).size ≤ 20 * 5 ^ n ∧ (n ≤ 3 → x.Tx dg I64 ∧ x.Rt)
  | n, .mk k v s l, hok, h => by
    obtain ⟨hl, hv, hs, hk, hn⟩ := hok.parts
    have hp : 1 ≤ 5 ^ n := Nat.pow_pos (show 0 < 5 by omega)
    have leaf : l = [] → (k = 0 ∨ k = 1 ∨ k = 2) → s.size ≤ 16 → (vText dg (.mk k v s l)).size ≤ 20 * 5 ^ n ∧ (n ≤ 3 → (Vlu.mk k v s l).Tx dg I64 ∧ (Vlu.mk k v s l).Rt) := by
      rintro rfl hk3 hss
      refine ⟨?_, fun _ => ⟨.mk _ _ _ _ (by simp) (by decide) (by simp) (decide_eq_true (by rw [show (⟨#[39]⟩ : ByteArray).size = 1 from rfl]; omega)) fun _ _ _ => hn, .mk _ _ _ _ (by omega) hn (by omega) (by simp) (by omega) (by simp) (by simp)⟩⟩
      have hd := dg_size hn
      rw [vText]
      have : (if k = 1 then (if v = 1 then (⟨#[116, 114, 117, 101]⟩ : ByteArray) else ⟨#[102, 97, 108, 115, 101]⟩) else if k = 2 then ⟨#[39]⟩ ++ s else if k = 3 then paren (vTextL dg []) else dg v).size ≤ 20 := by
        rw [if_neg (show ¬ k = 3 by omega)]
        split
        · split <;> decide
        · split
          · rw [ByteArray.size_append, show (⟨#[39]⟩ : ByteArray).size = 1 from rfl]; omega
          · exact hd
      omega
    have nil_of : (l.length == 0) = true → l = [] := fun h => by cases l with | nil => rfl | cons x l => simp at h
    have eb_of : eb s = true → s.size ≤ 16 := fun h => by
      unfold eb at h
      have : s.toList = [] := by simpa [toList_data] using h
      rw [toList_data] at this
      have e : s.size = s.data.toList.length := (Array.length_toList (xs := s.data)).symm
      rw [e, this]; simp
    by_cases k0 : k = 0
    · subst k0
      rw [vRight_k0] at h
      simp only [Bool.and_eq_true] at h
      exact leaf (nil_of h.2) (.inl rfl) (eb_of h.1)
    by_cases k1 : k = 1
    · subst k1
      rw [vRight_k1] at h
      simp only [Bool.and_eq_true] at h
      exact leaf (nil_of h.2) (.inr (.inl rfl)) (eb_of h.1.2)
    by_cases k2 : k = 2
    · subst k2
      rw [vRight_k2] at h
      simp only [Bool.and_eq_true] at h
      exact leaf (nil_of h.2) (.inr (.inr rfl)) (name_size h.1.2)
    by_cases k3 : k = 3
    · subst k3
      by_cases hh : v = 0 ∧ eb s = true ∧ 1 ≤ l.length ∧ l.length ≤ 4
      · obtain ⟨rfl, hsb, l1, l4⟩ := hh
        cases n with
        | zero => rw [vRight_zero] at h; cases h
        | succ n =>
          rw [vRight_succ hsb l1 l4, List.all_eq_true] at h
          have ih := fun x hx => vr_text n x (hv x hx) (h x hx)
          have hb : ∀ x ∈ l.map (vText dg), x.size ≤ 20 * 5 ^ n := by
            intro y hy
            obtain ⟨x, hx, rfl⟩ := List.mem_map.1 hy
            exact (ih x hx).1
          have hs := paren_size hb
          have hj := joinS_size hb
          rw [List.length_map] at hs hj
          have hm : l.length * (20 * 5 ^ n + 2) ≤ 4 * (20 * 5 ^ n + 2) := Nat.mul_le_mul_right _ l4
          have hp : 1 ≤ 5 ^ n := Nat.pow_pos (show 0 < 5 by omega)
          have hes := eb_of hsb
          refine ⟨?_, fun hn3 => ?_⟩
          · rw [vText, vTextL_map, if_neg (by decide), if_neg (by decide), if_pos rfl, Nat.pow_succ]; omega
          · have h5 : 5 ^ n ≤ 5 ^ 2 := Nat.pow_le_pow_right (by omega) (by omega)
            refine ⟨.mk _ _ _ _ (by omega) (by omega) (fun x hx => ((ih x hx).2 (by omega)).1) (decide_eq_true (by rw [show (⟨#[39]⟩ : ByteArray).size = 1 from rfl]; omega)) fun _ _ h => absurd rfl h,
              .mk _ _ _ _ (by omega) hn (by omega) (by omega) (fun _ e => by rw [e] at l1; simp at l1) (fun x hx => ?_) fun x hx => ((ih x hx).2 (by omega)).2⟩
            have := (ih x hx).1
            omega
      · rw [vRight_no hh] at h; cases h
    · rw [vRight_other k0 k1 k2 k3] at h; cases h
theorem vType_ok : ∀ x : Vlu, x.Ok → (vType x).Ok
  | .mk k v s l, h => by
    obtain ⟨hl, hv, hs, hk, hn⟩ := h.parts
    rw [vType, vTypeL_map]
    exact .mk _ _ hk (by rw [List.length_map]; exact hl) fun y hy => by
      obtain ⟨x, hx, rfl⟩ := List.mem_map.1 hy
      exact vType_ok x (hv x hx)
termination_by x => SizeOf.sizeOf x
decreasing_by (have := List.sizeOf_lt_of_mem hx; simp; omega)
def noT : Typ := .mk 0 []
theorem noT_ok : noT.Ok := .mk _ _ (i64_small (by omega)) (by decide) (by simp)
set_option maxHeartbeats 4000000 in
theorem rights_pc (x : Vlu) (hx : x.Ok) : PC Try.prog 5 [.agg x.cells] (.bool true) := by
  have hf : PC Try.prog 19 [.sl 1 x.cells] (.bool (fewV [x])) := by
    have h := few_pc [x] (by simp) (by simpa using hx)
    rw [Row.cs_cons, Row.cs_nil, List.append_nil] at h
    exact h
  have hsm : fewV [x] = true → x.Sm := fun h => few_sm h x (by simp)
  have h1 := RRight_pc x hx
  have h2 := Right_pc x hx
  have h3 := fun h => Copy_pc x hx h
  have h4 := RSame_pc x x hx hx
  rw [sameV_refl] at h4
  have h5 := fun h => TypeOf_pc x hx (fun _ => h)
  have h6 := SameType_pc noT noT noT_ok noT_ok
  rw [sameT_refl] at h6
  have hd : ∀ n, I64 n → PC Try.prog 56 [.int .i64 n] (.str (dg n)) := fun n hn => digits_pc n hn
  have h7 := Text_pc (Q := I64) hd x hx (fun h => ((vr_text 3 x hx h).2 (by omega)).1)
  have h8 := fun h => RTypeOf_pc x h
  have h9 := RSameType_pc (vType x) (vType x) (vType_ok x hx) (vType_ok x hx)
  rw [sameT_refl] at h9
  have h10 := fun h => RText_pc x ((vr_text 3 x hx h).2 (by omega)).2
  have h11 := TypeRight_pc (vType x) (vType_ok x hx)
  have h12 := right_type 3 x
  refine pc_of_pwp _ Try.func5 rfl Try.results5 (by kernel_rfl) ?_
  cases hfw : fewV [x]
  · rw [hfw] at hf
    obtain ⟨k, n, s, l⟩ := x
    rw [Vlu.cells_mk] at *
    (repeat' (first|apply th_n|apply wp_sq|apply wp_blk|apply wp_reg|apply wp_regd|(apply nm_and;kernel_rfl)|apply ev_nil|(apply ev_val;rfl;rfl;(simp +decide only [go_sem] <;> rfl))|(apply ev_call;rfl;rfl;rfl;(simp +decide only [go_sem] <;> rfl);(simp +decide only [go_sem] <;> rfl);(first|exact awake_pc|exact hf))|(apply ev_wr;rfl;rfl;(simp +decide only [go_sem] <;> rfl))|(apply ev_st;rfl;rfl;(simp +decide only [go_sem] <;> rfl))|(apply ev_yes;rfl;rfl;(simp +decide only [go_sem] <;> rfl))|(apply ev_nt;rfl;rfl;(simp +decide only [go_sem] <;> rfl))|(apply ev_no;rfl;rfl;(refine Or.inl ?_;(simp +decide only [go_sem] <;> rfl)))|(apply ev_guard;rfl;rfl;(simp +decide only [go_sem] <;> rfl);intro _;rotate_left;intro _;rotate_right)|(apply wp_ift;(simp +decide only [go_sem] <;> rfl))|(apply wp_iff;(simp +decide only [go_sem] <;> rfl))|(apply wp_ifu;(simp +decide only [go_sem] <;> rfl);intro _;rotate_left;intro _;rotate_right)|(apply wp_if;(simp +decide only [go_sem] <;> rfl);intro _;rotate_left;intro _;rotate_right)|apply on_n|apply th_r|apply th_e|apply bl_n|apply bl_r|apply bl_e|(apply bl_o;(rfl))|apply wp_sk|apply wp_lb|apply wp_rt|apply wp_ex|(apply bq_r;(simp +decide only [go_sem] <;> rfl))|(apply bq_n;(simp +decide only [go_sem] <;> rfl))))
    rfl
  have hsm := hsm hfw
  rw [hfw] at hf
  have h3 := h3 hsm
  have h5 := h5 hsm
  have h8 := h8 hsm
  cases hr : vRight 3 x
  · rw [hr] at h1 h2 h5 h7
    simp only [if_false, Bool.false_eq_true] at h5 h7
    obtain ⟨k, n, s, l⟩ := x
    rw [show noT = Typ.mk 0 [] from rfl] at h6
    rw [Vlu.cells_mk] at *
    rw [Typ.cells_mk] at h5 h6
    (repeat' (first|apply th_n|apply wp_sq|apply wp_blk|apply wp_reg|apply wp_regd|(apply nm_and;kernel_rfl)|apply ev_nil|(apply ev_val;rfl;rfl;(simp +decide only [go_sem, beq_self_eq_true] <;> rfl))|(apply ev_call;rfl;rfl;rfl;(simp +decide only [go_sem, beq_self_eq_true] <;> rfl);(simp +decide only [go_sem, beq_self_eq_true] <;> rfl);(first|exact awake_pc|exact hf|exact h1|exact h2|exact h3|exact h4|exact h5|exact h6|exact h7))|(apply ev_wr;rfl;rfl;(simp +decide only [go_sem, beq_self_eq_true] <;> rfl))|(apply ev_st;rfl;rfl;(simp +decide only [go_sem, beq_self_eq_true] <;> rfl))|(apply ev_yes;rfl;rfl;(simp +decide only [go_sem, beq_self_eq_true] <;> rfl))|(apply ev_nt;rfl;rfl;(simp +decide only [go_sem, beq_self_eq_true] <;> rfl))|(apply ev_no;rfl;rfl;(refine Or.inl ?_;(simp +decide only [go_sem, beq_self_eq_true] <;> rfl)))|(apply ev_guard;rfl;rfl;(simp +decide only [go_sem, beq_self_eq_true] <;> rfl);intro _;rotate_left;intro _;rotate_right)|(apply wp_ift;(simp +decide only [go_sem, beq_self_eq_true] <;> rfl))|(apply wp_iff;(simp +decide only [go_sem, beq_self_eq_true] <;> rfl))|(apply wp_ifu;(simp +decide only [go_sem, beq_self_eq_true] <;> rfl);intro _;rotate_left;intro _;rotate_right)|(apply wp_if;(simp +decide only [go_sem, beq_self_eq_true] <;> rfl);intro _;rotate_left;intro _;rotate_right)|apply on_n|apply th_r|apply th_e|apply bl_n|apply bl_r|apply bl_e|(apply bl_o;(rfl))|apply wp_sk|apply wp_lb|apply wp_rt|apply wp_ex|(apply bq_r;(simp +decide only [go_sem, beq_self_eq_true] <;> rfl))|(apply bq_n;(simp +decide only [go_sem, beq_self_eq_true] <;> rfl))))
    all_goals rfl
  · have h10 := h10 hr
    have h12 := h12 hr
    rw [hr] at h1 h2 h5 h7
    rw [h12] at h11
    simp only [if_true] at h5 h7
    generalize vText dg x = tx at *
    generalize vType x = ty at *
    obtain ⟨k, n, s, l⟩ := x
    obtain ⟨k', l'⟩ := ty
    rw [Vlu.cells_mk] at *
    rw [Typ.cells_mk] at *
    (repeat' (first|apply th_n|apply wp_sq|apply wp_blk|apply wp_reg|apply wp_regd|(apply nm_and;kernel_rfl)|apply ev_nil|(apply ev_val;rfl;rfl;(simp +decide only [go_sem, beq_self_eq_true] <;> rfl))|(apply ev_call;rfl;rfl;rfl;(simp +decide only [go_sem, beq_self_eq_true] <;> rfl);(simp +decide only [go_sem, beq_self_eq_true] <;> rfl);(first|exact awake_pc|exact hf|exact h1|exact h2|exact h3|exact h4|exact h5|exact h8|exact h9|exact h7|exact h10|exact h11))|(apply ev_wr;rfl;rfl;(simp +decide only [go_sem, beq_self_eq_true] <;> rfl))|(apply ev_st;rfl;rfl;(simp +decide only [go_sem, beq_self_eq_true] <;> rfl))|(apply ev_yes;rfl;rfl;(simp +decide only [go_sem, beq_self_eq_true] <;> rfl))|(apply ev_nt;rfl;rfl;(simp +decide only [go_sem, beq_self_eq_true] <;> rfl))|(apply ev_no;rfl;rfl;(refine Or.inl ?_;(simp +decide only [go_sem, beq_self_eq_true] <;> rfl)))|(apply ev_guard;rfl;rfl;(simp +decide only [go_sem, beq_self_eq_true] <;> rfl);intro _;rotate_left;intro _;rotate_right)|(apply wp_ift;(simp +decide only [go_sem, beq_self_eq_true] <;> rfl))|(apply wp_iff;(simp +decide only [go_sem, beq_self_eq_true] <;> rfl))|(apply wp_ifu;(simp +decide only [go_sem, beq_self_eq_true] <;> rfl);intro _;rotate_left;intro _;rotate_right)|(apply wp_if;(simp +decide only [go_sem, beq_self_eq_true] <;> rfl);intro _;rotate_left;intro _;rotate_right)|apply on_n|apply th_r|apply th_e|apply bl_n|apply bl_r|apply bl_e|(apply bl_o;(rfl))|apply wp_sk|apply wp_lb|apply wp_rt|apply wp_ex|(apply bq_r;(simp +decide only [go_sem, beq_self_eq_true] <;> rfl))|(apply bq_n;(simp +decide only [go_sem, beq_self_eq_true] <;> rfl))))
    all_goals rfl
theorem rights_walk {W : World} {v0 : Value} {x : Vlu} (hx : x.Ok) (r0 : Rep (fun _ => False) W v0 (.agg x.cells)) :
    Calls Try.prog 5 #[v0] W fun e w' => e = .returned (.bool true) ∧ Ex W w' :=
  calls_of_pc (rights_pc x hx) (fun _ _ _ h => rep_bool h) W [v0] (.cons _ _ _ _ r0 .nil)
end Go.Proofs.Ytandclggkgmpgaa
