/- The size of an expression that is looked at; the document's example: walks. Conditions: how they came in. -/
import Derived.Test.YtefiebkngpcaoaaDoorAstW
set_option maxRecDepth 100000
set_option linter.unusedVariables false
set_option linter.unusedSimpArgs false
set_option linter.unusedSectionVars false
namespace Go.Proofs.YtefiebkngpcaoaaDoor
open Go.RowKit

/-- How much room is left behind an expression. -/
def exprR : Nat → Int → Exp → Int
  | 0, _, _ => -1
  | d + 1, room, .mk _ _ a s l => if room < 1 ∨ 20 < l.length ∨ 100 < a.size ∨ 100 < s.size then -1 else l.foldl (fun r x => if 0 ≤ r then exprR d r x else r) (room - 1)
def exprRL (d : Nat) (room : Int) (l : List Exp) : Int := l.foldl (fun r x => if 0 ≤ r then exprR d r x else r) room
theorem exprR_succ (d : Nat) (room op n : Int) (a s : ByteArray) (l : List Exp) : exprR (d + 1) room (.mk op n a s l) = if room < 1 ∨ 20 < l.length ∨ 100 < a.size ∨ 100 < s.size then -1 else exprRL d (room - 1) l := by rw [exprR]; rfl
theorem exprRL_take {d : Nat} {room : Int} {l : List Exp} {i : Nat} (h : i < l.length) : exprRL d room (l.take (i + 1)) = if 0 ≤ exprRL d room (l.take i) then exprR d (exprRL d room (l.take i)) l[i] else exprRL d room (l.take i) := by
  unfold exprRL
  rw [List.take_succ_eq_append_getElem h, List.foldl_append]; rfl
theorem exprRL_low {d : Nat} : ∀ (l : List Exp) (r : Int), r < 0 → exprRL d r l = r
  | [], r, _ => rfl
  | x :: l, r, h => by unfold exprRL; rw [List.foldl_cons, if_neg (by omega)]; exact exprRL_low l r h
theorem exprRL_stop {d : Nat} {room : Int} {l : List Exp} {i : Nat} (h : exprRL d room (l.take i) < 0) : exprRL d room l = exprRL d room (l.take i) := by
  conv => lhs; rw [← List.take_append_drop i l]; unfold exprRL; rw [List.foldl_append]
  exact exprRL_low _ _ h
theorem exprR_in : ∀ (d : Nat) (room : Int) (x : Exp), room ≤ 600 → -1 ≤ exprR d room x ∧ exprR d room x ≤ 600
  | 0, room, x, h => by rw [exprR]; omega
  | d + 1, room, .mk op n a s l, h => by
    rw [exprR_succ]
    split
    · omega
    · rename_i hn
      have : ∀ (l : List Exp) (r : Int), -1 ≤ r → r ≤ 600 → -1 ≤ exprRL d r l ∧ exprRL d r l ≤ 600 := by
        intro l
        induction l with
        | nil => intro r h1 h2; exact ⟨h1, h2⟩
        | cons x l ih =>
          intro r h1 h2
          unfold exprRL
          rw [List.foldl_cons]
          split
          · have := exprR_in d r x h2
            exact ih _ this.1 this.2
          · exact ih _ h1 h2
      exact this l _ (by omega) (by omega)
theorem exprRL_in (d : Nat) : ∀ (l : List Exp) (r : Int), -1 ≤ r → r ≤ 600 → -1 ≤ exprRL d r l ∧ exprRL d r l ≤ 600
  | [], r, h1, h2 => ⟨h1, h2⟩
  | x :: l, r, h1, h2 => by
    unfold exprRL
    rw [List.foldl_cons]
    split
    · have := exprR_in d r x h2
      exact exprRL_in d l _ this.1 this.2
    · exact exprRL_in d l _ h1 h2
set_option maxHeartbeats 2000000 in
theorem expr_pc : ∀ (d : Nat), d ≤ 40 → ∀ (room : Int), -1 ≤ room → room ≤ 600 → ∀ (x : Exp), x.Ok → PC Tryd.prog 11 [.agg x.cells, .int .i64 (d : Int), .int .i64 room] (.int .i64 (exprR d room x)) := by
  intro d
  induction d with
  | zero =>
    rintro - room - - ⟨op, n, a, s, l⟩ hx
    rw [Exp.cells_mk, exprR]
    refine pc_of_pwp _ Tryd.func11 rfl Tryd.results11 (by kernel_rfl) ?_
    have e1 : (((0 : Nat) : Int) == 0) = true := rfl
    (repeat' (first|apply th_n|apply wp_sq|apply wp_blk|apply wp_reg|apply wp_regd|(apply nm_and;kernel_rfl)|apply ev_nil|(apply ev_val;rfl;rfl;(simp +decide only [go_sem, e1] <;> rfl))|(apply ev_wr;rfl;rfl;(simp +decide only [go_sem, e1] <;> rfl))|(apply ev_st;rfl;rfl;(simp +decide only [go_sem, e1] <;> rfl))|(apply ev_yes;rfl;rfl;(simp +decide only [go_sem, e1] <;> rfl))|(apply ev_nt;rfl;rfl;(simp +decide only [go_sem, e1] <;> rfl))|(apply ev_no;rfl;rfl;(refine Or.inl ?_;(simp +decide only [go_sem, e1] <;> rfl)))|(apply ev_guard;rfl;rfl;(simp +decide only [go_sem, e1] <;> rfl);intro _;rotate_left;intro _;rotate_right)|(apply wp_ift;(simp +decide only [go_sem, e1] <;> rfl))|(apply wp_iff;(simp +decide only [go_sem, e1] <;> rfl))|(apply wp_ifu;(simp +decide only [go_sem, e1] <;> rfl);intro _;rotate_left;intro _;rotate_right)|(apply wp_if;(simp +decide only [go_sem, e1] <;> rfl);intro _;rotate_left;intro _;rotate_right)|apply on_n|apply th_r|apply th_e|apply bl_n|apply bl_r|apply bl_e|(apply bl_o;(rfl))|apply wp_sk|apply wp_lb|apply wp_rt|apply wp_ex|(apply bq_r;(simp +decide only [go_sem, e1] <;> rfl))|(apply bq_n;(simp +decide only [go_sem, e1] <;> rfl))))
    rfl
  | succ d ih =>
    rintro hd room hr1 hr2 ⟨op, n, a, s, l⟩ hx
    obtain ⟨-, -, ha, hs, hl, hk⟩ := hx.parts
    have e1 : (((d + 1 : Nat) : Int) == 0) = false := by simp; omega
    have e2 : IntKind.i64.wrap (((d + 1 : Nat) : Int) - 1) = (d : Int) := by rw [wrap_in (by omega)]; omega
    have e3 : IntKind.i64.wrap (room - 1) = room - 1 := wrap_in (by omega)
    rw [Exp.cells_mk, exprR_succ]
    refine pc_of_pwp _ Tryd.func11 rfl Tryd.results11 (by kernel_rfl) ?_
    (have hF := And.intro e1 e3; repeat' (first|apply th_n|apply wp_sq|apply wp_blk|apply wp_reg|apply wp_regd|(apply nm_and;kernel_rfl)|apply ev_nil|(apply ev_val;rfl;rfl;(simp +decide only [go_sem, hF] <;> rfl))|(apply ev_wr;rfl;rfl;(simp +decide only [go_sem, hF] <;> rfl))|(apply ev_st;rfl;rfl;(simp +decide only [go_sem, hF] <;> rfl))|(apply ev_yes;rfl;rfl;(simp +decide only [go_sem, hF] <;> rfl))|(apply ev_nt;rfl;rfl;(simp +decide only [go_sem, hF] <;> rfl))|(apply ev_no;rfl;rfl;(refine Or.inl ?_;(simp +decide only [go_sem, hF] <;> rfl)))|(apply ev_guard;rfl;rfl;(simp +decide only [go_sem, hF] <;> rfl);intro _;rotate_left;intro _;rotate_right)|(apply wp_ift;(simp +decide only [go_sem, hF] <;> rfl))|(apply wp_iff;(simp +decide only [go_sem, hF] <;> rfl))|(apply wp_ifu;(simp +decide only [go_sem, hF] <;> rfl);intro _;rotate_left;intro _;rotate_right)|(apply wp_if;(simp +decide only [go_sem, hF] <;> rfl);intro _;rotate_left;intro _;rotate_right)|apply on_n|apply th_r|apply th_e|apply bl_n|apply bl_r|apply bl_e|(apply bl_o;(rfl))|apply wp_sk|apply wp_lb|apply wp_rt|apply wp_ex|(apply bq_r;(simp +decide only [go_sem, hF] <;> rfl))|(apply bq_n;(simp +decide only [go_sem, hF] <;> rfl))))
    all_goals first
      | (show D.int _ _ = D.int _ _; rename_i q; simp at q; rw [if_pos (by omega)]; done)
      | skip
    rename_i q1 q2 q3 q4
    simp at q1 q2 q3 q4
    rw [if_neg (by omega)]
    refine wp_for l.length (fun i => [(1, .d (.int .i64 ((d + 1 : Nat) : Int))), (2, .d (.int .i64 (exprRL d (room - 1) (l.take i)))), (3, .loc 3 0), (7, .d (.int .i64 i))]) (fun _ => [(3, .box [.d (.int .i64 op), .d (.int .i64 n), .d (.str a), .d (.str s), .d (.sl l.length (rowE.cs l))])]) (fun _ => True)
      (Cv.keepH _ _ (by (repeat' (first | exact trivial | apply And.intro | ((simp +decide only [go_sem] <;> rfl)) | rfl))) (by (repeat' (first | exact trivial | apply And.intro | ((simp +decide only [go_sem] <;> rfl)) | rfl))) rfl) trivial (fun i h _ => ?_) (fun _ => ?_)
    · have hin := exprRL_in d (l.take i) (room - 1) (by omega) (by omega)
      have ht := exprRL_take (d := d) (room := room - 1) h
      have e4 := rnd (R := rowE) (n := 5) h rfl hl
      by_cases hr : 0 ≤ exprRL d (room - 1) (l.take i)
      · have e5 : decide (exprRL d (room - 1) (l.take i) ≥ 0) = true := decide_eq_true hr
        have hc : PC Tryd.prog 11 [.agg (rowE.toC l[i]), .int .i64 (d : Int), .int .i64 (exprRL d (room - 1) (l.take i))] _ := ih (by omega) _ hin.1 hin.2 l[i] (hk _ (List.getElem_mem h))
        rw [if_pos hr] at ht
        (have hF := And.intro e2 (And.intro e4 e5); repeat' (first|apply th_n|apply wp_sq|apply wp_blk|apply wp_reg|apply wp_regd|(apply nm_and;kernel_rfl)|apply ev_nil|(apply ev_val;rfl;rfl;(simp +decide only [go_sem, hF] <;> rfl))|(apply ev_call;rfl;rfl;rfl;(simp +decide only [go_sem, hF] <;> rfl);(simp +decide only [go_sem, hF] <;> rfl);(first|exact hc))|(apply ev_wr;rfl;rfl;(simp +decide only [go_sem, hF] <;> rfl))|(apply ev_st;rfl;rfl;(simp +decide only [go_sem, hF] <;> rfl))|(apply ev_yes;rfl;rfl;(simp +decide only [go_sem, hF] <;> rfl))|(apply ev_nt;rfl;rfl;(simp +decide only [go_sem, hF] <;> rfl))|(apply ev_no;rfl;rfl;(refine Or.inl ?_;(simp +decide only [go_sem, hF] <;> rfl)))|(apply ev_guard;rfl;rfl;(simp +decide only [go_sem, hF] <;> rfl);intro _;rotate_left;intro _;rotate_right)|(apply wp_ift;(simp +decide only [go_sem, hF] <;> rfl))|(apply wp_iff;(simp +decide only [go_sem, hF] <;> rfl))|(apply wp_ifu;(simp +decide only [go_sem, hF] <;> rfl);intro _;rotate_left;intro _;rotate_right)|(apply wp_if;(simp +decide only [go_sem, hF] <;> rfl);intro _;rotate_left;intro _;rotate_right)|apply on_n|apply th_r|apply th_e|apply bl_n|apply bl_r|apply bl_e|(apply bl_o;(rfl))|apply wp_sk|apply wp_lb|apply wp_rt|apply wp_ex|(apply bq_r;(simp +decide only [go_sem, hF] <;> rfl))|(apply bq_n;(simp +decide only [go_sem, hF] <;> rfl))))
        exact ⟨Cv.keepH _ _ (by rw [ht]; (repeat' (first | exact trivial | apply And.intro | ((simp +decide only [go_sem] <;> rfl)) | rfl))) (by (repeat' (first | exact trivial | apply And.intro | ((simp +decide only [go_sem] <;> rfl)) | rfl))) rfl, trivial⟩
      · have e5 : decide (exprRL d (room - 1) (l.take i) ≥ 0) = false := decide_eq_false hr
        (have hF := And.intro e4 e5; repeat' (first|apply th_n|apply wp_sq|apply wp_blk|apply wp_reg|apply wp_regd|(apply nm_and;kernel_rfl)|apply ev_nil|(apply ev_val;rfl;rfl;(simp +decide only [go_sem, hF] <;> rfl))|(apply ev_wr;rfl;rfl;(simp +decide only [go_sem, hF] <;> rfl))|(apply ev_st;rfl;rfl;(simp +decide only [go_sem, hF] <;> rfl))|(apply ev_yes;rfl;rfl;(simp +decide only [go_sem, hF] <;> rfl))|(apply ev_nt;rfl;rfl;(simp +decide only [go_sem, hF] <;> rfl))|(apply ev_no;rfl;rfl;(refine Or.inl ?_;(simp +decide only [go_sem, hF] <;> rfl)))|(apply ev_guard;rfl;rfl;(simp +decide only [go_sem, hF] <;> rfl);intro _;rotate_left;intro _;rotate_right)|(apply wp_ift;(simp +decide only [go_sem, hF] <;> rfl))|(apply wp_iff;(simp +decide only [go_sem, hF] <;> rfl))|(apply wp_ifu;(simp +decide only [go_sem, hF] <;> rfl);intro _;rotate_left;intro _;rotate_right)|(apply wp_if;(simp +decide only [go_sem, hF] <;> rfl);intro _;rotate_left;intro _;rotate_right)|apply on_n|apply th_r|apply th_e|apply bl_n|apply bl_r|apply bl_e|(apply bl_o;(rfl))|apply wp_sk|apply wp_lb|apply wp_rt|apply wp_ex|(apply bq_r;(simp +decide only [go_sem, hF] <;> rfl))|(apply bq_n;(simp +decide only [go_sem, hF] <;> rfl))))
        rw [exprRL_stop (by omega : exprRL d (room - 1) (l.take i) < 0)]; rfl
    · have e4 : decide ((l.length : Int) < (l.length : Int)) = false := by simp
      rw [List.take_length]
      (repeat' (first|apply th_n|apply wp_sq|apply wp_blk|apply wp_reg|apply wp_regd|(apply nm_and;kernel_rfl)|apply ev_nil|(apply ev_val;rfl;rfl;(simp +decide only [go_sem, e4] <;> rfl))|(apply ev_wr;rfl;rfl;(simp +decide only [go_sem, e4] <;> rfl))|(apply ev_st;rfl;rfl;(simp +decide only [go_sem, e4] <;> rfl))|(apply ev_yes;rfl;rfl;(simp +decide only [go_sem, e4] <;> rfl))|(apply ev_nt;rfl;rfl;(simp +decide only [go_sem, e4] <;> rfl))|(apply ev_no;rfl;rfl;(refine Or.inl ?_;(simp +decide only [go_sem, e4] <;> rfl)))|(apply ev_guard;rfl;rfl;(simp +decide only [go_sem, e4] <;> rfl);intro _;rotate_left;intro _;rotate_right)|(apply wp_ift;(simp +decide only [go_sem, e4] <;> rfl))|(apply wp_iff;(simp +decide only [go_sem, e4] <;> rfl))|(apply wp_ifu;(simp +decide only [go_sem, e4] <;> rfl);intro _;rotate_left;intro _;rotate_right)|(apply wp_if;(simp +decide only [go_sem, e4] <;> rfl);intro _;rotate_left;intro _;rotate_right)|apply on_n|apply th_r|apply th_e|apply bl_n|apply bl_r|apply bl_e|(apply bl_o;(rfl))|apply wp_sk|apply wp_lb|apply wp_rt|apply wp_ex|(apply bq_r;(simp +decide only [go_sem, e4] <;> rfl))|(apply bq_n;(simp +decide only [go_sem, e4] <;> rfl))))
      rfl
theorem exprRL_ok {d : Nat} : ∀ (l : List Exp) (r : Int), 0 ≤ exprRL d r l → 0 ≤ r ∧ ∀ x ∈ l, ∃ r', 0 ≤ exprR d r' x
  | [], r, h => ⟨h, by simp⟩
  | x :: l, r, h => by
    unfold exprRL at h
    rw [List.foldl_cons] at h
    by_cases hr : 0 ≤ r
    · rw [if_pos hr] at h
      obtain ⟨h1, h2⟩ := exprRL_ok l _ h
      refine ⟨hr, fun y hy => ?_⟩
      rcases List.mem_cons.1 hy with rfl | hy
      · exact ⟨r, h1⟩
      · exact h2 y hy
    · rw [if_neg hr] at h
      have := exprRL_low (d := d) l r (by omega)
      unfold exprRL at this
      rw [this] at h
      exact absurd h hr
theorem expr_sm : ∀ (d : Nat) (r : Int) (x : Exp), 0 ≤ exprR d r x → x.Sm
  | 0, r, x, h => by rw [exprR] at h; omega
  | d + 1, r, .mk op n a s l, h => by
    rw [exprR_succ] at h
    split at h
    · omega
    · rename_i hn
      obtain ⟨-, h2⟩ := exprRL_ok l _ h
      refine .mk _ _ _ _ _ (by simp only [not_or] at hn; omega) fun x hx => ?_
      obtain ⟨r', h3⟩ := h2 x hx
      exact expr_sm d r' x h3
theorem expr_size : ∀ (d : Nat) (r : Int) (x : Exp), 0 ≤ exprR d r x → exprR d r x + (walkE x).length ≤ r
  | 0, r, x, h => by rw [exprR] at h; omega
  | d + 1, r, .mk op n a s l, h => by
    rw [exprR_succ] at h ⊢
    split at h
    · omega
    · rename_i hn
      rw [if_neg hn]
      have : ∀ (l : List Exp) (r : Int), 0 ≤ exprRL d r l → exprRL d r l + (walkEL l).length ≤ r := by
        intro l
        induction l with
        | nil => intro r h; simp [walkEL, exprRL]
        | cons x l ih =>
          intro r h
          have h0 := (exprRL_ok (x :: l) r h).1
          have e : exprRL d r (x :: l) = exprRL d (exprR d r x) l := by unfold exprRL; rw [List.foldl_cons, if_pos h0]
          rw [e] at h ⊢
          have h1 := (exprRL_ok l _ h).1
          have h2 := expr_size d r x h1
          have h3 := ih _ h
          rw [walkEL, List.length_append]
          omega
      have := this l _ h
      rw [walkE, List.length_cons]
      omega
theorem nstL_congr {r r' : Nat} {l : List Exp} (h : ∀ x ∈ l, nst r x = nst r' x) : nstL r l = nstL r' l := by
  have : ∀ (l : List Exp) (n : Int), (∀ x ∈ l, nst r x = nst r' x) → l.foldl (fun n x => max n (nst r x)) n = l.foldl (fun n x => max n (nst r' x)) n := by
    intro l
    induction l with
    | nil => intro n _; rfl
    | cons x l ih => intro n h; rw [List.foldl_cons, List.foldl_cons, h x (by simp)]; exact ih _ fun y hy => h y (by simp [hy])
  exact this l 0 h
theorem nstL_le {r : Nat} {b : Int} : ∀ (l : List Exp), 0 ≤ b → (∀ x ∈ l, nst r x ≤ b) → nstL r l ≤ b := by
  intro l hb h
  have : ∀ (l : List Exp) (n : Int), n ≤ b → (∀ x ∈ l, nst r x ≤ b) → l.foldl (fun n x => max n (nst r x)) n ≤ b := by
    intro l
    induction l with
    | nil => intro n h _; exact h
    | cons x l ih => intro n hn h; rw [List.foldl_cons]; exact ih _ (by have := h x (by simp); omega) fun y hy => h y (by simp [hy])
  exact this l 0 hb h
theorem expr_nst : ∀ (d : Nat) (r : Int) (x : Exp), d ≤ 1000 → 0 ≤ exprR d r x → nst d x ≤ d ∧ ∀ k, d ≤ k → nst k x = nst d x
  | 0, r, x, _, h => by rw [exprR] at h; omega
  | d + 1, r, .mk op n a s l, hd, h => by
    rw [exprR_succ] at h
    split at h
    · omega
    · obtain ⟨-, h2⟩ := exprRL_ok l _ h
      have ih : ∀ x ∈ l, nst d x ≤ d ∧ ∀ k, d ≤ k → nst k x = nst d x := fun x hx => by
        obtain ⟨r', h3⟩ := h2 x hx
        exact expr_nst d r' x (by omega) h3
      have hle := nstL_le (r := d) (b := d) l (by omega) fun x hx => (ih x hx).1
      refine ⟨by rw [nst_succ]; omega, fun k hk => ?_⟩
      obtain ⟨k, rfl⟩ : ∃ m, k = m + 1 := ⟨k - 1, by omega⟩
      rw [nst_succ, nst_succ, nstL_congr fun x hx => (ih x hx).2 k (by omega)]
theorem eRight_nst : ∀ (d : Nat) (x : Exp), eRight d x = true → ∀ k, d ≤ k → nst k x ≤ d
  | 0, x, h => by rw [eRight] at h; cases h
  | d + 1, .mk op n a s l, h => fun k hk => by
    rw [eRight, Bool.and_eq_true, List.all_eq_true] at h
    obtain ⟨k, rfl⟩ : ∃ m, k = m + 1 := ⟨k - 1, by omega⟩
    have := nstL_le (r := k) (b := d) l (by omega) fun x hx => eRight_nst d x (h.2 x hx) k (by omega)
    rw [nst_succ]; omega
theorem eRight_mono : ∀ (d : Nat) (x : Exp), eRight d x = true → eRight (d + 1) x = true
  | 0, x, h => by rw [eRight] at h; cases h
  | d + 1, .mk op n a s l, h => by
    rw [eRight, Bool.and_eq_true, List.all_eq_true] at h ⊢
    exact ⟨h.1, fun x hx => eRight_mono d x (h.2 x hx)⟩
theorem sameE_refl : ∀ x : Exp, sameE x x = true
  | .mk op n a s l => by
    rw [sameE, sameEL_all2]
    have h : ∀ x ∈ l, sameE x x = true := fun x hx => sameE_refl x
    have : ∀ l : List Exp, (∀ x ∈ l, sameE x x = true) → all2 sameE l l = true := by
      intro l
      induction l with
      | nil => intro _; rfl
      | cons x l ih => intro h; rw [all2, h x (by simp), ih fun y hy => h y (by simp [hy])]; rfl
    simp [this l h]
termination_by x => SizeOf.sizeOf x
decreasing_by (have := List.sizeOf_lt_of_mem hx; simp; omega)
theorem walkE_ok : ∀ (x : Exp), x.Ok → ∀ y ∈ walkE x, y.Ok
  | .mk op n a s l, hx, y, hy => by
    obtain ⟨-, -, -, -, hl, hk⟩ := hx.parts
    have ih : ∀ x ∈ l, ∀ y ∈ walkE x, y.Ok := fun x hh => walkE_ok x (hk x hh)
    have : ∀ l : List Exp, (∀ x ∈ l, ∀ y ∈ walkE x, y.Ok) → ∀ y ∈ walkEL l, y.Ok := by
      intro l
      induction l with
      | nil => intro _ y hy; simp [walkEL] at hy
      | cons x l ih =>
        intro h y hy
        rw [walkEL, List.mem_append] at hy
        exact hy.elim (h x (by simp) y) (ih (fun z hz => h z (by simp [hz])) y)
    rw [walkE, List.mem_cons] at hy
    exact hy.elim (fun e => e ▸ hx) (this l ih y)
termination_by x => SizeOf.sizeOf x
decreasing_by (have := List.sizeOf_lt_of_mem hh; simp; omega)
/-- An expression that is a name. -/
def varE (s : ByteArray) : Exp := .mk 4 0 s ⟨#[]⟩ []
theorem name_pc (s : ByteArray) : PC Tryd.prog 31 [.str s] (.agg (varE s).cells) := by
  unfold varE
  rw [Exp.cells_mk]
  refine pc_of_pwp _ Tryd.func31 rfl Tryd.results31 (by kernel_rfl) ?_
  (repeat' (first|apply th_n|apply wp_sq|apply wp_blk|apply wp_reg|apply wp_regd|(apply nm_and;kernel_rfl)|apply ev_nil|(apply ev_val;rfl;rfl;(simp +decide only [go_sem] <;> rfl))|(apply ev_wr;rfl;rfl;(simp +decide only [go_sem] <;> rfl))|(apply ev_st;rfl;rfl;(simp +decide only [go_sem] <;> rfl))|(apply ev_yes;rfl;rfl;(simp +decide only [go_sem] <;> rfl))|(apply ev_nt;rfl;rfl;(simp +decide only [go_sem] <;> rfl))|(apply ev_no;rfl;rfl;(refine Or.inl ?_;(simp +decide only [go_sem] <;> rfl)))|(apply ev_guard;rfl;rfl;(simp +decide only [go_sem] <;> rfl);intro _;rotate_left;intro _;rotate_right)|(apply wp_ift;(simp +decide only [go_sem] <;> rfl))|(apply wp_iff;(simp +decide only [go_sem] <;> rfl))|(apply wp_ifu;(simp +decide only [go_sem] <;> rfl);intro _;rotate_left;intro _;rotate_right)|(apply wp_if;(simp +decide only [go_sem] <;> rfl);intro _;rotate_left;intro _;rotate_right)|apply on_n|apply th_r|apply th_e|apply bl_n|apply bl_r|apply bl_e|(apply bl_o;(rfl))|apply wp_sk|apply wp_lb|apply wp_rt|apply wp_ex|(apply bq_r;(simp +decide only [go_sem] <;> rfl))|(apply bq_n;(simp +decide only [go_sem] <;> rfl))))
  rfl
/-- The document's example. -/
def exM : Exp := .mk 17 0 ⟨#[]⟩ ⟨#[]⟩ [varE ⟨#[98]⟩, varE ⟨#[99]⟩]
def exE : Exp := .mk 15 0 ⟨#[]⟩ ⟨#[]⟩ [varE ⟨#[97]⟩, exM]
theorem i64_few {n : Int} (h : 0 ≤ n ∧ n ≤ 100) : I64 n := by constructor <;> omega
theorem var_ok {s : ByteArray} (h : s.size ≤ 100) : (varE s).Ok := .mk _ _ _ _ _ (i64_few (by omega)) (i64_few (by omega)) (by unfold maxLen; omega) (by decide) (by decide) (by simp)
theorem exM_ok : exM.Ok := .mk _ _ _ _ _ (i64_few (by omega)) (i64_few (by omega)) (by decide) (by decide) (by decide) fun x hx => by
  simp at hx
  rcases hx with rfl | rfl <;> exact var_ok (by decide)
theorem exE_ok : exE.Ok := .mk _ _ _ _ _ (i64_few (by omega)) (i64_few (by omega)) (by decide) (by decide) (by decide) fun x hx => by
  simp at hx
  rcases hx with rfl | rfl
  · exact var_ok (by decide)
  · exact exM_ok
theorem exE_sm : exE.Sm := .mk _ _ _ _ _ (by decide) fun x hx => by
  simp at hx
  rcases hx with rfl | rfl
  · exact .mk _ _ _ _ _ (by decide) (by simp)
  · exact .mk _ _ _ _ _ (by decide) fun x hx => by
      simp at hx
      rcases hx with rfl | rfl <;> exact .mk _ _ _ _ _ (by decide) (by simp)
theorem exE_nst : nst 1000 exE = 3 := by decide +kernel
theorem exE_right : eRight 20 exE = true := by decide +kernel
theorem exE_len : (walkE exE).length = 5 := by decide +kernel
set_option maxHeartbeats 2000000 in
theorem awake_pc : PC Tryd.prog 10 [] (.bool true) := by
  have h1 := name_pc ⟨#[97]⟩
  have h2 := name_pc ⟨#[98]⟩
  have h3 := name_pc ⟨#[99]⟩
  have h4 := Nest_pc exE exE_ok
  have h5 := ExprRight_pc exE exE_ok
  have h6 := Walk_pc exE
  have h7 := Collect_pc 33 [.ep exE.cells] (walkE exE) (by rw [exE_len]; omega) (WalkC_ps exE exE_ok exE_sm)
  have h8 := Reserved_pc ⟨#[116, 97]⟩
  have h9 := Name_pc' ⟨#[116, 97]⟩ (by decide)
  have h10 := Name_pc' ⟨#[116, 98]⟩ (by decide)
  rw [exE_nst] at h4
  rw [exE_right] at h5
  rw [exE_len] at h7
  rw [show wordB ⟨#[116, 97]⟩ = true by decide +kernel] at h8
  rw [show nameA ⟨#[116, 97]⟩ = false by decide +kernel] at h9
  rw [show nameA ⟨#[116, 98]⟩ = true by decide +kernel] at h10
  generalize rowE.cs (walkE exE) = W at *
  have ec : exE.cells = [.int .i64 15, .int .i64 0, .str ⟨#[]⟩, .str ⟨#[]⟩, .sl 2 [.int .i64 4, .int .i64 0, .str ⟨#[97]⟩, .str ⟨#[]⟩, .sl 0 [], .int .i64 17, .int .i64 0, .str ⟨#[]⟩, .str ⟨#[]⟩, .sl 2 [.int .i64 4, .int .i64 0, .str ⟨#[98]⟩, .str ⟨#[]⟩, .sl 0 [], .int .i64 4, .int .i64 0, .str ⟨#[99]⟩, .str ⟨#[]⟩, .sl 0 []]]] := rfl
  rw [ec] at *
  clear ec
  unfold varE at h1 h2 h3
  rw [Exp.cells_mk] at h1 h2 h3
  refine pc_of_pwp _ Tryd.func10 rfl Tryd.results10 (by kernel_rfl) ?_
  (repeat' (first|apply th_n|apply wp_sq|apply wp_blk|apply wp_reg|apply wp_regd|(apply nm_and;kernel_rfl)|apply ev_nil|(apply ev_val;rfl;rfl;(simp +decide only [go_sem, beq_self_eq_true] <;> rfl))|(apply ev_call;rfl;rfl;rfl;(simp +decide only [go_sem, beq_self_eq_true] <;> rfl);(simp +decide only [go_sem, beq_self_eq_true] <;> rfl);(first|exact h1|exact h2|exact h3|exact h4|exact h5|exact h6|exact h7|exact h8|exact h9|exact h10))|(apply ev_wr;rfl;rfl;(simp +decide only [go_sem, beq_self_eq_true] <;> rfl))|(apply ev_st;rfl;rfl;(simp +decide only [go_sem, beq_self_eq_true] <;> rfl))|(apply ev_yes;rfl;rfl;(simp +decide only [go_sem, beq_self_eq_true] <;> rfl))|(apply ev_nt;rfl;rfl;(simp +decide only [go_sem, beq_self_eq_true] <;> rfl))|(apply ev_no;rfl;rfl;(refine Or.inl ?_;(simp +decide only [go_sem, beq_self_eq_true] <;> rfl)))|(apply ev_guard;rfl;rfl;(simp +decide only [go_sem, beq_self_eq_true] <;> rfl);intro _;rotate_left;intro _;rotate_right)|(apply wp_ift;(simp +decide only [go_sem, beq_self_eq_true] <;> rfl))|(apply wp_iff;(simp +decide only [go_sem, beq_self_eq_true] <;> rfl))|(apply wp_ifu;(simp +decide only [go_sem, beq_self_eq_true] <;> rfl);intro _;rotate_left;intro _;rotate_right)|(apply wp_if;(simp +decide only [go_sem, beq_self_eq_true] <;> rfl);intro _;rotate_left;intro _;rotate_right)|apply on_n|apply th_r|apply th_e|apply bl_n|apply bl_r|apply bl_e|(apply bl_o;(rfl))|apply wp_sk|apply wp_lb|apply wp_rt|apply wp_ex|(apply bq_r;(simp +decide only [go_sem, beq_self_eq_true] <;> rfl))|(apply bq_n;(simp +decide only [go_sem, beq_self_eq_true] <;> rfl))))
  rfl
end Go.Proofs.YtefiebkngpcaoaaDoor
