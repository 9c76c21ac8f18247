/- Right values with the same text are the same. Plain, no program in sight. -/
import Derived.Test.YtandclggkgmpgaaValRW
import Derived.Test.YtandclggkgmpgaaValOA
set_option maxRecDepth 100000
set_option linter.unusedVariables false
set_option linter.unusedSimpArgs false
set_option linter.unusedSectionVars false
namespace Go.Proofs.Ytandclggkgmpgaa
open Go.RowKit

/-- What a sign in front of which a text ends may be. -/
def endB (c : UInt8) : Bool := c == 44 || c == 41
def EndOk (r : List UInt8) : Prop := ∀ c ∈ r.head?, endB c = true
theorem run_split : ∀ (A B r1 r2 : List UInt8), (∀ c ∈ A, endB c = false) → (∀ c ∈ B, endB c = false) → EndOk r1 → EndOk r2 → A ++ r1 = B ++ r2 → A = B ∧ r1 = r2
  | [], [], r1, r2, _, _, _, _, h => ⟨rfl, h⟩
  | [], b :: B, r1, r2, _, hB, h1, _, h => by
    simp only [List.nil_append, List.cons_append] at h
    have := h1 b (by rw [h]; rfl)
    rw [hB b (by simp)] at this; cases this
  | a :: A, [], r1, r2, hA, _, _, h2, h => by
    simp only [List.nil_append, List.cons_append] at h
    have := h2 a (by rw [← h]; rfl)
    rw [hA a (by simp)] at this; cases this
  | a :: A, b :: B, r1, r2, hA, hB, h1, h2, h => by
    simp only [List.cons_append, List.cons.injEq] at h
    obtain ⟨e1, e2⟩ := run_split A B r1 r2 (fun c hc => hA c (by simp [hc])) (fun c hc => hB c (by simp [hc])) h1 h2 h.2
    exact ⟨by rw [h.1, e1], e2⟩
/-- What digits, the last one first, stand for. -/
def valD : List Int → Int
  | [] => 0
  | d :: l => (d - 48) + 10 * valD l
theorem valD_rev : ∀ m : Nat, valD (revD m) = m
  | m => by
    by_cases h : m < 10
    · rw [revD_one h]; simp [valD]; omega
    · rw [revD_more h, valD, valD_rev (m / 10)]; omega
theorem revD_dig : ∀ (m : Nat), ∀ d ∈ revD m, 48 ≤ d ∧ d ≤ 57
  | m => by
    intro d hd
    by_cases h : m < 10
    · rw [revD_one h] at hd; simp at hd; omega
    · rw [revD_more h] at hd
      rcases List.mem_cons.1 hd with rfl | hd
      · omega
      · exact revD_dig (m / 10) d hd
theorem revD_inj {m k : Nat} (h : revD m = revD k) : m = k := by
  have := congrArg valD h
  rw [valD_rev, valD_rev] at this
  omega
theorem decL_range (n : Int) : ∀ d ∈ decL n, 45 ≤ d ∧ d ≤ 57 := by
  intro d hd
  unfold decL at hd
  rcases List.mem_append.1 hd with h | h
  · split at h <;> simp at h; omega
  · have := revD_dig _ d (by simpa using h); omega
theorem revD_ne (m : Nat) : revD m ≠ [] := by
  by_cases h : m < 10
  · rw [revD_one h]; simp
  · rw [revD_more h]; simp
theorem decL_head (n : Int) (h : ¬ n < 0) : ∃ d l, decL n = d :: l ∧ 48 ≤ d := by
  unfold decL
  rw [if_neg h, List.nil_append]
  have hd := revD_dig n.natAbs
  cases hr : (revD n.natAbs).reverse with
  | nil => exact absurd (by simpa using hr) (revD_ne n.natAbs)
  | cons d l => exact ⟨d, l, rfl, (hd d (by rw [← List.mem_reverse, hr]; simp)).1⟩
theorem decL_inj {n m : Int} (h : decL n = decL m) : n = m := by
  by_cases hn : n < 0 <;> by_cases hm : m < 0
  · unfold decL at h
    rw [if_pos hn, if_pos hm] at h
    simp only [List.cons_append, List.nil_append, List.cons.injEq, true_and, List.reverse_inj] at h
    have := revD_inj h; omega
  · obtain ⟨d, l, e, hd⟩ := decL_head m hm
    rw [e] at h
    unfold decL at h
    rw [if_pos hn] at h
    simp only [List.cons_append, List.nil_append, List.cons.injEq] at h
    omega
  · obtain ⟨d, l, e, hd⟩ := decL_head n hn
    rw [e] at h
    unfold decL at h
    rw [if_pos hm] at h
    simp only [List.cons_append, List.nil_append, List.cons.injEq] at h
    omega
  · unfold decL at h
    rw [if_neg hn, if_neg hm] at h
    simp only [List.nil_append, List.reverse_inj] at h
    have := revD_inj h; omega
theorem bytes_inj : ∀ {l l' : List Int}, (∀ d ∈ l, 0 ≤ d ∧ d ≤ 255) → (∀ d ∈ l', 0 ≤ d ∧ d ≤ 255) → (l.map fun n => UInt8.ofNat n.toNat) = (l'.map fun n => UInt8.ofNat n.toNat) → l = l'
  | [], [], _, _, _ => rfl
  | [], _ :: _, _, _, h => by simp at h
  | _ :: _, [], _, _, h => by simp at h
  | x :: l, y :: l', h1, h2, h => by
    simp only [List.map_cons, List.cons.injEq] at h
    have hx := h1 x (by simp)
    have hy := h2 y (by simp)
    have e : x.toNat = y.toNat := by
      have := congrArg UInt8.toNat h.1
      simp at this
      omega
    rw [show x = y by omega, bytes_inj (fun d hd => h1 d (by simp [hd])) (fun d hd => h2 d (by simp [hd])) h.2]
theorem dg_bytes (n : Int) : (dg n).data.toList = (decL n).map fun n => UInt8.ofNat n.toNat := by simp [dg, asText]
theorem dg_inj {n m : Int} (h : (dg n).data.toList = (dg m).data.toList) : n = m := by
  rw [dg_bytes, dg_bytes] at h
  exact decL_inj (bytes_inj (fun d hd => by have := decL_range n d hd; omega) (fun d hd => by have := decL_range m d hd; omega) h)
theorem dg_char (n : Int) : ∀ c ∈ (dg n).data.toList, 45 ≤ c.toNat ∧ c.toNat ≤ 57 := by
  intro c hc
  rw [dg_bytes] at hc
  obtain ⟨d, hd, rfl⟩ := List.mem_map.1 hc
  have := decL_range n d hd
  simp; omega
theorem dg_ne (n : Int) : (dg n).data.toList ≠ [] := by
  rw [dg_bytes]
  intro h
  have : decL n = [] := by simpa using h
  unfold decL at this
  exact absurd (by simpa using (List.append_eq_nil_iff.1 this).2) (revD_ne n.natAbs)
/-- What comes behind a tuple's first item. -/
def tailB : List (List UInt8) → List UInt8
  | [] => [41]
  | y :: r => 44 :: 32 :: (y ++ tailB r)
theorem tailB_join : ∀ r : List (List UInt8), Lib.joinTail [44, 32] r ++ [41] = tailB r
  | [] => rfl
  | y :: r => by
    have := tailB_join r
    simp only [Lib.joinTail, List.map_cons, List.flatten_cons, List.append_assoc] at this ⊢
    rw [this]; rfl
def itemsB (x : List UInt8) (r : List (List UInt8)) : List UInt8 := x ++ (if r = [] then [44, 41] else tailB r)
theorem paren_bytes (x : ByteArray) (r : List ByteArray) : (paren (x :: r)).data.toList = 40 :: itemsB x.data.toList (r.map (·.data.toList)) := by
  unfold paren itemsB
  cases r with
  | nil => simp
  | cons y r =>
    rw [if_neg (by simp), if_neg (by simp)]
    have := tailB_join ((y :: r).map (·.data.toList))
    rw [ByteArray.data_append, Array.toList_append, ByteArray.data_append, Array.toList_append]
    have e : (joinS (x :: y :: r) ⟨#[44, 32]⟩).data.toList = x.data.toList ++ Lib.joinTail [44, 32] ((y :: r).map (·.data.toList)) := by
      unfold joinS
      rw [List.map_cons, Lib.join_cons]
    rw [e, ← this]
    simp
theorem tail_end (r : List (List UInt8)) (s : List UInt8) : EndOk (tailB r ++ s) := by
  cases r <;> (intro c hc; simp [tailB] at hc; subst hc; rfl)
theorem end_pair (s : List UInt8) : EndOk ([44, 41] ++ s) := by intro c hc; simp at hc; subst hc; rfl
/-- A text that is no tuple's. -/
def leafB (A : List UInt8) : Prop := (∀ c ∈ A, endB c = false) ∧ A.head? ≠ some 40 ∧ A ≠ []
theorem leaf_dg (n : Int) : leafB (dg n).data.toList := by
  refine ⟨fun c hc => ?_, fun h => ?_, dg_ne n⟩
  · have := dg_char n c hc
    unfold endB
    have h1 : c ≠ 44 := by intro e; subst e; simp at this
    have h2 : c ≠ 41 := by intro e; subst e; simp at this
    simp [h1, h2]
  · have := dg_char n 40 (List.mem_of_mem_head? h)
    simp at this
theorem name_chars {s : ByteArray} (h : nameB s.data.toList = true) : ∀ c ∈ s.data.toList, endB c = false := by
  unfold nameB at h
  split at h
  · cases h
  · rename_i b r hb
    simp only [Bool.and_eq_true, List.all_eq_true, Bool.or_eq_true] at h
    rw [hb]
    intro c hc
    have : isLow c = true ∨ isDig c = true := by
      rcases List.mem_cons.1 hc with rfl | hc
      · exact .inl h.1.2
      · exact h.2 c hc
    unfold endB
    have h1 : c ≠ 44 := by rintro rfl; rcases this with h | h <;> simp [isLow, isDig] at h
    have h2 : c ≠ 41 := by rintro rfl; rcases this with h | h <;> simp [isLow, isDig] at h
    simp [h1, h2]
theorem leaf_sym {s : ByteArray} (h : nameB s.data.toList = true) : leafB (39 :: s.data.toList) := by
  refine ⟨fun c hc => ?_, by simp, by simp⟩
  rcases List.mem_cons.1 hc with rfl | hc
  · rfl
  · exact name_chars h c hc
theorem eb_data {s : ByteArray} (h : eb s = true) : s = ⟨#[]⟩ := by
  unfold eb at h
  rw [toList_data, toList_data] at h
  exact ba_eq (by simpa using h)
/-- What a right value's text is, by its kind. -/
theorem right_cases {n : Nat} {x : Vlu} (h : vRight n x = true) :
    (∃ v, x = .mk 0 v ⟨#[]⟩ [] ∧ vText dg x = dg v) ∨ (x = .mk 1 0 ⟨#[]⟩ [] ∧ vText dg x = ⟨#[102, 97, 108, 115, 101]⟩) ∨ (x = .mk 1 1 ⟨#[]⟩ [] ∧ vText dg x = ⟨#[116, 114, 117, 101]⟩) ∨
    (∃ s, x = .mk 2 0 s [] ∧ nameB s.data.toList = true ∧ vText dg x = ⟨#[39]⟩ ++ s) ∨ (∃ m y l, n = m + 1 ∧ x = .mk 3 0 ⟨#[]⟩ (y :: l) ∧ (∀ z ∈ y :: l, vRight m z = true) ∧ vText dg x = paren (vText dg y :: l.map (vText dg))) := by
  obtain ⟨k, v, s, l⟩ := x
  have nil_of : (l.length == 0) = true → l = [] := fun h => by cases l with | nil => rfl | cons x l => simp at h
  by_cases k0 : k = 0
  · subst k0
    rw [vRight_k0, Bool.and_eq_true] at h
    rw [eb_data h.1, nil_of h.2]
    exact .inl ⟨v, rfl, rfl⟩
  by_cases k1 : k = 1
  · subst k1
    rw [vRight_k1, Bool.and_eq_true, Bool.and_eq_true, Bool.or_eq_true] at h
    rw [eb_data h.1.2, nil_of h.2]
    rcases h.1.1 with h | h
    · have : v = 0 := by simpa using h
      subst this
      exact .inr (.inl ⟨rfl, rfl⟩)
    · have : v = 1 := by simpa using h
      subst this
      exact .inr (.inr (.inl ⟨rfl, rfl⟩))
  by_cases k2 : k = 2
  · subst k2
    rw [vRight_k2, Bool.and_eq_true, Bool.and_eq_true] at h
    have : v = 0 := by simpa using h.1.1
    subst this
    rw [nil_of h.2]
    exact .inr (.inr (.inr (.inl ⟨s, rfl, h.1.2, rfl⟩)))
  by_cases k3 : k = 3
  · subst k3
    by_cases hh : v = 0 ∧ eb s = true ∧ 1 ≤ l.length ∧ l.length ≤ 4
    · obtain ⟨rfl, hsb, l1, l4⟩ := hh
      cases n with
      | zero => rw [vRight_zero] at h; cases h
      | succ n =>
        rw [vRight_succ hsb l1 l4, List.all_eq_true] at h
        rw [eb_data hsb]
        cases l with
        | nil => simp at l1
        | cons y l => exact .inr (.inr (.inr (.inr ⟨n, y, l, rfl, rfl, h, by rw [vText, vTextL_map]; rfl⟩)))
    · rw [vRight_no hh] at h; cases h
  · rw [vRight_other k0 k1 k2 k3] at h; cases h
def txB (x : Vlu) : List UInt8 := (vText dg x).data.toList
theorem leaf_no {A B r1 r2 : List UInt8} (hA : leafB A) (h : A ++ r1 = 40 :: B ++ r2) : False := by
  obtain ⟨-, h2, h3⟩ := hA
  cases A with
  | nil => exact h3 rfl
  | cons a A =>
    simp only [List.cons_append, List.cons.injEq] at h
    exact h2 (by rw [h.1]; rfl)
theorem tails_inj {n : Nat} (ih : ∀ x y : Vlu, vRight n x = true → vRight n y = true → ∀ r1 r2, EndOk r1 → EndOk r2 → txB x ++ r1 = txB y ++ r2 → x = y ∧ r1 = r2) : ∀ (l l' : List Vlu) (r1 r2 : List UInt8), (∀ z ∈ l, vRight n z = true) → (∀ z ∈ l', vRight n z = true) →
    tailB (l.map txB) ++ r1 = tailB (l'.map txB) ++ r2 → l = l' ∧ r1 = r2
  | [], [], r1, r2, _, _, h => by simp [tailB] at h; exact ⟨rfl, h⟩
  | [], _ :: _, r1, r2, _, _, h => by simp [tailB] at h
  | _ :: _, [], r1, r2, _, _, h => by simp [tailB] at h
  | x :: l, y :: l', r1, r2, h1, h2, h => by
    simp only [List.map_cons, tailB, List.cons_append, List.append_assoc, List.cons.injEq, true_and] at h
    obtain ⟨e1, e2⟩ := ih x y (h1 x (by simp)) (h2 y (by simp)) _ _ (tail_end _ _) (tail_end _ _) h
    obtain ⟨e3, e4⟩ := tails_inj ih l l' r1 r2 (fun z hz => h1 z (by simp [hz])) (fun z hz => h2 z (by simp [hz])) e2
    exact ⟨by rw [e1, e3], e4⟩
/-- A right value that is no tuple. -/
def LeafV (x : Vlu) : Prop := (∃ v, x = .mk 0 v ⟨#[]⟩ []) ∨ x = .mk 1 0 ⟨#[]⟩ [] ∨ x = .mk 1 1 ⟨#[]⟩ [] ∨ ∃ s, x = .mk 2 0 s [] ∧ nameB s.data.toList = true
theorem tx_int (v : Int) : txB (.mk 0 v ⟨#[]⟩ []) = (dg v).data.toList := rfl
theorem tx_f : txB (.mk 1 0 ⟨#[]⟩ []) = [102, 97, 108, 115, 101] := rfl
theorem tx_t : txB (.mk 1 1 ⟨#[]⟩ []) = [116, 114, 117, 101] := rfl
theorem tx_s (s : ByteArray) : txB (.mk 2 0 s []) = 39 :: s.data.toList := by
  show ((⟨#[39]⟩ : ByteArray) ++ s).data.toList = _
  rw [ByteArray.data_append, Array.toList_append]; rfl
theorem leaf_tx {x : Vlu} (h : LeafV x) : leafB (txB x) := by
  rcases h with ⟨v, rfl⟩ | rfl | rfl | ⟨s, rfl, hs⟩
  · exact leaf_dg v
  · rw [tx_f]; exact ⟨by decide, by simp, by simp⟩
  · rw [tx_t]; exact ⟨by decide, by simp, by simp⟩
  · rw [tx_s]; exact leaf_sym hs
theorem dg_no {v : Int} {c : UInt8} {l : List UInt8} (h : (dg v).data.toList = c :: l) (hc : c.toNat < 45 ∨ 57 < c.toNat) : False := by
  have := dg_char v c (by rw [h]; simp)
  omega
theorem leaf_inj {x y : Vlu} (hx : LeafV x) (hy : LeafV y) (h : txB x = txB y) : x = y := by
  rcases hx with ⟨v, rfl⟩ | rfl | rfl | ⟨s, rfl, hs⟩ <;> rcases hy with ⟨v', rfl⟩ | rfl | rfl | ⟨s', rfl, hs'⟩ <;> simp only [tx_int, tx_f, tx_t, tx_s] at h
  · rw [dg_inj h]
  · exact (dg_no h (by decide)).elim
  · exact (dg_no h (by decide)).elim
  · exact (dg_no h (by decide)).elim
  · exact (dg_no h.symm (by decide)).elim
  · rfl
  · simp at h
  · simp at h
  · exact (dg_no h.symm (by decide)).elim
  · simp at h
  · rfl
  · simp at h
  · exact (dg_no h.symm (by decide)).elim
  · simp at h
  · simp at h
  · simp only [List.cons.injEq, true_and] at h
    rw [ba_eq h]
theorem right_two {n : Nat} {x : Vlu} (h : vRight n x = true) : LeafV x ∨ ∃ m y l, n = m + 1 ∧ x = .mk 3 0 ⟨#[]⟩ (y :: l) ∧ (∀ z ∈ y :: l, vRight m z = true) ∧ txB x = 40 :: itemsB (txB y) (l.map txB) := by
  rcases right_cases h with ⟨v, e, -⟩ | ⟨e, -⟩ | ⟨e, -⟩ | ⟨s, e, hs, -⟩ | ⟨m, y, l, e1, e2, h3, e4⟩
  · exact .inl (.inl ⟨v, e⟩)
  · exact .inl (.inr (.inl e))
  · exact .inl (.inr (.inr (.inl e)))
  · exact .inl (.inr (.inr (.inr ⟨s, e, hs⟩)))
  · refine .inr ⟨m, y, l, e1, e2, h3, ?_⟩
    unfold txB
    rw [e4, paren_bytes, List.map_map]; rfl
theorem text_inj : ∀ (n : Nat) (x y : Vlu), vRight n x = true → vRight n y = true → ∀ r1 r2, EndOk r1 → EndOk r2 → txB x ++ r1 = txB y ++ r2 → x = y ∧ r1 = r2 := by
  intro n
  induction n with
  | zero =>
    intro x y hx hy r1 r2 q1 q2 h
    rcases right_two hx with lx | ⟨m, _, _, e, -⟩
    · rcases right_two hy with ly | ⟨m, _, _, e, -⟩
      · obtain ⟨h1, h2⟩ := run_split _ _ _ _ (leaf_tx lx).1 (leaf_tx ly).1 q1 q2 h
        exact ⟨leaf_inj lx ly h1, h2⟩
      · omega
    · omega
  | succ n ih =>
    intro x y hx hy r1 r2 q1 q2 h
    rcases right_two hx with lx | ⟨m, x0, l, e, rfl, hl, ex⟩
    · rcases right_two hy with ly | ⟨m, y0, l', e, rfl, hl', ey⟩
      · obtain ⟨h1, h2⟩ := run_split _ _ _ _ (leaf_tx lx).1 (leaf_tx ly).1 q1 q2 h
        exact ⟨leaf_inj lx ly h1, h2⟩
      · rw [ey] at h
        exact (leaf_no (leaf_tx lx) h).elim
    · obtain rfl : n = m := by omega
      rcases right_two hy with ly | ⟨m, y0, l', e', rfl, hl', ey⟩
      · rw [ex] at h
        exact (leaf_no (leaf_tx ly) h.symm).elim
      · obtain rfl : n = m := by omega
        rw [ex, ey] at h
        simp only [List.cons_append, List.cons.injEq, true_and, itemsB, List.append_assoc] at h
        have en : ∀ (l : List Vlu) (r : List UInt8), EndOk ((if l.map txB = [] then [44, 41] else tailB (l.map txB)) ++ r) := fun l r => by
          split
          · exact end_pair r
          · exact tail_end _ _
        obtain ⟨e1, e2⟩ := ih x0 y0 (hl x0 (by simp)) (hl' y0 (by simp)) _ _ (en l r1) (en l' r2) h
        cases l with
        | nil =>
          cases l' with
          | nil => simp at e2; exact ⟨by rw [e1], e2⟩
          | cons z l' => simp [tailB] at e2
        | cons z l =>
          cases l' with
          | nil => simp [tailB] at e2
          | cons z' l' =>
            rw [if_neg (by simp), if_neg (by simp)] at e2
            obtain ⟨e3, e4⟩ := tails_inj ih (z :: l) (z' :: l') r1 r2 (fun w hw => hl w (by simp [hw])) (fun w hw => hl' w (by simp [hw])) e2
            exact ⟨by rw [e1, e3], e4⟩
/-- The same text just if the same. -/
theorem text_same {n : Nat} {x y : Vlu} (hx : vRight n x = true) (hy : vRight n y = true) : ((vText dg x).toList == (vText dg y).toList) = sameV x y := by
  rw [Bool.eq_iff_iff, toList_data, toList_data]
  constructor
  · intro h
    have h : txB x = txB y := eq_of_beq h
    have := (text_inj n x y hx hy [] [] (by intro c hc; simp at hc) (by intro c hc; simp at hc) (by rw [h])).1
    rw [this, sameV_refl]
  · intro h
    rw [sameV_eq x y h]; exact beq_self_eq_true _
end Go.Proofs.Ytandclggkgmpgaa
