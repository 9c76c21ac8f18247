/- Plain arithmetic: numbers as rows of digits of base 10000, the lowest first. No program in sight. -/
import Derived.Test.YtjheegdkngkhaaaLib
set_option linter.unusedVariables false
set_option linter.unusedSimpArgs false
set_option linter.unusedSectionVars false
namespace Go.Proofs.Ytjheegdkngkhaaa

/-- The digits of a number, none above the highest that isn't 0. -/
def dg (n : Nat) : List Int := if h : n = 0 then [] else ((n % 10000 : Nat) : Int) :: dg (n / 10000)
  termination_by n
  decreasing_by omega
theorem dg_zero : dg 0 = [] := by unfold dg; simp
theorem dg_pos {n : Nat} (h : 0 < n) : dg n = ((n % 10000 : Nat) : Int) :: dg (n / 10000) := by
  rw [dg]; simp [show n ≠ 0 by omega]
/-- What a row of digits is. -/
def val : List Int → Int
  | [] => 0
  | d :: l => d + 10000 * val l
/-- Digits. -/
def Dig (l : List Int) : Prop := ∀ d ∈ l, 0 ≤ d ∧ d < 10000
theorem Dig.nil : Dig [] := fun d h => by cases h
theorem Dig.cons {d : Int} {l : List Int} (h : 0 ≤ d ∧ d < 10000) (k : Dig l) : Dig (d :: l) := fun x hx => by
  rcases List.mem_cons.1 hx with rfl | hx
  · exact h
  · exact k x hx
theorem Dig.tail {d : Int} {l : List Int} (h : Dig (d :: l)) : Dig l := fun x hx => h x (List.mem_cons_of_mem _ hx)
theorem Dig.head {d : Int} {l : List Int} (h : Dig (d :: l)) : 0 ≤ d ∧ d < 10000 := h d (List.mem_cons_self ..)
theorem Dig.append {l m : List Int} (h : Dig l) (k : Dig m) : Dig (l ++ m) := fun x hx => by
  rcases List.mem_append.1 hx with hx | hx
  · exact h x hx
  · exact k x hx
theorem Dig.getD {l : List Int} (h : Dig l) (i : Nat) : 0 ≤ l.getD i 0 ∧ l.getD i 0 < 10000 := by
  by_cases hi : i < l.length
  · simp only [List.getD, List.getElem?_eq_getElem hi, Option.getD_some]; exact h _ (List.getElem_mem hi)
  · simp [List.getD, List.getElem?_eq_none (Nat.le_of_not_lt hi)]
theorem val_nonneg : ∀ {l : List Int}, Dig l → 0 ≤ val l
  | [], _ => by simp [val]
  | d :: l, h => by have := val_nonneg h.tail; have := h.head; simp only [val]; omega
theorem dig_dg (n : Nat) : Dig (dg n) := by
  induction n using Nat.strongRecOn with
  | _ n ih =>
    by_cases h : n = 0
    · subst h; rw [dg_zero]; exact Dig.nil
    · rw [dg_pos (by omega)]; exact Dig.cons (by omega) (ih _ (by omega))
theorem val_dg (n : Nat) : val (dg n) = n := by
  induction n using Nat.strongRecOn with
  | _ n ih =>
    by_cases h : n = 0
    · subst h; rw [dg_zero]; rfl
    · rw [dg_pos (by omega), val, ih _ (by omega)]; omega
theorem val_append (l m : List Int) : val (l ++ m) = val l + 10000 ^ l.length * val m := by
  induction l with
  | nil => simp [val]
  | cons d l ih => simp only [List.cons_append, val, ih, List.length_cons, Int.pow_succ]; rw [Int.mul_add]; rw [← Int.mul_assoc, Int.mul_comm 10000 (10000 ^ l.length)]; omega
theorem val_lt : ∀ {l : List Int}, Dig l → val l < 10000 ^ l.length
  | [], _ => by simp [val]
  | d :: l, h => by
    have := val_lt h.tail; have := h.head; simp only [val, List.length_cons, Int.pow_succ]
    generalize (10000 : Int) ^ l.length = x at *
    omega
/-- Without noughts on top. -/
def Canon (l : List Int) : Prop := ∀ m d, l = m ++ [d] → d ≠ 0
theorem canon_dg (n : Nat) : Canon (dg n) := by
  induction n using Nat.strongRecOn with
  | _ n ih =>
    by_cases h : n = 0
    · subst h; rw [dg_zero]; intro m d hm; simp at hm
    · rw [dg_pos (by omega)]
      intro m d hm
      by_cases h2 : n / 10000 = 0
      · rw [h2, dg_zero] at hm
        cases m with
        | nil => simp at hm; omega
        | cons x m => simp at hm
      · cases m with
        | nil => simp at hm; have := hm.2; rw [dg_pos (by omega)] at this; cases this
        | cons x m => simp only [List.cons_append, List.cons.injEq] at hm; exact ih _ (by omega) m d hm.2
theorem Canon.tail {d : Int} {l : List Int} (h : Canon (d :: l)) : Canon l := fun m x hm => h (d :: m) x (by rw [hm]; rfl)
theorem canon_val_pos : ∀ {l : List Int}, Dig l → Canon l → l ≠ [] → 0 < val l
  | [], _, _, h => absurd rfl h
  | [d], hd, hc, _ => by have := hc [] d rfl; have := hd.head; simp [val]; omega
  | d :: e :: l, hd, hc, _ => by have := canon_val_pos hd.tail hc.tail (by simp); have := hd.head; simp only [val] at *; omega
theorem dg_val : ∀ {l : List Int}, Dig l → Canon l → dg (val l).toNat = l
  | [], _, _ => by simp [val, dg_zero]
  | d :: l, hd, hc => by
    have h1 := canon_val_pos hd hc (by simp)
    have h2 := val_nonneg hd.tail
    have h3 := hd.head
    rw [dg_pos (by omega)]
    have e : (val (d :: l)).toNat / 10000 = (val l).toNat := by simp only [val] at *; omega
    rw [e, dg_val hd.tail hc.tail]
    congr 1
    simp only [val] at *; omega
theorem dg_len {n k : Nat} (h : n < 10000 ^ k) : (dg n).length ≤ k := by
  induction k generalizing n with
  | zero => obtain rfl : n = 0 := by simpa using h
            simp [dg_zero]
  | succ k ih =>
    by_cases h0 : n = 0
    · subst h0; simp [dg_zero]
    · rw [dg_pos (by omega), List.length_cons]
      have : n / 10000 < 10000 ^ k := by rw [Nat.div_lt_iff_lt_mul (by omega)]; rw [Nat.pow_succ] at h; exact h
      have := ih this
      omega
theorem len_dg_mono {a b : Nat} (h : a ≤ b) : (dg a).length ≤ (dg b).length := by
  induction b using Nat.strongRecOn generalizing a with
  | _ b ih =>
    by_cases h0 : a = 0
    · subst h0; simp [dg_zero]
    · rw [dg_pos (by omega), dg_pos (n := b) (by omega), List.length_cons, List.length_cons]
      have := ih (b / 10000) (by omega) (a := a / 10000) (by omega)
      omega
/-- How two numbers stand. -/
def icmp (x y : Int) : Int := if x < y then -1 else if x = y then 0 else 1
/-- Two rows held against each other from the k-th down. -/
def cmpDown (f g : Nat → Int) : Nat → Int
  | 0 => 0
  | k + 1 => if f k < g k then -1 else if g k < f k then 1 else cmpDown f g k
theorem cmpDown_congr {f g f' g' : Nat → Int} : ∀ (n : Nat), (∀ i, i < n → f i = f' i ∧ g i = g' i) → cmpDown f g n = cmpDown f' g' n
  | 0, _ => rfl
  | n + 1, h => by simp only [cmpDown, (h n (by omega)).1, (h n (by omega)).2, cmpDown_congr n fun i hi => h i (by omega)]
theorem getD_append_left {l : List Int} {m : List Int} {i : Nat} (h : i < l.length) : (l ++ m).getD i 0 = l.getD i 0 := by
  simp [List.getD, List.getElem?_append_left h]
theorem getD_append_len (l : List Int) (d : Int) : (l ++ [d]).getD l.length 0 = d := by simp [List.getD]
theorem cmpDown_lists : ∀ (n : Nat) (l m : List Int), l.length = n → m.length = n → Dig l → Dig m → cmpDown (l.getD · 0) (m.getD · 0) n = icmp (val l) (val m)
  | 0, l, m, hl, hm, _, _ => by
    obtain rfl := List.eq_nil_of_length_eq_zero hl
    obtain rfl := List.eq_nil_of_length_eq_zero hm
    simp [cmpDown, icmp]
  | n + 1, l, m, hl, hm, dl, dm => by
    obtain ⟨l, x, rfl⟩ : ∃ l' x, l = l' ++ [x] := ⟨l.dropLast, l.getLast (by intro h; simp [h] at hl), (List.dropLast_concat_getLast _).symm⟩
    obtain ⟨m, y, rfl⟩ : ∃ l' x, m = l' ++ [x] := ⟨m.dropLast, m.getLast (by intro h; simp [h] at hm), (List.dropLast_concat_getLast _).symm⟩
    have hl' : l.length = n := by simpa using hl
    have hm' : m.length = n := by simpa using hm
    have dl' : Dig l := fun z hz => dl z (List.mem_append_left _ hz)
    have dm' : Dig m := fun z hz => dm z (List.mem_append_left _ hz)
    have ih := cmpDown_lists n l m hl' hm' dl' dm'
    have e1 : (l ++ [x]).getD n 0 = x := by rw [← hl']; exact getD_append_len l x
    have e2 : (m ++ [y]).getD n 0 = y := by rw [← hm']; exact getD_append_len m y
    simp only [cmpDown, e1, e2]
    rw [cmpDown_congr (f' := (l.getD · 0)) (g' := (m.getD · 0)) n fun i hi => ⟨getD_append_left (by omega), getD_append_left (by omega)⟩, ih]
    rw [val_append, val_append, hl', hm']
    have h1 := val_lt dl'; have h2 := val_lt dm'; have h3 := val_nonneg dl'; have h4 := val_nonneg dm'
    rw [hl'] at h1; rw [hm'] at h2
    simp only [val, Int.mul_zero, Int.add_zero]
    generalize val l = a at *; generalize val m = b at *
    have hX : (0 : Int) < 10000 ^ n := Int.pow_pos (by decide)
    generalize (10000 : Int) ^ n = X at *
    unfold icmp
    by_cases c1 : x < y
    · have : X * x + X ≤ X * y := by have := Int.mul_le_mul_of_nonneg_left (show x + 1 ≤ y by omega) (Int.le_of_lt hX); rw [Int.mul_add] at this; omega
      rw [if_pos c1, if_pos (by omega)]
    · rw [if_neg c1]
      by_cases c2 : y < x
      · have : X * y + X ≤ X * x := by have := Int.mul_le_mul_of_nonneg_left (show y + 1 ≤ x by omega) (Int.le_of_lt hX); rw [Int.mul_add] at this; omega
        rw [if_pos c2, if_neg (by omega), if_neg (by omega)]
      · obtain rfl : x = y := by omega
        rw [if_neg c2]
        have e : a + X * x < b + X * x ↔ a < b := by omega
        have e' : a + X * x = b + X * x ↔ a = b := by omega
        simp only [e, e']
theorem cmp_dg_len {a b : Nat} (h : (dg a).length = (dg b).length) : cmpDown ((dg a).getD · 0) ((dg b).getD · 0) (dg a).length = icmp a b := by
  rw [cmpDown_lists _ _ _ rfl h.symm (dig_dg a) (dig_dg b), val_dg, val_dg]
theorem cmp_dg_lt {a b : Nat} (h : (dg a).length < (dg b).length) : icmp a b = -1 := by
  have : ¬ b ≤ a := fun hb => by have := len_dg_mono hb; omega
  unfold icmp; rw [if_pos (by omega)]
theorem cmp_dg_gt {a b : Nat} (h : (dg b).length < (dg a).length) : icmp a b = 1 := by
  have : ¬ a ≤ b := fun hb => by have := len_dg_mono hb; omega
  unfold icmp; rw [if_neg (by omega), if_neg (by omega)]

theorem val_drop {l : List Int} {k : Nat} (h : k < l.length) : val (l.drop k) = l.getD k 0 + 10000 * val (l.drop (k + 1)) := by
  rw [List.drop_eq_getElem_cons h, val]
  simp [List.getD, List.getElem?_eq_getElem h]
theorem val_drop_le {l : List Int} (k : Nat) (h : Dig l) : val (l.drop k) ≤ val l := by
  have e : val l = val (l.take k) + 10000 ^ (l.take k).length * val (l.drop k) := by rw [← val_append, List.take_append_drop]
  have h1 : 0 ≤ val (l.take k) := val_nonneg fun d hd => h d (List.mem_of_mem_take hd)
  have h2 : 0 ≤ val (l.drop k) := val_nonneg fun d hd => h d (List.mem_of_mem_drop hd)
  have h3 : (1 : Int) ≤ 10000 ^ (l.take k).length := Int.pow_pos (by decide)
  have := Int.mul_le_mul_of_nonneg_right h3 h2
  omega
theorem take_snoc {l : List Int} {k : Nat} (h : k < l.length) : l.take (k + 1) = l.take k ++ [l.getD k 0] := by
  rw [List.take_succ_eq_append_getElem h]; simp [List.getD, List.getElem?_eq_getElem h]
theorem val_take {l : List Int} {k : Nat} (h : k < l.length) : val (l.take (k + 1)) = val (l.take k) + 10000 ^ k * l.getD k 0 := by
  rw [take_snoc h, val_append]; simp [val, Nat.min_eq_left (Nat.le_of_lt h)]
theorem canon_take {l : List Int} {k : Nat} (h : k < l.length) (hne : l.getD k 0 ≠ 0) : Canon (l.take (k + 1)) := fun m d hm => by
  rw [take_snoc h] at hm
  have := List.append_inj_right' hm rfl
  simp at this; rw [← this]; simpa [List.getD] using hne
theorem Dig.take {l : List Int} (h : Dig l) (k : Nat) : Dig (l.take k) := fun d hd => h d (List.mem_of_mem_take hd)
theorem getD_out {l : List Int} {k : Nat} (h : l.length ≤ k) : l.getD k 0 = 0 := by simp [List.getD, List.getElem?_eq_none h]
theorem val_take' (l : List Int) (k : Nat) : val (l.take (k + 1)) = val (l.take k) + 10000 ^ k * l.getD k 0 := by
  by_cases h : k < l.length
  · exact val_take h
  · rw [getD_out (by omega), List.take_of_length_le (by omega), List.take_of_length_le (by omega)]; simp
/-- What has been taken away after k digits. -/
structure SubAt (la lb ds : List Int) (k : Nat) (br : Int) : Prop where
  len : ds.length = k
  dig : Dig ds
  br01 : br = 0 ∨ br = 1
  vl : val ds - 10000 ^ k * br = val (la.take k) - val (lb.take k)
theorem SubAt.start (la lb : List Int) : SubAt la lb [] 0 0 := ⟨rfl, Dig.nil, .inl rfl, by simp [val]⟩
theorem SubAt.step {la lb ds : List Int} {k : Nat} {br d br' : Int} (h : SubAt la lb ds k br) (hd : 0 ≤ d ∧ d < 10000) (hb : br' = 0 ∨ br' = 1) (e : d - 10000 * br' = la.getD k 0 - br - lb.getD k 0) : SubAt la lb (ds ++ [d]) (k + 1) br' := by
  refine ⟨by simp [h.len], h.dig.append (Dig.cons hd Dig.nil), hb, ?_⟩
  rw [val_append, h.len, val_take', val_take', Int.pow_succ]
  have h0 := h.vl
  have e2 : (10000 : Int) ^ k * d - 10000 ^ k * 10000 * br' = 10000 ^ k * la.getD k 0 - 10000 ^ k * br - 10000 ^ k * lb.getD k 0 := by
    rw [← Int.mul_sub, ← Int.mul_sub, ← e, Int.mul_sub, Int.mul_assoc]
  simp only [val, Int.mul_zero, Int.add_zero]
  omega
theorem SubAt.done {a b : Nat} {ds : List Int} {br : Int} (h : SubAt (dg a) (dg b) ds (dg a).length br) (hab : b ≤ a) : val ds = ((a - b : Nat) : Int) := by
  have h0 := h.vl
  rw [List.take_of_length_le (Nat.le_refl _), List.take_of_length_le (len_dg_mono hab), val_dg, val_dg] at h0
  have h1 := val_lt h.dig
  rw [h.len] at h1
  rcases h.br01 with rfl | rfl
  · omega
  · omega
theorem val_set : ∀ (l : List Int) (j : Nat) (x : Int), j < l.length → val (l.set j x) = val l + (x - l.getD j 0) * 10000 ^ j
  | [], j, x, h => by simp at h
  | d :: l, 0, x, _ => by simp [val]; omega
  | d :: l, j + 1, x, h => by
    have ih := val_set l j x (by simpa using h)
    simp only [List.set_cons_succ, val, ih]
    have : (d :: l).getD (j + 1) 0 = l.getD j 0 := by simp [List.getD]
    rw [this, Int.pow_succ, Int.mul_add, ← Int.mul_assoc (x - l.getD j 0), Int.mul_comm ((x - l.getD j 0) * 10000 ^ j) 10000]; omega
theorem Dig.set {l : List Int} (h : Dig l) (j : Nat) {x : Int} (hx : 0 ≤ x ∧ x < 10000) : Dig (l.set j x) := fun d hd => by
  rcases List.mem_or_eq_of_mem_set hd with h1 | rfl
  · exact h d h1
  · exact hx
theorem val_replicate (n : Nat) : val (List.replicate n 0) = 0 := by
  induction n with
  | zero => rfl
  | succ n ih => simp [List.replicate_succ, val, ih]
/-- The product of the first i digits, in its place. -/
structure MulAt (la lb : List Int) (i : Nat) (out : List Int) : Prop where
  len : out.length = la.length + lb.length + 1
  dig : Dig out
  vl : val out = val (la.take i) * val lb
/-- The same, and k digits of one line more. -/
structure InAt (la lb : List Int) (i k : Nat) (carry : Int) (out : List Int) : Prop where
  len : out.length = la.length + lb.length + 1
  dig : Dig out
  c0 : 0 ≤ carry
  c1 : carry < 10000
  vl : val out + carry * 10000 ^ (i + k) = val (la.take i) * val lb + la.getD i 0 * val (lb.take k) * 10000 ^ i
theorem MulAt.start (la lb : List Int) : MulAt la lb 0 (List.replicate (la.length + lb.length + 1) 0) :=
  ⟨by simp, fun d hd => by have := List.eq_of_mem_replicate hd; omega, by rw [val_replicate]; simp [val]⟩
theorem MulAt.into {la lb : List Int} {i : Nat} {out : List Int} (h : MulAt la lb i out) : InAt la lb i 0 0 out :=
  ⟨h.len, h.dig, by omega, by omega, by have := h.vl; simp [val]; omega⟩
theorem InAt.room {la lb : List Int} {i k : Nat} {carry : Int} {out : List Int} (h : InAt la lb i k carry out) (da : Dig la) (db : Dig lb) (hi : i < la.length) (hk : k < lb.length ∨ 0 < carry) : k ≤ lb.length ∧ i + k < out.length := by
  have hle : k ≤ lb.length := by
    rcases hk with hk | hk
    · omega
    · refine Nat.le_of_not_lt fun hgt => ?_
      have h0 := h.vl
      have h1 := val_nonneg h.dig
      have h2 := val_lt (da.take i)
      have h3 := val_lt db
      have h4 := val_nonneg db
      have h5 := val_nonneg (da.take i)
      rw [List.take_of_length_le (show lb.length ≤ k by omega)] at h0
      have h6 := val_take (l := la) (k := i) hi
      have h7 := val_lt (da.take (i + 1))
      have e1 : (la.take i).length = i := by simp; omega
      have e2 : (la.take (i + 1)).length = i + 1 := by simp; omega
      rw [e2] at h7
      have h8 := val_nonneg (da.take (i + 1))
      have h9 : val out + carry * 10000 ^ (i + k) = val (la.take (i + 1)) * val lb := by
        rw [h0, h6, Int.add_mul]
        congr 1
        rw [Int.mul_comm (10000 ^ i), Int.mul_assoc, Int.mul_assoc, Int.mul_comm (10000 ^ i)]
      have h10 : val (la.take (i + 1)) * val lb < 10000 ^ (i + 1) * 10000 ^ lb.length := by
        refine Int.lt_of_le_of_lt (Int.mul_le_mul_of_nonneg_right (Int.le_of_lt h7) h4) ?_
        exact Int.mul_lt_mul_of_pos_left h3 (Int.pow_pos (by decide))
      have h11 : (10000 : Int) ^ (i + 1) * 10000 ^ lb.length ≤ 10000 ^ (i + k) := by
        rw [← Int.pow_add]
        have : i + k = i + 1 + lb.length + (k - 1 - lb.length) := by omega
        rw [this, Int.pow_add _ (i + 1 + lb.length)]
        have := Int.mul_le_mul_of_nonneg_left (show (1 : Int) ≤ 10000 ^ (k - 1 - lb.length) from Int.pow_pos (by decide)) (show (0 : Int) ≤ 10000 ^ (i + 1 + lb.length) from Int.le_of_lt (Int.pow_pos (by decide)))
        omega
      have h12 := Int.mul_le_mul_of_nonneg_right (show (1 : Int) ≤ carry by omega) (show (0 : Int) ≤ 10000 ^ (i + k) from Int.le_of_lt (Int.pow_pos (by decide)))
      omega
  exact ⟨hle, by rw [h.len]; omega⟩
theorem InAt.step {la lb : List Int} {i k : Nat} {carry d x c' : Int} {out : List Int} (h : InAt la lb i k carry out) (hr : i + k < out.length) (hd : d = out.getD (i + k) 0 + carry + la.getD i 0 * lb.getD k 0)
    (hx : 0 ≤ x ∧ x < 10000) (hc : 0 ≤ c' ∧ c' < 10000) (e : d = x + 10000 * c') : InAt la lb i (k + 1) c' (out.set (i + k) x) := by
  refine ⟨by simp [h.len], h.dig.set _ hx, hc.1, hc.2, ?_⟩
  rw [val_set _ _ _ hr, val_take']
  have h0 := h.vl
  have e3 : x - out.getD (i + k) 0 = carry + la.getD i 0 * lb.getD k 0 - 10000 * c' := by omega
  rw [e3]
  have e4 : c' * 10000 ^ (i + (k + 1)) = 10000 * c' * 10000 ^ (i + k) := by rw [← Nat.add_assoc, Int.pow_succ]; rw [← Int.mul_assoc, Int.mul_comm (c' * 10000 ^ (i + k)), ← Int.mul_assoc]
  rw [e4]
  have e5 : la.getD i 0 * (val (lb.take k) + 10000 ^ k * lb.getD k 0) * 10000 ^ i = la.getD i 0 * val (lb.take k) * 10000 ^ i + la.getD i 0 * lb.getD k 0 * 10000 ^ (i + k) := by
    rw [Int.mul_add, Int.add_mul, Int.pow_add]
    congr 1
    simp only [Int.mul_assoc, Int.mul_comm, Int.mul_left_comm]
  rw [e5, Int.sub_mul, Int.add_mul]
  omega
theorem InAt.out {la lb : List Int} {i k : Nat} {out : List Int} (h : InAt la lb i k 0 out) (hi : i < la.length) (hk : lb.length ≤ k) : MulAt la lb (i + 1) out := by
  refine ⟨h.len, h.dig, ?_⟩
  have h0 := h.vl
  rw [List.take_of_length_le hk] at h0
  rw [val_take hi, Int.add_mul]
  have : la.getD i 0 * val lb * 10000 ^ i = 10000 ^ i * la.getD i 0 * val lb := by simp only [Int.mul_assoc, Int.mul_comm, Int.mul_left_comm]
  omega
theorem MulAt.done {a b : Nat} {out : List Int} (h : MulAt (dg a) (dg b) (dg a).length out) : val out = ((a * b : Nat) : Int) := by
  rw [h.vl, List.take_of_length_le (Nat.le_refl _), val_dg, val_dg]; simp
/-- What has been divided down to the k-th digit. -/
structure DivAt (la : List Int) (b k : Nat) (q : List Int) (r : Nat) : Prop where
  len : q.length = la.length
  dig : Dig q
  lt : r < b
  vl : val (la.drop k) = val (q.drop k) * b + r
theorem DivAt.start (la : List Int) {b : Nat} (hb : 0 < b) : DivAt la b la.length (List.replicate la.length 0) 0 :=
  ⟨by simp, fun d hd => by have := List.eq_of_mem_replicate hd; omega, hb, by simp [val]⟩
theorem DivAt.step {la : List Int} {b k : Nat} {q : List Int} {r r1 : Nat} (h : DivAt la b (k + 1) q r) (hk : k < la.length) (da : Dig la) (e : r1 = (la.getD k 0).toNat + 10000 * r) :
    r1 / b < 10000 ∧ DivAt la b k (q.set k ((r1 / b : Nat) : Int)) (r1 % b) := by
  have h0 := da.getD k
  have hlt := h.lt
  have h1 : r1 < 10000 * b := by
    have : r + 1 ≤ b := hlt
    omega
  have hx : r1 / b < 10000 := by rw [Nat.div_lt_iff_lt_mul (by omega)]; exact h1
  refine ⟨hx, by simp [h.len], h.dig.set _ ⟨Int.natCast_nonneg _, Int.ofNat_lt.2 hx⟩, Nat.mod_lt _ (by omega), ?_⟩
  have hq : (q.set k ((r1 / b : Nat) : Int)).drop k = ((r1 / b : Nat) : Int) :: q.drop (k + 1) := by
    rw [List.drop_eq_getElem_cons (by simp [h.len]; omega), List.drop_set_of_lt (by omega)]
    simp
  rw [hq, val_drop hk]
  have h2 := h.vl
  have h3 := Nat.div_add_mod r1 b
  simp only [val]
  rw [h2, Int.add_mul]
  have h4 : ((r1 / b : Nat) : Int) * b + ((r1 % b : Nat) : Int) = r1 := by
    rw [← Int.natCast_mul, ← Int.natCast_add, Nat.mul_comm, h3]
  have h5 : (r1 : Int) = la.getD k 0 + 10000 * r := by omega
  rw [Int.mul_add, Int.mul_assoc]
  omega
theorem DivAt.done {a b : Nat} {q : List Int} {r : Nat} (h : DivAt (dg a) b 0 q r) : val q = ((a / b : Nat) : Int) ∧ r = a % b := by
  have h0 := h.vl
  have h1 := h.lt
  rw [List.drop_zero, List.drop_zero, val_dg] at h0
  obtain ⟨m, hm⟩ := Int.eq_ofNat_of_zero_le (val_nonneg h.dig)
  rw [hm] at h0 ⊢
  have h2 : a = m * b + r := by
    have : (a : Int) = ((m * b + r : Nat) : Int) := by rw [h0]; simp
    omega
  subst h2
  constructor
  · congr 1
    rw [Nat.mul_comm, Nat.mul_add_div (by omega), Nat.div_eq_of_lt h1]; rfl
  · rw [Nat.mul_comm, Nat.mul_add_mod, Nat.mod_eq_of_lt h1]
theorem canon_of_ge {l : List Int} (h : Dig l) (hv : 10000 ^ (l.length - 1) ≤ val l) : Canon l := fun m d hm => by
  subst hm
  intro hd
  subst hd
  have hm : Dig m := fun x hx => h x (List.mem_append_left _ hx)
  have h1 := val_lt hm
  rw [val_append] at hv
  simp [val] at hv
  omega
theorem dg_ge {n : Nat} (h : 0 < n) : (10000 : Int) ^ ((dg n).length - 1) ≤ n := by
  have hc := canon_dg n
  have hd := dig_dg n
  have hv := val_dg n
  have hl : dg n ≠ [] := by rw [dg_pos h]; simp
  obtain ⟨m, d, hm⟩ : ∃ m d, dg n = m ++ [d] := ⟨_, _, (List.dropLast_concat_getLast hl).symm⟩
  have h0 := hc m d hm
  have h1 := hd d (by rw [hm]; simp)
  have h2 : Dig m := fun x hx => hd x (by rw [hm]; exact List.mem_append_left _ hx)
  have h3 := val_nonneg h2
  rw [hm, val_append] at hv
  rw [hm]
  simp [val] at hv ⊢
  have h4 := Int.mul_le_mul_of_nonneg_left (show (1 : Int) ≤ d by omega) (show (0 : Int) ≤ 10000 ^ m.length from Int.le_of_lt (Int.pow_pos (by decide)))
  omega
/-- What has been added up to the k-th digit. -/
structure AddAt (la lb ds : List Int) (k : Nat) (c : Int) : Prop where
  len : ds.length = k
  dig : Dig ds
  c01 : c = 0 ∨ c = 1
  vl : val ds + 10000 ^ k * c = val (la.take k) + val (lb.take k)
  top : k ≤ max la.length lb.length ∨ k = max la.length lb.length + 1 ∧ c = 0 ∧ 10000 ^ (max la.length lb.length) ≤ val la + val lb
theorem AddAt.start (la lb : List Int) : AddAt la lb [] 0 0 := ⟨rfl, Dig.nil, .inl rfl, by simp [val], .inl (by omega)⟩
theorem AddAt.step {la lb ds : List Int} {k : Nat} {c d x c' : Int} (h : AddAt la lb ds k c) (hk : k < la.length ∨ k < lb.length ∨ 0 < c) (hx : 0 ≤ x ∧ x < 10000) (hd : d = c + la.getD k 0 + lb.getD k 0) (hc : 0 ≤ c') (e : d = x + 10000 * c') (da : Dig la) (db : Dig lb) :
    AddAt la lb (ds ++ [x]) (k + 1) c' := by
  have ha := da.getD k
  have hb := db.getD k
  have hc0 := h.c01
  have h0 := h.vl
  refine ⟨by simp [h.len], h.dig.append (Dig.cons hx Dig.nil), by omega, ?_, ?_⟩
  · rw [val_append, h.len, val_take', val_take', Int.pow_succ]
    have e2 : (10000 : Int) ^ k * x + 10000 ^ k * 10000 * c' = 10000 ^ k * c + 10000 ^ k * la.getD k 0 + 10000 ^ k * lb.getD k 0 := by
      rw [← Int.mul_add, ← Int.mul_add, ← hd, e, Int.mul_add, Int.mul_assoc]
    simp only [val, Int.mul_zero, Int.add_zero]
    omega
  · by_cases hm : k < max la.length lb.length
    · exact .inl (by omega)
    · have hkm : k = max la.length lb.length := by
        rcases h.top with ht | ⟨ht1, ht2, _⟩
        · omega
        · omega
      refine .inr ⟨by omega, ?_, ?_⟩
      · rw [getD_out (by omega), getD_out (by omega)] at hd; omega
      · have hc1 : c = 1 := by omega
        rw [List.take_of_length_le (by omega), List.take_of_length_le (by omega), hc1] at h0
        have := val_nonneg h.dig
        rw [← hkm]; omega
theorem AddAt.done {a b : Nat} {ds : List Int} {k : Nat} {c : Int} (h : AddAt (dg a) (dg b) ds k c) (hk1 : (dg a).length ≤ k) (hk2 : (dg b).length ≤ k) (hc : ¬ 0 < c) : ds = dg (a + b) := by
  have hc0 : c = 0 := by have := h.c01; omega
  subst hc0
  have h0 := h.vl
  rw [List.take_of_length_le hk1, List.take_of_length_le hk2, val_dg, val_dg] at h0
  simp at h0
  by_cases hz : a + b = 0
  · obtain rfl : a = 0 := by omega
    obtain rfl : b = 0 := by omega
    have ht := h.top
    have : ds.length = 0 := by
      rw [h.len]
      rcases ht with ht | ⟨_, _, ht⟩
      · simpa [dg_zero] using ht
      · simp [dg_zero, val] at ht
    rw [List.eq_nil_of_length_eq_zero this]; simp [dg_zero]
  · have hcn : Canon ds := by
      apply canon_of_ge h.dig
      rw [h.len, h0]
      rcases h.top with ht | ⟨ht1, _, ht⟩
      · have hkm : k = max (dg a).length (dg b).length := by omega
        by_cases hab : (dg a).length ≤ (dg b).length
        · have hb : 0 < b := by
            refine Nat.pos_of_ne_zero fun hb => ?_
            subst hb
            have ha : 0 < a := by omega
            rw [dg_pos ha] at hab; simp [dg_zero] at hab
          have := dg_ge hb
          rw [hkm, Nat.max_eq_right hab]; omega
        · have ha : 0 < a := by
            refine Nat.pos_of_ne_zero fun ha => ?_
            subst ha
            simp [dg_zero] at hab
          have := dg_ge ha
          rw [hkm, Nat.max_eq_left (by omega)]; omega
      · rw [val_dg, val_dg] at ht; rw [ht1]; simpa using ht
    have := dg_val h.dig hcn
    rw [h0] at this
    rw [← this]; congr 1
/-- v is a slice that reads as these numbers. -/
def IsI (w : World) (v : Value) (l : List Int) : Prop := ∃ p cap, v = .slice p l.length cap ∧ IsL w 1 p l.length cap (l.map (Value.int .i64))
/-- v is a slice that reads as the digits of a. -/
def IsN (w : World) (v : Value) (a : Nat) : Prop := IsI w v (dg a)
theorem IsI.mono {w w' : World} {v : Value} {l : List Int} (h : IsI w v l) (hx : Ex w w') : IsI w' v l := by
  obtain ⟨p, cap, rfl, h⟩ := h; exact ⟨p, cap, rfl, h.mono hx⟩
theorem IsN.mono {w w' : World} {v : Value} {a : Nat} (h : IsN w v a) (hx : Ex w w') : IsN w' v a := IsI.mono h hx
theorem IsL.int {w : World} {n cap : Nat} {p : Option Addr} {l : List Int} {k : IntKind} (h : IsL w 1 p n cap (l.map (Value.int k))) (i : Nat) (hi : i < n) : w.cell? (Ad p i) = some (.int k (l.getD i 0)) := by
  have hl := h.len
  have : i < l.length := by simp at hl; omega
  exact h.cell i _ (by simp [List.getD, List.getElem?_eq_getElem this])
theorem IsI.take {w : World} {p : Option Addr} {c k : Nat} {l : List Int} (h : IsL w 1 p l.length c (l.map (Value.int .i64))) (hk : k ≤ l.length) : IsI w (.slice p k c) (l.take k) := by
  have e : (l.take k).length = k := by simp [Nat.min_eq_left hk]
  refine ⟨p, c, by rw [e], ?_⟩
  rw [e]
  have := h.take hk
  simpa using this
theorem IsI.take' {w : World} {p : Option Addr} {n c k : Nat} {l : List Int} (h : IsI w (.slice p n c) l) (hk : k ≤ l.length) : IsI w (.slice p k c) (l.take k) := by
  obtain ⟨p', c', he, h1⟩ := h
  cases he
  exact IsI.take h1 hk
/-- Own digits are such a slice. -/
theorem IsI.of_owns {w : World} {base : Nat} {e : Nat} {v : Value} {l : List Int} (h : w.ownsRow base e 1 v l.length (l.map (Value.int .i64))) : IsI w v l := by
  obtain ⟨p, cap, hv, k⟩ := IsL.of_owns h
  exact ⟨p, cap, hv, k⟩
end Go.Proofs.Ytjheegdkngkhaaa
