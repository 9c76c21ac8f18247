/- Plain law of decimal texts: what is read of digits, and that a time's text is read as that time alone. No program in sight. -/
import Derived.Test.YtjheegdkngkhaaaSpanW4
set_option linter.unusedVariables false
set_option linter.unusedSimpArgs false
set_option linter.unusedSectionVars false
namespace Go.Proofs.Ytjheegdkngkhaaa
open Go.RowKit

def isD (c : UInt8) : Bool := decide (48 ≤ c.toNat) && decide (c.toNat ≤ 57)
/-- Digits from here on, behind a number. -/
def numL : List UInt8 → Nat → Option (Nat × List UInt8)
  | [], n => some (n, [])
  | c :: r, n => if isD c then (if 9223372036854775807 < 10 * n + (c.toNat - 48) then none else numL r (10 * n + (c.toNat - 48))) else some (n, c :: r)
/-- The number that digits are. -/
def pv (l : List UInt8) : Nat := l.foldl (fun a c => 10 * a + (c.toNat - 48)) 0
theorem pv_snoc (l : List UInt8) (c : UInt8) : pv (l ++ [c]) = 10 * pv l + (c.toNat - 48) := by simp [pv]
theorem digit_nat {n : Nat} (h : n < 10) : ((48 + n).toUInt8).toNat = 48 + n := by simp [Nat.toUInt8]; omega
theorem isD_digit {n : Nat} (h : n < 10) : isD (48 + n).toUInt8 = true := by simp only [isD, digit_nat h]; simp; omega
theorem digit_back {c : UInt8} (h : isD c = true) : (48 + (c.toNat - 48)).toUInt8 = c := by
  simp [isD] at h
  have : 48 + (c.toNat - 48) = c.toNat := by omega
  rw [this]; simp [Nat.toUInt8]
theorem num_dec {n : Nat} (h : n ≤ 9223372036854775807) (r : List UInt8) : numL (dec n ++ r) 0 = numL r n := by
  induction n using Nat.strongRecOn generalizing r with
  | _ n ih =>
    by_cases h0 : n < 10
    · rw [dec_lt h0]
      simp only [List.cons_append, List.nil_append, numL, isD_digit h0, if_true, digit_nat h0]
      rw [if_neg (by omega)]; congr 1; omega
    · rw [dec_ge (by omega), List.append_assoc, ih (n / 10) (by omega) (by omega)]
      have h1 : n % 10 < 10 := Nat.mod_lt _ (by decide)
      simp only [List.cons_append, List.nil_append, numL, isD_digit h1, if_true, digit_nat h1]
      rw [if_neg (by omega)]; congr 1; omega
theorem num_stop {r : List UInt8} (n : Nat) (h : ∀ c l, r = c :: l → isD c = false) : numL r n = some (n, r) := by
  cases r with
  | nil => rfl
  | cons c l => simp [numL, h c l rfl]
theorem dec_ne (n : Nat) : dec n ≠ [] := by rw [dec_step]; simp
theorem dec_digits (n : Nat) : ∀ c ∈ dec n, isD c = true := by
  induction n using Nat.strongRecOn with
  | _ n ih =>
    intro c hc
    by_cases h0 : n < 10
    · rw [dec_lt h0] at hc; rw [List.mem_singleton.1 hc]; exact isD_digit h0
    · rw [dec_ge (by omega)] at hc
      rcases List.mem_append.1 hc with hc | hc
      · exact ih _ (by omega) c hc
      · rw [List.mem_singleton.1 hc]; exact isD_digit (Nat.mod_lt _ (by decide))
theorem pv_dec (n : Nat) : pv (dec n) = n := by
  induction n using Nat.strongRecOn with
  | _ n ih =>
    by_cases h0 : n < 10
    · rw [dec_lt h0]; simp only [pv, List.foldl_cons, List.foldl_nil, digit_nat h0]; omega
    · rw [dec_ge (by omega), pv_snoc, ih _ (by omega), digit_nat (Nat.mod_lt _ (by decide))]; omega
theorem foldl_ge (l : List UInt8) : ∀ a : Nat, a ≤ l.foldl (fun a c => 10 * a + (c.toNat - 48)) a := by
  induction l with
  | nil => intro a; exact Nat.le_refl _
  | cons c l ih => intro a; rw [List.foldl_cons]; exact Nat.le_trans (show a ≤ 10 * a + (c.toNat - 48) by omega) (ih _)
theorem pv_take (l : List UInt8) (k : Nat) : pv (l.take k) ≤ pv l := by
  conv => rhs; rw [← List.take_append_drop k l]
  rw [pv, pv, List.foldl_append]
  exact foldl_ge _ _
/-- Digits without noughts ahead. -/
def Lead (l : List UInt8) : Prop := l.length ≤ 1 ∨ l.head? ≠ some 48
theorem pv_pos {l : List UInt8} (hd : ∀ c ∈ l, isD c = true) (hn : l ≠ []) (hl : l.head? ≠ some 48) : 0 < pv l := by
  cases l with
  | nil => exact absurd rfl hn
  | cons c l =>
    have h1 := hd c (List.mem_cons_self ..)
    simp [isD] at h1
    have h2 : c ≠ 48 := fun h => hl (by simp [h])
    have h3 : c.toNat ≠ 48 := fun h => h2 (UInt8.toNat_inj.1 (by simpa using h))
    have h4 := foldl_ge l (10 * 0 + (c.toNat - 48))
    simp only [pv, List.foldl_cons]
    omega
theorem dec_pv {l : List UInt8} (hd : ∀ c ∈ l, isD c = true) (hn : l ≠ []) (hl : Lead l) : dec (pv l) = l := by
  induction h : l.length using Nat.strongRecOn generalizing l with
  | _ k ih =>
    obtain ⟨m, c, rfl⟩ : ∃ m c, l = m ++ [c] := ⟨_, _, (List.dropLast_concat_getLast hn).symm⟩
    have hc := hd c (by simp)
    have hc' := hc
    simp [isD] at hc'
    rw [pv_snoc]
    cases m with
    | nil =>
      simp only [pv, List.foldl_nil, List.nil_append]
      rw [dec_lt (by omega)]
      have := digit_back hc
      rw [show 48 + (10 * 0 + (c.toNat - 48)) = 48 + (c.toNat - 48) by omega, this]
    | cons x m =>
      have hh : (x :: m).head? ≠ some 48 := by
        rcases hl with hl | hl
        · simp at hl
        · simpa using hl
      have hm : ∀ c ∈ x :: m, isD c = true := fun y hy => hd y (List.mem_append_left _ hy)
      have hp := pv_pos hm (by simp) hh
      rw [dec_ge (by omega)]
      have e1 : (10 * pv (x :: m) + (c.toNat - 48)) / 10 = pv (x :: m) := by omega
      have e2 : (10 * pv (x :: m) + (c.toNat - 48)) % 10 = c.toNat - 48 := by omega
      rw [e1, e2, digit_back hc, ih (x :: m).length (by rw [← h]; simp) hm (by simp) (.inr hh) rfl]
theorem dec_lead (n : Nat) : Lead (dec n) := by
  induction n using Nat.strongRecOn with
  | _ n ih =>
    by_cases h0 : n < 10
    · rw [dec_lt h0]; exact .inl (by simp)
    · right
      rw [dec_ge (by omega)]
      rcases ih (n / 10) (by omega) with h | h
      · have h1 : n / 10 < 10 := by
          refine Nat.lt_of_not_le fun hh => ?_
          rw [dec_ge hh] at h
          have := List.length_pos_iff.2 (dec_ne (n / 10 / 10))
          rw [List.length_append] at h; simp only [List.length_singleton] at h; omega
        rw [dec_lt h1]
        simp only [List.cons_append, List.head?_cons, ne_eq, Option.some.injEq]
        intro h2
        have := congrArg UInt8.toNat h2
        rw [digit_nat h1] at this
        simp at this
        omega
      · have := dec_ne (n / 10)
        cases hx : dec (n / 10) with
        | nil => exact absurd hx this
        | cons a b => rw [hx] at h; simpa using h
/-- What ref's Digits answers. -/
def DigIs (l : List UInt8) (n : Int) (ok : Bool) : Prop := (ok = true ∧ ∃ m : Nat, n = m ∧ m ≤ 9223372036854775807 ∧ l = dec m) ∨ (ok = false ∧ n = 0 ∧ ∀ m : Nat, m ≤ 9223372036854775807 → l ≠ dec m)

theorem isD_slash : isD 47 = false := by decide
theorem dec_no_slash (n : Nat) : ¬ (47 : UInt8) ∈ dec n := fun h => by have := dec_digits n 47 h; rw [isD_slash] at this; cases this
/-- A right time that has an end. -/
structure Fin (n d : Int) : Prop where
  n0 : 0 ≤ n
  n1 : n ≤ 9223372036854775807
  d0 : 0 < d
  d1 : d ≤ 9223372036854775807
  right : rightB n d = true
  notNever : teq n d 1 0 = false
theorem Fin.of {n d : Int} (hn : I64 n) (hd : I64 d) (h : rightB n d = true) (h2 : teq n d 1 0 = false) : Fin n d := by
  have h3 := h
  simp [rightB, h2] at h3
  exact ⟨h3.1.2, hn.2, h3.1.1, hd.2, h, h2⟩
theorem Fin.text {n d : Int} (h : Fin n d) : textT n d = if d = 1 then dec n.toNat else dec n.toNat ++ 47 :: dec d.toNat := by
  simp [textT, h.notNever, h.right]
/-- A time's text is read as it was. -/
theorem Fin.parse {n d : Int} (h : Fin n d) : (d = 1 ∧ numL (textT n d) 0 = some (n.toNat, [])) ∨ (d ≠ 1 ∧ numL (textT n d) 0 = some (n.toNat, 47 :: dec d.toNat) ∧ numL (dec d.toNat) 0 = some (d.toNat, [])) := by
  have h1 := h.n1; have h2 := h.d1; have h3 := h.n0; have h4 := h.d0
  rw [h.text]
  by_cases hd : d = 1
  · left
    rw [if_pos hd]
    have := num_dec (n := n.toNat) (by omega) []
    rw [List.append_nil] at this
    exact ⟨hd, this⟩
  · right
    rw [if_neg hd]
    refine ⟨hd, ?_, ?_⟩
    · rw [num_dec (by omega)]
      exact num_stop _ fun c l hc => by cases hc; exact isD_slash
    · have := num_dec (n := d.toNat) (by omega) []
      rw [List.append_nil] at this
      exact this
/-- What a text is read as. -/
def ReadIs (s : List UInt8) (x : Int × Int × Int) : Prop :=
  (x.2.2 = 0 ∧ I64 x.1 ∧ I64 x.2.1 ∧ rightB x.1 x.2.1 = true ∧ textT x.1 x.2.1 = s) ∨ (x = (0, 0, 6) ∧ ∀ n d : Int, I64 n → I64 d → rightB n d = true → textT n d ≠ s)
theorem dec_ne_never (n : Nat) (l : List UInt8) : dec n ++ l ≠ [110, 101, 118, 101, 114] := fun h => by
  have h1 := dec_digits n
  cases hx : dec n with
  | nil => exact dec_ne n hx
  | cons a b =>
    rw [hx] at h h1
    simp at h
    have := h1 a (List.mem_cons_self ..)
    rw [h.1] at this
    revert this; decide
theorem textT_inj {n d n' d' : Int} (h1 : I64 n) (h2 : I64 d) (h3 : I64 n') (h4 : I64 d') (r1 : rightB n d = true) (r2 : rightB n' d' = true) (h : textT n d = textT n' d') : n = n' ∧ d = d' := by
  have key : ∀ n d : Int, teq n d 1 0 = true → textT n d = [110, 101, 118, 101, 114] := fun n d hh => by simp [textT, hh]
  have nev : ∀ {n d : Int}, Fin n d → textT n d ≠ [110, 101, 118, 101, 114] := fun {n d} hf => by
    rw [hf.text]; split
    · have := dec_ne_never n.toNat []; simpa using this
    · exact dec_ne_never _ _
  by_cases g1 : teq n d 1 0 = true
  · by_cases g2 : teq n' d' 1 0 = true
    · obtain ⟨rfl, rfl⟩ := teq_eq g1; obtain ⟨rfl, rfl⟩ := teq_eq g2; exact ⟨rfl, rfl⟩
    · simp only [Bool.not_eq_true] at g2
      exact absurd (h.symm.trans (key _ _ g1)) (nev (Fin.of h3 h4 r2 g2))
  · simp only [Bool.not_eq_true] at g1
    by_cases g2 : teq n' d' 1 0 = true
    · exact absurd (h.trans (key _ _ g2)) (nev (Fin.of h1 h2 r1 g1))
    · simp only [Bool.not_eq_true] at g2
      have f1 := Fin.of h1 h2 r1 g1
      have f2 := Fin.of h3 h4 r2 g2
      have a1 := f1.n0; have a2 := f1.d0; have a3 := f2.n0; have a4 := f2.d0
      rcases f1.parse with ⟨p1, p2⟩ | ⟨p1, p2, p3⟩ <;> rcases f2.parse with ⟨q1, q2⟩ | ⟨q1, q2, q3⟩
      · rw [h, q2] at p2; simp at p2; omega
      · rw [h, q2] at p2; simp at p2
      · rw [h, q2] at p2; simp at p2
      · rw [h, q2] at p2
        simp at p2
        have e : d'.toNat = d.toNat := by
          have : numL (dec d'.toNat) 0 = numL (dec d.toNat) 0 := by rw [p2.2]
          rw [q3, p3] at this; simpa using this
        omega
theorem numL_some : ∀ {l : List UInt8} {m n : Nat} {r : List UInt8}, numL l m = some (n, r) → m ≤ 9223372036854775807 → n ≤ 9223372036854775807 ∧ r.length ≤ l.length ∧ l.drop (l.length - r.length) = r
  | [], m, n, r, h, hm => by simp [numL] at h; obtain ⟨rfl, rfl⟩ := h; simp [hm]
  | c :: l, m, n, r, h, hm => by
    rw [numL] at h
    split at h
    · split at h
      · cases h
      · rename_i h1 h2
        obtain ⟨a, b, e⟩ := numL_some h (by omega)
        refine ⟨a, by simp; omega, ?_⟩
        have : (c :: l).length - r.length = (l.length - r.length) + 1 := by simp; omega
        rw [this, List.drop_succ_cons, e]
    · simp at h; obtain ⟨rfl, rfl⟩ := h; simp [hm]
/-- What span.Read answers to a text that isn't "never". -/
def readL (l : List UInt8) : Int × Int × Int :=
  match numL l 0 with
  | none => (0, 0, 6)
  | some (n, []) => if textT n 1 = l then (n, 1, 0) else (0, 0, 6)
  | some (n, c :: r) => if c = 47 then (match numL r 0 with
      | some (d, []) => if d ≠ 0 ∧ textT n d = l then (n, d, 0) else (0, 0, 6)
      | _ => (0, 0, 6)) else (0, 0, 6)
theorem right_one (n : Nat) : rightB n 1 = true := by simp [rightB]
theorem readL_of {n d : Int} (h : Fin n d) : readL (textT n d) = (n, d, 0) := by
  have h1 := h.n0; have h2 := h.d0
  have e1 : ((n.toNat : Nat) : Int) = n := by omega
  have e2 : ((d.toNat : Nat) : Int) = d := by omega
  rcases h.parse with ⟨p1, p2⟩ | ⟨p1, p2, p3⟩
  · subst p1
    simp only [readL, p2, e1]; simp
  · simp only [readL, p2, p3, e1, e2]; simp; omega
theorem readL_is {l : List UInt8} (h : l ≠ [110, 101, 118, 101, 114]) : ReadIs l (readL l) := by
  by_cases hx : ∃ n d : Int, I64 n ∧ I64 d ∧ rightB n d = true ∧ textT n d = l
  · obtain ⟨n, d, a1, a2, a3, a4⟩ := hx
    have hf : teq n d 1 0 = false := by
      refine Bool.eq_false_iff.2 fun hh => h ?_
      rw [← a4]; simp [textT, hh]
    have := readL_of (Fin.of a1 a2 a3 hf)
    rw [a4] at this
    rw [this]
    exact .inl ⟨rfl, a1, a2, a3, a4⟩
  · refine .inr ⟨?_, fun n d a1 a2 a3 a4 => hx ⟨n, d, a1, a2, a3, a4⟩⟩
    have no : ∀ (n d : Nat), n ≤ 9223372036854775807 → d ≤ 9223372036854775807 → d ≠ 0 → l ≠ [] ∨ d = 1 → textT n d ≠ l := fun n d hn hd h0 hl ht => by
      have i1 : I64 n := ⟨by omega, by omega⟩
      have i2 : I64 d := ⟨by omega, by omega⟩
      by_cases hr : rightB n d = true
      · exact hx ⟨n, d, i1, i2, hr, ht⟩
      · rcases hl with hl | rfl
        · have hne : teq (n : Int) (d : Int) 1 0 = false := by simp [teq]; omega
          simp only [Bool.not_eq_true] at hr
          simp only [textT, hne, hr] at ht
          exact hl (by simpa using ht.symm)
        · exact hr (right_one n)
    unfold readL
    split
    · rfl
    · rename_i n hn
      have hb := (numL_some hn (by omega)).1
      rw [if_neg (show textT (n : Int) 1 ≠ l from no n 1 hb (by omega) (by omega) (.inr rfl))]
    · rename_i n c r hn
      have hb := (numL_some hn (by omega)).1
      have hlen := (numL_some hn (by omega)).2.1
      split
      · split
        · rename_i d hd
          have hb2 := (numL_some hd (by omega)).1
          rw [if_neg]
          rintro ⟨q1, q2⟩
          exact no n d hb hb2 q1 (.inl fun hl => by rw [hl] at hlen; simp at hlen) q2
        · rfl
      · rfl
theorem ReadIs.unique {s : List UInt8} {x y : Int × Int × Int} (hx : ReadIs s x) (hy : ReadIs s y) : x = y := by
  rcases hx with ⟨a1, a2, a3, a4, a5⟩ | ⟨a1, a2⟩ <;> rcases hy with ⟨b1, b2, b3, b4, b5⟩ | ⟨b1, b2⟩
  · obtain ⟨e1, e2⟩ := textT_inj a2 a3 b2 b3 a4 b4 (a5.trans b5.symm)
    obtain ⟨x1, x2, x3⟩ := x; obtain ⟨y1, y2, y3⟩ := y
    have e1 : x1 = y1 := e1
    have e2 : x2 = y2 := e2
    have a1 : x3 = 0 := a1
    have b1 : y3 = 0 := b1
    rw [e1, e2, a1, b1]
  · exact absurd a5 (b2 _ _ a2 a3 a4)
  · exact absurd b5 (a2 _ _ b2 b3 b4)
  · rw [a1, b1]
end Go.Proofs.Ytjheegdkngkhaaa
