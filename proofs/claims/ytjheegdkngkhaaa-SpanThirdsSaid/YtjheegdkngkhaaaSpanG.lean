/- The span chapter's contracts on pure data. Conditions: numbers in an int's range; short rows of digits. -/
import Derived.Test.YtjheegdkngkhaaaPL2
import Derived.Test.YtjheegdkngkhaaaTy
import Derived.Test.YtjheegdkngkhaaaSpanW6
import Derived.Test.YtjheegdkngkhaaaWideP
import Derived.Test.YtjheegdkngkhaaaWideW1
import Derived.Test.YtjheegdkngkhaaaNumW8
set_option linter.unusedVariables false
set_option linter.unusedSimpArgs false
set_option linter.unusedSectionVars false
namespace Go.Proofs.Ytjheegdkngkhaaa
open Go.RowKit

theorem plus_nat (A B : Nat) (h : A + B < 340282366920938463463374607431768211456) (w : World) :
    Calls Try.prog 53 #[.agg #[.int .u64 ((A / 18446744073709551616 : Nat) : Int), .int .u64 ((A % 18446744073709551616 : Nat) : Int)], .agg #[.int .u64 ((B / 18446744073709551616 : Nat) : Int), .int .u64 ((B % 18446744073709551616 : Nat) : Int)]] w fun e w' => e = .returned (.agg #[.int .u64 (((A + B) / 18446744073709551616 : Nat) : Int), .int .u64 (((A + B) % 18446744073709551616 : Nat) : Int)]) ∧ Ex w w' := by
  have := plus_any ((A / 18446744073709551616 : Nat) : Int) ((A % 18446744073709551616 : Nat) : Int) ((B / 18446744073709551616 : Nat) : Int) ((B % 18446744073709551616 : Nat) : Int) ⟨by omega, by omega⟩ ⟨by omega, by omega⟩ ⟨by omega, by omega⟩ ⟨by omega, by omega⟩ w
  rw [show (((A + B) / 18446744073709551616 : Nat) : Int) = (((A / 18446744073709551616 : Nat) : Int) + ((B / 18446744073709551616 : Nat) : Int) + (((A % 18446744073709551616 : Nat) : Int) + ((B % 18446744073709551616 : Nat) : Int)) / 18446744073709551616) % 18446744073709551616 by omega, show (((A + B) % 18446744073709551616 : Nat) : Int) = (((A % 18446744073709551616 : Nat) : Int) + ((B % 18446744073709551616 : Nat) : Int)) % 18446744073709551616 by omega]
  exact this
theorem minus_nat (A B : Nat) (h : A < 340282366920938463463374607431768211456) (hB : B ≤ A) (w : World) :
    Calls Try.prog 55 #[.agg #[.int .u64 ((A / 18446744073709551616 : Nat) : Int), .int .u64 ((A % 18446744073709551616 : Nat) : Int)], .agg #[.int .u64 ((B / 18446744073709551616 : Nat) : Int), .int .u64 ((B % 18446744073709551616 : Nat) : Int)]] w fun e w' => e = .returned (.agg #[.int .u64 (((A - B) / 18446744073709551616 : Nat) : Int), .int .u64 (((A - B) % 18446744073709551616 : Nat) : Int)]) ∧ Ex w w' := by
  have := minus_any ((A / 18446744073709551616 : Nat) : Int) ((A % 18446744073709551616 : Nat) : Int) ((B / 18446744073709551616 : Nat) : Int) ((B % 18446744073709551616 : Nat) : Int) ⟨by omega, by omega⟩ ⟨by omega, by omega⟩ ⟨by omega, by omega⟩ ⟨by omega, by omega⟩ w
  unfold bor at this
  rw [show (((A - B) / 18446744073709551616 : Nat) : Int) = (((A / 18446744073709551616 : Nat) : Int) - ((B / 18446744073709551616 : Nat) : Int) - (if ((A % 18446744073709551616 : Nat) : Int) < ((B % 18446744073709551616 : Nat) : Int) then 1 else 0)) % 18446744073709551616 by split <;> omega, show (((A - B) % 18446744073709551616 : Nat) : Int) = (((A % 18446744073709551616 : Nat) : Int) - ((B % 18446744073709551616 : Nat) : Int)) % 18446744073709551616 by omega]
  exact this
/-- A time, a number of two words. -/
def tmD (n d : Int) : D := .agg [.int .i64 n, .int .i64 d]
def wdD (A : Nat) : D := .agg [.int .u64 ((A / 18446744073709551616 : Nat) : Int), .int .u64 ((A % 18446744073709551616 : Nat) : Int)]
def tup3 (r : Int × Int × Int) : D := .tup [.agg [.int .i64 r.1, .int .i64 r.2.1], .int .i64 r.2.2]
theorem never_pc (n d : Int) : PC Try.prog 31 [.agg [.int .i64 n, .int .i64 d]] (.bool (teq n d 1 0)) := pc_of_ex Try.func31 (by kernel_rfl) rfl rfl fun w => never_any n d w
theorem Never_pc : PC Try.prog 26 [] (.agg [.int .i64 1, .int .i64 0]) := pc_of_ex Try.func26 (by kernel_rfl) rfl rfl fun w => Never_any w
theorem Right_pc (n d : Int) (h1 : I64 n) (h2 : I64 d) : PC Try.prog 14 [.agg [.int .i64 n, .int .i64 d]] (.bool (rightB n d)) := pc_of_ex Try.func14 (by kernel_rfl) rfl rfl fun w => Right_any n d h1 h2 w
theorem Cmp_pc (n d n' d' : Int) (h1 : I64 n) (h2 : I64 d) (h3 : I64 n') (h4 : I64 d') : PC Try.prog 16 [.agg [.int .i64 n, .int .i64 d], .agg [.int .i64 n', .int .i64 d']] (.int .i64 (cmpT n d n' d')) := pc_of_ex Try.func16 (by kernel_rfl) rfl rfl fun w => Cmp_any n d n' d' h1 h2 h3 h4 w
theorem gcd_pc (a b : Nat) (ha : a < 18446744073709551616) (hb : b < 18446744073709551616) : PC Try.prog 32 [.int .u64 a, .int .u64 b] (.int .u64 (Nat.gcd a b)) :=
  pc_of_qt Try.func32 (by kernel_rfl) rfl rfl fun w => (gcd_any a b (by omega) (by omega) (by omega) (by omega) w)
theorem times_pc (a b : Nat) (ha : a < 18446744073709551616) (hb : b < 18446744073709551616) : PC Try.prog 38 [.int .u64 a, .int .u64 b] (wdD (a * b)) := pc_of_ex Try.func38 (by kernel_rfl) rfl rfl fun w => times_nat a b ha hb w
theorem plus_pc (A B : Nat) (h : A + B < 340282366920938463463374607431768211456) : PC Try.prog 53 [wdD A, wdD B] (wdD (A + B)) := pc_of_ex Try.func53 (by kernel_rfl) rfl rfl fun w => plus_nat A B h w
theorem minus_pc (A B : Nat) (h : A < 340282366920938463463374607431768211456) (hB : B ≤ A) : PC Try.prog 55 [wdD A, wdD B] (wdD (A - B)) := pc_of_ex Try.func55 (by kernel_rfl) rfl rfl fun w => minus_nat A B h hB w
theorem reduced_pc (N c d g : Nat) (hg : 0 < g) (hN : N < 340282366920938463463374607431768211456) (hc : c < 18446744073709551616) (hd : d < 18446744073709551616) (hg2 : g < 18446744073709551616) :
    PC Try.prog 54 [wdD N, .int .u64 c, .int .u64 d, .int .u64 g] (tup3 (fitT (N / Nat.gcd N g) (c * (d / Nat.gcd N g)))) := pc_of_ex Try.func54 (by kernel_rfl) rfl rfl fun w => reduced_any N c d g hg hN hc hd hg2 w
theorem awake_pc : PC Try.prog 13 [] (.bool true) := pc_of_ex Try.func13 (by kernel_rfl) rfl rfl fun w => awake_any w
theorem RNever_pc (n d : Int) : PC Try.prog 33 [.agg [.int .i64 n, .int .i64 d]] (.bool (teq n d 1 0)) := pc_of_ex Try.func33 (by kernel_rfl) rfl rfl fun w => RNever_any n d w
theorem RRight_pc (n d : Int) (h1 : I64 n) (h2 : I64 d) : PC Try.prog 15 [.agg [.int .i64 n, .int .i64 d]] (.bool (rightB n d)) := pc_of_ex Try.func15 (by kernel_rfl) rfl rfl fun w => RRight_any n d h1 h2 w
theorem RCmp_pc (n d n' d' : Int) (h1 : I64 n) (h2 : I64 d) (h3 : I64 n') (h4 : I64 d') : PC Try.prog 17 [.agg [.int .i64 n, .int .i64 d], .agg [.int .i64 n', .int .i64 d']] (.int .i64 (cmpT n d n' d')) := pc_of_ex Try.func17 (by kernel_rfl) rfl rfl fun w => RCmp_any n d n' d' h1 h2 h3 h4 w

/-! ### The reference's numbers -/
def numD (a : Nat) : D := .sl (dg a).length ((dg a).map (D.int .i64))
theorem repL_ints {M : Addr → Prop} {w : World} : ∀ {l : List Int} {us : List Value}, RepL M w us (l.map (D.int .i64)) → us = l.map (Value.int .i64)
  | [], us, h => by cases h; rfl
  | n :: l, us, h => by
    cases h with
    | cons v d vs ds h t => rw [rep_int h, repL_ints t]; rfl
theorem repL_ints' {M : Addr → Prop} {w : World} : ∀ (l : List Int), RepL M w (l.map (Value.int .i64)) (l.map (D.int .i64))
  | [] => .nil
  | n :: l => .cons _ _ _ _ (.int _ _) (repL_ints' l)
theorem isN_of_rep {M : Addr → Prop} {w : World} {v : Value} {a : Nat} (hl : (dg a).length ≤ 1000) (h : Rep M w v (numD a)) : IsN w v a := by
  obtain ⟨p, cap, us, rfl, h2, h3, h4, h5⟩ := rep_sl h
  have := repL_ints h5
  subst this
  refine ⟨p, cap, rfl, by simp, by simp only [maxLen]; omega, h2, fun h0 hp => ?_, fun hp => (h3 hp).2.1, fun j u hu => ?_⟩
  · have := (h3 hp).1; omega
  · cases p with
    | none =>
      have := (h3 rfl).2.2
      rw [this] at hu
      simp at hu
    | some ad => exact ((h4 ad rfl).2 j u hu).1
theorem rep_of_isN {M : Addr → Prop} {w w' : World} {v : Value} {a : Nat} (hM : ∀ x, M x → x.block < w.heap.size) (h : IsN w' v a) (hf : Fresh w v) : Rep M w' v (numD a) := by
  obtain ⟨p, cap, rfl, h⟩ := h
  refine .sl p _ cap _ _ h.room (fun hp => ?_) (fun ad ha => ?_) (repL_ints' _)
  · have h0 : (dg a).length = 0 := by
      rcases Nat.eq_zero_or_pos (dg a).length with h0 | h0
      · exact h0
      · exact absurd hp (h.base h0)
    exact ⟨h0, h.nilz hp, by rw [List.eq_nil_of_length_eq_zero h0]; rfl⟩
  · subst ha
    obtain ⟨f1, f2⟩ := hf ad rfl
    refine ⟨f2, fun j u hu => ⟨h.cell j u hu, fun hm => ?_, ?_⟩⟩
    · have := hM _ hm
      rw [Addr.add_plain f2] at this
      simp only at this
      omega
    · simp only [List.getElem?_map, Option.map_eq_some_iff] at hu
      obtain ⟨n, -, rfl⟩ := hu
      rfl
theorem From_pc (n : Nat) (hn : n ≤ 9223372036854775807) : PC Try.prog 35 [.int .i64 n] (numD n) := by
  refine ⟨⟨_, Try.func35, by kernel_rfl, by kernel_rfl⟩, fun M w vs hvs hM => ?_⟩
  cases hvs with
  | cons v d vs ds h t =>
    cases t
    rw [rep_int h]
    exact (From_fresh n hn w).mono fun e w' ⟨⟨v', he, h1, h2⟩, hx⟩ => ⟨v', he, rep_of_isN hM h1 h2, hx⟩
theorem Mul_pc (a b : Nat) (hla : (dg a).length ≤ 1000) (hlb : (dg b).length ≤ 1000) : PC Try.prog 40 [numD a, numD b] (numD (a * b)) := by
  refine ⟨⟨_, Try.func40, by kernel_rfl, by kernel_rfl⟩, fun M w vs hvs hM => ?_⟩
  cases hvs with
  | cons v d vs ds h t =>
    cases t with
    | cons u d' vs ds h' t =>
      cases t
      exact (Mul_fresh (isN_of_rep hla h) (isN_of_rep hlb h') hla hlb).mono fun e w' ⟨⟨v', he, h1, h2⟩, hx⟩ => ⟨v', he, rep_of_isN hM h1 h2, hx⟩
theorem NAdd_pc (a b : Nat) (hla : (dg a).length ≤ 1000) (hlb : (dg b).length ≤ 1000) : PC Try.prog 56 [numD a, numD b] (numD (a + b)) := by
  refine ⟨⟨_, Try.func56, by kernel_rfl, by kernel_rfl⟩, fun M w vs hvs hM => ?_⟩
  cases hvs with
  | cons v d vs ds h t =>
    cases t with
    | cons u d' vs ds h' t =>
      cases t
      exact (NAdd_fresh (isN_of_rep hla h) (isN_of_rep hlb h') hla hlb).mono fun e w' ⟨⟨v', he, h1, h2⟩, hx⟩ => ⟨v', he, rep_of_isN hM h1 h2, hx⟩
theorem NSub_pc (a b : Nat) (hab : b ≤ a) (hla : (dg a).length ≤ 1000) : PC Try.prog 57 [numD a, numD b] (numD (a - b)) := by
  have hlb := len_dg_mono hab
  refine ⟨⟨_, Try.func57, by kernel_rfl, by kernel_rfl⟩, fun M w vs hvs hM => ?_⟩
  cases hvs with
  | cons v d vs ds h t =>
    cases t with
    | cons u d' vs ds h' t =>
      cases t
      exact (NSub_fresh (isN_of_rep hla h) (isN_of_rep (by omega) h') hab hla).mono fun e w' ⟨⟨v', he, h1, h2⟩, hx⟩ => ⟨v', he, rep_of_isN hM h1 h2, hx⟩
theorem made_pc (n d : Nat) (hd : 0 < d) (hla : (dg n).length ≤ 900) (hlb : (dg d).length ≤ 900) : PC Try.prog 43 [numD n, numD d] (tup3 (madeR n d)) := by
  refine ⟨⟨_, Try.func43, by kernel_rfl, by kernel_rfl⟩, fun M w vs hvs hM => ?_⟩
  cases hvs with
  | cons v d' vs ds h t =>
    cases t with
    | cons u d'' vs ds h' t =>
      cases t
      exact (made_any (isN_of_rep (by omega) h) (isN_of_rep (by omega) h') hd hla hlb).mono fun e w' ⟨he, hx⟩ => ⟨_, he, gvr_rep rfl, hx⟩
end Go.Proofs.Ytjheegdkngkhaaa
