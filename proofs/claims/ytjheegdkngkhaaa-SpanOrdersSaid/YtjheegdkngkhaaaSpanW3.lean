/- Walks: slices.Reverse over bytes of the call's own; span.digits; span.Text. -/
import Derived.Test.YtjheegdkngkhaaaSpanW2
import Derived.RegionTactic
import Derived.ChangeAlike
set_option linter.unusedVariables false
set_option linter.unusedSimpArgs false
set_option linter.unusedSectionVars false
namespace Go.Proofs.Ytjheegdkngkhaaa
open Go.RowKit

theorem u8_info : (Try.prog.info? 5).map (fun i => (i.zero, i.size, i.bytes)) = some (some (.int .u8 0), 1, 1) := by kernel_rfl

/-- What stands after k exchanges. -/
def revAt (l : List Int) (k : Nat) : List Int := (List.range l.length).map fun x => if x < k ∨ l.length - k ≤ x then l.getD (l.length - 1 - x) 0 else l.getD x 0
theorem revAt_len (l : List Int) (k : Nat) : (revAt l k).length = l.length := by simp [revAt]
theorem revAt_zero (l : List Int) : revAt l 0 = l := by
  apply List.ext_getElem (revAt_len l 0)
  intro i h1 h2
  simp [revAt, List.getD, h2]
  omega
theorem getD_ext {l m : List Int} (h : l.length = m.length) (hg : ∀ i, i < l.length → l.getD i 0 = m.getD i 0) : l = m := by
  apply List.ext_getElem h
  intro i h1 h2
  have := hg i h1
  simpa [List.getD, h1, h2] using this
theorem revAt_getD (l : List Int) (k x : Nat) (hx : x < l.length) : (revAt l k).getD x 0 = if x < k ∨ l.length - k ≤ x then l.getD (l.length - 1 - x) 0 else l.getD x 0 := by
  simp [revAt, List.getD, hx]
theorem revAt_step (l : List Int) (k j : Nat) (hj : k + j + 1 = l.length) (hkj : k < j) :
    ((revAt l k).set k ((revAt l k).getD j 0)).set j ((revAt l k).getD k 0) = revAt l (k + 1) := by
  apply getD_ext (by simp [revAt_len])
  intro x hx
  simp only [List.length_set, revAt_len] at hx
  rw [revAt_getD l (k + 1) x hx]
  rw [revAt_getD l k j (by omega), revAt_getD l k k (by omega), if_neg (by omega), if_neg (by omega)]
  by_cases h1 : x = j
  · subst h1
    rw [if_pos (by omega)]
    have : l.length - 1 - x = k := by omega
    rw [this]
    simp [List.getD, revAt_len, hx]
  · by_cases h2 : x = k
    · subst h2
      rw [if_pos (by omega)]
      have : l.length - 1 - x = j := by omega
      rw [this]
      simp [List.getD, revAt_len, hx, Ne.symm h1]
    · have e : (((revAt l k).set k (l.getD j 0)).set j (l.getD k 0)).getD x 0 = (revAt l k).getD x 0 := by
        simp [List.getD, Ne.symm h1, Ne.symm h2]
      rw [e, revAt_getD l k x hx]
      by_cases h3 : x < k ∨ l.length - k ≤ x
      · rw [if_pos h3, if_pos (by omega)]
      · rw [if_neg h3, if_neg (by omega)]
theorem revAt_done (l : List Int) (k : Nat) (h : l.length ≤ 2 * k + 1) : revAt l k = l.reverse := by
  apply getD_ext (by simp [revAt_len])
  intro x hx
  rw [revAt_len] at hx
  rw [revAt_getD l k x hx]
  have : l.reverse.getD x 0 = l.getD (l.length - 1 - x) 0 := by
    simp [List.getD, List.getElem?_reverse hx]
  rw [this]
  by_cases h3 : x < k ∨ l.length - k ≤ x
  · rw [if_pos h3]
  · rw [if_neg h3]; congr 1; omega

set_option maxHeartbeats 1000000 in
theorem Reverse_own {w0 w : World} {g cap : Nat} {l : List Int} (hex : Ex w0 w) (hg : w0.heap.size ≤ g) (hown : w.ownsRow w0.heap.size 5 1 (.slice (some ⟨g, 0, none⟩) l.length cap) l.length (l.map (Value.int .u8))) (hl : l.length < 4294967296) :
    Calls Try.prog 63 #[.slice (some ⟨g, 0, none⟩) l.length cap] w fun e w' => e = .returned (.tuple #[]) ∧ w'.ownsRow w0.heap.size 5 1 (.slice (some ⟨g, 0, none⟩) l.length cap) l.length (l.reverse.map (Value.int .u8)) ∧ Ex w0 w' := by
  go_enter Try.func63, Try.ntmps63
  go_wp2
  go_loopg [2, 3] l.length (fun gk i j wr => ∃ k J, i = .int .i64 (k : Nat) ∧ j = .int .i64 J ∧ J + k + 1 = l.length ∧ l.length ≤ gk + k ∧ (k : Int) ≤ J + 2 ∧ wr.ownsRow w0.heap.size 5 1 (.slice (some ⟨g, 0, none⟩) l.length cap) l.length ((revAt l k).map (Value.int .u8)) ∧ Ex w0 wr)
  case atStart => exact ⟨0, l.length - 1, rfl, rfl, by omega, by omega, by omega, by rw [revAt_zero]; exact hown, hex⟩
  case round =>
    obtain ⟨k, J, rfl, rfl, hJ, hgk, hkJ, ho, hx⟩ := hrel
    by_cases hlt : (k : Int) < J
    · obtain ⟨j, rfl⟩ := Int.eq_ofNat_of_zero_le (show 0 ≤ J by omega)
      have hck := owns_int ho (revAt_len l k) (j := k) (by omega)
      have hcj := owns_int ho (revAt_len l k) (j := j) (by omega)
      have hfr := ho.frozenAt
      have hst := Lib.hid (revAt_step l k j (by omega) (by omega))
      have ho1 := Lib.hid (fun x y => owns_stored (owns_stored ho k x) j y)
      have hx1 := Lib.hid (fun x y => (hx.setCell (p := ⟨g, k, none⟩) hg x).setCell (p := ⟨g, j, none⟩) hg y)
      generalize (revAt l k).getD k 0 = a at *
      generalize (revAt l k).getD j 0 = b at *
      have hjl : j < l.length := by omega
      have hkl : k < l.length := by omega
      have hkj' : k < j := by omega
      have hJ := Lib.hid hJ
      have hfk := hfr k
      have hfj := hfr j
      clear hfr
      go_wp2
      go_region
      all_goals go_wp2
      go_roundg (gk - 1)
      case rel =>
        have h1 := ho1.out b a
        have hJ := hJ.out
        rw [hst.out] at h1
        exact ⟨k + 1, j - 1, by go_num, rfl, by omega, by omega, by omega, h1, (hx1.out _ _).drew⟩
      case measure => omega
    · go_wp2
      go_end0
      refine ⟨rfl, ?_, hx⟩
      rw [revAt_done l k (by omega)] at ho
      simpa using ho

/-- A number from nought on, in decimal. -/
def dec (n : Nat) : List UInt8 := if n < 10 then [(48 + n).toUInt8] else dec (n / 10) ++ [(48 + n % 10).toUInt8]
  termination_by n
  decreasing_by omega
theorem dec_lt {n : Nat} (h : n < 10) : dec n = [(48 + n).toUInt8] := by rw [dec]; simp [h]
theorem dec_ge {n : Nat} (h : 10 ≤ n) : dec n = dec (n / 10) ++ [(48 + n % 10).toUInt8] := by rw [dec]; simp [Nat.not_lt.2 h]
theorem dec_step (n : Nat) : dec n = (if n / 10 = 0 then [] else dec (n / 10)) ++ [(48 + n % 10).toUInt8] := by
  by_cases h : n < 10
  · rw [dec_lt h, if_pos (by omega)]; simp [Nat.mod_eq_of_lt h]
  · rw [dec_ge (by omega), if_neg (by omega)]
theorem dec_len {n k : Nat} (h : n < 10 ^ (k + 1)) : (dec n).length ≤ k + 1 := by
  induction k generalizing n with
  | zero => rw [dec_lt (by simpa using h)]; simp
  | succ k ih =>
    by_cases h0 : n < 10
    · rw [dec_lt h0]; simp
    · rw [dec_ge (by omega)]
      have := ih (n := n / 10) (by rw [Nat.pow_succ] at h; omega)
      simp; omega
/-- Bytes as numbers. -/
def nums (l : List UInt8) : List Int := l.map fun b => (b.toNat : Int)
theorem nums_back (l : List UInt8) : (strOfNums (nums l)).data.toList = l := by
  rw [strOfNums_data, nums, List.map_map]
  conv => rhs; rw [← List.map_id l]
  apply List.map_congr_left
  intro b _
  simp
theorem byte_digit (n : Nat) : (((48 + n % 10).toUInt8).toNat : Int) = 48 + n % 10 := by
  have : (48 + n % 10).toUInt8.toNat = 48 + n % 10 := by
    simp [Nat.toUInt8]; omega
  omega

set_option maxHeartbeats 1000000 in
theorem digits_any (n : Nat) (hn : n ≤ 9223372036854775807) (w : World) :
    Calls Try.prog 45 #[.int .i64 n] w fun e w' => (∃ s : ByteArray, e = .returned (.string s) ∧ s.data.toList = dec n) ∧ Ex w w' := by
  have hdl := dec_len (n := n) (k := 18) (by omega)
  go_enter Try.func45, Try.ntmps45
  go_wp2
  go_loopg [0, 3] n (fun gk x s wr => ∃ (m : Nat) (ds : List UInt8), x = .int .i64 m ∧ m ≤ gk ∧ m ≤ 9223372036854775807 ∧ dec n = dec m ++ ds ∧ wr.ownsRow w.heap.size 5 1 s ds.length ((nums ds.reverse).map (Value.int .u8)) ∧ Ex w wr)
  case atStart => exact ⟨n, [], rfl, Nat.le_refl _, hn, by simp, World.ownsRow_nil _ _ _ _, Ex.refl _⟩
  case round =>
    obtain ⟨m, ds, rfl, hmk, hm, hd, hown, hx⟩ := hrel
    have hlen : ds.length < 19 := by have := congrArg List.length hd; rw [dec_step m] at this; simp at this; omega
    replace hd := Lib.hid hd
    have hstep := Lib.hid (dec_step m)
    by_cases h0 : m / 10 = 0
    · have h1 : (((m : Int) / 10) == 0) = true := by simp; omega
      go_wp2_with (at_builtin; refine wpList_append1 Try.underlying79 u8_info hown hx (by omega) (h := ?_); intro v1 w1 hown1 hx1 hgrow1)
      obtain ⟨g, cap, rfl, hg⟩ := owns_some hown1 (by omega)
      have e1 : nums ds.reverse ++ [48 + (m : Int) % 10] = nums (dec n).reverse := by
        rw [hd.out, hstep.out, if_pos h0]; simp [nums]; omega
      have e2 : (nums ds.reverse).map (Value.int .u8) ++ #[Value.int .u8 (48 + (m : Int) % 10)].toList = (nums (dec n).reverse).map (Value.int .u8) := by
        rw [← e1]; simp
      have e3 : ds.length + 1 = (nums (dec n).reverse).length := by rw [← e1]; simp [nums]
      rw [e2, e3] at hown1
      rw [e3]
      clear e1 e2 e3
      refine (Reverse_own hx1 hg hown1 (by simp [nums]; omega)).mono ?_
      rintro e w2 ⟨rfl, hown2, hx2⟩
      have e4 : (nums (dec n).reverse).reverse = nums (dec n) := by simp [nums]
      have e5 : (nums (dec n).reverse).length = (nums (dec n)).length := by simp [nums]
      rw [e4, e5] at hown2
      rw [e5]
      clear e4 e5 hown1
      have hcv := run_convert_bytes_arg w2 79 5 Try.underlying79 Try.underlying5 g 0 _ cap (nums (dec n)) rfl (fun i hi => by rw [Nat.zero_add]; exact owns_int hown2 rfl hi) 9 Try.underlying9
      go_wp2_with fail
      go_ret
      exact ⟨⟨_, rfl, nums_back _⟩, hx2⟩
    · have h1 : (((m : Int) / 10) == 0) = false := by simp; omega
      go_wp2_with (at_builtin; refine wpList_append1 Try.underlying79 u8_info hown hx (by omega) (h := ?_); intro v1 w1 hown1 hx1 hgrow1)
      go_roundg (m / 10)
      case rel => exact ⟨m / 10, (48 + m % 10).toUInt8 :: ds, by go_num, Nat.le_refl _, by omega, by rw [hd.out, hstep.out, if_neg h0]; simp, (by have e : ((48 + (m : Int) % 10) % 256) = 48 + (m : Int) % 10 := (by omega); simpa [nums, e] using hown1), hx1⟩
      case measure => omega
end Go.Proofs.Ytjheegdkngkhaaa
