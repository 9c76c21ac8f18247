/- Walks of span.number and Read. Conditions: the text is shorter than 2 to the 31. -/
import Derived.Test.YtjheegdkngkhaaaTextP
namespace Go.Proofs.Ytjheegdkngkhaaa
open Go.RowKit

/-- What span.number answers. -/
def numAns (len : Nat) : Option (Nat × List UInt8) → Int × Int
  | none => (0, len + 1)
  | some (n, r) => (n, len - r.length)
theorem getD_byte (s : ByteArray) (k : Nat) (h : k < s.size) : s.data.toList.drop k = s[k] :: s.data.toList.drop (k + 1) := by
  rw [List.drop_eq_getElem_cons (by simpa using h)]; rfl

set_option maxHeartbeats 1000000 in
theorem number_any (s : ByteArray) (at_ : Int) (h0 : 0 ≤ at_) (h1 : at_ ≤ s.size) (hs : s.size ≤ 2147483647) (w : World) :
    Calls Try.prog 46 #[.string s, .int .i64 at_] w fun e w' => e = .returned (.tuple #[.int .i64 (numAns s.size (numL (s.data.toList.drop at_.toNat) 0)).1, .int .i64 (numAns s.size (numL (s.data.toList.drop at_.toNat) 0)).2]) ∧ w = w' := by
  obtain ⟨k0, rfl⟩ := Int.eq_ofNat_of_zero_le h0
  rw [Int.toNat_natCast]
  obtain ⟨R, hR⟩ : ∃ R, R = numAns s.size (numL (s.data.toList.drop k0) 0) := ⟨_, rfl⟩
  rw [← hR]
  replace hR := Lib.hid hR
  go_enter Try.func46, Try.ntmps46
  go_wp2
  go_loopg [1, 6, 7] (s.size) (fun gk i n _ wr => ∃ k m : Nat, i = .int .i64 k ∧ n = .int .i64 m ∧ k ≤ s.size ∧ s.size ≤ gk + k ∧ m ≤ 9223372036854775807 ∧ numL (s.data.toList.drop k0) 0 = numL (s.data.toList.drop k) m ∧ w = wr)
  case atStart => exact ⟨k0, 0, rfl, rfl, by omega, by omega, by omega, rfl, rfl⟩
  case round =>
    obtain ⟨k, m, rfl, rfl, hk, hgk, hm, hn, rfl⟩ := hrel
    by_cases hlt : k < s.size
    · have hd := getD_byte s k hlt
      by_cases hc : isD s[k] = true
      · have hc1 : (48 : Int) ≤ (s[k].toNat : Int) := by simp [isD] at hc; omega
        have hc2 : (s[k].toNat : Int) ≤ 57 := by simp [isD] at hc; omega
        have hstep : numL (s.data.toList.drop k) m = if 9223372036854775807 < 10 * m + (s[k].toNat - 48) then none else numL (s.data.toList.drop (k + 1)) (10 * m + (s[k].toNat - 48)) := by rw [hd, numL, if_pos hc]
        replace hn := Lib.hid hn
        replace hstep := Lib.hid hstep
        clear hd hc
        by_cases hov : ((9223372036854775807 : Int) - ((s[k].toNat : Int) - 48)) / 10 < m
        · have hr : R = (0, (s.size : Int) + 1) := by rw [hR.out, hn.out, hstep.out, if_pos (by omega)]; rfl
          replace hr := Lib.hid hr
          go_wp2
          go_ret2
          exact ⟨by rw [hr.out]; rfl, rfl⟩
        · replace hov : ¬ ((9223372036854775807 : Int) - ((s[k].toNat : Int) - 48)) / 10 < m := hov
          have hle : 10 * m + (s[k].toNat - 48) ≤ 9223372036854775807 := by omega
          have hn' := Lib.hid (hn.out.trans (hstep.out.trans (if_neg (Nat.not_lt.2 hle))))
          have hb : 10 * (m : Int) + ((s[k].toNat : Int) - 48) ≤ 9223372036854775807 := by omega
          clear hle
          go_wp2
          go_roundg (gk - 1)
          case rel => exact ⟨k + 1, 10 * m + (s[k].toNat - 48), by go_num, by go_num, by omega, by omega, by omega, hn'.out, rfl⟩
          case measure => omega
      · have hr : R = ((m : Int), (k : Int)) := by
          simp only [Bool.not_eq_true] at hc
          rw [hR.out, hn, num_stop m (fun c l hcl => by rw [hd] at hcl; cases hcl; exact hc), numAns]
          simp; omega
        replace hr := Lib.hid hr
        have hc1 : (s[k].toNat : Int) < 48 ∨ 57 < (s[k].toNat : Int) := by simp [isD] at hc; omega
        replace hn := Lib.hid hn
        clear hd hc
        rcases hc1 with hc1 | hc1
        · go_wp2
          go_ret2
          exact ⟨by rw [hr.out]; rfl, rfl⟩
        · have hc2 : 48 ≤ (s[k].toNat : Int) := by omega
          go_wp2
          go_ret2
          exact ⟨by rw [hr.out]; rfl, rfl⟩
    · have hr : R = ((m : Int), (k : Int)) := by
        have hk' : k = s.size := by omega
        have he : s.data.toList.drop k = [] := List.drop_eq_nil_of_le (by simp; omega)
        rw [hR.out, hn, he, numL, numAns]
        simp; omega
      replace hr := Lib.hid hr
      replace hn := Lib.hid hn
      go_wp2
      go_ret2
      exact ⟨by rw [hr.out]; rfl, rfl⟩
end Go.Proofs.Ytjheegdkngkhaaa
