/- Walk of the reference's Digits. Conditions: the text is shorter than 2 to the 31. -/
import Derived.Test.YtjheegdkngkhaaaTextW1
namespace Go.Proofs.Ytjheegdkngkhaaa
open Go.RowKit

theorem DigIs.no {l : List UInt8} (h : ∀ m : Nat, m ≤ 9223372036854775807 → l ≠ dec m) : DigIs l 0 false := .inr ⟨rfl, rfl, h⟩
theorem no_empty {l : List UInt8} (h : l.length = 0) : ∀ m : Nat, m ≤ 9223372036854775807 → l ≠ dec m := fun m _ e => dec_ne m (by rw [← e]; exact List.eq_nil_of_length_eq_zero h)
theorem no_long {l : List UInt8} (h : 19 < l.length) : ∀ m : Nat, m ≤ 9223372036854775807 → l ≠ dec m := fun m hm e => by
  have := dec_len (n := m) (k := 18) (by omega)
  rw [← e] at this; omega
theorem no_lead {l : List UInt8} (h : ¬ Lead l) : ∀ m : Nat, m ≤ 9223372036854775807 → l ≠ dec m := fun m _ e => h (e ▸ dec_lead m)
theorem no_digit {l : List UInt8} {c : UInt8} (h : c ∈ l) (hc : isD c = false) : ∀ m : Nat, m ≤ 9223372036854775807 → l ≠ dec m := fun m _ e => by
  have := dec_digits m c (e ▸ h); rw [hc] at this; cases this
theorem no_great {l : List UInt8} {k : Nat} (h : 9223372036854775807 < pv (l.take k)) : ∀ m : Nat, m ≤ 9223372036854775807 → l ≠ dec m := fun m hm e => by
  have h1 := pv_take l k
  rw [e, pv_dec] at h1
  rw [e] at h
  omega
theorem take_byte (s : ByteArray) (k : Nat) (h : k < s.size) : s.data.toList.take (k + 1) = s.data.toList.take k ++ [s[k]] := by
  rw [List.take_succ_eq_append_getElem (by simpa using h)]; rfl
theorem mem_byte (s : ByteArray) (k : Nat) (h : k < s.size) : s[k] ∈ s.data.toList := by
  have := getD_byte s k h
  exact List.mem_of_mem_drop (i := k) (by rw [this]; exact List.mem_cons_self ..)

def DigPost (s : ByteArray) (w : World) (e : Ending) (w' : World) : Prop := (∃ n ok, e = .returned (.tuple #[.int .i64 n, .bool ok]) ∧ DigIs s.data.toList n ok) ∧ w = w'
set_option maxHeartbeats 2000000 in
theorem Digits_any (s : ByteArray) (hs : s.size ≤ 2147483647) (w : World) :
    Calls Try.prog 48 #[.string s] w (DigPost s w) := by
  have hlen : s.data.toList.length = s.size := (size_of_data s).symm
  by_cases h0 : s.size = 0
  · have hr := Lib.hid (DigIs.no (no_empty (hlen.trans h0)))
    have hc : ((s.size : Int) == 0) = true := by simp [h0]
    clear hlen h0
    go_enter Try.func48, Try.ntmps48
    go_wp2
    go_ret2
    exact ⟨⟨_, _, rfl, hr.out⟩, rfl⟩
  · have hc0 : ((s.size : Int) == 0) = false := by simp [h0]
    by_cases h1 : 19 < s.size
    · have hr := Lib.hid (DigIs.no (no_long (l := s.data.toList) (by omega)))
      clear hlen h0
      go_enter Try.func48, Try.ntmps48
      go_wp2
      go_ret2
      exact ⟨⟨_, _, rfl, hr.out⟩, rfl⟩
    · have hp : 0 < s.size := by omega
      have hby := getD_byte s 0 hp
      rw [List.drop_zero] at hby
      by_cases h2 : Lead s.data.toList
      · have hld : (((s[0].toNat : Int) == 48) = false) ∨ (((s[0].toNat : Int) == 48) = true ∧ ¬ 1 < s.size) := by
          by_cases hz : s[0].toNat = 48
          · refine .inr ⟨by simp [hz], fun h3 => ?_⟩
            rcases h2 with h2 | h2
            · omega
            · rw [hby] at h2
              simp only [List.head?_cons, ne_eq, Option.some.injEq] at h2
              exact h2 (UInt8.toNat_inj.1 (by simpa using hz))
          · exact .inl (by simp; omega)
        replace h2 := Lib.hid h2
        have h19 : s.size ≤ 19 := by omega
        have h19' : decide (19 < (s.size : Int)) = false := by simp; omega
        replace hby := Lib.hid hby
        replace hlen := Lib.hid hlen
        rcases hld with hld | ⟨hld, hl1⟩
        · go_enter Try.func48, Try.ntmps48
          go_wp2
          go_loopg [4, 5] (s.size) (fun gk n i wr => ∃ k : Nat, n = .int .i64 (pv (s.data.toList.take k) : Nat) ∧ i = .int .i64 k ∧ k ≤ s.size ∧ s.size ≤ gk + k ∧ pv (s.data.toList.take k) ≤ 9223372036854775807 ∧ (∀ c ∈ s.data.toList.take k, isD c = true) ∧ w = wr)
          case atStart => exact ⟨0, rfl, rfl, by omega, by omega, by simp [pv], by simp, rfl⟩
          case round =>
            obtain ⟨k, rfl, rfl, hk, hgk, hpm, hds, rfl⟩ := hrel
            replace hds := Lib.hid hds
            by_cases hlt : k < s.size
            · have htk := take_byte s k hlt
              have hpv : pv (s.data.toList.take (k + 1)) = 10 * pv (s.data.toList.take k) + (s[k].toNat - 48) := by rw [htk, pv_snoc]
              have hmem := Lib.hid (mem_byte s k hlt)
              replace htk := Lib.hid htk
              replace hpv := Lib.hid hpv
              have hgr := Lib.hid (fun h => DigIs.no (no_great (l := s.data.toList) (k := k + 1) h))
              obtain ⟨P, hP⟩ : ∃ P, P = pv (s.data.toList.take k) := ⟨_, rfl⟩
              rw [← hP] at hpm hpv ⊢
              replace hP := Lib.hid hP
              by_cases hc : isD s[k] = true
              · have hc1 : (48 : Int) ≤ (s[k].toNat : Int) := by simp [isD] at hc; omega
                have hc2 : (s[k].toNat : Int) ≤ 57 := by simp [isD] at hc; omega
                replace hc := Lib.hid hc
                by_cases ho1 : (922337203685477580 : Int) < P
                · have hr := Lib.hid (hgr.out (by rw [hpv.out]; omega))
                  go_wp2
                  go_ret2
                  exact ⟨⟨_, _, rfl, hr.out⟩, rfl⟩
                · have ho1' : decide ((922337203685477580 : Int) < P) = false := by simp; omega
                  by_cases ho2 : (P : Int) = 922337203685477580
                  · have ho2' : ((P : Int) == 922337203685477580) = true := by simp [ho2]
                    by_cases ho3 : (55 : Int) < (s[k].toNat : Int)
                    · have hr := Lib.hid (hgr.out (by rw [hpv.out]; omega))
                      replace ho2 := Lib.hid ho2
                      go_wp2
                      go_ret2
                      exact ⟨⟨_, _, rfl, hr.out⟩, rfl⟩
                    · have ho3' : decide ((55 : Int) < (s[k].toNat : Int)) = false := by simp; omega
                      have hnb : 10 * (P : Int) + ((s[k].toNat : Int) - 48) ≤ 9223372036854775807 := by omega
                      have hnew := Lib.hid (show ((pv (s.data.toList.take (k + 1)) : Nat) : Int) = (P : Int) * 10 + ((s[k].toNat : Int) - 48) by rw [hpv.out]; omega)
                      replace ho2 := Lib.hid ho2
                      go_wp2
                      go_roundg (gk - 1)
                      case rel => exact ⟨k + 1, by rw [hnew.out], by go_num, by omega, by omega, by have := hnew.out; omega, by rw [htk.out]; intro c h; rcases List.mem_append.1 h with h | h; exact hds.out c h; rw [List.mem_singleton.1 h]; exact hc.out, rfl⟩
                      case measure => omega
                  · have ho2' : ((P : Int) == 922337203685477580) = false := by simp; omega
                    have hnb : 10 * (P : Int) + ((s[k].toNat : Int) - 48) ≤ 9223372036854775807 := by omega
                    have hnew := Lib.hid (show ((pv (s.data.toList.take (k + 1)) : Nat) : Int) = (P : Int) * 10 + ((s[k].toNat : Int) - 48) by rw [hpv.out]; omega)
                    go_wp2
                    go_roundg (gk - 1)
                    case rel => exact ⟨k + 1, by rw [hnew.out], by go_num, by omega, by omega, by have := hnew.out; omega, by rw [htk.out]; intro c h; rcases List.mem_append.1 h with h | h; exact hds.out c h; rw [List.mem_singleton.1 h]; exact hc.out, rfl⟩
                    case measure => omega
              · have hr := Lib.hid (DigIs.no (no_digit hmem.out (by simpa using hc)))
                have hc1 : (s[k].toNat : Int) < 48 ∨ 57 < (s[k].toNat : Int) := by simp [isD] at hc; omega
                clear hc
                rcases hc1 with hc1 | hc1
                · go_wp2
                  go_ret2
                  exact ⟨⟨_, _, rfl, hr.out⟩, rfl⟩
                · have hc2 : decide ((s[k].toNat : Int) < 48) = false := by simp; omega
                  go_wp2
                  go_ret2
                  exact ⟨⟨_, _, rfl, hr.out⟩, rfl⟩
            · have hk' : k = s.size := by omega
              have hall : s.data.toList.take k = s.data.toList := List.take_of_length_le (by rw [hlen.out]; omega)
              have hr : Hid (DigIs s.data.toList ((pv (s.data.toList.take k) : Nat) : Int) true) := by
                refine .inl ⟨rfl, _, rfl, hpm, ?_⟩
                rw [hall]
                have hds' := hds.out
                rw [hall] at hds'
                exact (dec_pv hds' (by intro h; rw [h] at hlen; have := hlen.out; simp at this; omega) h2.out).symm
              clear hk' hall
              go_wp2
              go_ret2
              exact ⟨⟨_, _, rfl, hr.out⟩, rfl⟩
        · have hl1' : decide (1 < (s.size : Int)) = false := by simp; omega
          clear hl1
          go_enter Try.func48, Try.ntmps48
          go_wp2
          go_loopg [4, 5] (s.size) (fun gk n i wr => ∃ k : Nat, n = .int .i64 (pv (s.data.toList.take k) : Nat) ∧ i = .int .i64 k ∧ k ≤ s.size ∧ s.size ≤ gk + k ∧ pv (s.data.toList.take k) ≤ 9223372036854775807 ∧ (∀ c ∈ s.data.toList.take k, isD c = true) ∧ w = wr)
          case atStart => exact ⟨0, rfl, rfl, by omega, by omega, by simp [pv], by simp, rfl⟩
          case round =>
            obtain ⟨k, rfl, rfl, hk, hgk, hpm, hds, rfl⟩ := hrel
            replace hds := Lib.hid hds
            by_cases hlt : k < s.size
            · have htk := take_byte s k hlt
              have hpv : pv (s.data.toList.take (k + 1)) = 10 * pv (s.data.toList.take k) + (s[k].toNat - 48) := by rw [htk, pv_snoc]
              have hmem := Lib.hid (mem_byte s k hlt)
              replace htk := Lib.hid htk
              replace hpv := Lib.hid hpv
              have hgr := Lib.hid (fun h => DigIs.no (no_great (l := s.data.toList) (k := k + 1) h))
              obtain ⟨P, hP⟩ : ∃ P, P = pv (s.data.toList.take k) := ⟨_, rfl⟩
              rw [← hP] at hpm hpv ⊢
              replace hP := Lib.hid hP
              by_cases hc : isD s[k] = true
              · have hc1 : (48 : Int) ≤ (s[k].toNat : Int) := by simp [isD] at hc; omega
                have hc2 : (s[k].toNat : Int) ≤ 57 := by simp [isD] at hc; omega
                replace hc := Lib.hid hc
                by_cases ho1 : (922337203685477580 : Int) < P
                · have hr := Lib.hid (hgr.out (by rw [hpv.out]; omega))
                  go_wp2
                  go_ret2
                  exact ⟨⟨_, _, rfl, hr.out⟩, rfl⟩
                · have ho1' : decide ((922337203685477580 : Int) < P) = false := by simp; omega
                  by_cases ho2 : (P : Int) = 922337203685477580
                  · have ho2' : ((P : Int) == 922337203685477580) = true := by simp [ho2]
                    by_cases ho3 : (55 : Int) < (s[k].toNat : Int)
                    · have hr := Lib.hid (hgr.out (by rw [hpv.out]; omega))
                      replace ho2 := Lib.hid ho2
                      go_wp2
                      go_ret2
                      exact ⟨⟨_, _, rfl, hr.out⟩, rfl⟩
                    · have ho3' : decide ((55 : Int) < (s[k].toNat : Int)) = false := by simp; omega
                      have hnb : 10 * (P : Int) + ((s[k].toNat : Int) - 48) ≤ 9223372036854775807 := by omega
                      have hnew := Lib.hid (show ((pv (s.data.toList.take (k + 1)) : Nat) : Int) = (P : Int) * 10 + ((s[k].toNat : Int) - 48) by rw [hpv.out]; omega)
                      replace ho2 := Lib.hid ho2
                      go_wp2
                      go_roundg (gk - 1)
                      case rel => exact ⟨k + 1, by rw [hnew.out], by go_num, by omega, by omega, by have := hnew.out; omega, by rw [htk.out]; intro c h; rcases List.mem_append.1 h with h | h; exact hds.out c h; rw [List.mem_singleton.1 h]; exact hc.out, rfl⟩
                      case measure => omega
                  · have ho2' : ((P : Int) == 922337203685477580) = false := by simp; omega
                    have hnb : 10 * (P : Int) + ((s[k].toNat : Int) - 48) ≤ 9223372036854775807 := by omega
                    have hnew := Lib.hid (show ((pv (s.data.toList.take (k + 1)) : Nat) : Int) = (P : Int) * 10 + ((s[k].toNat : Int) - 48) by rw [hpv.out]; omega)
                    go_wp2
                    go_roundg (gk - 1)
                    case rel => exact ⟨k + 1, by rw [hnew.out], by go_num, by omega, by omega, by have := hnew.out; omega, by rw [htk.out]; intro c h; rcases List.mem_append.1 h with h | h; exact hds.out c h; rw [List.mem_singleton.1 h]; exact hc.out, rfl⟩
                    case measure => omega
              · have hr := Lib.hid (DigIs.no (no_digit hmem.out (by simpa using hc)))
                have hc1 : (s[k].toNat : Int) < 48 ∨ 57 < (s[k].toNat : Int) := by simp [isD] at hc; omega
                clear hc
                rcases hc1 with hc1 | hc1
                · go_wp2
                  go_ret2
                  exact ⟨⟨_, _, rfl, hr.out⟩, rfl⟩
                · have hc2 : decide ((s[k].toNat : Int) < 48) = false := by simp; omega
                  go_wp2
                  go_ret2
                  exact ⟨⟨_, _, rfl, hr.out⟩, rfl⟩
            · have hk' : k = s.size := by omega
              have hall : s.data.toList.take k = s.data.toList := List.take_of_length_le (by rw [hlen.out]; omega)
              have hr : Hid (DigIs s.data.toList ((pv (s.data.toList.take k) : Nat) : Int) true) := by
                refine .inl ⟨rfl, _, rfl, hpm, ?_⟩
                rw [hall]
                have hds' := hds.out
                rw [hall] at hds'
                exact (dec_pv hds' (by intro h; rw [h] at hlen; have := hlen.out; simp at this; omega) h2.out).symm
              clear hk' hall
              go_wp2
              go_ret2
              exact ⟨⟨_, _, rfl, hr.out⟩, rfl⟩
      · have hr := Lib.hid (DigIs.no (no_lead h2))
        have hz : ((s[0].toNat : Int) == 48) = true := by
          simp only [Lead, not_or] at h2
          rw [hby] at h2
          simp only [List.head?_cons, ne_eq, Option.some.injEq, Decidable.not_not] at h2
          rw [h2.2]; rfl
        have hl1 : 1 < s.size := by simp only [Lead, not_or] at h2; omega
        clear h2 hby hlen h0
        go_enter Try.func48, Try.ntmps48
        go_wp2
        go_ret2
        exact ⟨⟨_, _, rfl, hr.out⟩, rfl⟩
end Go.Proofs.Ytjheegdkngkhaaa
