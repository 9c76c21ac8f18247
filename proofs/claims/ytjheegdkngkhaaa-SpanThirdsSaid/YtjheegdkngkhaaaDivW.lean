/- Walk of math/bits.Div64: it answers quotient and rest. Conditions: the upper word is less than the divisor. Printed by gendiv.py. -/
import Derived.Test.YtjheegdkngkhaaaDivQ2
set_option linter.unusedVariables false
set_option linter.unusedSimpArgs false
set_option linter.unusedSectionVars false
namespace Go.Proofs.Ytjheegdkngkhaaa
open Go.RowKit

set_option maxHeartbeats 8000000 in
theorem Div64_two (hi lo y : Nat) (h0 : 0 < hi) (h1 : hi < y) (h2 : y < 18446744073709551616) (h3 : lo < 18446744073709551616) (w : World) :
    Calls Try.prog 68 #[.int .u64 hi, .int .u64 lo, .int .u64 y] w fun e w' => e = .returned (.tuple #[.int .u64 (((hi * 18446744073709551616 + lo) / y : Nat) : Int), .int .u64 (((hi * 18446744073709551616 + lo) % y : Nat) : Int)]) ∧ Qt w w' := by
  have c1 : ((y : Int) == 0) = false := by simp; omega
  have c2 : decide ((y : Int) ≤ hi) = false := by simp; omega
  have c3 : ((hi : Int) == 0) = false := by simp; omega
  have hLZ := Lib.hid (fun w => Try.bits_LeadingZeros64 y w (by omega) (by omega))
  obtain ⟨s, t, v, a, b, u, l, d1, d0, H⟩ := div_pre hi lo y h0 h1 h2 h3
  have hs := H.hs
  have ht := H.ht
  have ms := H.ms
  have mt := H.mt
  have hv := H.hv
  have hva := H.hva
  have hvb := H.hvb
  have hu := H.hu
  have hl := H.hl
  have hl1 := H.hl1
  have hl0 := H.hl0
  have ha0 : (a : Int) ≠ 0 := by have := H.kv.a1; omega
  obtain ⟨q, r, k, eq1, er1⟩ := dig_start H.kv H.v64 H.uv H.d1b
  replace H := Lib.hid H
  go_enter Try.func68, Try.ntmps68
  go_wp2_with (go_at_call 69; refine (hLZ.out _).mono ?_; rintro e w1 ⟨rfl, hw1⟩; rw [hw1])
  clear hs ht ms mt hv hva hvb hu hl hl1 hl0 eq1 er1 hLZ c1 c2 c3
  go_loopg [15, 16] q (fun gk x y wr => ∃ q r : Nat, x = .int .u64 q ∧ y = .int .u64 r ∧ q ≤ gk ∧ Hid (KAt u v a d1 q r) ∧ Qt w wr)
  case atStart => exact ⟨q, r, rfl, rfl, Nat.le_refl _, k, by (repeat (first | exact Qt.refl _ | assumption | apply Qt.drewN | apply Qt.drew))⟩
  case round =>
    obtain ⟨q, r, rfl, rfl, hg, k, hw⟩ := hrel
    rcases dig_round H.out.kv H.out.uv H.out.d1b k.out with ⟨p, e, tt, t1, t2, tr⟩ | ⟨t1, t2, hE⟩
    · rcases tr with ⟨t3, k', hpq⟩ | ⟨t3, hE⟩
      · rcases tt with tt | ⟨tt, tt'⟩
        · go_wp2
          go_roundg p
          case rel => exact ⟨p, e, rfl, rfl, Nat.le_refl _, k', by (repeat (first | exact Qt.refl _ | assumption | apply Qt.drewN | apply Qt.drew))⟩
          case measure => have := hpq.out; omega
        · go_wp2
          go_roundg p
          case rel => exact ⟨p, e, rfl, rfl, Nat.le_refl _, k', by (repeat (first | exact Qt.refl _ | assumption | apply Qt.drewN | apply Qt.drew))⟩
          case measure => have := hpq.out; omega
      · rcases tt with tt | ⟨tt, tt'⟩
        · have hQ := hE
          obtain ⟨n, hn0⟩ : ∃ n, (u * 4294967296 + d1) % v = n := ⟨_, rfl⟩
          have en := H.out.kv.rest H.out.v64 H.out.kv.pos hQ.out
          rw [hn0] at en
          have hnv : n < v := by rw [← hn0]; exact Nat.mod_lt _ H.out.kv.pos
          have hn := Lib.hid hn0
          clear hn0
          obtain ⟨q2, r2, k2, eq2, er2⟩ := dig_start H.out.kv H.out.v64 hnv H.out.d0b
          have hnv' := Lib.hid hnv
          replace hg := Lib.hid hg
          clear hnv hE
          go_wp2
          clear en eq2 er2
          go_loopg [18, 16] q2 (fun gk x y wr => ∃ q r : Nat, x = .int .u64 q ∧ y = .int .u64 r ∧ q ≤ gk ∧ Hid (KAt n v a d0 q r) ∧ Qt w wr)
          case atStart => exact ⟨q2, r2, rfl, rfl, Nat.le_refl _, k2, by (repeat (first | exact Qt.refl _ | assumption | apply Qt.drewN | apply Qt.drew))⟩
          case round =>
            obtain ⟨q, r, rfl, rfl, hg, k, hw⟩ := hrel
            rcases dig_round H.out.kv hnv'.out H.out.d0b k.out with ⟨p, e, tt, t1, t2, tr⟩ | ⟨t1, t2, hE⟩
            · rcases tr with ⟨t3, k', hpq⟩ | ⟨t3, hE⟩
              · rcases tt with tt | ⟨tt, tt'⟩
                · go_wp2
                  go_roundg p
                  case rel => exact ⟨p, e, rfl, rfl, Nat.le_refl _, k', by (repeat (first | exact Qt.refl _ | assumption | apply Qt.drewN | apply Qt.drew))⟩
                  case measure => have := hpq.out; omega
                · go_wp2
                  go_roundg p
                  case rel => exact ⟨p, e, rfl, rfl, Nat.le_refl _, k', by (repeat (first | exact Qt.refl _ | assumption | apply Qt.drewN | apply Qt.drew))⟩
                  case measure => have := hpq.out; omega
              · rcases tt with tt | ⟨tt, tt'⟩
                · obtain ⟨rr, f1, f2, f3⟩ := div_end H.out hQ.out hn.out hE.out
                  have ms := H.out.ms
                  go_wp2
                  refine bodyPost_ret (v := .tuple #[.int .u64 (((hi * 18446744073709551616 + lo) / y : Nat) : Int), .int .u64 (((hi * 18446744073709551616 + lo) % y : Nat) : Int)]) ?_ rfl ⟨rfl, by (repeat (first | exact Qt.refl _ | assumption | apply Qt.drewN | apply Qt.drew))⟩
                  simp [results, Try.results68, go_sem]
                · skip
                  obtain ⟨rr, f1, f2, f3⟩ := div_end H.out hQ.out hn.out hE.out
                  have ms := H.out.ms
                  go_wp2
                  refine bodyPost_ret (v := .tuple #[.int .u64 (((hi * 18446744073709551616 + lo) / y : Nat) : Int), .int .u64 (((hi * 18446744073709551616 + lo) % y : Nat) : Int)]) ?_ rfl ⟨rfl, by (repeat (first | exact Qt.refl _ | assumption | apply Qt.drewN | apply Qt.drew))⟩
                  simp [results, Try.results68, go_sem]
            · obtain ⟨rr, f1, f2, f3⟩ := div_end H.out hQ.out hn.out hE.out
              have ms := H.out.ms
              go_wp2
              refine bodyPost_ret (v := .tuple #[.int .u64 (((hi * 18446744073709551616 + lo) / y : Nat) : Int), .int .u64 (((hi * 18446744073709551616 + lo) % y : Nat) : Int)]) ?_ rfl ⟨rfl, by (repeat (first | exact Qt.refl _ | assumption | apply Qt.drewN | apply Qt.drew))⟩
              simp [results, Try.results68, go_sem]
        · skip
          have hQ := hE
          obtain ⟨n, hn0⟩ : ∃ n, (u * 4294967296 + d1) % v = n := ⟨_, rfl⟩
          have en := H.out.kv.rest H.out.v64 H.out.kv.pos hQ.out
          rw [hn0] at en
          have hnv : n < v := by rw [← hn0]; exact Nat.mod_lt _ H.out.kv.pos
          have hn := Lib.hid hn0
          clear hn0
          obtain ⟨q2, r2, k2, eq2, er2⟩ := dig_start H.out.kv H.out.v64 hnv H.out.d0b
          have hnv' := Lib.hid hnv
          replace hg := Lib.hid hg
          clear hnv hE
          go_wp2
          clear en eq2 er2
          go_loopg [18, 16] q2 (fun gk x y wr => ∃ q r : Nat, x = .int .u64 q ∧ y = .int .u64 r ∧ q ≤ gk ∧ Hid (KAt n v a d0 q r) ∧ Qt w wr)
          case atStart => exact ⟨q2, r2, rfl, rfl, Nat.le_refl _, k2, by (repeat (first | exact Qt.refl _ | assumption | apply Qt.drewN | apply Qt.drew))⟩
          case round =>
            obtain ⟨q, r, rfl, rfl, hg, k, hw⟩ := hrel
            rcases dig_round H.out.kv hnv'.out H.out.d0b k.out with ⟨p, e, tt, t1, t2, tr⟩ | ⟨t1, t2, hE⟩
            · rcases tr with ⟨t3, k', hpq⟩ | ⟨t3, hE⟩
              · rcases tt with tt | ⟨tt, tt'⟩
                · go_wp2
                  go_roundg p
                  case rel => exact ⟨p, e, rfl, rfl, Nat.le_refl _, k', by (repeat (first | exact Qt.refl _ | assumption | apply Qt.drewN | apply Qt.drew))⟩
                  case measure => have := hpq.out; omega
                · go_wp2
                  go_roundg p
                  case rel => exact ⟨p, e, rfl, rfl, Nat.le_refl _, k', by (repeat (first | exact Qt.refl _ | assumption | apply Qt.drewN | apply Qt.drew))⟩
                  case measure => have := hpq.out; omega
              · rcases tt with tt | ⟨tt, tt'⟩
                · obtain ⟨rr, f1, f2, f3⟩ := div_end H.out hQ.out hn.out hE.out
                  have ms := H.out.ms
                  go_wp2
                  refine bodyPost_ret (v := .tuple #[.int .u64 (((hi * 18446744073709551616 + lo) / y : Nat) : Int), .int .u64 (((hi * 18446744073709551616 + lo) % y : Nat) : Int)]) ?_ rfl ⟨rfl, by (repeat (first | exact Qt.refl _ | assumption | apply Qt.drewN | apply Qt.drew))⟩
                  simp [results, Try.results68, go_sem]
                · skip
                  obtain ⟨rr, f1, f2, f3⟩ := div_end H.out hQ.out hn.out hE.out
                  have ms := H.out.ms
                  go_wp2
                  refine bodyPost_ret (v := .tuple #[.int .u64 (((hi * 18446744073709551616 + lo) / y : Nat) : Int), .int .u64 (((hi * 18446744073709551616 + lo) % y : Nat) : Int)]) ?_ rfl ⟨rfl, by (repeat (first | exact Qt.refl _ | assumption | apply Qt.drewN | apply Qt.drew))⟩
                  simp [results, Try.results68, go_sem]
            · obtain ⟨rr, f1, f2, f3⟩ := div_end H.out hQ.out hn.out hE.out
              have ms := H.out.ms
              go_wp2
              refine bodyPost_ret (v := .tuple #[.int .u64 (((hi * 18446744073709551616 + lo) / y : Nat) : Int), .int .u64 (((hi * 18446744073709551616 + lo) % y : Nat) : Int)]) ?_ rfl ⟨rfl, by (repeat (first | exact Qt.refl _ | assumption | apply Qt.drewN | apply Qt.drew))⟩
              simp [results, Try.results68, go_sem]
    · have hQ := hE
      obtain ⟨n, hn0⟩ : ∃ n, (u * 4294967296 + d1) % v = n := ⟨_, rfl⟩
      have en := H.out.kv.rest H.out.v64 H.out.kv.pos hQ.out
      rw [hn0] at en
      have hnv : n < v := by rw [← hn0]; exact Nat.mod_lt _ H.out.kv.pos
      have hn := Lib.hid hn0
      clear hn0
      obtain ⟨q2, r2, k2, eq2, er2⟩ := dig_start H.out.kv H.out.v64 hnv H.out.d0b
      have hnv' := Lib.hid hnv
      replace hg := Lib.hid hg
      clear hnv hE
      go_wp2
      clear en eq2 er2
      go_loopg [18, 16] q2 (fun gk x y wr => ∃ q r : Nat, x = .int .u64 q ∧ y = .int .u64 r ∧ q ≤ gk ∧ Hid (KAt n v a d0 q r) ∧ Qt w wr)
      case atStart => exact ⟨q2, r2, rfl, rfl, Nat.le_refl _, k2, by (repeat (first | exact Qt.refl _ | assumption | apply Qt.drewN | apply Qt.drew))⟩
      case round =>
        obtain ⟨q, r, rfl, rfl, hg, k, hw⟩ := hrel
        rcases dig_round H.out.kv hnv'.out H.out.d0b k.out with ⟨p, e, tt, t1, t2, tr⟩ | ⟨t1, t2, hE⟩
        · rcases tr with ⟨t3, k', hpq⟩ | ⟨t3, hE⟩
          · rcases tt with tt | ⟨tt, tt'⟩
            · go_wp2
              go_roundg p
              case rel => exact ⟨p, e, rfl, rfl, Nat.le_refl _, k', by (repeat (first | exact Qt.refl _ | assumption | apply Qt.drewN | apply Qt.drew))⟩
              case measure => have := hpq.out; omega
            · go_wp2
              go_roundg p
              case rel => exact ⟨p, e, rfl, rfl, Nat.le_refl _, k', by (repeat (first | exact Qt.refl _ | assumption | apply Qt.drewN | apply Qt.drew))⟩
              case measure => have := hpq.out; omega
          · rcases tt with tt | ⟨tt, tt'⟩
            · obtain ⟨rr, f1, f2, f3⟩ := div_end H.out hQ.out hn.out hE.out
              have ms := H.out.ms
              go_wp2
              refine bodyPost_ret (v := .tuple #[.int .u64 (((hi * 18446744073709551616 + lo) / y : Nat) : Int), .int .u64 (((hi * 18446744073709551616 + lo) % y : Nat) : Int)]) ?_ rfl ⟨rfl, by (repeat (first | exact Qt.refl _ | assumption | apply Qt.drewN | apply Qt.drew))⟩
              simp [results, Try.results68, go_sem]
            · skip
              obtain ⟨rr, f1, f2, f3⟩ := div_end H.out hQ.out hn.out hE.out
              have ms := H.out.ms
              go_wp2
              refine bodyPost_ret (v := .tuple #[.int .u64 (((hi * 18446744073709551616 + lo) / y : Nat) : Int), .int .u64 (((hi * 18446744073709551616 + lo) % y : Nat) : Int)]) ?_ rfl ⟨rfl, by (repeat (first | exact Qt.refl _ | assumption | apply Qt.drewN | apply Qt.drew))⟩
              simp [results, Try.results68, go_sem]
        · obtain ⟨rr, f1, f2, f3⟩ := div_end H.out hQ.out hn.out hE.out
          have ms := H.out.ms
          go_wp2
          refine bodyPost_ret (v := .tuple #[.int .u64 (((hi * 18446744073709551616 + lo) / y : Nat) : Int), .int .u64 (((hi * 18446744073709551616 + lo) % y : Nat) : Int)]) ?_ rfl ⟨rfl, by (repeat (first | exact Qt.refl _ | assumption | apply Qt.drewN | apply Qt.drew))⟩
          simp [results, Try.results68, go_sem]

theorem Div64_any (hi lo y : Nat) (h1 : hi < y) (h2 : y < 18446744073709551616) (h3 : lo < 18446744073709551616) (w : World) :
    Calls Try.prog 68 #[.int .u64 hi, .int .u64 lo, .int .u64 y] w fun e w' => e = .returned (.tuple #[.int .u64 (((hi * 18446744073709551616 + lo) / y : Nat) : Int), .int .u64 (((hi * 18446744073709551616 + lo) % y : Nat) : Int)]) ∧ Qt w w' := by
  by_cases h0 : hi = 0
  · subst h0
    have c1 : ((y : Int) == 0) = false := by simp; omega
    have c2 : decide ((y : Int) ≤ 0) = false := by simp; omega
    have c3 : (y : Int) ≠ 0 := by omega
    have e1 : IntKind.u64.wrap ((lo : Int) / y) = ((lo / y : Nat) : Int) := by
      rw [← Int.natCast_ediv]
      exact wrapN64 (Nat.lt_of_le_of_lt (Nat.div_le_self _ _) h3)
    have e2 : (lo : Int) % y = ((lo % y : Nat) : Int) := (Int.natCast_emod lo y).symm
    rw [Nat.zero_mul, Nat.zero_add]
    generalize lo / y = A at *
    generalize lo % y = B at *
    have c4 : y ≠ 0 := by omega
    go_enter Try.func68, Try.ntmps68
    go_wp2
    go_quiet (fail)
    go_wp2
    refine bodyPost_ret (v := .tuple #[.int .u64 A, .int .u64 B]) ?_ rfl ⟨rfl, by (repeat (first | exact Qt.refl _ | assumption | apply Qt.drewN | apply Qt.drew))⟩
    simp [results, Try.results68, go_sem]
    exact e2
  · exact Div64_two hi lo y (Nat.pos_of_ne_zero h0) h1 h2 h3 w
end Go.Proofs.Ytjheegdkngkhaaa
