/- Walks of the reference's numbers: what stands in no memory of its own. -/
import Derived.Test.YtjheegdkngkhaaaNumP
set_option linter.unusedVariables false
set_option linter.unusedSimpArgs false
set_option linter.unusedSectionVars false
namespace Go.Proofs.Ytjheegdkngkhaaa
open Go.RowKit

theorem NCmp_same (p q : Option Addr) (n c c' : Nat) (f g : Nat → Int) (w : World) (hn : n ≤ maxLen) (hp : 0 < n → p ≠ none) (hq : 0 < n → q ≠ none)
    (hf : ∀ i, i < n → w.cell? (Ad p i) = some (.int .i64 (f i))) (hg : ∀ i, i < n → w.cell? (Ad q i) = some (.int .i64 (g i))) :
    Calls Try.prog 36 #[.slice p n c, .slice q n c'] w fun e w' => e = .returned (.int .i64 (cmpDown f g n)) ∧ Qt w w' := by
  unfold maxLen at hn
  have hia := fun (i : Nat) (hi : i < n) => run_indexAt_sl Try.underlying49 Try.sizeOf3 c i hp hi
  have hib := fun (i : Nat) (hi : i < n) => run_indexAt_sl Try.underlying49 Try.sizeOf3 c' i hq hi
  clear hp hq
  go_enter Try.func36, Try.ntmps36
  go_wp2
  go_loopw [4, 5] (fun r i wr => ∃ k : Nat, k ≤ n ∧ r = .int .i64 0 ∧ i = .int .i64 (k - 1) ∧ Hid (cmpDown f g n = cmpDown f g k) ∧ Qt w wr) (fun _ i _ => (intOf i + 1).toNat)
  case atStart => exact ⟨n, Nat.le_refl _, rfl, rfl, rfl, Qt.refl _⟩
  case round =>
    obtain ⟨k, hk, rfl, rfl, hc, m, rfl⟩ := hrel
    cases k with
    | zero =>
      go_wp2
      go_ret
      exact ⟨ret_int hc.out.symm, m, rfl⟩
    | succ k =>
      have e1 : ((k + 1 : Nat) : Int) - 1 = k := by omega
      have hfk := hf k (by omega)
      have hgk := hg k (by omega)
      have hlt : k < n := by omega
      by_cases h1 : f k < g k
      · have hs : Hid (cmpDown f g (k + 1) = -1) := by show _ = _; simp [cmpDown, h1]
        go_wp2
        go_quiet (fail)
        go_wp2
        go_ret
        exact ⟨ret_int (by rw [hc.out, hs.out]), by (repeat (first | exact Qt.refl _ | assumption | apply Qt.drewN | apply Qt.drew))⟩
      · by_cases h2 : g k < f k
        · have hs : Hid (cmpDown f g (k + 1) = 1) := by show _ = _; simp [cmpDown, h1, h2]
          go_wp2
          go_quiet (fail)
          go_wp2
          go_quiet (fail)
          go_wp2
          go_ret
          exact ⟨ret_int (by rw [hc.out, hs.out]), by (repeat (first | exact Qt.refl _ | assumption | apply Qt.drewN | apply Qt.drew))⟩
        · have hs : Hid (cmpDown f g (k + 1) = cmpDown f g k) := by show _ = _; simp [cmpDown, h1, h2]
          go_wp2
          go_quiet (fail)
          go_wp2
          go_quiet (fail)
          go_wp2
          go_roundw
          case rel => exact ⟨k, by omega, rfl, by go_num, by show _ = _; rw [hc.out, hs.out], by (repeat (first | exact Qt.refl _ | assumption | apply Qt.drewN | apply Qt.drew))⟩
          case measure => simp [intOf]

theorem NCmp_lens (p q : Option Addr) (n m c c' : Nat) (w : World) (_hn : n ≤ maxLen) (_hm : m ≤ maxLen) (hne : n ≠ m) :
    Calls Try.prog 36 #[.slice p n c, .slice q m c'] w fun e w' => e = .returned (.int .i64 (if n < m then -1 else 1)) ∧ Qt w w' := by
  unfold maxLen at _hn _hm
  by_cases h : n < m
  · go_enter Try.func36, Try.ntmps36
    go_wp2
    go_ret
    exact ⟨ret_int (by simp), by (repeat (first | exact Qt.refl _ | assumption | apply Qt.drewN | apply Qt.drew))⟩
  · have h2 : m < n := by omega
    go_enter Try.func36, Try.ntmps36
    go_wp2
    go_ret
    exact ⟨ret_int (by simp), by (repeat (first | exact Qt.refl _ | assumption | apply Qt.drewN | apply Qt.drew))⟩

theorem NCmp_any {a b : Nat} {v u : Value} {w : World} (hv : IsN w v a) (hu : IsN w u b) :
    Calls Try.prog 36 #[v, u] w fun e w' => e = .returned (.int .i64 (icmp a b)) ∧ Qt w w' := by
  obtain ⟨p, c, rfl, h1⟩ := hv
  obtain ⟨q, c', rfl, h2⟩ := hu
  by_cases h : (dg a).length = (dg b).length
  · rw [← h] at h2 ⊢
    refine (NCmp_same p q _ c c' _ _ w h1.max h1.base h2.base h1.int h2.int).mono ?_
    rintro e w' ⟨rfl, hw⟩
    exact ⟨ret_int (cmp_dg_len h), hw⟩
  · refine (NCmp_lens p q _ _ c c' w h1.max h2.max h).mono ?_
    rintro e w' ⟨rfl, hw⟩
    refine ⟨ret_int ?_, hw⟩
    by_cases h3 : (dg a).length < (dg b).length
    · rw [if_pos h3, cmp_dg_lt h3]
    · rw [if_neg h3, cmp_dg_gt (by omega)]

theorem Int_any {a : Nat} {v : Value} {w : World} (hv : IsN w v a) (ha : a ≤ 9223372036854775807) :
    Calls Try.prog 62 #[v] w fun e w' => e = .returned (.int .i64 a) ∧ w = w' := by
  obtain ⟨p, c, rfl, h1⟩ := hv
  have hd := dig_dg a
  have hva := val_dg a
  generalize dg a = l at *
  have hn := h1.max
  have hp := h1.base
  have hf := h1.int
  clear h1
  unfold maxLen at hn
  have hia := fun (i : Nat) (hi : i < l.length) => run_indexAt_sl Try.underlying49 Try.sizeOf3 c i hp hi
  clear hp
  replace hva := Lib.hid hva
  go_enter Try.func62, Try.ntmps62
  go_wp2
  go_loop [3, 4] (fun r i => ∃ k : Nat, k ≤ l.length ∧ r = .int .i64 (val (l.drop k)) ∧ i = .int .i64 (k - 1)) (fun _ i => (intOf i + 1).toNat)
  case atStart => exact ⟨l.length, Nat.le_refl _, by simp [val], rfl⟩
  case round =>
    obtain ⟨k, hk, rfl, rfl⟩ := hrel
    cases k with
    | zero =>
      go_wp2
      go_ret
      exact ⟨ret_int (by simp [hva.out]), rfl⟩
    | succ k =>
      have e1 : ((k + 1 : Nat) : Int) - 1 = k := by omega
      have hfk := hf k (by omega)
      have hlt : k < l.length := by omega
      have hs := Lib.hid (val_drop hlt)
      have hb0 : 0 ≤ val (l.drop (k + 1)) := val_nonneg fun d h => hd d (List.mem_of_mem_drop h)
      have hb1 : l.getD k 0 + 10000 * val (l.drop (k + 1)) ≤ 9223372036854775807 := by rw [← hs.out]; have := val_drop_le k hd; rw [hva.out] at this; omega
      have hg := hd.getD k
      obtain ⟨hg1, hg2⟩ := hg
      have hw1 : val (l.drop (k + 1)) * 10000 ≤ 9223372036854775807 := by omega
      clear hf
      generalize l.getD k 0 = d at *
      go_wp2
      go_round
      case rel => exact ⟨k, by omega, by rw [hs.out]; go_num, by go_num⟩
      case measure => simp [intOf]

/-- Where a slice begins. -/
def baseOf : Value → Option Addr
  | .slice p _ _ => p
  | _ => none
/-- A slice of a new block, or none. -/
def Fresh (w : World) (v : Value) : Prop := ∀ a, baseOf v = some a → w.heap.size ≤ a.block ∧ a.spot = none
theorem Fresh.of_owns {w w' : World} {e : TypeId} {size n : Nat} {v : Value} {xs : List Value} (h : w'.ownsRow w.heap.size e size v n xs) : Fresh w v := by
  intro a ha
  rcases h.2 with ⟨rfl, _⟩ | ⟨g, cap, cur, rfl, hb, _⟩
  · cases ha
  · cases ha; exact ⟨hb, rfl⟩
theorem Fresh.base {w : World} {v u : Value} (h : Fresh w v) (e : baseOf u = baseOf v) : Fresh w u := fun a ha => h a (e ▸ ha)
theorem trim_any {l : List Int} {v : Value} {w : World} (hv : IsI w v l) (hd : Dig l) :
    Calls Try.prog 60 #[v] w fun e w' => (∃ v', e = .returned v' ∧ baseOf v' = baseOf v ∧ ∀ wx, IsI wx v l → IsN wx v' (val l).toNat) ∧ w = w' := by
  obtain ⟨p, c, rfl, h1⟩ := hv
  have hn := h1.max
  have hr := h1.room
  have hp := h1.base
  have hf := h1.int
  unfold maxLen at hn
  have hia := fun (k : Nat) (hk : k ≤ l.length) (i : Nat) (hi : i < k) => run_indexAt_sl Try.underlying49 Try.sizeOf3 (n := k) c i (fun _ => hp (by omega)) hi
  clear hp
  clear h1
  go_enter Try.func60, Try.ntmps60
  go_wp2
  go_loop [0] (fun s => ∃ k : Nat, k ≤ l.length ∧ s = .slice p k c ∧ Hid (val (l.take k) = val l)) (fun s => match s with | .slice _ k _ => k | _ => 0)
  case atStart => exact ⟨l.length, Nat.le_refl _, rfl, by show _ = _; simp⟩
  case round =>
    obtain ⟨k, hk, rfl, hv⟩ := hrel
    cases k with
    | zero =>
      go_wp2
      go_ret
      refine ⟨⟨_, rfl, rfl, fun wx hwx => ?_⟩, rfl⟩
      rw [← hv.out]
      have := IsI.take' hwx hk
      simpa [IsN, val, dg_zero] using this
    | succ k =>
      have hik := hia (k + 1) hk k (by omega)
      have hfk := hf k (by omega)
      have hs := Lib.hid (val_take (l := l) (k := k) hk)
      have hcn := Lib.hid (canon_take (l := l) (k := k) hk)
      clear hia hf
      generalize l.getD k 0 = d at *
      by_cases h0 : d = 0
      · subst h0
        go_wp2
        go_round
        case rel => exact ⟨k, by omega, rfl, by show _ = _; rw [← hv.out, hs.out]; simp⟩
        case measure => simp
      · have h0' : (d == 0) = false := by simp [h0]
        go_wp2
        go_ret
        refine ⟨⟨_, rfl, rfl, fun wx hwx => ?_⟩, rfl⟩
        have := IsI.take' hwx hk
        show IsI wx _ (dg (val l).toNat)
        rw [← hv.out, dg_val (hd.take _) (hcn.out h0)]
        exact this

theorem trimN_any {l : List Int} {v : Value} {w : World} (hv : IsI w v l) (hd : Dig l) :
    Calls Try.prog 60 #[v] w fun e w' => (∃ v', e = .returned v' ∧ IsN w' v' (val l).toNat) ∧ w = w' :=
  (trim_any hv hd).mono fun _ _ ⟨⟨v', he, _, h⟩, hw⟩ => ⟨⟨v', he, hw ▸ h w hv⟩, hw⟩
theorem trimF_any {l : List Int} {v : Value} {w : World} (hv : IsI w v l) (hd : Dig l) :
    Calls Try.prog 60 #[v] w fun e w' => (∃ v', e = .returned v' ∧ baseOf v' = baseOf v ∧ IsN w' v' (val l).toNat) ∧ w = w' :=
  (trim_any hv hd).mono fun _ _ ⟨⟨v', he, hb, h⟩, hw⟩ => ⟨⟨v', he, hb, hw ▸ h w hv⟩, hw⟩
end Go.Proofs.Ytjheegdkngkhaaa
