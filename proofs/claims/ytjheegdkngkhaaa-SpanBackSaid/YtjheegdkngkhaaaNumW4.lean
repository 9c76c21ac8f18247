/- Walks of the reference's quotient and greatest divisor. -/
import Derived.Test.YtjheegdkngkhaaaNumW3
set_option linter.unusedVariables false
set_option linter.unusedSimpArgs false
set_option linter.unusedSectionVars false
namespace Go.Proofs.Ytjheegdkngkhaaa
open Go.RowKit

theorem icmp_le (x y : Int) : icmp x y ≤ 0 ↔ x ≤ y := by unfold icmp; split <;> (try split) <;> omega

set_option maxRecDepth 100000 in
set_option maxHeartbeats 4000000 in
theorem Div_any {a b : Nat} {v u : Value} {w : World} (hv : IsN w v a) (hu : IsN w u b) (hb : 0 < b) (hla : (dg a).length ≤ 1000) (hlb : (dg b).length ≤ 900) :
    Calls Try.prog 58 #[v, u] w fun e w' => (∃ vq vr, e = .returned (.tuple #[vq, vr]) ∧ IsN w' vq (a / b) ∧ IsN w' vr (a % b)) ∧ Ex w w' := by
  obtain ⟨p, c, rfl, h1⟩ := hv
  have hda := dig_dg a
  have hdone := fun q r (h : DivAt (dg a) b 0 q r) => DivAt.done h
  have hia := fun (i : Nat) (hi : i < (dg a).length) => run_indexAt_sl Try.underlying49 Try.sizeOf3 c i h1.base hi
  have HD := Lib.hid hdone
  have H1 := Lib.hid h1
  have IA := Lib.hid hia
  clear h1 hdone hia
  generalize dg a = la at *
  go_enter Try.func58, Try.ntmps58
  go_wp2_with (at_make; refine wpList_make1 Try.underlying49 int_info (Ex.refl w) la.length (by omega) (L := (la.length : Int)) (C := (la.length : Int)) rfl rfl (h := ?_); intro w0 hown0 hx0 hlt0)
  go_loopw [7, 8, 9, 10, 11] (fun sr i _ _ _ wr => ∃ (k r : Nat) (q : List Int), k ≤ la.length ∧ i = .int .i64 (k - 1) ∧ IsN wr sr r ∧ DivAt la b k q r ∧ wr.ownsRow w.heap.size 3 1 (.slice (some ⟨w.heap.size, 0, none⟩) la.length la.length) la.length (q.map (Value.int .i64)) ∧ Ex w wr) (fun _ i _ _ _ _ => (intOf i + 1).toNat)
  case atStart => exact ⟨la.length, 0, List.replicate la.length 0, Nat.le_refl _, rfl, ⟨none, 0, by simp [dg_zero], by simpa [dg_zero] using IsL.nil w0 1⟩, DivAt.start _ hb, by simpa using hown0, hx0⟩
  case round =>
    obtain ⟨k, r, q, hk, rfl, hr, hD, hown, hx⟩ := hrel
    cases k with
    | zero =>
      have hlo := hD.len
      have hval := Lib.hid (HD.out q r hD)
      have hd := Lib.hid hD.dig
      rw [← hlo] at hown
      have hown2 := Lib.hid (IsI.of_owns hown)
      rw [hlo] at hown2
      have hr := Lib.hid hr
      clear hD hlo hown
      go_wp2_with (go_at_call 60; refine (trimN_any hown2.out hd.out).mono ?_; rintro e w_ ⟨⟨v', rfl, hv'⟩, rfl⟩)
      refine bodyPost_ret (v := .tuple #[v', u7]) (by simp [results, Try.results58, go_sem]) rfl ⟨⟨v', u7, rfl, ?_, ?_⟩, hx⟩
      · rw [hval.out.1, Int.toNat_natCast] at hv'; exact hv'
      · rw [← hval.out.2]; exact hr.out
    | succ k =>
      have hlt : k < la.length := by omega
      have hiak := IA.out k hlt
      have hfk := (H1.out.mono hx).int k hlt
      have hga := hda.getD k
      have hst := Lib.hid (fun r1 => @DivAt.step la b k q r r1 hD hlt hda)
      have e1 : ((k + 1 : Nat) : Int) - 1 = k := by omega
      have hrl : (dg r).length ≤ 900 := Nat.le_trans (len_dg_mono (Nat.le_of_lt hD.lt)) hlb
      have hrb := hD.lt
      obtain ⟨ga0, ga1⟩ := hga
      generalize la.getD k 0 = f at *
      obtain ⟨pr, cr, rfl, hr1⟩ := hr
      have HR := Lib.hid hr1
      have HB := Lib.hid (hu.mono hx)
      clear hD hr1
      generalize wr = wo at *
      have hn1 := Lib.hid (owns_new (Ex.refl wo) #[.int .i64 f] 1 rfl (e := 3))
      go_wp2_with (at_builtin; refine wpList_appendL Try.underlying49 int_info hn1.out (Ex.refl wo).alloc (HR.out.mono (Ex.refl _).alloc) (by simp [Value.oneCell']) (by omega) (h := ?_); intro v1 w1 hown1 hx1 hgrow1)
      have hxo : Ex wo w1 := hx1
      have hx1 : Ex w w1 := Ex.call hx hxo
      have hownv : w1.ownsRow wo.heap.size 3 1 v1 (f :: dg r).length ((f :: dg r).map (Value.int .i64)) := by have := hown1; rw [Nat.add_comm] at this; simpa using this
      have hI : IsI w1 v1 (f :: dg r) := IsI.of_owns hownv
      have hown2 := owns_mono hown hxo
      refine (trim_any hI (Dig.cons ⟨ga0, ga1⟩ (dig_dg r))).mono ?_
      rintro e w_ ⟨⟨v2, rfl, _, hvx⟩, rfl⟩
      have hv2 := hvx w1 hI
      have er : (val (f :: dg r)).toNat = f.toNat + 10000 * r := by simp only [val, val_dg]; omega
      rw [er] at hv2 hvx
      obtain ⟨r1, hr1⟩ : ∃ r1, r1 = f.toNat + 10000 * r := ⟨_, rfl⟩
      rw [← hr1] at hv2 hvx
      obtain ⟨hq9, hD2⟩ := hst.out r1 hr1
      obtain ⟨qq, hqq⟩ : ∃ qq, qq = r1 / b := ⟨_, rfl⟩
      rw [← hqq] at hq9 hD2
      have hr1l : (dg r1).length ≤ 1000 := by
        have h1 : r1 < 10000 * b := by omega
        have h2 : dg (10000 * b) = 0 :: dg b := by
          rw [dg_pos (by omega)]; simp
        have := len_dg_mono (Nat.le_of_lt h1)
        rw [h2] at this
        simp at this; omega
      have hB1 := Lib.hid (HB.out.mono hxo)
      have hV2 := Lib.hid hv2
      have HD2 := Lib.hid hD2
      have HO2 := Lib.hid hown2
      have HX1 := Lib.hid hx1
      have HVX := Lib.hid hvx
      have HOV := Lib.hid hownv
      have HSZ := Lib.hid (show w.heap.size < wo.heap.size by have := (hown.lt _ rfl).2; omega)
      have HQ := Lib.hid hqq
      clear hqq hvx hownv hv2 hD2 hown2 hown hown1 hgrow1 hI hx hr1 er hxo
      go_wp2_with fail
      go_loopw [9, 10, 11] (fun lo hi _ wq => ∃ l h : Nat, lo = .int .i64 l ∧ hi = .int .i64 h ∧ l ≤ qq ∧ qq ≤ h ∧ h ≤ 9999 ∧ Ex w1 wq) (fun lo hi _ _ => (intOf hi).toNat - (intOf lo).toNat)
      case atStart => exact ⟨0, 9999, rfl, rfl, by omega, by omega, by omega, Ex.refl _⟩
      case round =>
        obtain ⟨l, h, rfl, rfl, hl, hh, h9, hxq⟩ := hrel
        by_cases hlh : l < h
        · go_wp2_with fail
          refine (FromI_any _ (by omega) (by omega) _).mono ?_
          rintro e w2 ⟨⟨v3, rfl, hv3⟩, hx2⟩
          have em : (((l : Int) + h + 1) / 2).toNat = (l + h + 1) / 2 := by omega
          rw [em] at hv3
          obtain ⟨m, hm⟩ : ∃ m, m = (l + h + 1) / 2 := ⟨_, rfl⟩
          rw [← hm] at hv3
          have hv3 := Lib.hid hv3
          have hx2 := Lib.hid hx2
          clear em
          go_wp2_with fail
          refine (Mul_any hv3.out (hB1.out.mono (Ex.call hxq hx2.out)) (Nat.le_trans (dg_len (k := 1) (by omega)) (by omega)) (by omega)).mono ?_
          rintro e w3 ⟨⟨v4, rfl, hv4⟩, hx3⟩
          have hv4 := Lib.hid hv4
          have hx3 := Lib.hid hx3
          go_wp2_with fail
          refine (NCmp_any hv4.out (hV2.out.mono (Ex.call (Ex.call hxq hx2.out) hx3.out))).mono ?_
          rintro e w4 ⟨rfl, n4, rfl⟩
          have hmb : icmp ((m * b : Nat) : Int) r1 ≤ 0 ↔ m ≤ qq := by rw [HQ.out, icmp_le, Nat.le_div_iff_mul_le hb]; omega
          have em2 : ((l : Int) + h + 1) / 2 = m := by omega
          have em3 : l < m ∧ m ≤ h := by omega
          have em2 := Lib.hid em2
          have HM := Lib.hid hm
          clear hm
          generalize icmp ((m * b : Nat) : Int) r1 = ic at *
          by_cases hc : m ≤ qq
          · have hc1 := hmb.2 hc
            clear hmb
            go_wp2_with fail
            go_roundw
            case rel => exact ⟨m, h, rfl, rfl, hc, hh, h9, Ex.call hxq (Ex.call hx2.out (Ex.drewN hx3.out))⟩
            case measure => simp [intOf]; omega
          · have hc1 : ¬ ic ≤ 0 := fun hh => hc (hmb.1 hh)
            clear hmb
            go_wp2_with fail
            go_roundw
            case rel => exact ⟨l, m - 1, rfl, by go_num, hl, by omega, by omega, Ex.call hxq (Ex.call hx2.out (Ex.drewN hx3.out))⟩
            case measure => simp [intOf]; omega
        · have hlq : l = qq := by omega
          subst hlq
          have hO := owns_mono HO2.out hxq
          have hlo := HD2.out.len
          simp only [List.length_set] at hlo
          have hok := owns_int hO (by simpa using hlo) hlt
          have hfr := hO.frozenAt k
          have hO3 := Lib.hid (owns_stored hO k (l : Int))
          clear hO
          have hxs := Lib.hid (fun u => (Ex.call HX1.out hxq).setCell (p := ⟨w.heap.size, k, none⟩) (Nat.le_refl _) u)
          have hovx := Lib.hid (fun u => IsI.of_owns (ownsRow_setCell_below (owns_mono HOV.out hxq) (a := ⟨w.heap.size, k, none⟩) HSZ.out u))
          go_wp2_with fail
          refine (FromI_any _ (by omega) (by omega) _).mono ?_
          rintro e w2 ⟨⟨v3, rfl, hv3⟩, hx2⟩
          rw [Int.toNat_natCast] at hv3
          have hxw := Lib.hid (Ex.call (hxs.out _) hx2)
          have hvr := HVX.out _ ((hovx.out _).mono hx2)
          have hO4 := Lib.hid (owns_mono hO3.out hx2)
          go_wp2_with fail
          refine (Mul_any hv3 (hu.mono hxw.out) (Nat.le_trans (dg_len (k := 1) (by omega)) (by omega)) (by omega)).mono ?_
          rintro e w3 ⟨⟨v4, rfl, hv4⟩, hx3⟩
          have hvr3 := hvr.mono hx3
          go_wp2_with fail
          refine (NSub_any hvr3 hv4 (by rw [HQ.out]; exact Nat.div_mul_le_self _ _) (by omega)).mono ?_
          rintro e w4 ⟨⟨v5, rfl, hv5⟩, hx4⟩
          have hO5 := Lib.hid (owns_mono hO4.out (Ex.call hx3 hx4))
          have hxw4 := Lib.hid (Ex.call hxw.out (Ex.call hx3 hx4))
          have e5 : r1 - l * b = r1 % b := by have := Nat.div_add_mod r1 b; rw [← HQ.out, Nat.mul_comm] at this; omega
          rw [e5] at hv5
          have hv5' := Lib.hid hv5
          clear e5 hv5 hv4 hvr hvr3 hx2 hx3 hx4 hv3
          go_wp2_with fail
          go_roundw
          case rel => exact ⟨k, r1 % b, q.set k (l : Int), by omega, by go_num, hv5'.out, HD2.out, hO5.out, hxw4.out⟩
          case measure => simp [intOf]
end Go.Proofs.Ytjheegdkngkhaaa
