/- Walk of the reference's product. -/
import Derived.Test.YtjheegdkngkhaaaNumW2
set_option linter.unusedVariables false
set_option linter.unusedSimpArgs false
set_option linter.unusedSectionVars false
namespace Go.Proofs.Ytjheegdkngkhaaa
open Go.RowKit

theorem mul_dig {x y : Int} (hx : 0 ≤ x ∧ x < 10000) (hy : 0 ≤ y ∧ y < 10000) : 0 ≤ x * y ∧ x * y ≤ 99980001 := by
  refine ⟨Int.mul_nonneg hx.1 hy.1, ?_⟩
  have h1 := Int.mul_le_mul_of_nonneg_left (show y ≤ 9999 by omega) hx.1
  have h2 := Int.mul_le_mul_of_nonneg_right (show x ≤ 9999 by omega) (show (0 : Int) ≤ 9999 by decide)
  omega

set_option maxHeartbeats 2000000 in
theorem Mul_fresh {a b : Nat} {v u : Value} {w : World} (hv : IsN w v a) (hu : IsN w u b) (hla : (dg a).length ≤ 1000) (hlb : (dg b).length ≤ 1000) :
    Calls Try.prog 40 #[v, u] w fun e w' => (∃ v', e = .returned v' ∧ IsN w' v' (a * b) ∧ Fresh w v') ∧ Ex w w' := by
  obtain ⟨p, c, rfl, h1⟩ := hv
  obtain ⟨q, c', rfl, h2⟩ := hu
  have hda := dig_dg a
  have hdb := dig_dg b
  have hdone := fun out (h : MulAt (dg a) (dg b) (dg a).length out) => MulAt.done h
  have hia := fun (i : Nat) (hi : i < (dg a).length) => run_indexAt_sl Try.underlying49 Try.sizeOf3 c i h1.base hi
  have hib := fun (i : Nat) (hi : i < (dg b).length) => run_indexAt_sl Try.underlying49 Try.sizeOf3 c' i h2.base hi
  have HD := Lib.hid hdone
  have H1 := Lib.hid h1
  have H2 := Lib.hid h2
  have IA := Lib.hid hia
  have IB := Lib.hid hib
  clear h1 h2 hdone hia hib
  generalize dg a = la at *
  generalize dg b = lb at *
  go_enter Try.func40, Try.ntmps40
  go_wp2_with (at_make; refine wpList_make1 Try.underlying49 int_info (Ex.refl w) (la.length + lb.length + 1) (by omega) (L := (la.length : Int) + lb.length + 1) (C := (la.length : Int) + lb.length + 1) (by omega) (by omega) (h := ?_); intro w0 hown0 hx0 hlt0)
  go_loopw [6, 7, 8, 9] (fun i _ _ _ wr => ∃ (j : Nat) (out : List Int), j ≤ la.length ∧ i = .int .i64 j ∧ MulAt la lb j out ∧ wr.ownsRow w.heap.size 3 1 (.slice (some ⟨w.heap.size, 0, none⟩) (la.length + lb.length + 1) (la.length + lb.length + 1)) (la.length + lb.length + 1) (out.map (Value.int .i64)) ∧ Ex w wr) (fun i _ _ _ _ => la.length - (intOf i).toNat)
  case atStart => exact ⟨0, List.replicate (la.length + lb.length + 1) 0, Nat.zero_le _, rfl, MulAt.start _ _, by simpa using hown0, hx0⟩
  case round =>
    obtain ⟨i, out, hi, rfl, hM, hown, hx⟩ := hrel
    by_cases hlt : i < la.length
    · have hiak := IA.out i hlt
      have hga := hda.getD i
      have hfa := fun {wx : World} (hwx : Ex w wx) => (H1.out.mono hwx).int i hlt
      have HI := Lib.hid hM.into
      have hin := Lib.hid (fun (k : Nat) (c : Int) (o : List Int) (h : InAt la lb i k c o) => h.room hda hdb hlt)
      have HFA := Lib.hid (fun (wx : World) (hwx : Ex w wx) => hfa hwx)
      have hout := Lib.hid (fun (k : Nat) (o : List Int) (h : InAt la lb i k 0 o) => InAt.out h hlt)
      have hstep := Lib.hid (fun k carry d x c' o => @InAt.step la lb i k carry d x c' o)
      clear hfa hM
      obtain ⟨wo, rfl⟩ : ∃ wo : World, wo = wr := ⟨_, rfl⟩
      generalize la.getD i 0 = f at *
      go_wp2
      go_loopw [7, 8, 9] (fun cy kk _ wq => ∃ (k : Nat) (carry : Int) (out : List Int), k ≤ lb.length + 1 ∧ cy = .int .i64 carry ∧ kk = .int .i64 k ∧ 0 ≤ carry ∧ carry < 10000 ∧ InAt la lb i k carry out ∧ wq.ownsRow w.heap.size 3 1 (.slice (some ⟨w.heap.size, 0, none⟩) (la.length + lb.length + 1) (la.length + lb.length + 1)) (la.length + lb.length + 1) (out.map (Value.int .i64)) ∧ Ex w wq) (fun _ kk _ _ => lb.length + 1 - (intOf kk).toNat)
      case atStart => exact ⟨0, 0, out, by omega, rfl, rfl, by omega, by omega, HI.out, hown, hx⟩
      case round =>
        obtain ⟨k, carry, o, hk, rfl, rfl, hc0, hc1, hI, hown1, hx1⟩ := hrel
        have hfk := HFA.out _ hx1
        by_cases hkm : k < lb.length
        · obtain ⟨hr1, hr2⟩ := hin.out _ _ _ hI (.inl hkm)
          have hlo := hI.len
          have hgk := (H2.out.mono hx1).int k hkm
          have hibk := IB.out k hkm
          have hok := owns_int hown1 hlo (j := i + k) (by omega)
          have hfr := hown1.frozenAt (i + k)
          have hgb := hdb.getD k
          have hgo := hI.dig.getD (i + k)
          have hst := Lib.hid (fun d x c' => hstep.out k carry d x c' o hI hr2)
          have hmd := mul_dig hga hgb
          have hlo' := Lib.hid hlo
          clear hlo hr1 hI
          generalize lb.getD k 0 = g at *
          generalize o.getD (i + k) 0 = z at *
          obtain ⟨hmd1, hmd2⟩ := hmd
          obtain ⟨hgo1, hgo2⟩ := hgo
          have hik : i + k < la.length + lb.length + 1 := by omega
          have hown2 := Lib.hid (fun x => owns_stored (w0 := w) (w := wr) (e := 3) (g := w.heap.size) (n := la.length + lb.length + 1) (cap := la.length + lb.length + 1) (l := o) (k := .i64) hown1 (i + k) x)
          go_wp2
          go_quiet (fail)
          go_wp2
          go_roundw
          case rel => exact ⟨k + 1, (z + carry + f * g) / 10000, o.set (i + k) ((z + carry + f * g) % 10000), by omega, rfl, by go_num, by omega, by omega, hst.out (z + carry + f * g) _ _ rfl (by omega) (by omega) (by omega), hown2.out _, by (repeat (first | exact Ex.refl _ | assumption | apply Ex.drew | apply Ex.drewN | apply Ex.alloc | (refine Ex.setCell ?_ (by simp; try omega) _) | (refine Ex.call ?_ (by assumption))))⟩
          case measure => simp [intOf]; omega
        · by_cases hcy : 0 < carry
          · obtain ⟨hr1, hr2⟩ := hin.out _ _ _ hI (.inr hcy)
            have hlo := hI.len
            have hok := owns_int hown1 hlo (j := i + k) (by omega)
            have hfr := hown1.frozenAt (i + k)
            have hgb := getD_out (l := lb) (k := k) (by omega)
            have hgo := hI.dig.getD (i + k)
            have hst := Lib.hid (fun d x c' => hstep.out k carry d x c' o hI hr2)
            have hlo' := Lib.hid hlo
            clear hI
            rw [hgb] at hst
            clear hgb
            generalize o.getD (i + k) 0 = z at *
            obtain ⟨hgo1, hgo2⟩ := hgo
            have hik : i + k < la.length + lb.length + 1 := by omega
            clear hlo
            have hown2 := Lib.hid (fun x => owns_stored (w0 := w) (w := wr) (e := 3) (g := w.heap.size) (n := la.length + lb.length + 1) (cap := la.length + lb.length + 1) (l := o) (k := .i64) hown1 (i + k) x)
            go_wp2
            go_roundw
            case rel => exact ⟨k + 1, (z + carry) / 10000, o.set (i + k) ((z + carry) % 10000), by omega, rfl, by go_num, by omega, by omega, hst.out (z + carry) _ _ (by simp) (by omega) (by omega) (by omega), hown2.out _, by (repeat (first | exact Ex.refl _ | assumption | apply Ex.drew | apply Ex.drewN | apply Ex.alloc | (refine Ex.setCell ?_ (by simp; try omega) _) | (refine Ex.call ?_ (by assumption))))⟩
            case measure => simp [intOf]; omega
          · have hc2 : carry = 0 := by omega
            subst hc2
            have hM := Lib.hid (hout.out k o hI (by omega))
            clear hI
            go_wp2
            go_roundw
            case rel => exact ⟨i + 1, o, by omega, by go_num, hM.out, hown1, hx1⟩
            case measure => simp [intOf]; omega
    · have hi' : i = la.length := by omega
      subst hi'
      have hlo := hM.len
      have hval := Lib.hid (HD.out out hM)
      rw [← hlo] at hown
      have hown2 := Lib.hid (IsI.of_owns hown)
      have hfr0 := Lib.hid (Fresh.of_owns hown)
      have hd := Lib.hid hM.dig
      rw [hlo] at hown2
      clear hM hlo hown
      go_wp2_with (go_at_call 60; refine (trimF_any hown2.out hd.out).mono ?_; rintro e w_ ⟨⟨v', rfl, hvb, hv'⟩, rfl⟩; have hfr := Lib.hid (hfr0.out.base hvb); clear hvb)
      go_ret
      refine ⟨⟨_, rfl, ?_, ?_⟩, hx⟩
      · rw [hval.out, Int.toNat_natCast] at hv'
        exact hv'
      · exact hfr.out
theorem Mul_any {a b : Nat} {v u : Value} {w : World} (hv : IsN w v a) (hu : IsN w u b) (hla : (dg a).length ≤ 1000) (hlb : (dg b).length ≤ 1000) :
    Calls Try.prog 40 #[v, u] w fun e w' => (∃ v', e = .returned v' ∧ IsN w' v' (a * b)) ∧ Ex w w' :=
  (Mul_fresh hv hu hla hlb).mono fun _ _ ⟨⟨v', he, h, _⟩, hx⟩ => ⟨⟨v', he, h⟩, hx⟩
end Go.Proofs.Ytjheegdkngkhaaa
