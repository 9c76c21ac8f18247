/- Walks of the reference's numbers: what makes digits. -/
import Derived.Test.YtjheegdkngkhaaaNumW1
set_option linter.unusedVariables false
set_option linter.unusedSimpArgs false
set_option linter.unusedSectionVars false
namespace Go.Proofs.Ytjheegdkngkhaaa
open Go.RowKit

theorem int_info : (Try.prog.info? 3).map (fun i => (i.zero, i.size, i.bytes)) = some (some (.int .i64 0), 1, 8) := by kernel_rfl

theorem From_fresh (n : Nat) (hn : n ≤ 9223372036854775807) (w : World) :
    Calls Try.prog 35 #[.int .i64 n] w fun e w' => (∃ v', e = .returned v' ∧ IsN w' v' n ∧ Fresh w v') ∧ Ex w w' := by
  have hl := dg_len (n := n) (k := 5) (by omega)
  go_enter Try.func35, Try.ntmps35
  go_wp2
  go_loopw [0, 3] (fun x s wr => ∃ (m : Nat) (ds : List Int), x = .int .i64 m ∧ m ≤ 9223372036854775807 ∧ Hid (dg n = ds ++ dg m) ∧ wr.ownsRow w.heap.size 3 1 s ds.length (ds.map (Value.int .i64)) ∧ Ex w wr) (fun x _ _ => (intOf x).toNat)
  case atStart => exact ⟨n, [], rfl, hn, by show _ = _; simp, World.ownsRow_nil _ _ _ _, Ex.refl _⟩
  case round =>
    obtain ⟨m, ds, rfl, hm, hd, hown, hx⟩ := hrel
    by_cases h0 : 0 < m
    · have hs := Lib.hid (dg_pos h0)
      have hlen : ds.length < 5 := by have := congrArg List.length hd.out; rw [dg_pos h0] at this; simp at this; omega
      go_wp2_with (at_builtin; refine wpList_append1 Try.underlying49 int_info hown hx (by omega) (h := ?_); intro v1 w1 hown1 hx1 hgrow1)
      go_roundw
      case rel => exact ⟨m / 10000, ds ++ [((m % 10000 : Nat) : Int)], by go_num, by omega, by show _ = _; rw [hd.out, hs.out]; simp, by simpa using hown1, hx1⟩
      case measure => simp [intOf]; omega
    · have h1 : m = 0 := by omega
      subst h1
      go_wp2
      go_ret
      refine ⟨⟨_, rfl, ?_, Fresh.of_owns hown⟩, hx⟩
      have e := hd.out
      rw [dg_zero, List.append_nil] at e
      have := IsI.of_owns hown
      rw [← e] at this
      exact this

theorem From_any (n : Nat) (hn : n ≤ 9223372036854775807) (w : World) :
    Calls Try.prog 35 #[.int .i64 n] w fun e w' => (∃ v', e = .returned v' ∧ IsN w' v' n) ∧ Ex w w' :=
  (From_fresh n hn w).mono fun _ _ ⟨⟨v', he, h, _⟩, hx⟩ => ⟨⟨v', he, h⟩, hx⟩
theorem FromI_any (x : Int) (h0 : 0 ≤ x) (h1 : x ≤ 9223372036854775807) (w : World) :
    Calls Try.prog 35 #[.int .i64 x] w fun e w' => (∃ v', e = .returned v' ∧ IsN w' v' x.toNat) ∧ Ex w w' := by
  obtain ⟨n, rfl⟩ := Int.eq_ofNat_of_zero_le h0
  exact From_any n (by omega) w

set_option maxHeartbeats 1000000 in
theorem NSub_fresh {a b : Nat} {v u : Value} {w : World} (hv : IsN w v a) (hu : IsN w u b) (hab : b ≤ a) (hlen : (dg a).length ≤ 1000) :
    Calls Try.prog 57 #[v, u] w fun e w' => (∃ v', e = .returned v' ∧ IsN w' v' (a - b) ∧ Fresh w v') ∧ Ex w w' := by
  obtain ⟨p, c, rfl, h1⟩ := hv
  obtain ⟨q, c', rfl, h2⟩ := hu
  have hn2 := len_dg_mono hab
  have hda := dig_dg a
  have hdb := dig_dg b
  have hdone := fun ds br (h : SubAt (dg a) (dg b) ds (dg a).length br) => SubAt.done h hab
  have hia := fun (i : Nat) (hi : i < (dg a).length) => run_indexAt_sl Try.underlying49 Try.sizeOf3 c i h1.base hi
  have hib := fun (i : Nat) (hi : i < (dg b).length) => run_indexAt_sl Try.underlying49 Try.sizeOf3 c' i h2.base hi
  have HD := Lib.hid hdone
  have H1 := Lib.hid h1
  have H2 := Lib.hid h2
  clear h1 h2 hdone
  generalize dg a = la at *
  generalize dg b = lb at *
  go_enter Try.func57, Try.ntmps57
  go_wp2
  go_loopw [5, 6, 7, 8] (fun s x i _ wr => ∃ (k : Nat) (br : Int) (ds : List Int), k ≤ la.length ∧ x = .int .i64 br ∧ i = .int .i64 k ∧ 0 ≤ br ∧ br ≤ 1 ∧ SubAt la lb ds k br ∧ ds.length = k ∧ wr.ownsRow w.heap.size 3 1 s ds.length (ds.map (Value.int .i64)) ∧ Ex w wr) (fun _ _ i _ _ => la.length - (intOf i).toNat)
  case atStart => exact ⟨0, 0, [], by omega, rfl, rfl, by omega, by omega, SubAt.start _ _, rfl, World.ownsRow_nil _ _ _ _, Ex.refl _⟩
  case round =>
    obtain ⟨k, br, ds, hk, rfl, rfl, hbr0, hbr1, hs, hdl, hown, hx⟩ := hrel
    by_cases hlt : k < la.length
    · have hfk := (H1.out.mono hx).int k hlt
      have hiak := hia k hlt
      have hga := hda.getD k
      have hgb := hdb.getD k
      have hgb' := getD_out (l := lb) (k := k)
      have hst := Lib.hid (fun d br' => @SubAt.step la lb ds k br d br')
      obtain ⟨ga1, ga2⟩ := hga
      obtain ⟨gb1, gb2⟩ := hgb
      have hk1 : ds.length < 68719476736 := by omega
      by_cases hm : k < lb.length
      · have hgk := (H2.out.mono hx).int k hm
        have hibk := hib k hm
        clear hia hib hgb'
        generalize la.getD k 0 = f at *
        generalize lb.getD k 0 = g at *
        clear hdl
        go_wp2_with (at_builtin; refine wpList_append1 Try.underlying49 int_info hown hx hk1 (h := ?_); intro v1 w1 hown1 hx1 hgrow1)
        · go_roundw
          case rel => exact ⟨k + 1, 1, ds ++ [f - br - g + 10000], by omega, rfl, by go_num, by omega, by omega, hst.out _ _ hs (by omega) (.inr rfl) (by omega), by simp [hs.len], by simpa using hown1, hx1⟩
          case measure => simp [intOf]; omega
        · go_roundw
          case rel => exact ⟨k + 1, 0, ds ++ [f - br - g], by omega, rfl, by go_num, by omega, by omega, hst.out _ _ hs (by omega) (.inl rfl) (by omega), by simp [hs.len], by simpa using hown1, hx1⟩
          case measure => simp [intOf]; omega
      · have hg0 := hgb' (by omega)
        clear hia hib hgb'
        generalize la.getD k 0 = f at *
        generalize lb.getD k 0 = g at *
        subst hg0
        clear hdl
        go_wp2_with (at_builtin; refine wpList_append1 Try.underlying49 int_info hown hx hk1 (h := ?_); intro v1 w1 hown1 hx1 hgrow1)
        · go_roundw
          case rel => exact ⟨k + 1, 1, ds ++ [f - br + 10000], by omega, rfl, by go_num, by omega, by omega, hst.out _ _ hs (by omega) (.inr rfl) (by omega), by simp [hs.len], by simpa using hown1, hx1⟩
          case measure => simp [intOf]; omega
        · go_roundw
          case rel => exact ⟨k + 1, 0, ds ++ [f - br], by omega, rfl, by go_num, by omega, by omega, hst.out _ _ hs (by omega) (.inl rfl) (by omega), by simp [hs.len], by simpa using hown1, hx1⟩
          case measure => simp [intOf]; omega
    · have hk' : k = la.length := by omega
      subst hk'
      clear hia hib
      have hval := Lib.hid (HD.out ds br hs)
      have hown2 := Lib.hid (IsI.of_owns hown)
      have hfr0 := Lib.hid (Fresh.of_owns hown)
      go_wp2_with (go_at_call 60; refine (trimF_any hown2.out hs.dig).mono ?_; rintro e w_ ⟨⟨v', rfl, hvb, hv'⟩, rfl⟩; have hfr := Lib.hid (hfr0.out.base hvb); clear hvb)
      go_ret
      refine ⟨⟨_, rfl, ?_, hfr.out⟩, hx⟩
      rw [hval.out] at hv'
      simpa using hv'
theorem NSub_any {a b : Nat} {v u : Value} {w : World} (hv : IsN w v a) (hu : IsN w u b) (hab : b ≤ a) (hlen : (dg a).length ≤ 1000) :
    Calls Try.prog 57 #[v, u] w fun e w' => (∃ v', e = .returned v' ∧ IsN w' v' (a - b)) ∧ Ex w w' :=
  (NSub_fresh hv hu hab hlen).mono fun _ _ ⟨⟨v', he, h, _⟩, hx⟩ => ⟨⟨v', he, h⟩, hx⟩
end Go.Proofs.Ytjheegdkngkhaaa
