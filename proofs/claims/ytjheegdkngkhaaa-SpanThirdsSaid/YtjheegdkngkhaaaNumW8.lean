/- Walk of the reference's sum; and of its number without a sign. -/
import Derived.Test.YtjheegdkngkhaaaNumW6
set_option linter.unusedVariables false
set_option linter.unusedSimpArgs false
set_option linter.unusedSectionVars false
namespace Go.Proofs.Ytjheegdkngkhaaa
open Go.RowKit

set_option maxHeartbeats 2000000 in
theorem NAdd_fresh {a b : Nat} {v u : Value} {w : World} (hv : IsN w v a) (hu : IsN w u b) (hla : (dg a).length ≤ 1000) (hlb : (dg b).length ≤ 1000) :
    Calls Try.prog 56 #[v, u] w fun e w' => (∃ v', e = .returned v' ∧ IsN w' v' (a + b) ∧ Fresh w v') ∧ Ex w w' := by
  obtain ⟨p, c, rfl, h1⟩ := hv
  obtain ⟨q, c', rfl, h2⟩ := hu
  have hda := dig_dg a
  have hdb := dig_dg b
  have hdone := fun ds k cy (h : AddAt (dg a) (dg b) ds k cy) => AddAt.done h
  have IA := Lib.hid (fun (i : Nat) (hi : i < (dg a).length) => run_indexAt_sl Try.underlying49 Try.sizeOf3 c i h1.base hi)
  have IB := Lib.hid (fun (i : Nat) (hi : i < (dg b).length) => run_indexAt_sl Try.underlying49 Try.sizeOf3 c' i h2.base hi)
  replace hdone := Lib.hid hdone
  replace h1 := Lib.hid h1
  replace h2 := Lib.hid h2
  generalize dg a = la at *
  generalize dg b = lb at *
  go_enter Try.func56, Try.ntmps56
  go_wp2
  go_loopg [5, 6, 7, 8] (max la.length lb.length + 1) (fun gk s x i _ wr => ∃ (k : Nat) (cy : Int) (ds : List Int), x = .int .i64 cy ∧ i = .int .i64 k ∧ k + gk = max la.length lb.length + 1 ∧ AddAt la lb ds k cy ∧ wr.ownsRow w.heap.size 3 1 s ds.length (ds.map (Value.int .i64)) ∧ Ex w wr)
  case atStart => exact ⟨0, 0, [], rfl, rfl, by omega, AddAt.start _ _, World.ownsRow_nil _ _ _ _, Ex.refl _⟩
  case round =>
    obtain ⟨k, cy, ds, rfl, rfl, hgk, hs, hown, hx⟩ := hrel
    have hc01 := hs.c01
    have hc0 : 0 ≤ cy ∧ cy ≤ 1 := by omega
    have hdl := hs.len
    have hkb : k ≤ 1001 := by omega
    have hga := hda.getD k
    have hgb := hdb.getD k
    obtain ⟨hc0, hc1⟩ := hc0
    obtain ⟨ga1, ga2⟩ := hga
    obtain ⟨gb1, gb2⟩ := hgb
    by_cases hex : k < la.length ∨ k < lb.length ∨ 0 < cy
    · have hgk1 : 1 ≤ gk := by
        have := hs.top
        omega
      have hst := Lib.hid (fun d x c' hx hd hc e => @AddAt.step la lb ds k cy d x c' hs hex hx hd hc e hda hdb)
      have hlen : ds.length < 68719476736 := by omega
      clear hs hc01
      by_cases ha : k < la.length
      · have hfk := (h1.out.mono hx).int k ha
        have hia := IA.out k ha
        by_cases hb : k < lb.length
        · have hgk' := (h2.out.mono hx).int k hb
          have hib := IB.out k hb
          clear hex
          generalize la.getD k 0 = f at *
          generalize lb.getD k 0 = g at *
          replace hdl := Lib.hid hdl
          replace hgk := Lib.hid hgk
          go_wp2_with (at_builtin; refine wpList_append1 Try.underlying49 int_info hown hx hlen (h := ?_); intro v1 w1 hown1 hx1 hgrow1)
          go_roundg (gk - 1)
          case rel => exact ⟨k + 1, (cy + f + g) / 10000, ds ++ [(cy + f + g) % 10000], rfl, by go_num, by have := hgk.out; omega, hst.out (cy + f + g) _ _ (by omega) rfl (by omega) (by omega), by simpa using hown1, hx1⟩
          case measure => omega
        · have hb0 := getD_out (l := lb) (k := k) (by omega)
          clear hex
          generalize la.getD k 0 = f at *
          generalize lb.getD k 0 = g at *
          subst hb0
          replace hdl := Lib.hid hdl
          replace hgk := Lib.hid hgk
          go_wp2_with (at_builtin; refine wpList_append1 Try.underlying49 int_info hown hx hlen (h := ?_); intro v1 w1 hown1 hx1 hgrow1)
          go_roundg (gk - 1)
          case rel => exact ⟨k + 1, (cy + f) / 10000, ds ++ [(cy + f) % 10000], rfl, by go_num, by have := hgk.out; omega, hst.out (cy + f) _ _ (by omega) (by omega) (by omega) (by omega), by simpa using hown1, hx1⟩
          case measure => omega
      · have ha0 := getD_out (l := la) (k := k) (by omega)
        by_cases hb : k < lb.length
        · have hgk' := (h2.out.mono hx).int k hb
          have hib := IB.out k hb
          clear hex
          generalize la.getD k 0 = f at *
          generalize lb.getD k 0 = g at *
          subst ha0
          replace hdl := Lib.hid hdl
          replace hgk := Lib.hid hgk
          go_wp2_with (at_builtin; refine wpList_append1 Try.underlying49 int_info hown hx hlen (h := ?_); intro v1 w1 hown1 hx1 hgrow1)
          go_roundg (gk - 1)
          case rel => exact ⟨k + 1, (cy + g) / 10000, ds ++ [(cy + g) % 10000], rfl, by go_num, by have := hgk.out; omega, hst.out (cy + g) _ _ (by omega) (by omega) (by omega) (by omega), by simpa using hown1, hx1⟩
          case measure => omega
        · have hb0 := getD_out (l := lb) (k := k) (by omega)
          have hcp : 0 < cy := by omega
          clear hex
          generalize la.getD k 0 = f at *
          generalize lb.getD k 0 = g at *
          subst ha0 hb0
          replace hdl := Lib.hid hdl
          replace hgk := Lib.hid hgk
          go_wp2_with (at_builtin; refine wpList_append1 Try.underlying49 int_info hown hx hlen (h := ?_); intro v1 w1 hown1 hx1 hgrow1)
          go_roundg (gk - 1)
          case rel => exact ⟨k + 1, cy / 10000, ds ++ [cy % 10000], rfl, by go_num, by have := hgk.out; omega, hst.out cy _ _ (by omega) (by omega) (by omega) (by omega), by simpa using hown1, hx1⟩
          case measure => omega
    · have ha : ¬ k < la.length := by omega
      have hb : ¬ k < lb.length := by omega
      have hcn : ¬ 0 < cy := by omega
      have hfin := Lib.hid (hdone.out ds k cy hs (by omega) (by omega) (by omega))
      clear hs hex hgk hdl hc01
      go_wp2_with fail
      go_ret
      refine ⟨⟨_, rfl, ?_, Fresh.of_owns hown⟩, hx⟩
      have := IsI.of_owns hown
      rw [hfin.out] at this
      exact this
theorem NAdd_any {a b : Nat} {v u : Value} {w : World} (hv : IsN w v a) (hu : IsN w u b) (hla : (dg a).length ≤ 1000) (hlb : (dg b).length ≤ 1000) :
    Calls Try.prog 56 #[v, u] w fun e w' => (∃ v', e = .returned v' ∧ IsN w' v' (a + b)) ∧ Ex w w' :=
  (NAdd_fresh hv hu hla hlb).mono fun _ _ ⟨⟨v', he, h, _⟩, hx⟩ => ⟨⟨v', he, h⟩, hx⟩

theorem rplain_any (n : Int) (w : World) (h : I64 n) : Calls Try.prog 44 #[.int .i64 n] w fun e w' => (∃ v, e = .returned v ∧ IsN w' v n.natAbs) ∧ Ex w w' := by
  obtain ⟨a1, a2⟩ := h
  by_cases hn : n < 0
  · have e1 : (-(n + 1)).toNat + 1 = n.natAbs := by omega
    have hl : (dg (-(n + 1)).toNat).length ≤ 5 := dg_len (by omega)
    replace e1 := Lib.hid e1
    go_enter Try.func44, Try.ntmps44
    go_wp2_with fail
    refine (FromI_any _ (by omega) (by omega) _).mono ?_
    rintro e w1 ⟨⟨v1, rfl, hv1⟩, hx1⟩
    have hv1' := hv1.mono (Ex.refl w1).alloc (w' := w1.alloc (.cells #[.int .i64 1] 3))
    clear hv1
    go_wp2_with fail
    refine (NAdd_any hv1' (one_IsN w1) (by omega) (by rw [dg_one]; simp)).mono ?_
    rintro e w2 ⟨⟨v2, rfl, hv2⟩, hx2⟩
    rw [e1.out] at hv2
    replace hv2 := Lib.hid hv2
    go_wp2_with fail
    go_ret
    exact ⟨⟨_, rfl, hv2.out⟩, Ex.call hx1 (Ex.call (Ex.refl _).alloc hx2)⟩
  · go_enter Try.func44, Try.ntmps44
    go_wp2_with fail
    refine (FromI_any _ (by omega) (by omega) _).mono ?_
    rintro e w1 ⟨⟨v1, rfl, hv1⟩, hx1⟩
    have e1 : n.toNat = n.natAbs := by omega
    rw [e1] at hv1
    replace hv1 := Lib.hid hv1
    clear e1
    go_wp2_with fail
    go_ret
    exact ⟨⟨_, rfl, hv1.out⟩, hx1⟩
end Go.Proofs.Ytjheegdkngkhaaa
