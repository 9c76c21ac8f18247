/- Walk of span.Read. Conditions: the text is shorter than 2 to the 31. -/
import Derived.Test.YtjheegdkngkhaaaTextW1
import Derived.Test.YtjheegdkngkhaaaSpanW5
namespace Go.Proofs.Ytjheegdkngkhaaa
open Go.RowKit

theorem toList_data (s : ByteArray) : s.toList = s.data.toList := by rw [ByteArray.toList_eq]
theorem not_never {s : ByteArray} (h : s.data.toList ≠ [110, 101, 118, 101, 114]) : (!s.toList == [110, 101, 118, 101, 114]) = true := by
  rw [toList_data]; simpa using h

set_option maxHeartbeats 2000000 in
theorem Read_plain (s : ByteArray) (hs : s.size ≤ 2147483647) (hnv : s.data.toList ≠ [110, 101, 118, 101, 114]) (w : World) :
    Calls Try.prog 22 #[.string s] w fun e w' => e = .returned (tupT (readL s.data.toList)) ∧ Ex w w' := by
  have hq := not_never hnv
  have hlen : s.data.toList.length = s.size := (size_of_data s).symm
  obtain ⟨R, hR⟩ : ∃ R, R = readL s.data.toList := ⟨_, rfl⟩
  rw [← hR]
  have hN := Lib.hid (fun w => number_any s 0 (by omega) (by omega) hs w)
  rw [readL] at hR
  replace hR := Lib.hid hR
  cases hA : numL s.data.toList 0 with
  | none =>
    have hr : Hid (R = (0, 0, 6)) := by show _ = _; rw [hR.out, hA]
    simp only [Int.toNat_zero, List.drop_zero, hA, numAns] at hN
    clear hR hA hnv
    have hc1 : decide ((s.size : Int) + 1 < s.size) = false := by simp; omega
    have hc2 : ((s.size : Int) + 1 != s.size) = true := by simp; omega
    go_enter Try.func22, Try.ntmps22
    go_wp2_with (first | (go_at_call 26; refine (Never_any _).mono ?_; rintro e w1 ⟨rfl, hx1⟩; obtain ⟨hc1, hf1⟩ := hx1.facts2; have hz1 := hx1.size; (try simp only [World.size_drew] at hz1 hc1 hf1); (try simp only [World.size_drewN] at hz1 hc1 hf1); (try simp only [World.size_setCell] at hz1 hc1 hf1); (try simp only [World.size_alloc] at hz1 hc1 hf1); (try simp only [World.size_drew] at hz1 hc1 hf1); (try simp only [World.size_drewN] at hz1 hc1 hf1); (try simp only [World.size_setCell] at hz1 hc1 hf1); (try simp only [World.size_alloc] at hz1 hc1 hf1); (try simp only [World.cell?_drew] at hz1 hc1 hf1); (try simp only [World.frozen?_drew] at hz1 hc1 hf1); (try simp only [World.cell?_drewN] at hz1 hc1 hf1); (try simp only [World.frozen?_drewN] at hz1 hc1 hf1); (try (have hy10 : w.heap.size < w1.heap.size := by omega)); (try (have hy11 : w.heap.size + 1 < w1.heap.size := by omega)); (try (have hy12 : w.heap.size + 2 < w1.heap.size := by omega)); (try (have hy13 : w.heap.size + 3 < w1.heap.size := by omega))) | (go_at_call 46; refine (hN.out _).mono ?_; rintro e w_ ⟨rfl, rfl⟩))
    refine bodyPost_ret (v := tupT R) ?_ rfl ⟨rfl, by (repeat (first | exact Ex.refl _ | assumption | apply Ex.drew | apply Ex.drewN | apply Ex.alloc | (refine Ex.setCell ?_ (by simp; try omega) _) | (refine Ex.call ?_ (by assumption))))⟩
    have hy8 : w.heap.size < w1.heap.size + 1 := Nat.lt_succ_of_lt hy10
    rw [hr.out]; simp [results, Try.results22, go_sem, tupT, *]
  | some A =>
    obtain ⟨n, r⟩ := A
    obtain ⟨hn, hrl, hrd⟩ := numL_some hA (by omega)
    simp only [Int.toNat_zero, List.drop_zero, hA, numAns] at hN
    have i1 : I64 (n : Int) := ⟨by omega, by omega⟩
    cases r with
    | nil =>
      simp only [List.length_nil, Int.ofNat_zero, Int.sub_zero] at hN
      have ht1 := Lib.hid (fun w => Text_any n 1 i1 ⟨by omega, by omega⟩ w)
      by_cases ht : textT n 1 = s.data.toList
      · have hr : Hid (R = ((n : Int), 1, 0)) := by show _ = _; rw [hR.out, hA]; simp [ht]
        replace ht := Lib.hid ht
        clear hR hA hnv hlen hrl hrd
        go_enter Try.func22, Try.ntmps22
        go_wp2_with (first | (go_at_call 26; refine (Never_any _).mono ?_; rintro e w1 ⟨rfl, hx1⟩; obtain ⟨hc1, hf1⟩ := hx1.facts2; have hz1 := hx1.size; (try simp only [World.size_drew] at hz1 hc1 hf1); (try simp only [World.size_drewN] at hz1 hc1 hf1); (try simp only [World.size_setCell] at hz1 hc1 hf1); (try simp only [World.size_alloc] at hz1 hc1 hf1); (try simp only [World.size_drew] at hz1 hc1 hf1); (try simp only [World.size_drewN] at hz1 hc1 hf1); (try simp only [World.size_setCell] at hz1 hc1 hf1); (try simp only [World.size_alloc] at hz1 hc1 hf1); (try simp only [World.cell?_drew] at hz1 hc1 hf1); (try simp only [World.frozen?_drew] at hz1 hc1 hf1); (try simp only [World.cell?_drewN] at hz1 hc1 hf1); (try simp only [World.frozen?_drewN] at hz1 hc1 hf1); (try (have hy10 : w.heap.size < w1.heap.size := by omega)); (try (have hy11 : w.heap.size + 1 < w1.heap.size := by omega)); (try (have hy12 : w.heap.size + 2 < w1.heap.size := by omega)); (try (have hy13 : w.heap.size + 3 < w1.heap.size := by omega))) | (go_at_call 46; refine (hN.out _).mono ?_; rintro e w_ ⟨rfl, rfl⟩) | (go_at_call 21; refine (ht1.out _).mono ?_; rintro e w3 ⟨⟨st, rfl, hst⟩, hx3⟩; obtain ⟨hc3, hf3⟩ := hx3.facts2; have hz3 := hx3.size; (try simp only [World.size_drew] at hz3 hc3 hf3); (try simp only [World.size_drewN] at hz3 hc3 hf3); (try simp only [World.size_setCell] at hz3 hc3 hf3); (try simp only [World.size_alloc] at hz3 hc3 hf3); (try simp only [World.size_drew] at hz3 hc3 hf3); (try simp only [World.size_drewN] at hz3 hc3 hf3); (try simp only [World.size_setCell] at hz3 hc3 hf3); (try simp only [World.size_alloc] at hz3 hc3 hf3); (try simp only [World.cell?_drew] at hz3 hc3 hf3); (try simp only [World.frozen?_drew] at hz3 hc3 hf3); (try simp only [World.cell?_drewN] at hz3 hc3 hf3); (try simp only [World.frozen?_drewN] at hz3 hc3 hf3); (try (have hy30 : w.heap.size < w3.heap.size := by omega)); (try (have hy31 : w.heap.size + 1 < w3.heap.size := by omega)); (try (have hy32 : w.heap.size + 2 < w3.heap.size := by omega)); (try (have hy33 : w.heap.size + 3 < w3.heap.size := by omega)); have hq3 : w1.heap.size < w3.heap.size := hx3.up (by simp); have hcmp : (!st.toList == s.toList) = false := (by rw [toList_data, toList_data, hst, ht.out]; simp); clear hst))
        refine bodyPost_ret (v := tupT R) ?_ rfl ⟨rfl, by (repeat (first | exact Ex.refl _ | assumption | apply Ex.drew | apply Ex.drewN | apply Ex.alloc | (refine Ex.setCell ?_ (by simp; try omega) _) | (refine Ex.call ?_ (by assumption))))⟩
        have hy8 : w.heap.size < w1.heap.size + 1 := Nat.lt_succ_of_lt hy10
        rw [hr.out]; simp [results, Try.results22, go_sem, tupT, *]
      · have hr : Hid (R = (0, 0, 6)) := by show _ = _; rw [hR.out, hA]; simp [ht]
        replace ht := Lib.hid ht
        clear hR hA hnv hlen hrl hrd
        go_enter Try.func22, Try.ntmps22
        go_wp2_with (first | (go_at_call 26; refine (Never_any _).mono ?_; rintro e w1 ⟨rfl, hx1⟩; obtain ⟨hc1, hf1⟩ := hx1.facts2; have hz1 := hx1.size; (try simp only [World.size_drew] at hz1 hc1 hf1); (try simp only [World.size_drewN] at hz1 hc1 hf1); (try simp only [World.size_setCell] at hz1 hc1 hf1); (try simp only [World.size_alloc] at hz1 hc1 hf1); (try simp only [World.size_drew] at hz1 hc1 hf1); (try simp only [World.size_drewN] at hz1 hc1 hf1); (try simp only [World.size_setCell] at hz1 hc1 hf1); (try simp only [World.size_alloc] at hz1 hc1 hf1); (try simp only [World.cell?_drew] at hz1 hc1 hf1); (try simp only [World.frozen?_drew] at hz1 hc1 hf1); (try simp only [World.cell?_drewN] at hz1 hc1 hf1); (try simp only [World.frozen?_drewN] at hz1 hc1 hf1); (try (have hy10 : w.heap.size < w1.heap.size := by omega)); (try (have hy11 : w.heap.size + 1 < w1.heap.size := by omega)); (try (have hy12 : w.heap.size + 2 < w1.heap.size := by omega)); (try (have hy13 : w.heap.size + 3 < w1.heap.size := by omega))) | (go_at_call 46; refine (hN.out _).mono ?_; rintro e w_ ⟨rfl, rfl⟩) | (go_at_call 21; refine (ht1.out _).mono ?_; rintro e w3 ⟨⟨st, rfl, hst⟩, hx3⟩; obtain ⟨hc3, hf3⟩ := hx3.facts2; have hz3 := hx3.size; (try simp only [World.size_drew] at hz3 hc3 hf3); (try simp only [World.size_drewN] at hz3 hc3 hf3); (try simp only [World.size_setCell] at hz3 hc3 hf3); (try simp only [World.size_alloc] at hz3 hc3 hf3); (try simp only [World.size_drew] at hz3 hc3 hf3); (try simp only [World.size_drewN] at hz3 hc3 hf3); (try simp only [World.size_setCell] at hz3 hc3 hf3); (try simp only [World.size_alloc] at hz3 hc3 hf3); (try simp only [World.cell?_drew] at hz3 hc3 hf3); (try simp only [World.frozen?_drew] at hz3 hc3 hf3); (try simp only [World.cell?_drewN] at hz3 hc3 hf3); (try simp only [World.frozen?_drewN] at hz3 hc3 hf3); (try (have hy30 : w.heap.size < w3.heap.size := by omega)); (try (have hy31 : w.heap.size + 1 < w3.heap.size := by omega)); (try (have hy32 : w.heap.size + 2 < w3.heap.size := by omega)); (try (have hy33 : w.heap.size + 3 < w3.heap.size := by omega)); have hq3 : w1.heap.size < w3.heap.size := hx3.up (by simp); have hcmp : (!st.toList == s.toList) = true := (by rw [toList_data, toList_data, hst]; simpa using ht.out); clear hst))
        refine bodyPost_ret (v := tupT R) ?_ rfl ⟨rfl, by (repeat (first | exact Ex.refl _ | assumption | apply Ex.drew | apply Ex.drewN | apply Ex.alloc | (refine Ex.setCell ?_ (by simp; try omega) _) | (refine Ex.call ?_ (by assumption))))⟩
        have hy8 : w.heap.size < w1.heap.size + 1 := Nat.lt_succ_of_lt hy10
        rw [hr.out]; simp [results, Try.results22, go_sem, tupT, *]
    | cons c r =>
      have hat : ((s.size : Int) - ((c :: r).length : Nat)) = ((s.size - (r.length + 1) : Nat) : Int) := by simp only [List.length_cons] at hrl ⊢; omega
      rw [hat] at hN
      obtain ⟨a, ha⟩ : ∃ a, a = s.size - (r.length + 1) := ⟨_, rfl⟩
      rw [← ha] at hN
      have hal : a < s.size := by simp only [List.length_cons] at hrl; omega
      have hrd' : s.data.toList.drop a = c :: r := by rw [ha, ← hlen]; simpa using hrd
      have hby := getD_byte s a hal
      rw [hrd'] at hby
      simp only [List.cons.injEq] at hby
      obtain ⟨hby1, hby2⟩ := hby
      have hne : ((a : Int) != s.size) = true := by simp; omega
      by_cases h47 : c = 47
      · have hc1 : (s[a].toNat : Int) = 47 := by rw [← hby1, h47]; rfl
        have hc2 : ((s[a].toNat : Int) == 47) = true := by simp [hc1]
        have hN2 := Lib.hid (fun w => number_any s ((a : Int) + 1) (by omega) (by omega) hs w)
        have e1 : ((a : Int) + 1).toNat = a + 1 := by omega
        simp only [e1, ← hby2] at hN2
        cases hB : numL r 0 with
        | none =>
          have hr : Hid (R = (0, 0, 6)) := by show _ = _; rw [hR.out, hA]; simp [h47, hB]
          simp only [hB, numAns] at hN2
          have hc3 : ((s.size : Int) + 1 != s.size) = true := by simp; omega
          clear hR hA hnv hlen hrl hrd hrd' hby1 hby2 hat e1 hc1 h47 ha hB
          go_enter Try.func22, Try.ntmps22
          go_wp2_with (first | (go_at_call 26; refine (Never_any _).mono ?_; rintro e w1 ⟨rfl, hx1⟩; obtain ⟨hc1, hf1⟩ := hx1.facts2; have hz1 := hx1.size; (try simp only [World.size_drew] at hz1 hc1 hf1); (try simp only [World.size_drewN] at hz1 hc1 hf1); (try simp only [World.size_setCell] at hz1 hc1 hf1); (try simp only [World.size_alloc] at hz1 hc1 hf1); (try simp only [World.size_drew] at hz1 hc1 hf1); (try simp only [World.size_drewN] at hz1 hc1 hf1); (try simp only [World.size_setCell] at hz1 hc1 hf1); (try simp only [World.size_alloc] at hz1 hc1 hf1); (try simp only [World.cell?_drew] at hz1 hc1 hf1); (try simp only [World.frozen?_drew] at hz1 hc1 hf1); (try simp only [World.cell?_drewN] at hz1 hc1 hf1); (try simp only [World.frozen?_drewN] at hz1 hc1 hf1); (try (have hy10 : w.heap.size < w1.heap.size := by omega)); (try (have hy11 : w.heap.size + 1 < w1.heap.size := by omega)); (try (have hy12 : w.heap.size + 2 < w1.heap.size := by omega)); (try (have hy13 : w.heap.size + 3 < w1.heap.size := by omega))) | (go_at_call_of 46 (Value.int IntKind.i64 0); refine (hN.out _).mono ?_; rintro e w_ ⟨rfl, rfl⟩) | (go_at_call 46; refine (hN2.out _).mono ?_; rintro e w_ ⟨rfl, rfl⟩))
          refine bodyPost_ret (v := tupT R) ?_ rfl ⟨rfl, by (repeat (first | exact Ex.refl _ | assumption | apply Ex.drew | apply Ex.drewN | apply Ex.alloc | (refine Ex.setCell ?_ (by simp; try omega) _) | (refine Ex.call ?_ (by assumption))))⟩
          have hy8 : w.heap.size < w1.heap.size + 1 := Nat.lt_succ_of_lt hy10
          rw [hr.out]; simp [results, Try.results22, go_sem, tupT, *]
        | some B =>
          obtain ⟨d, r3⟩ := B
          obtain ⟨hd, hrl3, -⟩ := numL_some hB (by omega)
          simp only [hB, numAns] at hN2
          cases r3 with
          | cons c3 r3 =>
            have hr : Hid (R = (0, 0, 6)) := by show _ = _; rw [hR.out, hA]; simp [h47, hB]
            have hat3 : ((s.size : Int) - ((c3 :: r3).length : Nat)) = ((s.size - (r3.length + 1) : Nat) : Int) := by simp only [List.length_cons] at hrl hrl3 ⊢; omega
            have hc3 : (((s.size - (r3.length + 1) : Nat) : Int) != s.size) = true := by simp only [List.length_cons] at hrl hrl3; simp; omega
            rw [hat3] at hN2
            clear hat3
            generalize s.size - (r3.length + 1) = a3 at *
            clear hR hA hnv hlen hrl hrd hrd' hby1 hby2 hat e1 hc1 h47 ha hB hrl3
            go_enter Try.func22, Try.ntmps22
            go_wp2_with (first | (go_at_call 26; refine (Never_any _).mono ?_; rintro e w1 ⟨rfl, hx1⟩; obtain ⟨hc1, hf1⟩ := hx1.facts2; have hz1 := hx1.size; (try simp only [World.size_drew] at hz1 hc1 hf1); (try simp only [World.size_drewN] at hz1 hc1 hf1); (try simp only [World.size_setCell] at hz1 hc1 hf1); (try simp only [World.size_alloc] at hz1 hc1 hf1); (try simp only [World.size_drew] at hz1 hc1 hf1); (try simp only [World.size_drewN] at hz1 hc1 hf1); (try simp only [World.size_setCell] at hz1 hc1 hf1); (try simp only [World.size_alloc] at hz1 hc1 hf1); (try simp only [World.cell?_drew] at hz1 hc1 hf1); (try simp only [World.frozen?_drew] at hz1 hc1 hf1); (try simp only [World.cell?_drewN] at hz1 hc1 hf1); (try simp only [World.frozen?_drewN] at hz1 hc1 hf1); (try (have hy10 : w.heap.size < w1.heap.size := by omega)); (try (have hy11 : w.heap.size + 1 < w1.heap.size := by omega)); (try (have hy12 : w.heap.size + 2 < w1.heap.size := by omega)); (try (have hy13 : w.heap.size + 3 < w1.heap.size := by omega))) | (go_at_call_of 46 (Value.int IntKind.i64 0); refine (hN.out _).mono ?_; rintro e w_ ⟨rfl, rfl⟩) | (go_at_call 46; refine (hN2.out _).mono ?_; rintro e w_ ⟨rfl, rfl⟩))
            refine bodyPost_ret (v := tupT R) ?_ rfl ⟨rfl, by (repeat (first | exact Ex.refl _ | assumption | apply Ex.drew | apply Ex.drewN | apply Ex.alloc | (refine Ex.setCell ?_ (by simp; try omega) _) | (refine Ex.call ?_ (by assumption))))⟩
            have hy8 : w.heap.size < w1.heap.size + 1 := Nat.lt_succ_of_lt hy10
            rw [hr.out]; simp [results, Try.results22, go_sem, tupT, *]

          | nil =>
            simp only [List.length_nil, Int.ofNat_zero, Int.sub_zero] at hN2
            have i2 : I64 (d : Int) := ⟨by omega, by omega⟩
            have ht1 := Lib.hid (fun w => Text_any n d i1 i2 w)
            by_cases hd0 : d = 0
            · have hr : Hid (R = (0, 0, 6)) := by show _ = _; rw [hR.out, hA]; simp [h47, hB, hd0]
              have hc4 : ((d : Int) == 0) = true := by simp [hd0]
              replace hd0 := Lib.hid hd0
              clear hR hA hnv hlen hrl hrd hrd' hby1 hby2 hat e1 hc1 h47 ha hB hrl3
              go_enter Try.func22, Try.ntmps22
              go_wp2_with (first | (go_at_call 26; refine (Never_any _).mono ?_; rintro e w1 ⟨rfl, hx1⟩; obtain ⟨hc1, hf1⟩ := hx1.facts2; have hz1 := hx1.size; (try simp only [World.size_drew] at hz1 hc1 hf1); (try simp only [World.size_drewN] at hz1 hc1 hf1); (try simp only [World.size_setCell] at hz1 hc1 hf1); (try simp only [World.size_alloc] at hz1 hc1 hf1); (try simp only [World.size_drew] at hz1 hc1 hf1); (try simp only [World.size_drewN] at hz1 hc1 hf1); (try simp only [World.size_setCell] at hz1 hc1 hf1); (try simp only [World.size_alloc] at hz1 hc1 hf1); (try simp only [World.cell?_drew] at hz1 hc1 hf1); (try simp only [World.frozen?_drew] at hz1 hc1 hf1); (try simp only [World.cell?_drewN] at hz1 hc1 hf1); (try simp only [World.frozen?_drewN] at hz1 hc1 hf1); (try (have hy10 : w.heap.size < w1.heap.size := by omega)); (try (have hy11 : w.heap.size + 1 < w1.heap.size := by omega)); (try (have hy12 : w.heap.size + 2 < w1.heap.size := by omega)); (try (have hy13 : w.heap.size + 3 < w1.heap.size := by omega))) | (go_at_call_of 46 (Value.int IntKind.i64 0); refine (hN.out _).mono ?_; rintro e w_ ⟨rfl, rfl⟩) | (go_at_call 46; refine (hN2.out _).mono ?_; rintro e w_ ⟨rfl, rfl⟩))
              refine bodyPost_ret (v := tupT R) ?_ rfl ⟨rfl, by (repeat (first | exact Ex.refl _ | assumption | apply Ex.drew | apply Ex.drewN | apply Ex.alloc | (refine Ex.setCell ?_ (by simp; try omega) _) | (refine Ex.call ?_ (by assumption))))⟩
              have hy8 : w.heap.size < w1.heap.size + 1 := Nat.lt_succ_of_lt hy10
              rw [hr.out]; simp [results, Try.results22, go_sem, tupT, *]
            · have hc4 : ((d : Int) == 0) = false := by simp [hd0]
              by_cases ht : textT n d = s.data.toList
              · have hr : Hid (R = ((n : Int), (d : Int), 0)) := by show _ = _; rw [hR.out, hA]; simp [h47, hB, hd0, ht]
                replace ht := Lib.hid ht
                clear hR hA hnv hlen hrl hrd hrd' hby1 hby2 hat e1 hc1 h47 ha hB hrl3
                go_enter Try.func22, Try.ntmps22
                go_wp2_with (first | (go_at_call 26; refine (Never_any _).mono ?_; rintro e w1 ⟨rfl, hx1⟩; obtain ⟨hc1, hf1⟩ := hx1.facts2; have hz1 := hx1.size; (try simp only [World.size_drew] at hz1 hc1 hf1); (try simp only [World.size_drewN] at hz1 hc1 hf1); (try simp only [World.size_setCell] at hz1 hc1 hf1); (try simp only [World.size_alloc] at hz1 hc1 hf1); (try simp only [World.size_drew] at hz1 hc1 hf1); (try simp only [World.size_drewN] at hz1 hc1 hf1); (try simp only [World.size_setCell] at hz1 hc1 hf1); (try simp only [World.size_alloc] at hz1 hc1 hf1); (try simp only [World.cell?_drew] at hz1 hc1 hf1); (try simp only [World.frozen?_drew] at hz1 hc1 hf1); (try simp only [World.cell?_drewN] at hz1 hc1 hf1); (try simp only [World.frozen?_drewN] at hz1 hc1 hf1); (try (have hy10 : w.heap.size < w1.heap.size := by omega)); (try (have hy11 : w.heap.size + 1 < w1.heap.size := by omega)); (try (have hy12 : w.heap.size + 2 < w1.heap.size := by omega)); (try (have hy13 : w.heap.size + 3 < w1.heap.size := by omega))) | (go_at_call_of 46 (Value.int IntKind.i64 0); refine (hN.out _).mono ?_; rintro e w_ ⟨rfl, rfl⟩) | (go_at_call 46; refine (hN2.out _).mono ?_; rintro e w_ ⟨rfl, rfl⟩) | (go_at_call 21; refine (ht1.out _).mono ?_; rintro e w3 ⟨⟨st, rfl, hst⟩, hx3⟩; obtain ⟨hc3, hf3⟩ := hx3.facts2; have hz3 := hx3.size; (try simp only [World.size_drew] at hz3 hc3 hf3); (try simp only [World.size_drewN] at hz3 hc3 hf3); (try simp only [World.size_setCell] at hz3 hc3 hf3); (try simp only [World.size_alloc] at hz3 hc3 hf3); (try simp only [World.size_drew] at hz3 hc3 hf3); (try simp only [World.size_drewN] at hz3 hc3 hf3); (try simp only [World.size_setCell] at hz3 hc3 hf3); (try simp only [World.size_alloc] at hz3 hc3 hf3); (try simp only [World.cell?_drew] at hz3 hc3 hf3); (try simp only [World.frozen?_drew] at hz3 hc3 hf3); (try simp only [World.cell?_drewN] at hz3 hc3 hf3); (try simp only [World.frozen?_drewN] at hz3 hc3 hf3); (try (have hy30 : w.heap.size < w3.heap.size := by omega)); (try (have hy31 : w.heap.size + 1 < w3.heap.size := by omega)); (try (have hy32 : w.heap.size + 2 < w3.heap.size := by omega)); (try (have hy33 : w.heap.size + 3 < w3.heap.size := by omega)); have hq3 : w1.heap.size < w3.heap.size := hx3.up (by simp); have hcmp : (!st.toList == s.toList) = false := (by rw [toList_data, toList_data, hst]; rw [ht.out]; simp); clear hst))
                refine bodyPost_ret (v := tupT R) ?_ rfl ⟨rfl, by (repeat (first | exact Ex.refl _ | assumption | apply Ex.drew | apply Ex.drewN | apply Ex.alloc | (refine Ex.setCell ?_ (by simp; try omega) _) | (refine Ex.call ?_ (by assumption))))⟩
                have hy8 : w.heap.size < w1.heap.size + 1 := Nat.lt_succ_of_lt hy10
                rw [hr.out]; simp [results, Try.results22, go_sem, tupT, *]
              · have hr : Hid (R = (0, 0, 6)) := by show _ = _; rw [hR.out, hA]; simp [h47, hB, ht]
                replace ht := Lib.hid ht
                clear hR hA hnv hlen hrl hrd hrd' hby1 hby2 hat e1 hc1 h47 ha hB hrl3
                go_enter Try.func22, Try.ntmps22
                go_wp2_with (first | (go_at_call 26; refine (Never_any _).mono ?_; rintro e w1 ⟨rfl, hx1⟩; obtain ⟨hc1, hf1⟩ := hx1.facts2; have hz1 := hx1.size; (try simp only [World.size_drew] at hz1 hc1 hf1); (try simp only [World.size_drewN] at hz1 hc1 hf1); (try simp only [World.size_setCell] at hz1 hc1 hf1); (try simp only [World.size_alloc] at hz1 hc1 hf1); (try simp only [World.size_drew] at hz1 hc1 hf1); (try simp only [World.size_drewN] at hz1 hc1 hf1); (try simp only [World.size_setCell] at hz1 hc1 hf1); (try simp only [World.size_alloc] at hz1 hc1 hf1); (try simp only [World.cell?_drew] at hz1 hc1 hf1); (try simp only [World.frozen?_drew] at hz1 hc1 hf1); (try simp only [World.cell?_drewN] at hz1 hc1 hf1); (try simp only [World.frozen?_drewN] at hz1 hc1 hf1); (try (have hy10 : w.heap.size < w1.heap.size := by omega)); (try (have hy11 : w.heap.size + 1 < w1.heap.size := by omega)); (try (have hy12 : w.heap.size + 2 < w1.heap.size := by omega)); (try (have hy13 : w.heap.size + 3 < w1.heap.size := by omega))) | (go_at_call_of 46 (Value.int IntKind.i64 0); refine (hN.out _).mono ?_; rintro e w_ ⟨rfl, rfl⟩) | (go_at_call 46; refine (hN2.out _).mono ?_; rintro e w_ ⟨rfl, rfl⟩) | (go_at_call 21; refine (ht1.out _).mono ?_; rintro e w3 ⟨⟨st, rfl, hst⟩, hx3⟩; obtain ⟨hc3, hf3⟩ := hx3.facts2; have hz3 := hx3.size; (try simp only [World.size_drew] at hz3 hc3 hf3); (try simp only [World.size_drewN] at hz3 hc3 hf3); (try simp only [World.size_setCell] at hz3 hc3 hf3); (try simp only [World.size_alloc] at hz3 hc3 hf3); (try simp only [World.size_drew] at hz3 hc3 hf3); (try simp only [World.size_drewN] at hz3 hc3 hf3); (try simp only [World.size_setCell] at hz3 hc3 hf3); (try simp only [World.size_alloc] at hz3 hc3 hf3); (try simp only [World.cell?_drew] at hz3 hc3 hf3); (try simp only [World.frozen?_drew] at hz3 hc3 hf3); (try simp only [World.cell?_drewN] at hz3 hc3 hf3); (try simp only [World.frozen?_drewN] at hz3 hc3 hf3); (try (have hy30 : w.heap.size < w3.heap.size := by omega)); (try (have hy31 : w.heap.size + 1 < w3.heap.size := by omega)); (try (have hy32 : w.heap.size + 2 < w3.heap.size := by omega)); (try (have hy33 : w.heap.size + 3 < w3.heap.size := by omega)); have hq3 : w1.heap.size < w3.heap.size := hx3.up (by simp); have hcmp : (!st.toList == s.toList) = true := (by rw [toList_data, toList_data, hst]; simpa using ht.out); clear hst))
                refine bodyPost_ret (v := tupT R) ?_ rfl ⟨rfl, by (repeat (first | exact Ex.refl _ | assumption | apply Ex.drew | apply Ex.drewN | apply Ex.alloc | (refine Ex.setCell ?_ (by simp; try omega) _) | (refine Ex.call ?_ (by assumption))))⟩
                have hy8 : w.heap.size < w1.heap.size + 1 := Nat.lt_succ_of_lt hy10
                rw [hr.out]; simp [results, Try.results22, go_sem, tupT, *]
      · have hc2 : ((s[a].toNat : Int) == 47) = false := by
          simp only [beq_eq_false_iff_ne, ne_eq]
          intro hh
          apply h47
          rw [hby1]
          apply UInt8.toNat_inj.1
          simp; omega
        have hr : Hid (R = (0, 0, 6)) := by show _ = _; rw [hR.out, hA]; simp [h47]
        clear hR hA hnv hlen hrl hrd hrd' hby1 hby2 hat h47 ha
        go_enter Try.func22, Try.ntmps22
        go_wp2_with (first | (go_at_call 26; refine (Never_any _).mono ?_; rintro e w1 ⟨rfl, hx1⟩; obtain ⟨hc1, hf1⟩ := hx1.facts2; have hz1 := hx1.size; (try simp only [World.size_drew] at hz1 hc1 hf1); (try simp only [World.size_drewN] at hz1 hc1 hf1); (try simp only [World.size_setCell] at hz1 hc1 hf1); (try simp only [World.size_alloc] at hz1 hc1 hf1); (try simp only [World.size_drew] at hz1 hc1 hf1); (try simp only [World.size_drewN] at hz1 hc1 hf1); (try simp only [World.size_setCell] at hz1 hc1 hf1); (try simp only [World.size_alloc] at hz1 hc1 hf1); (try simp only [World.cell?_drew] at hz1 hc1 hf1); (try simp only [World.frozen?_drew] at hz1 hc1 hf1); (try simp only [World.cell?_drewN] at hz1 hc1 hf1); (try simp only [World.frozen?_drewN] at hz1 hc1 hf1); (try (have hy10 : w.heap.size < w1.heap.size := by omega)); (try (have hy11 : w.heap.size + 1 < w1.heap.size := by omega)); (try (have hy12 : w.heap.size + 2 < w1.heap.size := by omega)); (try (have hy13 : w.heap.size + 3 < w1.heap.size := by omega))) | (go_at_call 46; refine (hN.out _).mono ?_; rintro e w_ ⟨rfl, rfl⟩))
        refine bodyPost_ret (v := tupT R) ?_ rfl ⟨rfl, by (repeat (first | exact Ex.refl _ | assumption | apply Ex.drew | apply Ex.drewN | apply Ex.alloc | (refine Ex.setCell ?_ (by simp; try omega) _) | (refine Ex.call ?_ (by assumption))))⟩
        have hy8 : w.heap.size < w1.heap.size + 1 := Nat.lt_succ_of_lt hy10
        rw [hr.out]; simp [results, Try.results22, go_sem, tupT, *]

theorem Read_any (s : ByteArray) (hs : s.size ≤ 2147483647) (w : World) :
    Calls Try.prog 22 #[.string s] w fun e w' => (∃ x, e = .returned (tupT x) ∧ ReadIs s.data.toList x) ∧ Ex w w' := by
  by_cases hnv : s.data.toList = [110, 101, 118, 101, 114]
  · have hq : (!s.toList == [110, 101, 118, 101, 114]) = false := by rw [toList_data, hnv]; rfl
    have ht1 := Lib.hid (fun w => Text_any 1 0 ⟨by omega, by omega⟩ ⟨by omega, by omega⟩ w)
    have ht : textT 1 0 = [110, 101, 118, 101, 114] := by simp [textT, teq]
    have hfin : Hid (ReadIs s.data.toList (1, 0, 0)) := .inl ⟨rfl, ⟨by simp, by simp⟩, ⟨by simp, by simp⟩, by decide, by rw [hnv]; exact ht⟩
    replace ht := Lib.hid ht
    replace hnv := Lib.hid hnv
    go_enter Try.func22, Try.ntmps22
    go_wp2_with (first | (go_at_call 26; refine (Never_any _).mono ?_; rintro e w1 ⟨rfl, hx1⟩; obtain ⟨hc1, hf1⟩ := hx1.facts2; have hz1 := hx1.size; (try simp only [World.size_drew] at hz1 hc1 hf1); (try simp only [World.size_drewN] at hz1 hc1 hf1); (try simp only [World.size_setCell] at hz1 hc1 hf1); (try simp only [World.size_alloc] at hz1 hc1 hf1); (try simp only [World.size_drew] at hz1 hc1 hf1); (try simp only [World.size_drewN] at hz1 hc1 hf1); (try simp only [World.size_setCell] at hz1 hc1 hf1); (try simp only [World.size_alloc] at hz1 hc1 hf1); (try simp only [World.cell?_drew] at hz1 hc1 hf1); (try simp only [World.frozen?_drew] at hz1 hc1 hf1); (try simp only [World.cell?_drewN] at hz1 hc1 hf1); (try simp only [World.frozen?_drewN] at hz1 hc1 hf1); (try (have hy10 : w.heap.size < w1.heap.size := by omega)); (try (have hy11 : w.heap.size + 1 < w1.heap.size := by omega)); (try (have hy12 : w.heap.size + 2 < w1.heap.size := by omega)); (try (have hy13 : w.heap.size + 3 < w1.heap.size := by omega))) | (go_at_call 21; refine (ht1.out _).mono ?_; rintro e w3 ⟨⟨st, rfl, hst⟩, hx3⟩; obtain ⟨hc3, hf3⟩ := hx3.facts2; have hz3 := hx3.size; (try simp only [World.size_drew] at hz3 hc3 hf3); (try simp only [World.size_drewN] at hz3 hc3 hf3); (try simp only [World.size_setCell] at hz3 hc3 hf3); (try simp only [World.size_alloc] at hz3 hc3 hf3); (try simp only [World.size_drew] at hz3 hc3 hf3); (try simp only [World.size_drewN] at hz3 hc3 hf3); (try simp only [World.size_setCell] at hz3 hc3 hf3); (try simp only [World.size_alloc] at hz3 hc3 hf3); (try simp only [World.cell?_drew] at hz3 hc3 hf3); (try simp only [World.frozen?_drew] at hz3 hc3 hf3); (try simp only [World.cell?_drewN] at hz3 hc3 hf3); (try simp only [World.frozen?_drewN] at hz3 hc3 hf3); (try (have hy30 : w.heap.size < w3.heap.size := by omega)); (try (have hy31 : w.heap.size + 1 < w3.heap.size := by omega)); (try (have hy32 : w.heap.size + 2 < w3.heap.size := by omega)); (try (have hy33 : w.heap.size + 3 < w3.heap.size := by omega)); have hq3 : w1.heap.size < w3.heap.size := hx3.up (by simp); have hcmp : (!st.toList == s.toList) = false := (by rw [toList_data, toList_data, hst, ht.out, hnv.out]; rfl); clear hst))
    refine bodyPost_ret (v := tupT (1, 0, 0)) ?_ rfl ⟨⟨_, rfl, hfin.out⟩, by (repeat (first | exact Ex.refl _ | assumption | apply Ex.drew | apply Ex.drewN | apply Ex.alloc | (refine Ex.setCell ?_ (by simp; try omega) _) | (refine Ex.call ?_ (by assumption))))⟩
    have hy8 : w.heap.size < w1.heap.size + 1 := Nat.lt_succ_of_lt hy10
    simp [results, Try.results22, go_sem, tupT, *]
  · refine (Read_plain s hs hnv w).mono ?_
    rintro e w' ⟨rfl, hx⟩
    exact ⟨⟨_, rfl, readL_is hnv⟩, hx⟩
end Go.Proofs.Ytjheegdkngkhaaa
