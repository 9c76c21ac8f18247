/- Walks of the reference's Dec and Text. Conditions: numbers in their ranges. -/
import Derived.Test.YtjheegdkngkhaaaTextP
import Derived.Test.YtjheegdkngkhaaaNumW6
namespace Go.Proofs.Ytjheegdkngkhaaa
open Go.RowKit

theorem byte_string (wx : World) (x : Int) : (convert 79 9 (.slice (some ⟨wx.heap.size, 0, none⟩) 1 1)).run Try.prog (wx.alloc (.cells #[.int .u8 x] 5)) = .ok (.string (strOfNums [x])) (wx.alloc (.cells #[.int .u8 x] 5)) :=
  run_convert_bytes_arg _ 79 5 Try.underlying79 Try.underlying5 wx.heap.size 0 1 1 [x] rfl (fun i hi => by obtain rfl : i = 0 := (by omega); rw [World.cell?_alloc_at _ _ _ _ rfl]; rfl) 9 Try.underlying9
theorem digit_str (m : Nat) : (strOfNums [48 + (m : Int) % 10]).data.toList = [(48 + m % 10).toUInt8] := by
  have : (48 + (m : Int) % 10).toNat = 48 + m % 10 := by omega
  rw [strOfNums_data, List.map_cons, this]; rfl

set_option maxHeartbeats 1000000 in
theorem Dec_any (n : Nat) (hn : n ≤ 9223372036854775807) (w : World) :
    Calls Try.prog 47 #[.int .i64 n] w fun e w' => (∃ s : ByteArray, e = .returned (.string s) ∧ s.data.toList = dec n ∧ s.size ≤ 19) ∧ Ex w w' := by
  have hdl := dec_len (n := n) (k := 18) (by omega)
  have hbs := byte_string
  have hadd := fun (a b : ByteArray) (h : a.size + b.size ≤ 40) => run_add_short Try.prog a b 40 h (by decide)
  have hds := Lib.hid (dec_step n)
  have hss : ∀ x : Int, (strOfNums [x]).size = 1 := fun x => strOfNums_size [x]
  go_enter Try.func47, Try.ntmps47
  go_wp2
  go_loopg [0, 3] n (fun gk x sv wr => ∃ (m : Nat) (s : ByteArray), x = .int .i64 m ∧ sv = .string s ∧ m ≤ gk ∧ m ≤ 9223372036854775807 ∧ dec n = (if m = 0 then [] else dec m) ++ s.data.toList ∧ Ex w wr)
  case atStart => exact ⟨n / 10, _, by go_num, rfl, Nat.div_le_self _ _, by omega, by rw [digit_str]; exact hds.out, by (repeat (first | exact Ex.refl _ | assumption | apply Ex.drew | apply Ex.drewN | apply Ex.alloc | (refine Ex.setCell ?_ (by simp; try omega) _) | (refine Ex.call ?_ (by assumption))))⟩
  case round =>
    obtain ⟨m, s, rfl, rfl, hmk, hm, hd, hx⟩ := hrel
    have hsz : s.size ≤ 19 := by have := congrArg List.length hd; rw [List.length_append, ← size_of_data] at this; omega
    by_cases h0 : 0 < m
    · have hst := Lib.hid (dec_step m)
      rw [if_neg (by omega)] at hd
      have hsz2 : s.size ≤ 18 := by
        have := congrArg List.length hd
        have hne := List.length_pos_iff.2 (dec_ne m)
        rw [List.length_append, ← size_of_data] at this; omega
      replace hd := Lib.hid hd
      go_wp2
      go_roundg (m / 10)
      case rel => exact ⟨m / 10, _, by go_num, rfl, Nat.le_refl _, by omega, by rw [hd.out, hst.out, ByteArray.data_append, Array.toList_append, digit_str]; simp, by (repeat (first | exact Ex.refl _ | assumption | apply Ex.drew | apply Ex.drewN | apply Ex.alloc | (refine Ex.setCell ?_ (by simp; try omega) _) | (refine Ex.call ?_ (by assumption))))⟩
      case measure => omega
    · have h1 : m = 0 := by omega
      subst h1
      replace hd := Lib.hid hd
      go_wp2
      go_ret
      exact ⟨⟨s, rfl, by rw [hd.out]; simp, hsz⟩, hx⟩

theorem DecI_any (x : Int) (h0 : 0 ≤ x) (h1 : x ≤ 9223372036854775807) (w : World) :
    Calls Try.prog 47 #[.int .i64 x] w fun e w' => (∃ s : ByteArray, e = .returned (.string s) ∧ s.data.toList = dec x.toNat ∧ s.size ≤ 19) ∧ Ex w w' := by
  obtain ⟨n, rfl⟩ := Int.eq_ofNat_of_zero_le h0
  exact Dec_any n (by omega) w

set_option maxHeartbeats 1000000 in
theorem RText_any (n d : Int) (h1 : I64 n) (h2 : I64 d) (w : World) :
    Calls Try.prog 23 #[.agg #[.int .i64 n, .int .i64 d]] w fun e w' => (∃ s : ByteArray, e = .returned (.string s) ∧ s.data.toList = textT n d) ∧ Ex w w' := by
  by_cases g1 : teq n d 1 0 = true
  · go_enter Try.func23, Try.ntmps23
    go_wp2_with ((go_at_call 33; refine (RNever_any _ _ _).mono ?_; rintro e w1 ⟨rfl, hx1⟩; obtain ⟨hc1, hf1⟩ := hx1.facts2; have hz1 := hx1.size; (try simp only [World.size_drew] at hz1 hc1 hf1); (try simp only [World.size_drewN] at hz1 hc1 hf1); (try simp only [World.size_setCell] at hz1 hc1 hf1); (try simp only [World.size_alloc] at hz1 hc1 hf1); (try simp only [World.size_drew] at hz1 hc1 hf1); (try simp only [World.size_drewN] at hz1 hc1 hf1); (try simp only [World.size_setCell] at hz1 hc1 hf1); (try simp only [World.size_alloc] at hz1 hc1 hf1); (try simp only [World.cell?_drew] at hz1 hc1 hf1); (try simp only [World.frozen?_drew] at hz1 hc1 hf1); (try simp only [World.cell?_drewN] at hz1 hc1 hf1); (try simp only [World.frozen?_drewN] at hz1 hc1 hf1); (try (have hy10 : w.heap.size < w1.heap.size := by omega)); (try (have hy11 : w.heap.size + 1 < w1.heap.size := by omega)); (try (have hy12 : w.heap.size + 2 < w1.heap.size := by omega)); (try (have hy13 : w.heap.size + 3 < w1.heap.size := by omega))))
    go_ret
    exact ⟨⟨_, rfl, by simp [textT, g1]⟩, by (repeat (first | exact Ex.refl _ | assumption | apply Ex.drew | apply Ex.drewN | apply Ex.alloc | (refine Ex.setCell ?_ (by simp; try omega) _) | (refine Ex.call ?_ (by assumption))))⟩
  · simp only [Bool.not_eq_true] at g1
    by_cases g2 : rightB n d = true
    · have k1 : 0 < d ∧ 0 ≤ n := by have g := g2; simp [rightB, g1] at g; exact ⟨g.1.1, g.1.2⟩
      obtain ⟨a1, a2⟩ := k1
      have a3 := h1.2
      have a4 := h2.2
      by_cases g3 : d = 1
      · subst g3
        have ht : Hid (textT n 1 = dec n.toNat) := by show _ = _; simp [textT, g1, g2]
        go_enter Try.func23, Try.ntmps23
        go_wp2_with (first | (go_at_call 33; refine (RNever_any _ _ _).mono ?_; rintro e w1 ⟨rfl, hx1⟩; obtain ⟨hc1, hf1⟩ := hx1.facts2; have hz1 := hx1.size; (try simp only [World.size_drew] at hz1 hc1 hf1); (try simp only [World.size_drewN] at hz1 hc1 hf1); (try simp only [World.size_setCell] at hz1 hc1 hf1); (try simp only [World.size_alloc] at hz1 hc1 hf1); (try simp only [World.size_drew] at hz1 hc1 hf1); (try simp only [World.size_drewN] at hz1 hc1 hf1); (try simp only [World.size_setCell] at hz1 hc1 hf1); (try simp only [World.size_alloc] at hz1 hc1 hf1); (try simp only [World.cell?_drew] at hz1 hc1 hf1); (try simp only [World.frozen?_drew] at hz1 hc1 hf1); (try simp only [World.cell?_drewN] at hz1 hc1 hf1); (try simp only [World.frozen?_drewN] at hz1 hc1 hf1); (try (have hy10 : w.heap.size < w1.heap.size := by omega)); (try (have hy11 : w.heap.size + 1 < w1.heap.size := by omega)); (try (have hy12 : w.heap.size + 2 < w1.heap.size := by omega)); (try (have hy13 : w.heap.size + 3 < w1.heap.size := by omega))) | (go_at_call 15; refine (RRight_any _ _ (by assumption) (by assumption) _).mono ?_; rintro e w1 ⟨rfl, hx1⟩; obtain ⟨hc1, hf1⟩ := hx1.facts2; have hz1 := hx1.size; (try simp only [World.size_drew] at hz1 hc1 hf1); (try simp only [World.size_drewN] at hz1 hc1 hf1); (try simp only [World.size_setCell] at hz1 hc1 hf1); (try simp only [World.size_alloc] at hz1 hc1 hf1); (try simp only [World.size_drew] at hz1 hc1 hf1); (try simp only [World.size_drewN] at hz1 hc1 hf1); (try simp only [World.size_setCell] at hz1 hc1 hf1); (try simp only [World.size_alloc] at hz1 hc1 hf1); (try simp only [World.cell?_drew] at hz1 hc1 hf1); (try simp only [World.frozen?_drew] at hz1 hc1 hf1); (try simp only [World.cell?_drewN] at hz1 hc1 hf1); (try simp only [World.frozen?_drewN] at hz1 hc1 hf1); (try (have hy10 : w.heap.size < w1.heap.size := by omega)); (try (have hy11 : w.heap.size + 1 < w1.heap.size := by omega)); (try (have hy12 : w.heap.size + 2 < w1.heap.size := by omega)); (try (have hy13 : w.heap.size + 3 < w1.heap.size := by omega))) | (go_at_call 47; refine (DecI_any _ (by omega) (by omega) _).mono ?_; rintro e w2 ⟨⟨s, rfl, hs, hsz⟩, hx2⟩))
        go_ret
        exact ⟨⟨_, rfl, by rw [ht.out]; exact hs⟩, by (repeat (first | exact Ex.refl _ | assumption | apply Ex.drew | apply Ex.drewN | apply Ex.alloc | (refine Ex.setCell ?_ (by simp; try omega) _) | (refine Ex.call ?_ (by assumption))))⟩
      · have g3' : (d == 1) = false := by simp [g3]
        have ht : Hid (textT n d = dec n.toNat ++ 47 :: dec d.toNat) := by show _ = _; simp [textT, g1, g2, g3]
        go_enter Try.func23, Try.ntmps23
        go_wp2_with (first | (go_at_call 33; refine (RNever_any _ _ _).mono ?_; rintro e w1 ⟨rfl, hx1⟩; obtain ⟨hc1, hf1⟩ := hx1.facts2; have hz1 := hx1.size; (try simp only [World.size_drew] at hz1 hc1 hf1); (try simp only [World.size_drewN] at hz1 hc1 hf1); (try simp only [World.size_setCell] at hz1 hc1 hf1); (try simp only [World.size_alloc] at hz1 hc1 hf1); (try simp only [World.size_drew] at hz1 hc1 hf1); (try simp only [World.size_drewN] at hz1 hc1 hf1); (try simp only [World.size_setCell] at hz1 hc1 hf1); (try simp only [World.size_alloc] at hz1 hc1 hf1); (try simp only [World.cell?_drew] at hz1 hc1 hf1); (try simp only [World.frozen?_drew] at hz1 hc1 hf1); (try simp only [World.cell?_drewN] at hz1 hc1 hf1); (try simp only [World.frozen?_drewN] at hz1 hc1 hf1); (try (have hy10 : w.heap.size < w1.heap.size := by omega)); (try (have hy11 : w.heap.size + 1 < w1.heap.size := by omega)); (try (have hy12 : w.heap.size + 2 < w1.heap.size := by omega)); (try (have hy13 : w.heap.size + 3 < w1.heap.size := by omega))) | (go_at_call 15; refine (RRight_any _ _ (by assumption) (by assumption) _).mono ?_; rintro e w1 ⟨rfl, hx1⟩; obtain ⟨hc1, hf1⟩ := hx1.facts2; have hz1 := hx1.size; (try simp only [World.size_drew] at hz1 hc1 hf1); (try simp only [World.size_drewN] at hz1 hc1 hf1); (try simp only [World.size_setCell] at hz1 hc1 hf1); (try simp only [World.size_alloc] at hz1 hc1 hf1); (try simp only [World.size_drew] at hz1 hc1 hf1); (try simp only [World.size_drewN] at hz1 hc1 hf1); (try simp only [World.size_setCell] at hz1 hc1 hf1); (try simp only [World.size_alloc] at hz1 hc1 hf1); (try simp only [World.cell?_drew] at hz1 hc1 hf1); (try simp only [World.frozen?_drew] at hz1 hc1 hf1); (try simp only [World.cell?_drewN] at hz1 hc1 hf1); (try simp only [World.frozen?_drewN] at hz1 hc1 hf1); (try (have hy10 : w.heap.size < w1.heap.size := by omega)); (try (have hy11 : w.heap.size + 1 < w1.heap.size := by omega)); (try (have hy12 : w.heap.size + 2 < w1.heap.size := by omega)); (try (have hy13 : w.heap.size + 3 < w1.heap.size := by omega))))
        go_region_held3 (fun w' => w'.cell? ⟨w.heap.size, 0, none⟩ = some (.int .i64 n) ∧ w'.cell? ⟨w.heap.size, 1, none⟩ = some (.int .i64 d)) (simp [go_sem, *])
          (first
            | (go_at_call_of 47 (Value.int IntKind.i64 n); refine (DecI_any _ (by omega) (by omega) _).mono ?_; rintro e w2 ⟨⟨s, rfl, hs, hsz⟩, hx2⟩; obtain ⟨hc2, hf2⟩ := hx2.facts2; have hz2 := hx2.size; (try simp only [World.size_drew] at hz2 hc2 hf2); (try simp only [World.size_drewN] at hz2 hc2 hf2); (try simp only [World.size_setCell] at hz2 hc2 hf2); (try simp only [World.size_alloc] at hz2 hc2 hf2); (try simp only [World.size_drew] at hz2 hc2 hf2); (try simp only [World.size_drewN] at hz2 hc2 hf2); (try simp only [World.size_setCell] at hz2 hc2 hf2); (try simp only [World.size_alloc] at hz2 hc2 hf2); (try simp only [World.cell?_drew] at hz2 hc2 hf2); (try simp only [World.frozen?_drew] at hz2 hc2 hf2); (try simp only [World.cell?_drewN] at hz2 hc2 hf2); (try simp only [World.frozen?_drewN] at hz2 hc2 hf2); (try (have hy20 : w.heap.size < w2.heap.size := by omega)); (try (have hy21 : w.heap.size + 1 < w2.heap.size := by omega)); (try (have hy22 : w.heap.size + 2 < w2.heap.size := by omega)); (try (have hy23 : w.heap.size + 3 < w2.heap.size := by omega)); replace hs := Lib.hid hs; have hadd1 := run_add_short Try.prog s ⟨#[47]⟩ 20 (by simp [go_sem]; omega) (by decide))
            | (go_at_call_of 47 (Value.int IntKind.i64 d); refine (DecI_any _ (by omega) (by omega) _).mono ?_; rintro e w3 ⟨⟨s', rfl, hs', hsz'⟩, hx3⟩; obtain ⟨hc3, hf3⟩ := hx3.facts2; have hz3 := hx3.size; (try simp only [World.size_drew] at hz3 hc3 hf3); (try simp only [World.size_drewN] at hz3 hc3 hf3); (try simp only [World.size_setCell] at hz3 hc3 hf3); (try simp only [World.size_alloc] at hz3 hc3 hf3); (try simp only [World.size_drew] at hz3 hc3 hf3); (try simp only [World.size_drewN] at hz3 hc3 hf3); (try simp only [World.size_setCell] at hz3 hc3 hf3); (try simp only [World.size_alloc] at hz3 hc3 hf3); (try simp only [World.cell?_drew] at hz3 hc3 hf3); (try simp only [World.frozen?_drew] at hz3 hc3 hf3); (try simp only [World.cell?_drewN] at hz3 hc3 hf3); (try simp only [World.frozen?_drewN] at hz3 hc3 hf3); (try (have hy30 : w.heap.size < w3.heap.size := by omega)); (try (have hy31 : w.heap.size + 1 < w3.heap.size := by omega)); (try (have hy32 : w.heap.size + 2 < w3.heap.size := by omega)); (try (have hy33 : w.heap.size + 3 < w3.heap.size := by omega)); replace hs' := Lib.hid hs'; have hadd2 := run_add_short Try.prog (s ++ ⟨#[47]⟩) s' 39 (by simp [go_sem]; omega) (by decide)))
        all_goals go_wp2
        all_goals (go_ret; refine ⟨⟨_, rfl, ?_⟩, by (repeat (first | exact Ex.refl _ | assumption | apply Ex.drew | apply Ex.drewN | apply Ex.alloc | (refine Ex.setCell ?_ (by simp; try omega) _) | (refine Ex.call ?_ (by assumption))))⟩; rw [ht.out])
        all_goals simp [ByteArray.data_append, hs.out, hs'.out]
    · simp only [Bool.not_eq_true] at g2
      go_enter Try.func23, Try.ntmps23
      go_wp2_with (first | (go_at_call 33; refine (RNever_any _ _ _).mono ?_; rintro e w1 ⟨rfl, hx1⟩; obtain ⟨hc1, hf1⟩ := hx1.facts2; have hz1 := hx1.size; (try simp only [World.size_drew] at hz1 hc1 hf1); (try simp only [World.size_drewN] at hz1 hc1 hf1); (try simp only [World.size_setCell] at hz1 hc1 hf1); (try simp only [World.size_alloc] at hz1 hc1 hf1); (try simp only [World.size_drew] at hz1 hc1 hf1); (try simp only [World.size_drewN] at hz1 hc1 hf1); (try simp only [World.size_setCell] at hz1 hc1 hf1); (try simp only [World.size_alloc] at hz1 hc1 hf1); (try simp only [World.cell?_drew] at hz1 hc1 hf1); (try simp only [World.frozen?_drew] at hz1 hc1 hf1); (try simp only [World.cell?_drewN] at hz1 hc1 hf1); (try simp only [World.frozen?_drewN] at hz1 hc1 hf1); (try (have hy10 : w.heap.size < w1.heap.size := by omega)); (try (have hy11 : w.heap.size + 1 < w1.heap.size := by omega)); (try (have hy12 : w.heap.size + 2 < w1.heap.size := by omega)); (try (have hy13 : w.heap.size + 3 < w1.heap.size := by omega))) | (go_at_call 15; refine (RRight_any _ _ (by assumption) (by assumption) _).mono ?_; rintro e w1 ⟨rfl, hx1⟩; obtain ⟨hc1, hf1⟩ := hx1.facts2; have hz1 := hx1.size; (try simp only [World.size_drew] at hz1 hc1 hf1); (try simp only [World.size_drewN] at hz1 hc1 hf1); (try simp only [World.size_setCell] at hz1 hc1 hf1); (try simp only [World.size_alloc] at hz1 hc1 hf1); (try simp only [World.size_drew] at hz1 hc1 hf1); (try simp only [World.size_drewN] at hz1 hc1 hf1); (try simp only [World.size_setCell] at hz1 hc1 hf1); (try simp only [World.size_alloc] at hz1 hc1 hf1); (try simp only [World.cell?_drew] at hz1 hc1 hf1); (try simp only [World.frozen?_drew] at hz1 hc1 hf1); (try simp only [World.cell?_drewN] at hz1 hc1 hf1); (try simp only [World.frozen?_drewN] at hz1 hc1 hf1); (try (have hy10 : w.heap.size < w1.heap.size := by omega)); (try (have hy11 : w.heap.size + 1 < w1.heap.size := by omega)); (try (have hy12 : w.heap.size + 2 < w1.heap.size := by omega)); (try (have hy13 : w.heap.size + 3 < w1.heap.size := by omega))))
      go_ret
      exact ⟨⟨_, rfl, by simp [textT, g1, g2]⟩, by (repeat (first | exact Ex.refl _ | assumption | apply Ex.drew | apply Ex.drewN | apply Ex.alloc | (refine Ex.setCell ?_ (by simp; try omega) _) | (refine Ex.call ?_ (by assumption))))⟩
end Go.Proofs.Ytjheegdkngkhaaa
