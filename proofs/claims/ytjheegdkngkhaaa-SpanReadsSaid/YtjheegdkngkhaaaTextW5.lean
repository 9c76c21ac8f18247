/- Walk of the reference's Read. Conditions: the text is shorter than 2 to the 31. -/
import Derived.Test.YtjheegdkngkhaaaTextW4
import Derived.Test.YtjheegdkngkhaaaTextW2
import Derived.Test.YtjheegdkngkhaaaNumW6
namespace Go.Proofs.Ytjheegdkngkhaaa
open Go.RowKit

theorem dec_inj {m n : Nat} (h : dec m = dec n) : m = n := by have := congrArg pv h; rwa [pv_dec, pv_dec] at this
theorem DigIs.i64 {l : List UInt8} {n : Int} {ok : Bool} (h : DigIs l n ok) : I64 n ∧ 0 ≤ n := by
  rcases h with ⟨_, m, rfl, hm, _⟩ | ⟨_, rfl, _⟩
  · exact ⟨⟨by omega, by omega⟩, by omega⟩
  · exact ⟨⟨by omega, by omega⟩, by omega⟩
theorem DigIs.of_dec {n : Int} {ok : Bool} {m : Nat} (h : DigIs (dec m) n ok) (hm : m ≤ 9223372036854775807) : ok = true ∧ n = m := by
  rcases h with ⟨h1, k, rfl, _, h3⟩ | ⟨_, _, h3⟩
  · exact ⟨h1, by rw [dec_inj h3]⟩
  · exact absurd rfl (h3 m hm)
theorem split_slash {p q a b : List UInt8} (h : p ++ 47 :: q = a ++ 47 :: b) (hp : (47 : UInt8) ∉ p) (ha : (47 : UInt8) ∉ a) : p = a ∧ q = b := by
  induction p generalizing a with
  | nil =>
    cases a with
    | nil => simp at h; exact ⟨rfl, h⟩
    | cons x a => simp at h; exact absurd (by rw [← h.1]; simp) ha
  | cons y p ih =>
    cases a with
    | nil => simp at h; exact absurd (by rw [h.1]; simp) hp
    | cons x a =>
      simp only [List.cons_append, List.cons.injEq] at h
      have := ih h.2 (fun hh => hp (List.mem_cons_of_mem _ hh)) (fun hh => ha (List.mem_cons_of_mem _ hh))
      exact ⟨by rw [h.1, this.1], this.2⟩
theorem textT_cases {n d : Int} {l : List UInt8} (hl : l ≠ [110, 101, 118, 101, 114]) (h1 : I64 n) (h2 : I64 d) (hr : rightB n d = true) (h : textT n d = l) : Fin n d := by
  refine Fin.of h1 h2 hr (Bool.eq_false_iff.2 fun hh => hl ?_)
  rw [← h]; simp [textT, hh]
theorem read_A {l : List UInt8} {n : Int} {ok : Bool} (hl : l ≠ [110, 101, 118, 101, 114]) (hs : (47 : UInt8) ∉ l) (h : DigIs l n ok) : ReadIs l (if ok then (n, 1, 0) else (0, 0, 6)) := by
  have hi := h.i64
  cases ok with
  | true =>
    rcases h with ⟨_, m, rfl, hm, rfl⟩ | ⟨h, _⟩
    · refine .inl ⟨rfl, hi.1, ⟨by simp, by simp⟩, right_one m, ?_⟩
      have : teq (m : Int) 1 1 0 = false := by simp [teq]
      show textT m 1 = _
      simp [textT, this, right_one]
    · cases h
  | false =>
    refine .inr ⟨rfl, fun a b a1 a2 a3 a4 => ?_⟩
    have hf := textT_cases hl a1 a2 a3 a4
    have e := hf.text
    rw [a4] at e
    split at e
    · rw [e] at h
      have h0 := hf.n0; have h1 := hf.n1
      have := (DigIs.of_dec h (by omega)).1
      cases this
    · exact hs (by rw [e]; simp)
theorem read_B {p q : List UInt8} {n d : Int} {ok is : Bool} (hp : (47 : UInt8) ∉ p) (h1 : DigIs p n ok) (h2 : DigIs q d is) : ReadIs (p ++ 47 :: q) (if (ok && is && decide (1 < d) && rightB n d) = true then (n, d, 0) else (0, 0, 6)) := by
  have hl : p ++ 47 :: q ≠ [110, 101, 118, 101, 114] := fun h => by
    have : (47 : UInt8) ∈ p ++ 47 :: q := by simp
    rw [h] at this; revert this; decide
  have i1 := h1.i64; have i2 := h2.i64
  by_cases hc : (ok && is && decide (1 < d) && rightB n d) = true
  · rw [if_pos hc]
    simp only [Bool.and_eq_true, decide_eq_true_eq] at hc
    obtain ⟨⟨⟨rfl, rfl⟩, hd⟩, hr⟩ := hc
    refine .inl ⟨rfl, i1.1, i2.1, hr, ?_⟩
    rcases h1 with ⟨_, m, rfl, hm, rfl⟩ | ⟨h, _⟩
    · rcases h2 with ⟨_, k, rfl, hk, rfl⟩ | ⟨h, _⟩
      · have hf : Fin m k := Fin.of i1.1 i2.1 hr (by simp [teq]; omega)
        show textT m k = _
        rw [hf.text, if_neg (by omega)]; simp
      · cases h
    · cases h
  · rw [if_neg hc]
    refine .inr ⟨rfl, fun a b a1 a2 a3 a4 => hc ?_⟩
    have hf := textT_cases hl a1 a2 a3 a4
    have e := hf.text
    rw [a4] at e
    have f0 := hf.n0; have f1 := hf.n1; have f2 := hf.d0; have f3 := hf.d1
    split at e
    · exact absurd (show (47 : UInt8) ∈ dec a.toNat by rw [← e]; simp) (dec_no_slash _)
    · rename_i hb
      obtain ⟨rfl, rfl⟩ := split_slash e hp (dec_no_slash _)
      obtain ⟨rfl, rfl⟩ := DigIs.of_dec h1 (by omega)
      obtain ⟨rfl, rfl⟩ := DigIs.of_dec h2 (by omega)
      have g1 : ((a.toNat : Nat) : Int) = a := by omega
      have g2 : ((b.toNat : Nat) : Int) = b := by omega
      rw [g1, g2, a3]
      simp; omega
theorem take_extract (s : ByteArray) (k : Nat) (_ : k ≤ s.size) : (s.extract 0 k).data.toList = s.data.toList.take k := by simp
theorem drop_extract (s : ByteArray) (k : Nat) : (s.extract k s.size).data.toList = s.data.toList.drop k := by
  simp only [ByteArray.data_extract, Array.toList_extract, List.extract_eq_take_drop]
  exact List.take_of_length_le (by rw [List.length_drop, ← size_of_data]; omega)

/-- The place of the first slash from k on, or the end. -/
structure CutAt (s : ByteArray) (k cut : Nat) : Prop where
  le : k ≤ cut
  le' : cut ≤ s.size
  no : (47 : UInt8) ∉ (s.data.toList.take cut).drop k
  is : cut < s.size → s.data.toList.drop cut = 47 :: s.data.toList.drop (cut + 1)
theorem CutAt.start (s : ByteArray) : CutAt s s.size s.size := ⟨Nat.le_refl _, Nat.le_refl _, by rw [List.drop_eq_nil_of_le (List.length_take_le _ _)]; simp, fun h => by omega⟩
theorem CutAt.slash {s : ByteArray} {k cut : Nat} (_ : CutAt s (k + 1) cut) (hk : k < s.size) (hb : s[k].toNat = 47) : CutAt s k k := by
  refine ⟨Nat.le_refl _, by omega, ?_, fun _ => ?_⟩
  · rw [List.drop_eq_nil_of_le (List.length_take_le _ _)]; simp
  · rw [getD_byte s k hk]; congr 1; exact UInt8.toNat_inj.1 (by simpa using hb)
theorem CutAt.other {s : ByteArray} {k cut : Nat} (h : CutAt s (k + 1) cut) (hk : k < s.size) (hb : s[k].toNat ≠ 47) : CutAt s k cut := by
  refine ⟨by have := h.le; omega, h.le', ?_, h.is⟩
  have hc : k < cut := h.le
  have e : (s.data.toList.take cut).drop k = s[k] :: (s.data.toList.take cut).drop (k + 1) := by
    rw [List.drop_eq_getElem_cons (by simp; omega), List.getElem_take]; rfl
  rw [e]
  intro hm
  rcases List.mem_cons.1 hm with hm | hm
  · exact hb (by rw [← hm]; rfl)
  · exact h.no hm

set_option maxHeartbeats 2000000 in
theorem RRead_plain (s : ByteArray) (hs : s.size ≤ 2147483647) (hnv : s.data.toList ≠ [110, 101, 118, 101, 114]) (w : World) :
    Calls Try.prog 24 #[.string s] w fun e w' => (∃ x, e = .returned (tupT x) ∧ ReadIs s.data.toList x) ∧ Ex w w' := by
  have hq : (s.toList == [110, 101, 118, 101, 114]) = false := by have := not_never hnv; simpa using this
  replace hnv := Lib.hid hnv
  go_enter Try.func24, Try.ntmps24
  go_wp2
  go_loopg [4, 5] (s.size) (fun gk c i wr => ∃ k cut : Nat, c = .int .i64 cut ∧ i = .int .i64 (k - 1) ∧ k ≤ gk ∧ k ≤ s.size ∧ CutAt s k cut ∧ wr = w.alloc (.cells #[.int .i64 0, .int .i64 0] 23))
  case atStart => exact ⟨s.size, s.size, rfl, rfl, Nat.le_refl _, Nat.le_refl _, CutAt.start s, rfl⟩
  case round =>
    obtain ⟨k, cut, rfl, rfl, hgk, hk, hC, rfl⟩ := hrel
    cases k with
    | succ k =>
      have e1 : ((k + 1 : Nat) : Int) - 1 = k := by omega
      have hks : k < s.size := by omega
      by_cases hb : s[k].toNat = 47
      · have hC' := Lib.hid (hC.slash hks hb)
        have hb' : ((s[k].toNat : Int) == 47) = true := by simp [hb]
        replace hb := Lib.hid hb
        clear hC
        go_wp2
        go_roundg k
        case rel => exact ⟨k, k, by rw [e1], by go_num, Nat.le_refl _, by omega, hC'.out, rfl⟩
        case measure => omega
      · have hC' := Lib.hid (hC.other hks hb)
        have hb' : ((s[k].toNat : Int) == 47) = false := by simp; omega
        replace hb := Lib.hid hb
        clear hC
        go_wp2
        go_roundg k
        case rel => exact ⟨k, cut, rfl, by go_num, Nat.le_refl _, by omega, hC'.out, rfl⟩
        case measure => omega
    | zero =>
      have hcl := hC.le'
      have hno := hC.no
      rw [List.drop_zero] at hno
      have his := hC.is
      clear hC
      have hx1 : (s.extract 0 cut).data.toList = s.data.toList.take cut := take_extract s cut hcl
      have hxs : (s.extract 0 cut).size ≤ 2147483647 := by rw [size_of_data, hx1]; simp; omega
      have hD := Lib.hid (fun w => Digits_any (s.extract 0 cut) hxs w)
      go_wp2_with fail
      refine (hD.out _).mono ?_
      rintro e w_ ⟨⟨n, ok, rfl, hD1⟩, rfl⟩
      have hi1 := hD1.i64.1
      by_cases hcut : cut = s.size
      · have hle : ¬ cut < s.size := by omega
        have hall : s.data.toList.take cut = s.data.toList := by rw [hcut, size_of_data]; exact List.take_length
        rw [hx1, hall] at hD1
        rw [hall] at hno
        have hA := read_A hnv.out hno hD1
        have hr1 : ok = true → rightB n 1 = true := fun h => by
          rcases hD1 with ⟨_, m, rfl, _⟩ | ⟨h', _⟩
          · exact right_one m
          · rw [h] at h'; cases h'
        replace hcut := Lib.hid hcut
        clear hall hx1 hno his hD1
        cases ok with
        | true =>
          have hr := hr1 rfl
          have hfin := Lib.hid hA
          clear hA hr1
          go_wp2_with (first | (go_at_call 15; refine (RRight_any _ _ hi1 ⟨by omega, by omega⟩ _).mono ?_; rintro e w2 ⟨rfl, hx2⟩; rw [hr]; obtain ⟨hc2, hf2⟩ := hx2.facts2; have hz2 := hx2.size; (try simp only [World.size_drew] at hz2 hc2 hf2); (try simp only [World.size_drewN] at hz2 hc2 hf2); (try simp only [World.size_setCell] at hz2 hc2 hf2); (try simp only [World.size_alloc] at hz2 hc2 hf2); (try simp only [World.size_drew] at hz2 hc2 hf2); (try simp only [World.size_drewN] at hz2 hc2 hf2); (try simp only [World.size_setCell] at hz2 hc2 hf2); (try simp only [World.size_alloc] at hz2 hc2 hf2); (try simp only [World.cell?_drew] at hz2 hc2 hf2); (try simp only [World.frozen?_drew] at hz2 hc2 hf2); (try simp only [World.cell?_drewN] at hz2 hc2 hf2); (try simp only [World.frozen?_drewN] at hz2 hc2 hf2); (try (have hy20 : w.heap.size < w2.heap.size := by omega)); (try (have hy21 : w.heap.size + 1 < w2.heap.size := by omega)); (try (have hy22 : w.heap.size + 2 < w2.heap.size := by omega)); (try (have hy23 : w.heap.size + 3 < w2.heap.size := by omega)); have hy8 : w.heap.size < w.heap.size + 1 + 1 := by omega))
          refine bodyPost_ret (v := tupT (n, 1, 0)) ?_ rfl ⟨⟨_, rfl, hfin.out⟩, by (repeat (first | exact Ex.refl _ | assumption | apply Ex.drew | apply Ex.drewN | apply Ex.alloc | (refine Ex.setCell ?_ (by simp; try omega) _) | (refine Ex.call ?_ (by assumption))))⟩
          simp [results, Try.results24, go_sem, tupT, *]
        | false =>
          have hfin := Lib.hid hA
          clear hA hr1
          go_wp2_with fail
          refine bodyPost_ret (v := tupT (0, 0, 6)) ?_ rfl ⟨⟨_, rfl, hfin.out⟩, by (repeat (first | exact Ex.refl _ | assumption | apply Ex.drew | apply Ex.drewN | apply Ex.alloc | (refine Ex.setCell ?_ (by simp; try omega) _) | (refine Ex.call ?_ (by assumption))))⟩
          simp [results, Try.results24, go_sem, tupT, *]
      · have hlt : cut < s.size := by omega
        have his' := his hlt
        have hx2 : (s.extract (cut + 1) s.size).data.toList = s.data.toList.drop (cut + 1) := drop_extract s (cut + 1)
        have hxs2 : (s.extract (cut + 1) s.size).size ≤ 2147483647 := by rw [size_of_data, hx2, List.length_drop, ← size_of_data]; omega
        have hD2 := Lib.hid (fun w => Digits_any (s.extract (cut + 1) s.size) hxs2 w)
        have hspl : s.data.toList.take cut ++ 47 :: s.data.toList.drop (cut + 1) = s.data.toList := by rw [← his', List.take_append_drop]
        rw [hx1] at hD1
        replace hx2 := Lib.hid hx2
        replace hspl := Lib.hid hspl
        replace hno := Lib.hid hno
        replace hD1 := Lib.hid hD1
        clear his his' hx1 hcut
        go_wp2_with fail
        refine (hD2.out _).mono ?_
        rintro e w_ ⟨⟨d, is, rfl, hE⟩, rfl⟩
        rw [hx2.out] at hE
        have hi2 := hE.i64.1
        have hB := read_B hno.out hD1.out hE
        rw [hspl.out] at hB
        replace hB := Lib.hid hB
        clear hE
        cases ok with
        | false =>
          have hfin := Lib.hid (show ReadIs s.data.toList (0, 0, 6) by have := hB.out; simpa using this)
          go_wp2_with fail
          refine bodyPost_ret (v := tupT (0, 0, 6)) ?_ rfl ⟨⟨_, rfl, hfin.out⟩, by (repeat (first | exact Ex.refl _ | assumption | apply Ex.drew | apply Ex.drewN | apply Ex.alloc | (refine Ex.setCell ?_ (by simp; try omega) _) | (refine Ex.call ?_ (by assumption))))⟩
          simp [results, Try.results24, go_sem, tupT, *]
        | true =>
          cases is with
          | false =>
            have hfin := Lib.hid (show ReadIs s.data.toList (0, 0, 6) by have := hB.out; simpa using this)
            go_wp2_with fail
            refine bodyPost_ret (v := tupT (0, 0, 6)) ?_ rfl ⟨⟨_, rfl, hfin.out⟩, by (repeat (first | exact Ex.refl _ | assumption | apply Ex.drew | apply Ex.drewN | apply Ex.alloc | (refine Ex.setCell ?_ (by simp; try omega) _) | (refine Ex.call ?_ (by assumption))))⟩
            simp [results, Try.results24, go_sem, tupT, *]
          | true =>
            by_cases hd1 : 1 < d
            · by_cases hr : rightB n d = true
              · have hfin := Lib.hid (show ReadIs s.data.toList (n, d, 0) by have := hB.out; simpa [hd1, hr] using this)
                go_wp2_with (first | (go_at_call 15; refine (RRight_any _ _ hi1 hi2 _).mono ?_; rintro e w2 ⟨rfl, hx2⟩; rw [hr]; obtain ⟨hc2, hf2⟩ := hx2.facts2; have hz2 := hx2.size; (try simp only [World.size_drew] at hz2 hc2 hf2); (try simp only [World.size_drewN] at hz2 hc2 hf2); (try simp only [World.size_setCell] at hz2 hc2 hf2); (try simp only [World.size_alloc] at hz2 hc2 hf2); (try simp only [World.size_drew] at hz2 hc2 hf2); (try simp only [World.size_drewN] at hz2 hc2 hf2); (try simp only [World.size_setCell] at hz2 hc2 hf2); (try simp only [World.size_alloc] at hz2 hc2 hf2); (try simp only [World.cell?_drew] at hz2 hc2 hf2); (try simp only [World.frozen?_drew] at hz2 hc2 hf2); (try simp only [World.cell?_drewN] at hz2 hc2 hf2); (try simp only [World.frozen?_drewN] at hz2 hc2 hf2); (try (have hy20 : w.heap.size < w2.heap.size := by omega)); (try (have hy21 : w.heap.size + 1 < w2.heap.size := by omega)); (try (have hy22 : w.heap.size + 2 < w2.heap.size := by omega)); (try (have hy23 : w.heap.size + 3 < w2.heap.size := by omega)); have hy8 : w.heap.size < w.heap.size + 1 + 1 := by omega))
                refine bodyPost_ret (v := tupT (n, d, 0)) ?_ rfl ⟨⟨_, rfl, hfin.out⟩, by (repeat (first | exact Ex.refl _ | assumption | apply Ex.drew | apply Ex.drewN | apply Ex.alloc | (refine Ex.setCell ?_ (by simp; try omega) _) | (refine Ex.call ?_ (by assumption))))⟩
                simp [results, Try.results24, go_sem, tupT, *]
              · simp only [Bool.not_eq_true] at hr
                have hfin := Lib.hid (show ReadIs s.data.toList (0, 0, 6) by have := hB.out; simpa [hd1, hr] using this)
                go_wp2_with (first | (go_at_call 15; refine (RRight_any _ _ hi1 hi2 _).mono ?_; rintro e w2 ⟨rfl, hx2⟩; rw [hr]; obtain ⟨hc2, hf2⟩ := hx2.facts2; have hz2 := hx2.size; (try simp only [World.size_drew] at hz2 hc2 hf2); (try simp only [World.size_drewN] at hz2 hc2 hf2); (try simp only [World.size_setCell] at hz2 hc2 hf2); (try simp only [World.size_alloc] at hz2 hc2 hf2); (try simp only [World.size_drew] at hz2 hc2 hf2); (try simp only [World.size_drewN] at hz2 hc2 hf2); (try simp only [World.size_setCell] at hz2 hc2 hf2); (try simp only [World.size_alloc] at hz2 hc2 hf2); (try simp only [World.cell?_drew] at hz2 hc2 hf2); (try simp only [World.frozen?_drew] at hz2 hc2 hf2); (try simp only [World.cell?_drewN] at hz2 hc2 hf2); (try simp only [World.frozen?_drewN] at hz2 hc2 hf2); (try (have hy20 : w.heap.size < w2.heap.size := by omega)); (try (have hy21 : w.heap.size + 1 < w2.heap.size := by omega)); (try (have hy22 : w.heap.size + 2 < w2.heap.size := by omega)); (try (have hy23 : w.heap.size + 3 < w2.heap.size := by omega)); have hy8 : w.heap.size < w.heap.size + 1 + 1 := by omega))
                refine bodyPost_ret (v := tupT (0, 0, 6)) ?_ rfl ⟨⟨_, rfl, hfin.out⟩, by (repeat (first | exact Ex.refl _ | assumption | apply Ex.drew | apply Ex.drewN | apply Ex.alloc | (refine Ex.setCell ?_ (by simp; try omega) _) | (refine Ex.call ?_ (by assumption))))⟩
                simp [results, Try.results24, go_sem, tupT, *]
            · have hd1' : decide (1 < d) = false := by simp [hd1]
              have hfin := Lib.hid (show ReadIs s.data.toList (0, 0, 6) by have := hB.out; simpa [hd1] using this)
              go_wp2_with fail
              refine bodyPost_ret (v := tupT (0, 0, 6)) ?_ rfl ⟨⟨_, rfl, hfin.out⟩, by (repeat (first | exact Ex.refl _ | assumption | apply Ex.drew | apply Ex.drewN | apply Ex.alloc | (refine Ex.setCell ?_ (by simp; try omega) _) | (refine Ex.call ?_ (by assumption))))⟩
              simp [results, Try.results24, go_sem, tupT, *]

theorem RRead_any (s : ByteArray) (hs : s.size ≤ 2147483647) (w : World) :
    Calls Try.prog 24 #[.string s] w fun e w' => (∃ x, e = .returned (tupT x) ∧ ReadIs s.data.toList x) ∧ Ex w w' := by
  by_cases hnv : s.data.toList = [110, 101, 118, 101, 114]
  · have hq : (s.toList == [110, 101, 118, 101, 114]) = true := by rw [toList_data, hnv]; rfl
    have ht : textT 1 0 = [110, 101, 118, 101, 114] := by simp [textT, teq]
    have hfin := Lib.hid (show ReadIs s.data.toList (1, 0, 0) from .inl ⟨rfl, ⟨by simp, by simp⟩, ⟨by simp, by simp⟩, by decide, by rw [hnv]; exact ht⟩)
    clear hnv ht
    go_enter Try.func24, Try.ntmps24
    go_wp2
    refine bodyPost_ret (v := tupT (1, 0, 0)) ?_ rfl ⟨⟨_, rfl, hfin.out⟩, by (repeat (first | exact Ex.refl _ | assumption | apply Ex.drew | apply Ex.drewN | apply Ex.alloc | (refine Ex.setCell ?_ (by simp; try omega) _) | (refine Ex.call ?_ (by assumption))))⟩
    simp [results, Try.results24, go_sem, tupT, *]
  · exact RRead_plain s hs hnv w
end Go.Proofs.Ytjheegdkngkhaaa
