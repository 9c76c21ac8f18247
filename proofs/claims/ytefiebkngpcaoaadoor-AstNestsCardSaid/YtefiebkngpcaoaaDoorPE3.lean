/- Each operation of the pure logic is sound, the rest of them. Condition: the slots that it names are the frame's. -/
import Derived.Test.YtefiebkngpcaoaaDoorPE2
set_option maxRecDepth 100000
set_option linter.unusedVariables false
set_option linter.unusedSimpArgs false
set_option linter.unusedSectionVars false
namespace Go.Proofs.YtefiebkngpcaoaaDoor
open Go.RowKit
section
variable {P : Program} {N : Nat} {M0 : MM} {w0 : Ctx} {w : World} {f : Frm} {H : Hp} {mu : Nat → Option Nat} {a : Act}

theorem fldT_spec {t : TypeId} {i off : Nat} {ag : Bool} {n : Nat} (h : fldT P t i = some (off, ag, n)) : ∃ fs fd, P.underlying t = some (.struct fs) ∧ fs[i]? = some fd ∧ fd.offset = off ∧ tyI P fd.type = some (ag, n) := by
  unfold fldT at h
  split at h
  · rename_i fs hu
    split at h
    · rename_i fd hf
      split at h
      · rename_i ag' n' ht
        cases h
        exact ⟨fs, fd, hu, hf, rfl, ht⟩
      · cases h
    · cases h
  · cases h
theorem run_fieldAt {t : TypeId} {i off : Nat} {ag : Bool} {n : Nat} (h : fldT P t i = some (off, ag, n)) (hn : n ≠ 0) (x : Addr) : (Instr.fieldAt t (.pointer (some x)) i).run P w = .ok (.pointer (some (x.add off))) w := by
  obtain ⟨fs, fd, h1, h2, h3, h4⟩ := fldT_spec h
  obtain ⟨-, h5⟩ := tyI_spec h4
  simp [Instr.fieldAt, run_underlying h1, h2, Instr.sureAddr, fieldPlace, h5, hn, h3]
theorem rep_ep {M : Addr → Prop} {v : Value} {cs : List D} (h : Rep M w v (.ep cs)) : ∃ x us, v = .pointer (some x) ∧ Cells M w x us ∧ RepL M w us cs := by
  cases h with
  | ep x us cs h hr => exact ⟨x, us, rfl, h, hr⟩
theorem rep_bool {M : Addr → Prop} {v : Value} {b : Bool} (h : Rep M w v (.bool b)) : v = .bool b := by cases h; rfl
theorem rep_int {M : Addr → Prop} {v : Value} {k : IntKind} {n : Int} (h : Rep M w v (.int k n)) : v = .int k n := by cases h; rfl
theorem rep_str {M : Addr → Prop} {v : Value} {s : ByteArray} (h : Rep M w v (.str s)) : v = .string s := by cases h; rfl
theorem rep_nilp {M : Addr → Prop} {v : Value} (h : Rep M w v .nilp) : v = .pointer none := by cases h; rfl
theorem goes_fieldAddr (h : StM N M0 w0 f H mu a w) {o : Oper} (hd : ∀ d, o.dst = some d → d < N ∧ w0.fix d = false) {t : TypeId} {x : Operand} {i : Nat} (ho : o.op = .fieldAddr t x i) (hx : opB N x = true) {e : Eff} (he : pstep P o f H = some e) :
    Goes P N M0 w0 o f H e a w := by
  have hv := ev_sound h hx
  simp only [pstep, ho] at he
  split at he
  · rename_i s off ofs ag n hs ht
    split at he
    · cases he
    · rename_i hn
      cases he
      rw [hs] at hv
      obtain ⟨cs0, b, g1, g2, g3⟩ := hv
      exact goes_val (v := .pointer (some ((⟨b, off, none⟩ : Addr).add ofs))) h hd (by simp [execOp, ho, g3, run_fieldAt ht hn]) ⟨cs0, b, g1, g2, by rw [Addr.add_mid]⟩
  · rename_i r ver off ofs ag n hs ht
    split at he
    · cases he
    · rename_i hn
      cases he
      rw [hs] at hv
      obtain ⟨⟨x, hx0⟩, e0, sz0, ver1, cs0, g1, g2, g3⟩ := hv
      refine goes_val (v := .pointer (some (x.add ofs))) h hd (by simp [execOp, ho, hx0, run_fieldAt ht hn]) ⟨⟨_, rfl⟩, e0, sz0, ver1, cs0, g1, g2, fun hvv => ?_⟩
      obtain ⟨g, g4, g5⟩ := g3 hvv
      rw [hx0] at g5
      cases g5
      exact ⟨g, g4, by rw [Addr.add_mid]⟩
  · rename_i cs ofs ag n hs ht
    split at he
    · cases he
    · rename_i hn
      cases he
      rw [hs] at hv
      obtain ⟨ad, us, g1, g2, g3⟩ := rep_ep (show Rep (Mut M0 H mu) w _ (.ep cs) from hv)
      exact goes_val (v := .pointer (some (ad.add ofs))) h hd (by simp [execOp, ho, g1, run_fieldAt ht hn]) (Rep.ep _ _ _ (g2.drop _) (g3.drop _))
  · cases he
theorem run_part {t : TypeId} {ag : Bool} {n : Nat} (ht : tyI P t = some (ag, n)) {M : Addr → Prop} {vs : Array Value} {ds : List D} (hr : RepL M w vs.toList ds) (h1 : ∀ u ∈ vs.toList, u.oneCell' = true) {off : Nat} {r : D} (h : rdD ag n (ds.drop off) = some r) :
    ∃ v, (part t vs off).run P w = .ok v w ∧ Rep M w v r := by
  obtain ⟨k1, k2⟩ := tyI_spec ht
  cases ag with
  | true =>
    simp only [rdD, if_true] at h
    split at h
    · rename_i hn
      cases h
      refine ⟨.agg (vs.extract off (off + n)), by simp [part, k1, k2], ?_⟩
      have e : (vs.extract off (off + n)).toList = (vs.toList.drop off).take n := by
        rw [Array.toList_extract]; simp [List.take_drop, Nat.add_comm]
      refine .agg _ _ (by rw [e]; exact (hr.drop off).take n) (fun v hv => ?_)
      rw [e] at hv
      exact h1 v (List.mem_of_mem_drop (List.mem_of_mem_take hv))
    · cases h
  | false =>
    simp only [rdD, Bool.false_eq_true, if_false] at h
    have h0 : ds[off]? = some r := by rw [← h]; simp
    obtain ⟨v, hv, hrv⟩ := hr.get h0
    simp at hv
    exact ⟨v, by simp [part, k1, hv], hrv⟩
theorem goes_field (h : StM N M0 w0 f H mu a w) {o : Oper} (hd : ∀ d, o.dst = some d → d < N ∧ w0.fix d = false) {t : TypeId} {x : Operand} {i : Nat} (ho : o.op = .field t x i) (hx : opB N x = true) {e : Eff} (he : pstep P o f H = some e) :
    Goes P N M0 w0 o f H e a w := by
  have hv := ev_sound h hx
  simp only [pstep, ho] at he
  split at he
  · rename_i cs off ag n hs ht
    split at he
    · rename_i v hrd
      cases he
      rw [hs] at hv
      obtain ⟨vs, g1, g2, g3⟩ := SRep.d_agg hv
      obtain ⟨fs, fd, h1, h2, h3, h4⟩ := fldT_spec ht
      subst h3
      obtain ⟨u, hu1, hu2⟩ := run_part h4 g2 g3 hrd
      exact goes_val (v := u) h hd (by simp [execOp, ho, g1, Instr.field, run_underlying h1, h2, asAgg, hu1]) hu2
    · cases he
  · cases he
theorem goes_index (h : StM N M0 w0 f H mu a w) {o : Oper} (hd : ∀ d, o.dst = some d → d < N ∧ w0.fix d = false) {t : TypeId} {x i : Operand} (ho : o.op = .index t x i) (hx : opB N x = true) (hi : opB N i = true) {e : Eff} (he : pstep P o f H = some e) :
    Goes P N M0 w0 o f H e a w := by
  have hv := ev_sound h hx
  have hu := ev_sound h hi
  simp only [pstep, ho] at he
  split at he
  · rename_i s k j hs ht hj
    split at he
    · rename_i hb
      cases he
      rw [hs] at hv
      rw [hj] at hu
      have e1 : a.eval x = .string s := rep_str (show Rep (Mut M0 H mu) w _ (.str s) from hv)
      have e2 : a.eval i = .int k j := rep_int (show Rep (Mut M0 H mu) w _ (.int k j) from hu)
      have e3 : P.underlying t = some .string := by unfold isStr at ht; split at ht <;> first | assumption | cases ht
      refine goes_val h hd ?_ (Rep.int .u8 _)
      have hlt : j.toNat < s.data.size := hb.2
      have e4 : s[j.toNat]? = some (s.data.toList.getD j.toNat 0) := by
        have : s[j.toNat]? = some (s[j.toNat]'hb.2) := getElem?_pos s j.toNat hb.2
        rw [this]
        congr 1
        show s.data[j.toNat]'hlt = _
        simp only [List.getD, Array.getElem?_toList]
        rw [Array.getElem?_eq_getElem hlt]
        rfl
      simp [execOp, ho, e1, e2, Instr.index, asIntOf, run_underlying e3, hb.1, e4]
    · cases he
  · cases he
theorem goes_extract (h : StM N M0 w0 f H mu a w) {o : Oper} (hd : ∀ d, o.dst = some d → d < N ∧ w0.fix d = false) {x : Operand} {i : Nat} (ho : o.op = .extract x i) (hx : opB N x = true) {e : Eff} (he : pstep P o f H = some e) :
    Goes P N M0 w0 o f H e a w := by
  have hv := ev_sound h hx
  simp only [pstep, ho] at he
  split at he
  · rename_i ds hs
    split at he
    · rename_i d hdd
      cases he
      rw [hs] at hv
      generalize hev : a.eval x = v at hv
      cases (show Rep (Mut M0 H mu) w v (.tup ds) from hv) with
      | tup vs ds hr =>
        obtain ⟨u, hu1, hu2⟩ := hr.get hdd
        simp at hu1
        exact goes_val (v := u) h hd (by simp [execOp, ho, hev, Instr.extract, hu1]) hu2
    · cases he
  · cases he
theorem goes_nilCheck (h : StM N M0 w0 f H mu a w) {o : Oper} (hd : ∀ d, o.dst = some d → d < N ∧ w0.fix d = false) {x : Operand} (ho : o.op = .nilCheck x) (hx : opB N x = true) {e : Eff} (he : pstep P o f H = some e) :
    Goes P N M0 w0 o f H e a w := by
  have hv := ev_sound h hx
  simp only [pstep, ho] at he
  split at he
  · rename_i s off hs
    cases he
    rw [hs] at hv
    obtain ⟨cs0, b, g1, g2, g3⟩ := hv
    exact goes_val (v := .pointer (some ⟨b, off, none⟩)) h hd (by simp [execOp, ho, g3]) ⟨cs0, b, g1, g2, rfl⟩
  · rename_i cs hs
    cases he
    rw [hs] at hv
    obtain ⟨ad, us, g1, g2, g3⟩ := rep_ep (show Rep (Mut M0 H mu) w _ (.ep cs) from hv)
    exact goes_val (v := .pointer (some ad)) h hd (by simp [execOp, ho, g1]) (Rep.ep _ _ _ g2 g3)
  · cases he
theorem goes_move (h : StM N M0 w0 f H mu a w) {o : Oper} (hd : ∀ d, o.dst = some d → d < N ∧ w0.fix d = false) {x : Operand} (ho : o.op = .move x ∨ o.op = .assign x) (hx : opB N x = true) {e : Eff} (he : pstep P o f H = some e) :
    Goes P N M0 w0 o f H e a w := by
  have hv := ev_sound h hx
  rcases ho with ho | ho <;> (simp only [pstep, ho] at he; cases he; exact goes_val (v := a.eval x) h hd (by simp [execOp, ho]) hv)
theorem goes_pick (h : StM N M0 w0 f H mu a w) {o : Oper} (hd : ∀ d, o.dst = some d → d < N ∧ w0.fix d = false) {c x y : Operand} (ho : o.op = .pick c x y) (hc : opB N c = true) (hx : opB N x = true) (hy : opB N y = true) {e : Eff} (he : pstep P o f H = some e) :
    Goes P N M0 w0 o f H e a w := by
  have hvc := ev_sound h hc
  have hvx := ev_sound h hx
  have hvy := ev_sound h hy
  simp only [pstep, ho] at he
  split at he
  · rename_i b hs
    cases he
    rw [hs] at hvc
    generalize hev : a.eval c = v at hvc
    cases (show Rep (Mut M0 H mu) w v (.bool b) from hvc)
    cases b with
    | true => exact goes_val (v := a.eval x) h hd (by simp [execOp, ho, hev, asBool]) hvx
    | false => exact goes_val (v := a.eval y) h hd (by simp [execOp, ho, hev, asBool]) hvy
  · cases he
theorem goes_makeFunc (h : StM N M0 w0 f H mu a w) {o : Oper} (hd : ∀ d, o.dst = some d → d < N ∧ w0.fix d = false) {fn : Fn} {first cap : Array Operand} (ho : o.op = .makeFunc fn first cap) (h1 : first.toList.all (opB N) = true) (h2 : cap.toList.all (opB N) = true) {e : Eff} (he : pstep P o f H = some e) :
    Goes P N M0 w0 o f H e a w := by
  have aux : ∀ {l : List Operand} {ds : List D}, l.all (opB N) = true → toDs (l.map (ev f)) = some ds → RepL (Mut M0 H mu) w (l.map a.eval) ds := fun {l ds} hl hds => by
    refine toDs_sound hds (by simp) fun j v x hj hy => ?_
    simp only [List.getElem?_map, Option.map_eq_some_iff] at hj hy
    obtain ⟨q, hq, rfl⟩ := hj
    obtain ⟨q', hq', rfl⟩ := hy
    rw [hq] at hq'
    cases hq'
    exact ev_sound h (List.all_eq_true.1 hl q (List.mem_of_getElem? hq))
  have aux2 : ∀ {l : List Operand} {ds : List SA}, l.all (opB N) = true → toSAs (l.map (ev f)) = some ds → SAL M0 H mu w (l.map a.eval) ds := fun {l ds} hl hds => by
    refine toSAs_sound hds (by simp) fun j v x hj hy => ?_
    simp only [List.getElem?_map, Option.map_eq_some_iff] at hj hy
    obtain ⟨q, hq, rfl⟩ := hj
    obtain ⟨q', hq', rfl⟩ := hy
    rw [hq] at hq'
    cases hq'
    exact ev_sound h (List.all_eq_true.1 hl q (List.mem_of_getElem? hq))
  simp only [pstep, ho] at he
  split at he
  · rename_i ds es hds hes
    cases he
    exact goes_val (v := .func fn (first.map a.eval) (cap.map a.eval)) h hd (by simp [execOp, ho, Instr.makeFunc]) (Rep.fn _ _ _ _ _ (by simpa using aux h1 hds) (by simpa using aux h2 hes))
  · split at he
    · rename_i ds es hds hes
      cases he
      exact goes_val (v := .func fn (first.map a.eval) (cap.map a.eval)) h hd (by simp [execOp, ho, Instr.makeFunc]) ⟨_, _, rfl, by simpa using aux2 h1 hds, by simpa using aux2 h2 hes⟩
    · cases he
end
end Go.Proofs.YtefiebkngpcaoaaDoor
