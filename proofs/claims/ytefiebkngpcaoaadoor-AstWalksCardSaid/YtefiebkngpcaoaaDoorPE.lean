/- Each operation of the pure logic is sound. Condition: the slots that it names are the frame's. -/
import Derived.Test.YtefiebkngpcaoaaDoorPD
set_option maxRecDepth 100000
set_option linter.unusedVariables false
set_option linter.unusedSimpArgs false
set_option linter.unusedSectionVars false
namespace Go.Proofs.YtefiebkngpcaoaaDoor
open Go.RowKit
section
variable {P : Program} {N : Nat} {M0 : MM} {w0 : Ctx} {w : World} {f : Frm} {H : Hp} {mu : Nat → Option Nat} {a : Act}

theorem run_loadAt_agg {t : TypeId} {n : Nat} (h1 : (isAgg t).run P w = .ok true w) (h2 : (sizeOf t).run P w = .ok n w) {x : Addr} {us : List Value} (hn : us.length = n) (hu : ∀ j u, us[j]? = some u → w.cell? (x.add j) = some u) :
    (Instr.loadAt t (.pointer (some x))).run P w = .ok (.agg us.toArray) w := by
  have hl := run_loadCells_list (P := P) w x us hu
  rw [hn] at hl
  simp [Instr.loadAt, Instr.sureAddr, loadVar, Sem.run_bind, h1, h2, hl]
theorem run_loadAt_one {t : TypeId} (h1 : (isAgg t).run P w = .ok false w) {x : Addr} {u : Value} (hu : w.cell? x = some u) :
    (Instr.loadAt t (.pointer (some x))).run P w = .ok u w := by
  simp [Instr.loadAt, Instr.sureAddr, loadVar, Sem.run_bind, h1, load, Sem.run, hu]
theorem Addr.add_zero (x : Addr) : x.add 0 = x := by simp [Addr.add]
/-- A load from data. -/
theorem rdD_sound {M : Addr → Prop} {t : TypeId} {ag : Bool} {n : Nat} (ht : tyI P t = some (ag, n)) {x : Addr} {us : List Value} {cs : List D} (hc : Cells M w x us) (hr : RepL M w us cs) {r : D} (h : rdD ag n cs = some r) :
    ∃ v, (Instr.loadAt t (.pointer (some x))).run P w = .ok v w ∧ Rep M w v r := by
  obtain ⟨h1, h2⟩ := tyI_spec ht
  cases ag with
  | true =>
    simp only [rdD, if_true] at h
    split at h
    · rename_i hn
      cases h
      refine ⟨_, run_loadAt_agg (us := us.take n) (h1 w) (h2 w) (by rw [List.length_take, hr.length]; omega) (fun j u hj => ((hc.take n).2 j u hj).1), ?_⟩
      exact .agg _ _ (by simpa using hr.take n) (fun v hv => by
        simp only [List.mem_iff_getElem?] at hv
        obtain ⟨j, hj⟩ := hv
        exact ((hc.take n).2 j v (by simpa using hj)).2.2)
    · cases h
  | false =>
    simp only [rdD, Bool.false_eq_true, if_false] at h
    cases cs with
    | nil => cases h
    | cons c cs =>
      simp at h
      subst h
      obtain ⟨v, hv, hrv⟩ := hr.get (j := 0) rfl
      have := (hc.2 0 v hv).1
      rw [Addr.add_zero] at this
      exact ⟨v, run_loadAt_one (h1 w) this, hrv⟩
/-- A load from a name's cells. -/
theorem rdS_sound {t : TypeId} {ag : Bool} {n : Nat} (ht : tyI P t = some (ag, n)) {x : Addr} {us : List Value} {cs : List SV} (hl : us.length = cs.length) (hc : ∀ j u, us[j]? = some u → w.cell? (x.add j) = some u ∧ u.oneCell' = true)
    (hr : ∀ (j : Nat) (u : Value) (y : SV), us[j]? = some u → cs[j]? = some y → SRep M0 H mu w u y) {r : SV} (h : rdS ag n cs = some r) :
    ∃ v, (Instr.loadAt t (.pointer (some x))).run P w = .ok v w ∧ SRep M0 H mu w v r := by
  obtain ⟨h1, h2⟩ := tyI_spec ht
  cases ag with
  | true =>
    simp only [rdS, if_true] at h
    split at h
    · rename_i hn
      split at h
      · rename_i ds hds
        cases h
        refine ⟨_, run_loadAt_agg (us := us.take n) (h1 w) (h2 w) (by rw [List.length_take, hl]; omega) (fun j u hj => (hc j u (by rw [List.getElem?_take] at hj; split at hj; exact hj; cases hj)).1), ?_⟩
        refine Rep.agg _ _ ?_ (fun v hv => by
          simp only [List.mem_iff_getElem?] at hv
          obtain ⟨j, hj⟩ := hv
          rw [List.getElem?_take] at hj
          split at hj
          · exact (hc j v (by simpa using hj)).2
          · cases hj)
        refine toDs_sound hds (by simp [hl]) fun j v y h3 h4 => ?_
        simp only [List.getElem?_take] at h3 h4
        split at h3
        · rename_i hj
          rw [if_pos hj] at h4
          exact hr j v y h3 h4
        · cases h3
      · cases h
    · cases h
  | false =>
    simp only [rdS, Bool.false_eq_true, if_false] at h
    cases cs with
    | nil => cases h
    | cons c cs =>
      simp at h
      subst h
      cases us with
      | nil => simp at hl
      | cons u us =>
        have := (hc 0 u rfl).1
        rw [Addr.add_zero] at this
        exact ⟨u, run_loadAt_one (h1 w) this, hr 0 u c rfl rfl⟩

/-- The cells of a name, from an offset on. -/
theorem StM.boxCells (h : StM N M0 w0 f H mu a w) {s : Nat} {cs : List SV} (hs : H s = .box cs) : ∃ b arr e, mu s = some b ∧ w.heap[b]? = some (.cells arr e (0, 0)) ∧ arr.size = cs.length ∧
    (∀ j x, cs[j]? = some x → SRep M0 H mu w (arr.getD j undef) x ∧ (arr.getD j undef).oneCell' = true) ∧
    ∀ off, (∀ (j : Nat) (u : Value), (arr.toList.drop off)[j]? = some u → w.cell? ((⟨b, off, none⟩ : Addr).add j) = some u ∧ u.oneCell' = true) ∧
      (∀ (j : Nat) (u : Value) (y : SV), (arr.toList.drop off)[j]? = some u → (cs.drop off)[j]? = some y → SRep M0 H mu w u y) := by
  obtain ⟨b, arr, e, h1, h2, h3, h4, h5⟩ := h.box s cs hs
  refine ⟨b, arr, e, h1, h3, h4, h5, fun off => ⟨fun j u hj => ?_, fun j u y hj hy => ?_⟩⟩
  · simp only [List.getElem?_drop, Array.getElem?_toList] at hj
    rw [Addr.add_mid, cell_of_row w b (off + j) arr e _ h3]
    refine ⟨hj, ?_⟩
    have hlt : off + j < cs.length := by rw [← h4]; exact (Array.getElem?_eq_some_iff.1 hj).1
    have := (h5 (off + j) _ (List.getElem?_eq_getElem hlt)).2
    simpa [hj] using this
  · simp only [List.getElem?_drop, Array.getElem?_toList] at hj hy
    have := (h5 (off + j) y hy).1
    simpa [hj] using this

/-- The cells of a name that are written here and there, from an offset on. -/
theorem StM.vecCells (h : StM N M0 w0 f H mu a w) {r : Nat} {e : TypeId} {sz ver : Nat} {cs : List SV} (hs : H r = .vec e sz ver cs) {g : Nat} (hm : mu r = some g) : ∃ cur, w.heap[g]? = some (.cells cur e (0, 0)) ∧ cs.length ≤ cur.size ∧ (∀ u ∈ cur.toList, u.oneCell' = true) ∧
    (∀ j x, cs[j]? = some x → SRep M0 H mu w (cur.getD j undef) x) ∧
    ∀ off, ((cur.toList.take cs.length).drop off).length = (cs.drop off).length ∧ (∀ (j : Nat) (u : Value), ((cur.toList.take cs.length).drop off)[j]? = some u → w.cell? ((⟨g, off, none⟩ : Addr).add j) = some u ∧ u.oneCell' = true) ∧
      (∀ (j : Nat) (u : Value) (y : SV), ((cur.toList.take cs.length).drop off)[j]? = some u → (cs.drop off)[j]? = some y → SRep M0 H mu w u y) := by
  rcases h.vec r e sz ver cs hs with ⟨k1, -⟩ | ⟨g', cur, k1, k2, k3, k4, k5, k6⟩
  · rw [hm] at k1; cases k1
  · rw [hm] at k1
    cases k1
    refine ⟨cur, k3, k4, k5, k6, fun off => ⟨by simp; omega, fun j u hj => ?_, fun j u y hj hy => ?_⟩⟩
    · simp only [List.getElem?_drop, List.getElem?_take] at hj
      split at hj
      · rw [Array.getElem?_toList] at hj
        rw [Addr.add_mid, cell_of_row w g (off + j) cur e _ k3]
        exact ⟨hj, k5 u (List.mem_of_getElem? (i := off + j) (by simpa using hj))⟩
      · cases hj
    · simp only [List.getElem?_drop, List.getElem?_take] at hj hy
      split at hj
      · rw [Array.getElem?_toList] at hj
        have := k6 (off + j) y hy
        simpa [hj] using this
      · cases hj
theorem goes_load (h : StM N M0 w0 f H mu a w) {o : Oper} (hd : ∀ d, o.dst = some d → d < N ∧ w0.fix d = false) {t : TypeId} {x : Operand} (ho : o.op = .load t x) (hx : opB N x = true) {e : Eff} (he : pstep P o f H = some e) :
    Goes P N M0 w0 o f H e a w := by
  have hv := ev_sound h hx
  simp only [pstep, ho] at he
  split at he
  · rename_i s off ag n hs ht
    rw [hs] at hv
    obtain ⟨cs0, b, g1, g2, g3⟩ := hv
    split at he
    · rename_i cs hcs
      split at he
      · rename_i v hrd
        cases he
        obtain ⟨b', arr, et, k1, k2, k3, k4, k5⟩ := h.boxCells hcs
        rw [g2] at k1
        cases k1
        obtain ⟨u, hu1, hu2⟩ := rdS_sound (x := ⟨b, off, none⟩) (us := arr.toList.drop off) ht (by simp [k3]) (k5 off).1 (k5 off).2 hrd
        exact goes_val h hd (by simp [execOp, ho, g3, hu1]) hu2
      · cases he
    · cases he
  · rename_i r ver off ag n hs ht
    rw [hs] at hv
    obtain ⟨hv0, e0, sz0, ver1, cs0, g1, g2, g3⟩ := hv
    split at he
    · rename_i e1 sz1 ver2 cs hcs
      split at he
      · rename_i hvv
        split at he
        · rename_i v hrd
          cases he
          rw [hcs] at g1
          cases g1
          obtain ⟨g, g4, g5⟩ := g3 hvv
          obtain ⟨cur, k1, k2, k3, k4, k5⟩ := h.vecCells hcs g4
          obtain ⟨q1, q2, q3⟩ := k5 off
          obtain ⟨u, hu1, hu2⟩ := rdS_sound (x := ⟨g, off, none⟩) (us := (cur.toList.take cs0.length).drop off) ht q1 q2 q3 hrd
          exact goes_val h hd (by simp [execOp, ho, g5, hu1]) hu2
        · cases he
      · cases he
    · cases he
  · rename_i cs ag n hs ht
    rw [hs] at hv
    split at he
    · rename_i v hrd
      cases he
      cases hpv : a.eval x with
      | pointer p =>
        rw [hpv] at hv
        cases (show Rep (Mut M0 H mu) w (.pointer p) (.ep cs) from hv) with
        | ep ad us cs hc hr =>
          obtain ⟨u, hu1, hu2⟩ := rdD_sound ht hc hr hrd
          exact goes_val h hd (by simp [execOp, ho, hpv, hu1]) hu2
      | _ => rw [hpv] at hv; cases (show Rep (Mut M0 H mu) w _ (.ep cs) from hv)
    · cases he
  · cases he
end
end Go.Proofs.YtefiebkngpcaoaaDoor
