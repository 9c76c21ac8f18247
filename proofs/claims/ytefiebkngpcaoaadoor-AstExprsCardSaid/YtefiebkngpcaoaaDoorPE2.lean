/- Each operation of the pure logic is sound, more of them. Condition: the slots that it names are the frame's. -/
import Derived.Test.YtefiebkngpcaoaaDoorPE
set_option maxRecDepth 100000
set_option linter.unusedVariables false
set_option linter.unusedSimpArgs false
set_option linter.unusedSectionVars false
namespace Go.Proofs.YtefiebkngpcaoaaDoor
open Go.RowKit
section
variable {P : Program} {N : Nat} {M0 : MM} {w0 : Ctx} {w : World} {f : Frm} {H : Hp} {mu : Nat → Option Nat} {a : Act}

/-- A new block of these cells, under a new name. -/
theorem StM.newBox (h : StM N M0 w0 f H mu a w) {s : Nat} (hs : H s = .none) (hsT : s < TR) {v : Value} {ys : List SV} (e : TypeId) (hl : v.cells.size = ys.length)
    (hc : ∀ j y, ys[j]? = some y → SRep M0 H mu w (v.cells.getD j undef) y ∧ (v.cells.getD j undef).oneCell' = true) :
    StM N M0 w0 f (hup H s (.box ys)) (fun t => if t = s then some w.heap.size else mu t) a (w.alloc (.cells v.cells e)) := by
  have hx : Below w.heap.size w (w.alloc (.cells v.cells e)) := (Below.refl _ _).alloc (Nat.le_refl _) _
  refine h.new hs hsT (.box ys) (some w.heap.size) (fun x e => by cases e; exact ⟨Nat.le_refl _, by simp⟩) hx ?_
  intro cs hcs
  cases hcs
  refine ⟨w.heap.size, v.cells, e, rfl, heap_alloc_new w _, hl, fun j x hj => ⟨?_, (hc j x hj).2⟩⟩
  exact (hc j x hj).1.turn (Turn.new h hs (.box ys) (some w.heap.size) (fun x e => by cases e; exact Nat.le_refl _) hx)
theorem goes_newBox (h : StM N M0 w0 f H mu a w) {o : Oper} (hd : ∀ d, o.dst = some d → d < N ∧ w0.fix d = false) {s : Nat} (hs : H s = .none) (hso : o.dst = some s) {v : Value} {ys : List SV} (e : TypeId) (hl : v.cells.size = ys.length)
    (hc : ∀ j y, ys[j]? = some y → SRep M0 H mu w (v.cells.getD j undef) y ∧ (v.cells.getD j undef).oneCell' = true) {rd : Option Nat}
    (hrun : (execOp a.eval o).run P w = .ok (.value (.pointer (some ⟨w.heap.size, 0, none⟩))) (w.alloc (.cells v.cells e))) :
    Goes P N M0 w0 o f H ⟨.loc s 0, rd, [(s, .box ys)]⟩ a w := by
  have h' := h.newBox hs (Nat.lt_of_lt_of_le (hd s hso).1 h.nle) e hl hc
  exact ⟨_, _, _, .inl hrun, h'.put hd ⟨ys, w.heap.size, by simp [hup], by simp, rfl⟩⟩
theorem ofVs_nil : ∀ {vs : List Value} {ds : List D}, ofVs vs = some ds → ∀ {j : Nat} {v : Value}, vs[j]? = some v → ds[j]? = some (.sl 0 []) → v = .slice none 0 0
  | [], ds, h, j, v, hv, hd => by simp at hv
  | u :: vs, ds, h, j, v, hv, hd => by
    unfold ofVs at h
    split at h
    · rename_i d ds' h1 h2
      cases h
      cases j with
      | zero =>
        simp at hv hd
        subst hv hd
        unfold ofV1 at h1
        split at h1 <;> first | rfl | (simp at h1)
      | succ j => exact ofVs_nil h2 (by simpa using hv) (by simpa using hd)
    · cases h
theorem goes_alloc (h : StM N M0 w0 f H mu a w) {o : Oper} (hd : ∀ d, o.dst = some d → d < N ∧ w0.fix d = false) {t : TypeId} (ho : o.op = .alloc t) {e : Eff} (he : pstep P o f H = some e) :
    Goes P N M0 w0 o f H e a w := by
  simp only [pstep, ho] at he
  split at he
  · rename_i s zs hs hz
    split at he
    · rename_i hn
      cases he
      unfold zeroT at hz
      split at hz
      · rename_i i hi
        split at hz
        · rename_i z hzz
          obtain ⟨g1, g2⟩ := ofVs_sound (w := w) (M := Mut M0 H mu) hz
          refine goes_newBox h hd hn hs (v := z) t (by simpa using g1.length) ?_ (by simp [execOp, ho, Instr.alloc, zeroValue, typeInfo, hi, hzz, newVar, newRow])
          intro j y hj
          simp only [List.getElem?_map, Option.map_eq_some_iff] at hj
          obtain ⟨d, hd, rfl⟩ := hj
          obtain ⟨u, hu, hr⟩ := g1.get hd
          have : z.cells.getD j undef = u := by simp at hu; simp [hu]
          rw [this]
          refine ⟨?_, g2 u (List.mem_of_getElem? hu)⟩
          unfold zS
          split
          · exact ofVs_nil hz hu hd
          · exact hr
        · cases hz
      · cases hz
    · cases he
  · cases he
theorem goes_box (h : StM N M0 w0 f H mu a w) {o : Oper} (hd : ∀ d, o.dst = some d → d < N ∧ w0.fix d = false) {t : TypeId} {x : Operand} (ho : o.op = .box t x) (hx : opB N x = true) {e : Eff} (he : pstep P o f H = some e) :
    Goes P N M0 w0 o f H e a w := by
  have hv := ev_sound h hx
  simp only [pstep, ho] at he
  split at he
  · rename_i s cs hs hc
    split at he
    · rename_i hn
      cases he
      obtain ⟨g1, g2, g3⟩ := hv.cells hc
      exact goes_newBox h hd hn hs (v := a.eval x) t g1 g2 (by simp [execOp, ho, Instr.box, newVar, newRow])
    · cases he
  · cases he
/-- A variable that nobody writes any more: a pointer to unchanging cells. -/
theorem goes_ice (h : StM N M0 w0 f H mu a w) {o : Oper} (hd : ∀ d, o.dst = some d → d < N ∧ w0.fix d = false) {t : TypeId} {x : Operand} (ho : o.op = .box t x) (hx : opB N x = true) {ys : List SV} {ds : List D} (hc : (ev f x).cells = some ys) (ht : toDs ys = some ds) :
    Goes P N M0 w0 o f H (.val (.d (.ep ds))) a w := by
  have hv := ev_sound h hx
  obtain ⟨g1, g2, g3⟩ := hv.cells hc
  have hxx : Below w.heap.size w (w.alloc (.cells (a.eval x).cells t)) := (Below.refl _ _).alloc (Nat.le_refl _) _
  have h' := h.grow hxx
  have htn : Turn M0 H mu w H mu (w.alloc (.cells (a.eval x).cells t)) := h.turn_grow hxx
  refine ⟨_, _, mu, .inl (by simp [execOp, ho, Instr.box, newVar, newRow]; rfl), h'.put hd ?_⟩
  refine Rep.ep ⟨w.heap.size, 0, none⟩ (a.eval x).cells.toList ds ⟨fun _ => rfl, fun j u hu => ?_⟩ ?_
  · rw [Addr.add_mid, Nat.zero_add, World.cell?_alloc_at _ _ _ _ rfl]
    exact ⟨by simpa using hu, fun hm => by have := h.mut_lt hm; simp at this, g3 u (List.mem_of_getElem? hu)⟩
  · refine toDs_sound ht (by simpa using g1) fun j v y hj hy => ?_
    obtain ⟨k1, k2⟩ := g2 j y hy
    rw [Array.getElem?_toList] at hj
    have : (a.eval x).cells.getD j undef = v := by simp [hj]
    rw [this] at k1
    exact k1.turn htn
theorem splice_get {α : Type} (l ys : List α) (off j : Nat) (h : off + ys.length ≤ l.length) : (l.take off ++ ys ++ l.drop (off + ys.length))[j]? = if j < off then l[j]? else if j < off + ys.length then ys[j - off]? else l[j]? := by
  have ht : (l.take off).length = off := by rw [List.length_take]; omega
  by_cases h1 : j < off
  · rw [List.append_assoc, List.getElem?_append_left (by omega), if_pos h1, List.getElem?_take, if_pos h1]
  · rw [if_neg h1, List.append_assoc, List.getElem?_append_right (by omega), ht]
    by_cases h2 : j < off + ys.length
    · rw [if_pos h2, List.getElem?_append_left (by omega)]
    · rw [if_neg h2, List.getElem?_append_right (by omega), List.getElem?_drop]
      congr 1
      omega
theorem goes_store (h : StM N M0 w0 f H mu a w) {o : Oper} (hd : ∀ d, o.dst = some d → d < N ∧ w0.fix d = false) {t : TypeId} {x y : Operand} (ho : o.op = .store t x y) (hx : opB N x = true) (hy : opB N y = true) {e : Eff} (he : pstep P o f H = some e) :
    Goes P N M0 w0 o f H e a w := by
  have hv := ev_sound h hx
  have hu := ev_sound h hy
  simp only [pstep, ho] at he
  split at he
  · rename_i s off ag n ys hs ht hc
    rw [hs] at hv
    obtain ⟨cs0, b, g1, g2, g3⟩ := hv
    split at he
    · rename_i cs hcs
      split at he
      · rename_i hb
        cases he
        obtain ⟨k1, k2, k3⟩ := hu.cells hc
        obtain ⟨b', arr, et, q1, q2, q3, q4, -⟩ := h.boxCells hcs
        rw [g2] at q1
        cases q1
        obtain ⟨hb1, hb2⟩ := hb
        obtain ⟨-, t2⟩ := tyI_spec ht
        have hst := run_storeCells_at P b off et (a.eval y).cells.toList 0 arr w q2 (by simp; omega) k3
        simp only [Nat.add_zero] at hst
        have hlen : (a.eval y).cells.toList.length = ys.length := by simpa using k1
        have hrun : (execOp a.eval o).run P w = .ok .skip (w.setRow b (arr.toList.take off ++ (a.eval y).cells.toList ++ arr.toList.drop (off + (a.eval y).cells.toList.length)).toArray) := by
          have hne : (a.eval y).cells.size = n := by omega
          simp [execOp, ho, g3, Instr.storeAt, Instr.sureAddr, storeVar, t2, hne, hst]
        have hsp := splice_get arr.toList (a.eval y).cells.toList off
        rw [hlen] at hsp hrun
        have hsp' := splice_get cs ys off
        have h' := h.setBox (cs' := cs.take off ++ ys ++ cs.drop (off + ys.length)) hcs g2 q2 (arr.toList.take off ++ (a.eval y).cells.toList ++ arr.toList.drop (off + ys.length)).toArray (by simp; omega) (by
          intro j z hj
          rw [hsp' j (by omega)] at hj
          have hgd : (arr.toList.take off ++ (a.eval y).cells.toList ++ arr.toList.drop (off + ys.length)).toArray.getD j undef = if j < off then arr.getD j undef else if j < off + ys.length then (a.eval y).cells.getD (j - off) undef else arr.getD j undef := by
            have := hsp j (by simp; omega)
            simp only [Array.getD_eq_getD_getElem?, List.getElem?_toArray, this, Array.getElem?_toList]
            split
            · rfl
            · split <;> rfl
          rw [hgd]
          by_cases j1 : j < off
          · simp only [if_pos j1] at hj ⊢
            exact q4 j z hj
          · simp only [if_neg j1] at hj ⊢
            by_cases j2 : j < off + ys.length
            · simp only [if_pos j2] at hj ⊢
              exact k2 _ z hj
            · simp only [if_neg j2] at hj ⊢
              exact q4 j z hj)
        rw [← hb1]
        exact ⟨undef, _, _, .inr ⟨hrun, rfl⟩, h'.put hd (Rep.tup #[] [] .nil)⟩
      · cases he
    · cases he
  · rename_i r ver off ag n ys hs ht hc
    rw [hs] at hv
    obtain ⟨hv0, e0, sz0, ver1, cs0, g1, g2, g3⟩ := hv
    split at he
    · rename_i e1 sz1 ver2 cs hcs
      split at he
      · rename_i hb
        cases he
        obtain ⟨hvv, hb1, hb2⟩ := hb
        rw [hcs] at g1
        cases g1
        obtain ⟨g, g4, g5⟩ := g3 hvv
        obtain ⟨k1, k2, k3⟩ := hu.cells hc
        obtain ⟨cur, q2, q3, q5, q4, -⟩ := h.vecCells hcs g4
        obtain ⟨-, t2⟩ := tyI_spec ht
        have hst := run_storeCells_at P g off e0 (a.eval y).cells.toList 0 cur w q2 (by simp; omega) k3
        simp only [Nat.add_zero] at hst
        have hlen : (a.eval y).cells.toList.length = ys.length := by simpa using k1
        have hrun : (execOp a.eval o).run P w = .ok .skip (w.setRow g (cur.toList.take off ++ (a.eval y).cells.toList ++ cur.toList.drop (off + (a.eval y).cells.toList.length)).toArray) := by
          have hne : (a.eval y).cells.size = n := by omega
          simp [execOp, ho, g5, Instr.storeAt, Instr.sureAddr, storeVar, t2, hne, hst]
        have hsp := splice_get cur.toList (a.eval y).cells.toList off
        rw [hlen] at hsp hrun
        have hsp' := splice_get cs0 ys off
        have h' := (h.vecIn (ver' := ver1) (cs' := cs0.take off ++ ys ++ cs0.drop (off + ys.length)) hcs g4 q2 (cur' := (cur.toList.take off ++ (a.eval y).cells.toList ++ cur.toList.drop (off + ys.length)).toArray) (Nat.le_refl _) (fun _ => by simp; omega) (by simp; omega) (by simp; omega) (fun u hu => by
          simp only [List.mem_append] at hu
          rcases hu with (hu | hu) | hu
          · exact q5 u (List.mem_of_mem_take hu)
          · exact k3 u hu
          · exact q5 u (List.mem_of_mem_drop hu)) (by
          intro j z hj
          rw [hsp' j (by omega)] at hj
          have hgd : (cur.toList.take off ++ (a.eval y).cells.toList ++ cur.toList.drop (off + ys.length)).toArray.getD j undef = if j < off then cur.getD j undef else if j < off + ys.length then (a.eval y).cells.getD (j - off) undef else cur.getD j undef := by
            have := hsp j (by simp; omega)
            simp only [Array.getD_eq_getD_getElem?, List.getElem?_toArray, this, Array.getElem?_toList]
            split
            · rfl
            · split <;> rfl
          rw [hgd]
          by_cases j1 : j < off
          · simp only [if_pos j1] at hj ⊢
            exact q4 j z hj
          · simp only [if_neg j1] at hj ⊢
            by_cases j2 : j < off + ys.length
            · simp only [if_pos j2] at hj ⊢
              exact (k2 _ z hj).1
            · simp only [if_neg j2] at hj ⊢
              exact q4 j z hj)).2
        rw [← hb1]
        exact ⟨undef, _, _, .inr ⟨hrun, rfl⟩, h'.put hd (Rep.tup #[] [] .nil)⟩
      · cases he
    · cases he
  · cases he
end
end Go.Proofs.YtefiebkngpcaoaaDoor
