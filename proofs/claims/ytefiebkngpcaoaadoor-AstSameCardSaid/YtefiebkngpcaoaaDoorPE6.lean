/- Each operation of the pure logic is sound: literals, slices of slices, built-ins. Condition: the slots that it names are the frame's. append on a slice of the call's own, under the pure logic. Conditions: the lengths are within the model's bounds. -/
import Derived.Test.YtefiebkngpcaoaaDoorPE4
import Derived.Laws.Tables
import Derived.Laws.BytesString
import Derived.Great.BuildSlice
set_option maxRecDepth 100000
set_option linter.unusedVariables false
set_option linter.unusedSimpArgs false
set_option linter.unusedSectionVars false
namespace Go.Proofs.YtefiebkngpcaoaaDoor
open Go.RowKit
section
variable {P : Program} {N : Nat} {M0 : MM} {w0 : Ctx} {w : World} {f f' : Frm} {H : Hp} {mu : Nat → Option Nat} {a : Act}

theorem Rep.cells {M : Addr → Prop} {v : Value} {x : D} {ys : List D} (h : Rep M w v x) (hc : x.cells = some ys) : RepL M w v.cells.toList ys ∧ ∀ u ∈ v.cells.toList, u.oneCell' = true := by
  cases h with
  | agg vs ds h h1 => simp [D.cells] at hc; subst hc; exact ⟨h, h1⟩
  | tup vs ds h => simp [D.cells] at hc
  | bool b => simp [D.cells] at hc; subst hc; exact ⟨.cons _ _ _ _ (.bool b) .nil, by simp [Value.cells, Value.oneCell']⟩
  | int k n => simp [D.cells] at hc; subst hc; exact ⟨.cons _ _ _ _ (.int k n) .nil, by simp [Value.cells, Value.oneCell']⟩
  | str s => simp [D.cells] at hc; subst hc; exact ⟨.cons _ _ _ _ (.str s) .nil, by simp [Value.cells, Value.oneCell']⟩
  | nilp => simp [D.cells] at hc; subst hc; exact ⟨.cons _ _ _ _ .nilp .nil, by simp [Value.cells, Value.oneCell']⟩
  | nils => simp [D.cells] at hc; subst hc; exact ⟨.cons _ _ _ _ .nils .nil, by simp [Value.cells, Value.oneCell']⟩
  | ep ad us cs h hr => simp [D.cells] at hc; subst hc; exact ⟨.cons _ _ _ _ (.ep ad us cs h hr) .nil, by simp [Value.cells, Value.oneCell']⟩
  | sl p n cap us cs h1 h2 h3 h4 => simp [D.cells] at hc; subst hc; exact ⟨.cons _ _ _ _ (.sl p n cap us cs h1 h2 h3 h4) .nil, by simp [Value.cells, Value.oneCell']⟩
  | fn g vs us ds es h1 h2 => simp [D.cells] at hc; subst hc; exact ⟨.cons _ _ _ _ (.fn g vs us ds es h1 h2) .nil, by simp [Value.cells, Value.oneCell']⟩
  | nilf => simp [D.cells] at hc; subst hc; exact ⟨.cons _ _ _ _ .nilf .nil, by simp [Value.cells, Value.oneCell']⟩
theorem RepL.splice {M : Addr → Prop} {vs us : List Value} {ds es : List D} (h : RepL M w vs ds) (h' : RepL M w us es) (off : Nat) : RepL M w (vs.take off ++ us ++ vs.drop (off + us.length)) (ds.take off ++ es ++ ds.drop (off + es.length)) := by
  rw [h'.length]
  exact ((h.take off).append h').append (h.drop _)
theorem foldl_put : ∀ (l : List Value) (k off : Nat) (cells : Array Value), off + k + l.length ≤ cells.size →
    let r := (l.zipIdx k).foldl (fun cs (p : Value × Nat) => cs.setIfInBounds (off + p.2) p.1) cells
    r.size = cells.size ∧ ∀ j, r[j]? = if off + k ≤ j ∧ j < off + k + l.length then l[j - (off + k)]? else cells[j]?
  | [], k, off, cells, _ => ⟨rfl, fun j => by rw [if_neg (by simp)]; rfl⟩
  | c :: l, k, off, cells, h => by
    simp only [List.length_cons] at h
    obtain ⟨h1, h2⟩ := foldl_put l (k + 1) off (cells.setIfInBounds (off + k) c) (by simp; omega)
    simp only [List.zipIdx_cons, List.foldl_cons, List.length_cons]
    refine ⟨by rw [h1]; simp, fun j => ?_⟩
    rw [h2 j]
    by_cases a1 : off + (k + 1) ≤ j ∧ j < off + (k + 1) + l.length
    · rw [if_pos a1, if_pos ⟨by omega, by omega⟩, show j - (off + k) = (j - (off + (k + 1))) + 1 by omega, List.getElem?_cons_succ]
    · rw [if_neg a1]
      by_cases a2 : j = off + k
      · subst a2
        rw [if_pos ⟨by omega, by omega⟩, Nat.sub_self]
        simp [show off + k < cells.size by omega]
      · rw [if_neg (by omega), Array.getElem?_setIfInBounds_ne (Ne.symm a2)]
theorem foldl_splice (l : List Value) (off : Nat) (cells : Array Value) (h : off + l.length ≤ cells.size) :
    ((l.zipIdx).foldl (fun cs (p : Value × Nat) => cs.setIfInBounds (off + p.2) p.1) cells).toList = cells.toList.take off ++ l ++ cells.toList.drop (off + l.length) := by
  obtain ⟨h1, h2⟩ := foldl_put l 0 off cells (by simpa using h)
  apply List.ext_getElem?
  intro j
  rw [splice_get _ _ _ _ (by simpa using h)]
  rw [Array.getElem?_toList, h2 j]
  simp only [Nat.add_zero, Array.getElem?_toList]
  by_cases a1 : j < off
  · rw [if_pos a1, if_neg (by omega)]
  · rw [if_neg a1]
    by_cases a2 : j < off + l.length
    · rw [if_pos a2, if_pos ⟨by omega, a2⟩]
    · rw [if_neg a2, if_neg (by omega)]
theorem pfill_sound {M : Addr → Prop} {place : Nat → Option (Nat × Nat)} : ∀ (ps : List (Nat × D)) (vs : List (Nat × Value)) (cells : Array Value) (ds ds' : List D), vs.length = ps.length →
    (∀ (j : Nat) (p : Nat × Value) (q : Nat × D), vs[j]? = some p → ps[j]? = some q → p.1 = q.1 ∧ Rep M w p.2 q.2) → RepL M w cells.toList ds → (∀ u ∈ cells.toList, u.oneCell' = true) → pfill place ds ps = some ds' →
    ∃ cells', Instr.fill place cells vs = some cells' ∧ RepL M w cells'.toList ds' ∧ ∀ u ∈ cells'.toList, u.oneCell' = true
  | [], [], cells, ds, ds', _, _, hr, h1, h => by simp [pfill] at h; subst h; exact ⟨cells, rfl, hr, h1⟩
  | (i, x) :: ps, (i', v) :: vs, cells, ds, ds', hl, hp, hr, h1, h => by
    obtain ⟨e, hx⟩ := hp 0 _ _ rfl rfl
    simp only at e hx
    subst e
    unfold pfill at h
    split at h
    · rename_i off size ys hpl hys
      split at h
      · rename_i hb
        obtain ⟨g1, g2⟩ := hx.cells hys
        have hlen := hr.length
        have hlen' := g1.length
        simp only [Array.length_toList] at hlen hlen'
        have hne : ¬ (v.cells.size ≠ size || off + v.cells.size > cells.size) = true := by simp; omega
        unfold Instr.fill
        rw [hpl]
        simp only [hne]
        have hfl := foldl_splice v.cells.toList off cells (by simp; omega)
        have hfl' : (v.cells.zipIdx.foldl (fun cs (c, j) => cs.setIfInBounds (off + j) c) cells).toList = cells.toList.take off ++ v.cells.toList ++ cells.toList.drop (off + v.cells.toList.length) := by
          rw [← Array.foldl_toList]
          simpa using hfl
        have hys' : ys.length = size := hb.1
        refine pfill_sound ps vs _ _ ds' (by simpa using hl) (fun j p q h3 h4 => hp (j + 1) p q (by simpa using h3) (by simpa using h4)) ?_ ?_ h
        · rw [hfl', ← hys']
          exact hr.splice g1 off
        · rw [hfl']
          intro u hu
          simp only [List.mem_append] at hu
          rcases hu with (hu | hu) | hu
          · exact h1 u (List.mem_of_mem_take hu)
          · exact g2 u hu
          · exact h1 u (List.mem_of_mem_drop hu)
      · cases h
    · cases h
  | [], _ :: _, _, _, _, hl, _, _, _, _ => by simp at hl
  | _ :: _, [], _, _, _, hl, _, _, _, _ => by simp at hl
theorem partsD_sound (h : StM N M0 w0 f H mu a w) : ∀ (l : List (Nat × Operand)) (ps : List (Nat × D)), (∀ p ∈ l, opB N p.2 = true) → partsD f l = some ps →
    (l.map fun p => (p.1, a.eval p.2)).length = ps.length ∧ ∀ (j : Nat) (p : Nat × Value) (q : Nat × D), (l.map fun p => (p.1, a.eval p.2))[j]? = some p → ps[j]? = some q → p.1 = q.1 ∧ Rep (Mut M0 H mu) w p.2 q.2
  | [], ps, _, hp => by simp [partsD] at hp; subst hp; exact ⟨rfl, fun j p q h => by simp at h⟩
  | (i, x) :: l, ps, hb, hp => by
    unfold partsD at hp
    split at hp
    · rename_i d ds h1 h2
      cases hp
      obtain ⟨k1, k2⟩ := partsD_sound h l ds (fun p hp => hb p (by simp [hp])) h2
      refine ⟨by simp at k1 ⊢; exact k1, fun j p q h3 h4 => ?_⟩
      cases j with
      | zero => simp at h3 h4; subst h3 h4; exact ⟨rfl, SRep.toD (ev_sound h (hb (i, x) (by simp))) h1⟩
      | succ j => exact k2 j p q (by simpa using h3) (by simpa using h4)
    · cases hp
theorem zeroT_spec {M : Addr → Prop} {t : TypeId} {zs : List D} (h : zeroT P t = some zs) : ∃ i z, P.info? t = some i ∧ i.zero = some z ∧ RepL M w z.cells.toList zs ∧ ∀ u ∈ z.cells.toList, u.oneCell' = true := by
  unfold zeroT at h
  split at h
  · rename_i i hi
    split at h
    · rename_i z hz
      obtain ⟨k1, k2⟩ := ofVs_sound (w := w) (M := M) h
      exact ⟨i, z, hi, hz, k1, k2⟩
    · cases h
  · cases h
theorem goes_build (h : StM N M0 w0 f H mu a w) {o : Oper} (hd : ∀ d, o.dst = some d → d < N ∧ w0.fix d = false) {t : TypeId} {parts : Array (Nat × Operand)} (ho : o.op = .build t parts) (hb : ∀ p ∈ parts.toList, opB N p.2 = true) {e : Eff} (he : pstep P o f H = some e) :
    Goes P N M0 w0 o f H e a w := by
  simp only [pstep, ho] at he
  split at he
  · rename_i zs pl ps hz hpl hps
    split at he
    · rename_i cs hf
      cases he
      obtain ⟨k1, k2⟩ := partsD_sound h parts.toList ps hb hps
      obtain ⟨i, z, g1, g2, g3, g4⟩ := zeroT_spec (w := w) (M := Mut M0 H mu) hz
      obtain ⟨cells', q1, q2, q3⟩ := pfill_sound (w := w) (M := Mut M0 H mu) ps _ z.cells zs cs k1 k2 g3 g4 hf
      have hbuilt : P.built t (parts.map fun (i, x) => (i, a.eval x)).toList = some cells' := by
        unfold placesT at hpl
        split at hpl
        · rename_i fields hu
          unfold Program.built
          rw [g1, hu]
          simp only [g2, hpl]
          rw [← q1]
          have e5 : (fun (i : Nat) => pl.toArray[i]?) = fun (i : Nat) => pl[i]? := by funext i; simp
          have e6 : (parts.map fun (i, x) => (i, a.eval x)).toList = parts.toList.map fun p => (p.1, a.eval p.2) := Array.toList_map
          rw [e5, e6]
        · cases hpl
      exact goes_val (v := .agg cells') h hd (by simp [execOp, ho, run_build w t _ cells' hbuilt]) (Rep.agg _ _ q2 q3)
    · cases he
  · cases he
theorem ofVsN_sound {M : Addr → Prop} : ∀ {vs : List Value} {ds : List D}, ofVsN vs = some ds → RepL M w vs ds ∧ ∀ v ∈ vs, v.oneCell' = true
  | [], ds, h => by simp [ofVsN] at h; subst h; exact ⟨.nil, by simp⟩
  | v :: vs, ds, h => by
    unfold ofVsN at h
    split at h
    · rename_i e; cases e
    · rename_i vs' e
      cases e
      split at h
      · rename_i ds' h2
        cases h
        obtain ⟨k1, k2⟩ := ofVsN_sound (M := M) h2
        refine ⟨.cons _ _ _ _ .nils k1, fun x hx => ?_⟩
        rcases List.mem_cons.1 hx with rfl | hx
        · rfl
        · exact k2 x hx
      · cases h
    · rename_i e
      cases e
      split at h
      · rename_i d ds' h1 h2
        cases h
        obtain ⟨k1, k2⟩ := ofVsN_sound (M := M) h2
        refine ⟨.cons _ _ _ _ (ofV1_sound h1) k1, fun x hx => ?_⟩
        rcases List.mem_cons.1 hx with rfl | hx
        · exact ofV1_one h1
        · exact k2 x hx
      · cases h
theorem zeroTN_spec {M : Addr → Prop} {t : TypeId} {zs : List D} (h : zeroTN P t = some zs) : ∃ i z, P.info? t = some i ∧ i.zero = some z ∧ RepL M w z.cells.toList zs ∧ ∀ u ∈ z.cells.toList, u.oneCell' = true := by
  unfold zeroTN at h
  split at h
  · rename_i i hi
    split at h
    · rename_i z hz
      obtain ⟨k1, k2⟩ := ofVsN_sound (w := w) (M := M) h
      exact ⟨i, z, hi, hz, k1, k2⟩
    · cases h
  · cases h
theorem goes_buildN (h : StM N M0 w0 f H mu a w) {o : Oper} (hd : ∀ d, o.dst = some d → d < N ∧ w0.fix d = false) {t : TypeId} {parts : Array (Nat × Operand)} (ho : o.op = .build t parts) (hb : ∀ p ∈ parts.toList, opB N p.2 = true) {zs : List D} {pl : List (Nat × Nat)} {ps : List (Nat × D)} {cs : List D} (hz : zeroTN P t = some zs) (hpl : placesT P t = some pl) (hps : partsD f parts.toList = some ps) (hf : pfill (fun i => pl[i]?) zs ps = some cs) :
    Goes P N M0 w0 o f H (.val (.d (.agg cs))) a w := by
  obtain ⟨k1, k2⟩ := partsD_sound h parts.toList ps hb hps
  obtain ⟨i, z, g1, g2, g3, g4⟩ := zeroTN_spec (w := w) (M := Mut M0 H mu) hz
  obtain ⟨cells', q1, q2, q3⟩ := pfill_sound (w := w) (M := Mut M0 H mu) ps _ z.cells zs cs k1 k2 g3 g4 hf
  have hbuilt : P.built t (parts.map fun (i, x) => (i, a.eval x)).toList = some cells' := by
    unfold placesT at hpl
    split at hpl
    · rename_i fields hu
      unfold Program.built
      rw [g1, hu]
      simp only [g2, hpl]
      rw [← q1]
      have e5 : (fun (i : Nat) => pl.toArray[i]?) = fun (i : Nat) => pl[i]? := by funext i; simp
      have e6 : (parts.map fun (i, x) => (i, a.eval x)).toList = parts.toList.map fun p => (p.1, a.eval p.2) := Array.toList_map
      rw [e5, e6]
    · cases hpl
  exact goes_val (v := .agg cells') h hd (by simp [execOp, ho, run_build w t _ cells' hbuilt]) (Rep.agg _ _ q2 q3)
theorem repD_length : ∀ (n : Nat) (zs : List D), (repD n zs).length = n * zs.length
  | 0, zs => by simp [repD]
  | n + 1, zs => by rw [repD, List.length_append, repD_length n, Nat.add_mul, Nat.one_mul, Nat.add_comm]
theorem repD_get : ∀ (n : Nat) (zs : List D) (j : Nat), j < n * zs.length → (repD n zs)[j]? = zs[j % zs.length]?
  | 0, zs, j, h => by simp at h
  | n + 1, zs, j, h => by
    rw [repD]
    by_cases hj : j < zs.length
    · rw [List.getElem?_append_left hj, Nat.mod_eq_of_lt hj]
    · rw [List.getElem?_append_right (by omega), repD_get n zs (j - zs.length) (by rw [Nat.add_mul, Nat.one_mul] at h; omega)]
      congr 1
      conv => rhs; rw [show j = (j - zs.length) + zs.length by omega, Nat.add_mod_right]
theorem goes_buildSlice (h : StM N M0 w0 f H mu a w) {o : Oper} (hd : ∀ d, o.dst = some d → d < N ∧ w0.fix d = false) {t : TypeId} {len : Nat} {parts : Array (Nat × Operand)} (ho : o.op = .buildSlice t len parts) (hb : ∀ p ∈ parts.toList, opB N p.2 = true) {e : Eff} (he : pstep P o f H = some e) :
    Goes P N M0 w0 o f H e a w := by
  simp only [pstep, ho] at he
  split at he
  · rename_i et sz by_ ps hel hps
    split at he
    · rename_i zs hz
      split at he
      · rename_i hc
        split at he
        · rename_i cs hf
          cases he
          obtain ⟨c1, c2, c3⟩ := hc
          obtain ⟨ie, e1, e2, e3, -⟩ := elT_spec hel
          obtain ⟨k1, k2⟩ := partsD_sound h parts.toList ps hb hps
          obtain ⟨i, z, g1, g2, g3, g4⟩ := zeroT_spec (w := w) (M := Mut M0 H mu) hz
          rw [e2] at g1
          cases g1
          have hzl := g3.length
          simp only [Array.length_toList] at hzl
          have hbase : RepL (Mut M0 H mu) w ((Array.range (len * ie.size)).map (z.cells[· % z.cells.size]!)).toList (repD len zs) := by
            refine RepL.of (by rw [repD_length, c1]; simp [e3]) fun j v d h3 h4 => ?_
            simp only [Array.toList_map, Array.toList_range, List.getElem?_map, Option.map_eq_some_iff] at h3
            obtain ⟨j3, h3, rfl⟩ := h3
            have hj : j < len * sz ∧ j3 = j := by
              have h5 := (List.getElem?_eq_some_iff.1 h3)
              obtain ⟨h6, h7⟩ := h5
              simp at h6 h7
              rw [e3] at h6
              exact ⟨h6, h7.symm⟩
            obtain ⟨hj, rfl⟩ := hj
            rw [repD_get len zs _ (by rw [c1]; exact hj), c1] at h4
            obtain ⟨u, hu, hr⟩ := g3.get h4
            have e5 : z.cells[j3 % z.cells.size]! = u := by
              rw [show z.cells.size = sz by omega]
              rw [Array.getElem?_toList] at hu
              rw [getElem!_def, hu]
            show Rep _ _ (z.cells[j3 % z.cells.size]!) _
            rw [e5]
            exact hr
          have hone : ∀ u ∈ ((Array.range (len * ie.size)).map (z.cells[· % z.cells.size]!)).toList, u.oneCell' = true := by
            intro u hu
            simp only [Array.toList_map, List.mem_map] at hu
            obtain ⟨j, hj, rfl⟩ := hu
            have hlt : j % z.cells.size < z.cells.size := Nat.mod_lt _ (by
              rcases Nat.eq_zero_or_pos z.cells.size with h0 | h0
              · exfalso; apply c3; rw [show sz = 0 by omega, Nat.mul_zero]
              · exact h0)
            rw [getElem!_pos z.cells _ hlt]
            exact g4 _ (by simp)
          obtain ⟨cells', q1, q2, q3⟩ := pfill_sound (w := w) (M := Mut M0 H mu) ps _ _ _ cs k1 k2 hbase hone hf
          have hrun := run_buildSlice (P := P) w t et len (parts.map fun (i, x) => (i, a.eval x)) cells' ie z e1 e2 g2 (by rw [e3]; omega) (by rw [e3]; exact c3) (by
            rw [e3]
            rw [e3] at q1
            rw [← q1]
            congr 1
            exact Array.toList_map)
          have hx : Below w.heap.size w (w.alloc (.cells cells' et)) := (Below.refl _ _).alloc (Nat.le_refl _) _
          have h' := h.grow hx
          refine ⟨_, _, mu, .inl (by simp [execOp, ho, hrun]; rfl), h'.put hd ?_⟩
          have hst : Stay (Mut M0 H mu) w (Mut M0 H mu) (w.alloc (.cells cells' et)) := (h.turn_grow hx).stay
          refine Rep.sl _ _ _ cells'.toList _ (Nat.le_refl _) (fun e => by cases e) (fun ad ha => ?_) (RepL.mono hst q2)
          cases ha
          refine ⟨fun _ => rfl, fun j u hu => ?_⟩
          rw [Addr.add_mid, Nat.zero_add, World.cell?_alloc_at _ _ _ _ rfl]
          exact ⟨by simpa using hu, fun hm => by have := h.mut_lt hm; simp at this, q3 u (List.mem_of_getElem? hu)⟩
        · cases he
      · cases he
    · cases he
  · cases he
/-- A slice literal whose cells are to be written here and there. -/
theorem goes_vbuild (h : StM N M0 w0 f H mu a w) {o : Oper} (hd : ∀ d, o.dst = some d → d < N ∧ w0.fix d = false) {t : TypeId} {len : Nat} {parts : Array (Nat × Operand)} (ho : o.op = .buildSlice t len parts) (hb : ∀ p ∈ parts.toList, opB N p.2 = true) {s : Nat} (hso : o.dst = some s) (hs : H s = .none) {et sz by_ : Nat} {ps : List (Nat × D)} {zs cs : List D} (hel : elT P t = some (et, sz, by_)) (hps : partsD f parts.toList = some ps) (hz : zeroT P et = some zs)
    (hc : zs.length = sz ∧ len * sz ≤ 16777216 ∧ len * sz ≠ 0) (hf : pfill (fun i => some (i * sz, sz)) (repD len zs) ps = some cs) (hcl : cs.length = len * sz) :
    Goes P N M0 w0 o f H ⟨.vec s 0 len, none, [(s, .vec et sz 0 (cs.map .d))]⟩ a w := by
  obtain ⟨c1, c2, c3⟩ := hc
  obtain ⟨ie, e1, e2, e3, -⟩ := elT_spec hel
  obtain ⟨k1, k2⟩ := partsD_sound h parts.toList ps hb hps
  obtain ⟨i, z, g1, g2, g3, g4⟩ := zeroT_spec (w := w) (M := Mut M0 H mu) hz
  rw [e2] at g1
  cases g1
  have hzl := g3.length
  simp only [Array.length_toList] at hzl
  have hbase : RepL (Mut M0 H mu) w ((Array.range (len * ie.size)).map (z.cells[· % z.cells.size]!)).toList (repD len zs) := by
    refine RepL.of (by rw [repD_length, c1]; simp [e3]) fun j v d h3 h4 => ?_
    simp only [Array.toList_map, Array.toList_range, List.getElem?_map, Option.map_eq_some_iff] at h3
    obtain ⟨j3, h3, rfl⟩ := h3
    have hj : j < len * sz ∧ j3 = j := by
      have h5 := (List.getElem?_eq_some_iff.1 h3)
      obtain ⟨h6, h7⟩ := h5
      simp at h6 h7
      rw [e3] at h6
      exact ⟨h6, h7.symm⟩
    obtain ⟨hj, rfl⟩ := hj
    rw [repD_get len zs _ (by rw [c1]; exact hj), c1] at h4
    obtain ⟨u, hu, hr⟩ := g3.get h4
    have e5 : z.cells[j3 % z.cells.size]! = u := by
      rw [show z.cells.size = sz by omega]
      rw [Array.getElem?_toList] at hu
      rw [getElem!_def, hu]
    show Rep _ _ (z.cells[j3 % z.cells.size]!) _
    rw [e5]
    exact hr
  have hone : ∀ u ∈ ((Array.range (len * ie.size)).map (z.cells[· % z.cells.size]!)).toList, u.oneCell' = true := by
    intro u hu
    simp only [Array.toList_map, List.mem_map] at hu
    obtain ⟨j, hj, rfl⟩ := hu
    have hlt : j % z.cells.size < z.cells.size := Nat.mod_lt _ (by
      rcases Nat.eq_zero_or_pos z.cells.size with h0 | h0
      · exfalso; apply c3; rw [show sz = 0 by omega, Nat.mul_zero]
      · exact h0)
    rw [getElem!_pos z.cells _ hlt]
    exact g4 _ (by simp)
  obtain ⟨cells', q1, q2, q3⟩ := pfill_sound (w := w) (M := Mut M0 H mu) ps _ _ _ cs k1 k2 hbase hone hf
  have hrun := run_buildSlice (P := P) w t et len (parts.map fun (i, x) => (i, a.eval x)) cells' ie z e1 e2 g2 (by rw [e3]; omega) (by rw [e3]; exact c3) (by
    rw [e3]
    rw [e3] at q1
    rw [← q1]
    congr 1
    exact Array.toList_map)
  have hx : Below w.heap.size w (w.alloc (.cells cells' et)) := (Below.refl _ _).alloc (Nat.le_refl _) _
  have hlen' : cells'.size = len * sz := by have := q2.length; simp at this; omega
  have ht := Turn.new (w' := w.alloc (.cells cells' et)) h hs (.vec et sz 0 (cs.map .d)) (some w.heap.size) (fun x e => by cases e; exact Nat.le_refl _) hx
  have h' := h.new (w' := w.alloc (.cells cells' et)) hs (Nat.lt_of_lt_of_le (hd s hso).1 h.nle) (.vec et sz 0 (cs.map .d)) (some w.heap.size) (fun x e => by cases e; exact ⟨Nat.le_refl _, by simp⟩) hx (by simp) (fun e2 sz2 ver2 cs2 he => by
    cases he
    refine .inr ⟨w.heap.size, cells', rfl, heap_alloc_new w _, by rw [List.length_map, hcl, hlen']; exact Nat.le_refl _, q3, fun j y hj => ?_⟩
    rw [List.getElem?_map] at hj
    obtain ⟨d, hd', rfl⟩ := Option.map_eq_some_iff.1 hj
    obtain ⟨u, hu, hr⟩ := q2.get hd'
    have e1 : cells'.getD j undef = u := by simp at hu; simp [hu]
    rw [e1]
    exact SRep.turn ht (x := .d d) hr)
  refine ⟨_, _, _, .inl (by simp [execOp, ho, hrun]; rfl), h'.put hd ?_⟩
  exact ⟨⟨_, _, rfl, (fun e => by cases e)⟩, et, sz, 0, cs.map .d, by simp [hup], Nat.le_refl _, fun _ => ⟨by rw [List.length_map, hcl], .inr ⟨w.heap.size, len, cells', et, rfl, by simp, heap_alloc_new w _, Nat.le_refl _, by
    rcases Nat.eq_zero_or_pos sz with h0 | h0
    · rw [h0] at c3; simp at c3
    · have := Nat.le_mul_of_pos_right len h0; simp only [maxLen]; omega, hlen'⟩⟩⟩
theorem isStr_spec {t : TypeId} (h : isStr P t = true) : P.underlying t = some .string := by
  unfold isStr at h
  split at h <;> first | assumption | cases h
theorem intK_spec {t : TypeId} {k : IntKind} (h : intK P t = some k) : P.underlying t = some (.int k) := by
  unfold intK at h
  split at h <;> first | (cases h; assumption) | cases h
theorem bytesD_sound {M : Addr → Prop} : ∀ {cs : List D} {bs : List UInt8} {us : List Value}, bytesD cs = some bs → RepL M w us cs → ∃ ns : List Int, us = ns.map (Value.int .u8) ∧ bs = ns.map fun n => UInt8.ofNat n.toNat
  | [], bs, us, h, hr => by
    simp [bytesD] at h
    subst h
    cases hr
    exact ⟨[], rfl, rfl⟩
  | c :: cs, bs, us, h, hr => by
    unfold bytesD at h
    split at h
    · rename_i he
      cases he
    · rename_i n cs' he
      cases he
      split at h
      · rename_i bs' hb
        cases h
        cases hr with
        | cons v d vs ds h1 h2 =>
          have := rep_int h1
          subst this
          obtain ⟨ns, q1, q2⟩ := bytesD_sound hb h2
          exact ⟨n :: ns, by simp [q1], by simp [q2]⟩
      · cases h
    · cases h
theorem foldl_push : ∀ (ns : List Int) (s : ByteArray), ns.foldl (fun r n => r.push (UInt8.ofNat n.toNat)) s = ⟨s.data ++ (ns.map fun n => UInt8.ofNat n.toNat).toArray⟩
  | [], s => by simp
  | n :: ns, s => by
    rw [List.foldl_cons, foldl_push ns]
    congr 1
    show s.data.push _ ++ _ = _
    apply Array.ext'
    simp
theorem goes_convert (h : StM N M0 w0 f H mu a w) {o : Oper} (hd : ∀ d, o.dst = some d → d < N ∧ w0.fix d = false) {s t : TypeId} {x : Operand} (ho : o.op = .convert s t x) (hx : opB N x = true) {e : Eff} (he : pstep P o f H = some e) :
    Goes P N M0 w0 o f H e a w := by
  have hv := ev_sound h hx
  simp only [pstep, ho] at he
  split at he
  · rename_i r off n cap hs
    split at he
    · rename_i et sz by_ cs hel hst hcs
      split at he
      · rename_i ds hik hds
        split at he
        · rename_i bs hbs
          cases he
          rw [hs] at hv
          obtain ⟨cs', b, g1, g2, g3, g4⟩ := hv
          obtain ⟨b', arr, e', k1, k2, k3, k4, k5⟩ := h.boxCells hcs
          rw [g2] at k1
          cases k1
          obtain ⟨q1, q2⟩ := k5 off
          obtain ⟨i, e1, e2, -, -⟩ := elT_spec hel
          unfold bytesS at hds
          split at hds
          · rename_i hn
            have hr : RepL (Mut M0 H mu) w ((arr.toList.drop off).take n) ds := by
              refine toDs_sound hds (by simp; simp at hn; omega) fun j v x h1 h2 => ?_
              rw [List.getElem?_take] at h1 h2
              split at h1
              · rename_i hj
                rw [if_pos hj] at h2
                exact q2 j v x h1 h2
              · cases h1
            obtain ⟨ns, p1, p2⟩ := bytesD_sound hbs hr
            have hl : ns.length = n := by
              have := congrArg List.length p1
              simp at this hn
              omega
            have hrun : (convert s t (a.eval x)).run P w = .ok (.string ⟨bs.toArray⟩) w := by
              rw [g3, run_convert_bytes_string w s t et (some ⟨b, off, none⟩) n cap e1 (intK_spec hik) (isStr_spec hst)]
              have hload := run_loadCells_list (P := P) w (⟨b, off, none⟩ : Addr) (ns.map (Value.int .u8)) (fun j u hu => by
                rw [← p1, List.getElem?_take] at hu
                split at hu
                · exact (q1 j u hu).1
                · cases hu)
              rw [List.length_map, hl] at hload
              rw [run_bytesToString w ⟨b, off, none⟩ n cap ns hload, foldl_push, p2]
              have : ByteArray.empty.data = #[] := rfl
              rw [this, Array.empty_append]
            exact goes_val (v := .string ⟨bs.toArray⟩) h hd (by simp [execOp, ho, hrun]) (Rep.str _)
          · cases hds
        · cases he
      · cases he
    · cases he
  · rename_i r ver n hs
    split at he
    · rename_i et sz0 by_ e1 sz ver2 cs hel hst hcs
      split at he
      · rename_i hvv
        obtain ⟨hvv, hsz⟩ := hvv
        split at he
        · rename_i ds hik hds
          split at he
          · rename_i bs hbs
            cases he
            rw [hs] at hv
            obtain ⟨hv0, e0, sz1, ver1, cs0, g1, g2, g3⟩ := hv
            rw [hcs] at g1
            cases g1
            obtain ⟨g4, g5⟩ := g3 hvv
            subst hsz
            rw [Nat.mul_one] at g4
            obtain ⟨i, e1, e2, -, -⟩ := elT_spec hel
            rcases g5 with ⟨a1, a2, a3⟩ | ⟨g, cap, cur, e', a1, a2, a3, a4, a5, a6⟩
            · have hc0 : cs = [] := List.eq_nil_of_length_eq_zero (by omega)
              subst hc0
              simp only [toDs, Option.some.injEq] at hds
              subst hds
              simp only [bytesD, Option.some.injEq] at hbs
              subst hbs
              refine goes_val (v := .string ⟨#[]⟩) h hd ?_ (Rep.str _)
              simp only [execOp, ho]
              rw [Sem.run_bind, a1, run_convert_bytes_string w s t et none 0 0 e1 (intK_spec hik) (isStr_spec hst)]
              rfl
            · obtain ⟨cur', k1, k2, k3, k4, k5⟩ := h.vecCells hcs a2
              obtain ⟨q1, q2, q3⟩ := k5 0
              simp only [List.drop_zero] at q1 q2 q3
              have hr : RepL (Mut M0 H mu) w (cur'.toList.take cs.length) ds := toDs_sound hds q1 q3
              obtain ⟨ns, p1, p2⟩ := bytesD_sound hbs hr
              have hl : ns.length = n := by
                have := congrArg List.length p1
                simp at this
                omega
              have hrun : (convert s t (a.eval x)).run P w = .ok (.string ⟨bs.toArray⟩) w := by
                rw [a1, run_convert_bytes_string w s t et (some ⟨g, 0, none⟩) n cap e1 (intK_spec hik) (isStr_spec hst)]
                have hload := run_loadCells_list (P := P) w (⟨g, 0, none⟩ : Addr) (ns.map (Value.int .u8)) (fun j u hu => by
                  rw [← p1] at hu
                  exact (q2 j u hu).1)
                rw [List.length_map, hl] at hload
                rw [run_bytesToString w ⟨g, 0, none⟩ n cap ns hload, foldl_push, p2]
                have : ByteArray.empty.data = #[] := rfl
                rw [this, Array.empty_append]
              exact goes_val (v := .string ⟨bs.toArray⟩) h hd (by simp [execOp, ho, hrun]) (Rep.str _)
          · cases he
        · cases he
      · cases he
    · cases he
  · rename_i hnb hnb2
    split at he
    · rename_i k0 n ds k hs hu' hk
      cases he
      obtain ⟨du, hu⟩ : ∃ d, P.underlying s = some d := by
        unfold tyI at hu'
        cases h : P.underlying s with
        | none => rw [h] at hu'; cases hu'
        | some d => exact ⟨d, rfl⟩
      have e1 := rep_int (SRep.toD hv hs)
      have e3 := intK_spec hk
      exact goes_val h hd (by simp [execOp, ho, e1, convert, run_underlying hu, run_underlying e3, Conv.intToInt]) (Rep.int _ _)
    · rename_i n cs hs
      split at he
      · rename_i et sz by_ hel hst
        split at he
        · rename_i hik
          split at he
          · rename_i hlen
            split at he
            · rename_i bs hbs
              cases he
              obtain ⟨p, cap, us, g1, g2, g3, g4, g5⟩ := rep_sl (SRep.toD hv hs)
              obtain ⟨i, e1, e2, -, -⟩ := elT_spec hel
              obtain ⟨ns, q1, q2⟩ := bytesD_sound hbs g5
              subst q1
              have hl := g5.length
              have hrun : (convert s t (a.eval x)).run P w = .ok (.string ⟨bs.toArray⟩) w := by
                rw [g1, run_convert_bytes_string w s t et p n cap e1 (intK_spec hik) (isStr_spec hst)]
                cases p with
                | none =>
                  have := (g3 rfl).2.2
                  have hns : ns = [] := by simpa using this
                  subst hns
                  simp at q2
                  subst q2
                  rfl
                | some ad =>
                  have hload := run_loadCells_list (P := P) w ad (ns.map (Value.int .u8)) (fun j u hu => ((g4 ad rfl).2 j u hu).1)
                  rw [hl, hlen] at hload
                  rw [run_bytesToString w ad n cap ns (by rw [hload]), foldl_push, q2]
                  have : ByteArray.empty.data = #[] := rfl
                  rw [this, Array.empty_append]
              exact goes_val (v := .string ⟨bs.toArray⟩) h hd (by simp [execOp, ho, hrun]) (Rep.str _)
            · cases he
          · cases he
        · cases he
      · cases he
    · cases he
theorem bnd_sound (h : StM N M0 w0 f H mu a w) {y dflt b : Nat} {x : Option Operand} (hx : ∀ z, x = some z → opB N z = true) (hb : bndD f y dflt x = some b) :
    (x = none ∧ b = dflt) ∨ ∃ z k j, x = some z ∧ a.eval z = .int k j ∧ 0 ≤ j ∧ j ≤ y ∧ b = j.toNat := by
  cases x with
  | none => simp [bndD] at hb; exact .inl ⟨rfl, hb.symm⟩
  | some z =>
    have hv := ev_sound h (hx z rfl)
    simp only [bndD] at hb
    split at hb
    · rename_i k j hz
      split at hb
      · rename_i hj
        cases hb
        rw [hz] at hv
        exact .inr ⟨z, k, j, rfl, rep_int (show Rep (Mut M0 H mu) w _ (.int k j) from hv), hj.1, hj.2, rfl⟩
      · cases hb
    · cases hb
theorem run_sliceBound {v : Value} {k : IntKind} {j : Int} {y : Nat} {c : BoundsCode} (hv : v = .int k j) (h0 : 0 ≤ j) (h1 : j ≤ y) : (Instr.sliceBound v y c).run P w = .ok j.toNat w := by
  subst hv
  simp [Instr.sliceBound, asIntOf, h0, h1]
theorem run_bounds (h : StM N M0 w0 f H mu a w) {isS : Bool} {len cap l hh : Nat} {lo hi : Option Operand} (hlo : ∀ z, lo = some z → opB N z = true) (hhi : ∀ z, hi = some z → opB N z = true) (hc : len ≤ cap)
    (h1 : bndD f len len hi = some hh) (h2 : bndD f hh 0 lo = some l) : (Instr.sliceBounds isS len cap (lo.map a.eval) (hi.map a.eval) none).run P w = .ok (l, hh, cap) w ∧ l ≤ hh ∧ hh ≤ len := by
  have hle : hh ≤ len := by
    rcases bnd_sound h hhi h1 with ⟨-, rfl⟩ | ⟨z, k, j, -, -, g1, g2, rfl⟩
    · exact Nat.le_refl _
    · omega
  have hl : l ≤ hh := by
    rcases bnd_sound h hlo h2 with ⟨-, rfl⟩ | ⟨z, k, j, -, -, g1, g2, rfl⟩
    · exact Nat.zero_le _
    · omega
  refine ⟨?_, hl, hle⟩
  rcases bnd_sound h hhi h1 with ⟨rfl, rfl⟩ | ⟨z, k, j, rfl, e1, g1, g2, rfl⟩
  · rcases bnd_sound h hlo h2 with ⟨rfl, rfl⟩ | ⟨z', k', j', rfl, e2, g3, g4, rfl⟩
    · simp [Instr.sliceBounds]
    · simp [Instr.sliceBounds, run_sliceBound e2 g3 g4]
  · have hy := run_sliceBound (P := P) (w := w) (y := cap) (c := if isS then .sliceAcap else .sliceAlen) e1 g1 (by omega)
    rcases bnd_sound h hlo h2 with ⟨rfl, rfl⟩ | ⟨z', k', j', rfl, e2, g3, g4, rfl⟩
    · simp [Instr.sliceBounds, hy]
    · have hz := run_sliceBound (P := P) (w := w) (c := .sliceB) e2 g3 g4
      simp [Instr.sliceBounds, hy, hz]
theorem arrT_spec {t n sz : Nat} (h : arrT P t = some (n, sz)) : ∃ i, (∃ e, P.underlying t = some (.array n e) ∧ P.info? e = some i) ∧ i.size = sz := by
  unfold arrT at h
  split at h
  · rename_i n' e hu
    split at h
    · rename_i i hi
      cases h
      exact ⟨i, ⟨e, hu, hi⟩, rfl⟩
    · cases h
  · cases h
theorem goes_slice (h : StM N M0 w0 f H mu a w) {o : Oper} (hd : ∀ d, o.dst = some d → d < N ∧ w0.fix d = false) {t : TypeId} {x : Operand} {lo hi : Option Operand} (ho : o.op = .slice t x lo hi none) (hx : opB N x = true) (hlo : ∀ z, lo = some z → opB N z = true) (hhi : ∀ z, hi = some z → opB N z = true)
    {e : Eff} (he : pstep P o f H = some e) : Goes P N M0 w0 o f H e a w := by
  have hv := ev_sound h hx
  simp only [pstep, ho] at he
  split at he
  · rename_i s hs
    split at he
    · rename_i hh hst hb
      split at he
      · rename_i l hb2
        cases he
        have e1 := rep_str (SRep.toD hv hs)
        obtain ⟨k1, -, -⟩ := run_bounds (P := P) h (isS := false) (cap := s.size) hlo hhi (Nat.le_refl _) hb hb2
        refine goes_val (v := .string (s.extract l hh)) h hd ?_ (Rep.str _)
        simp [execOp, ho, e1, Instr.sliceAt, run_underlying (isStr_spec hst), Instr.slice, k1]
      · cases he
    · cases he
  · rename_i n cs hs
    split at he
    · rename_i et sz by_ hh hel hb
      split at he
      · rename_i l hb2
        cases he
        obtain ⟨p, cap, us, g1, g2, g3, g4, g5⟩ := rep_sl (SRep.toD hv hs)
        obtain ⟨i, e1, e2, e3, -⟩ := elT_spec hel
        obtain ⟨k1, k2, k3⟩ := run_bounds (P := P) h (isS := true) (cap := cap) hlo hhi g2 hb hb2
        refine goes_val (v := .slice (if cap = l then p else p.map (·.add (l * sz))) (hh - l) (cap - l)) h hd ?_ ?_
        · simp [execOp, ho, g1, Instr.sliceAt, run_underlying e1, Instr.slice, k1, sizeOf, typeInfo, e2, e3]
        · have hr := ((g5.take (hh * sz)).drop (l * sz))
          refine Rep.sl _ _ _ _ _ (by omega) (fun hn => ?_) (fun ad ha => ?_) hr
          · have hp : p = none := by
              split at hn
              · exact hn
              · cases p <;> simp_all
            obtain ⟨a1, a2, a3⟩ := g3 hp
            refine ⟨by omega, by omega, by simp [a3]⟩
          · split at ha
            · rename_i hcl
              have : (us.take (hh * sz)).drop (l * sz) = [] := by
                apply List.drop_eq_nil_of_le
                rw [List.length_take]
                have : hh = l := by omega
                subst this
                exact Nat.min_le_left _ _
              rw [this]
              exact ⟨fun h => absurd rfl h, fun j u hu => by simp at hu⟩
            · cases p with
              | none => simp at ha
              | some ad0 =>
                simp at ha
                subst ha
                exact ((g4 ad0 rfl).take _).drop _
      · cases he
    · cases he
  · rename_i cs hs
    split at he
    · rename_i n sz hat
      cases he
      obtain ⟨i, ⟨et, g1, g2⟩, rfl⟩ := arrT_spec hat
      obtain ⟨ad, us, e1, hc, hr⟩ := rep_ep (SRep.toD hv hs)
      refine goes_val (v := .slice (some (if n = 0 then ad else ad.add (0 * i.size))) n n) h hd ?_ ?_
      · simp [execOp, ho, e1, Instr.sliceAt, Instr.sureAddr, run_underlying g1, Instr.sliceBounds, sizeOf, typeInfo, g2]
      · refine Rep.sl _ _ _ us cs (Nat.le_refl _) (fun e => by cases e) (fun b hb => ?_) hr
        have hb : (if n = 0 then ad else ad.add (0 * i.size)) = b := Option.some.inj hb
        subst hb
        split
        · exact hc
        · rw [Nat.zero_mul]
          have := hc.drop 0
          simpa using this
    · cases he
  · cases he
theorem goes_built (h : StM N M0 w0 f H mu a w) {o : Oper} (hd : ∀ d, o.dst = some d → d < N ∧ w0.fix d = false) {b : Builtin} {as : Array Operand} {tys : Array TypeId} (ho : o.op = .call { callee := .builtin b, args := as, argTypes := tys }) (hb : ∀ x ∈ as.toList, opB N x = true)
    {e : Eff} (he : pstep P o f H = some e) : Goes P N M0 w0 o f H e a w := by
  simp only [pstep, ho] at he
  split at he
  · rename_i v rd hv
    cases he
    unfold pBuilt at hv
    split at hv
    · rename_i x t hax htx
      have hx := ev_sound h (hb x (by rw [hax]; simp))
      have e1 : as = #[x] := by apply Array.ext'; simpa using hax
      have e2 : tys = #[t] := by apply Array.ext'; simpa using htx
      subst e1 e2
      split at hv
      · rename_i r off n cap hs
        split at hv
        · rename_i el hel
          cases hv
          rw [hs] at hx
          obtain ⟨et, sz, by_⟩ := el
          obtain ⟨i, e1, -, -, -⟩ := elT_spec hel
          obtain ⟨cs, b, g1, g2, g3, g4⟩ := hx
          exact goes_val (v := .int .i64 n) h hd (by simp [execOp, ho, resolve, invoke, builtin, Builtin.len_, g3, run_underlying e1, goInt]) (Rep.int _ _)
        · cases hv
      · rename_i r ver n hs
        split at hv
        · rename_i el hel
          cases hv
          rw [hs] at hx
          obtain ⟨et, sz', by_⟩ := el
          obtain ⟨i, e1, -, -, -⟩ := elT_spec hel
          obtain ⟨⟨p, cap, g6, -⟩, -⟩ := hx
          exact goes_val (v := .int .i64 n) h hd (by simp [execOp, ho, resolve, invoke, builtin, Builtin.len_, g6, run_underlying e1, goInt]) (Rep.int _ _)
        · cases hv
      · rename_i hnb hnb2
        split at hv
        · rename_i s hs
          split at hv
          · rename_i hst
            cases hv
            have g1 := rep_str (SRep.toD hx hs)
            exact goes_val (v := .int .i64 s.size) h hd (by simp [execOp, ho, resolve, invoke, builtin, Builtin.len_, g1, run_underlying (isStr_spec hst), goInt]) (Rep.int _ _)
          · cases hv
        · rename_i n cs hs
          split at hv
          · rename_i el hel
            cases hv
            obtain ⟨et, sz, by_⟩ := el
            obtain ⟨i, e1, -, -, -⟩ := elT_spec hel
            obtain ⟨p, cap, us, g1, -, -, -, -⟩ := rep_sl (SRep.toD hx hs)
            exact goes_val (v := .int .i64 n) h hd (by simp [execOp, ho, resolve, invoke, builtin, Builtin.len_, g1, run_underlying e1, goInt]) (Rep.int _ _)
          · cases hv
        · cases hv
    · rename_i x y hax
      have hx := ev_sound h (hb x (by rw [hax]; simp))
      have hy := ev_sound h (hb y (by rw [hax]; simp))
      have e1 : as = #[x, y] := by apply Array.ext'; simpa using hax
      subst e1
      split at hv
      · rename_i k p k' q hp hq
        cases hv
        rw [hp] at hx
        rw [hq] at hy
        have g1 := rep_int (show Rep (Mut M0 H mu) w _ _ from hx)
        have g2 := rep_int (show Rep (Mut M0 H mu) w _ _ from hy)
        exact goes_val (v := .int k (if q > p then q else p)) h hd (by simp [execOp, ho, resolve, invoke, builtin, Builtin.max_, g1, g2, Builtin.max2]) (Rep.int _ _)
      · cases hv
    · rename_i x y hax
      have hx := ev_sound h (hb x (by rw [hax]; simp))
      have hy := ev_sound h (hb y (by rw [hax]; simp))
      have e1 : as = #[x, y] := by apply Array.ext'; simpa using hax
      subst e1
      split at hv
      · rename_i k p k' q hp hq
        cases hv
        rw [hp] at hx
        rw [hq] at hy
        have g1 := rep_int (show Rep (Mut M0 H mu) w _ _ from hx)
        have g2 := rep_int (show Rep (Mut M0 H mu) w _ _ from hy)
        exact goes_val (v := .int k (if q < p then q else p)) h hd (by simp [execOp, ho, resolve, invoke, builtin, Builtin.min_, g1, g2, Builtin.min2]) (Rep.int _ _)
      · cases hv
    · cases hv
  · cases he
end
end Go.Proofs.YtefiebkngpcaoaaDoor
namespace Go.Proofs.YtefiebkngpcaoaaDoor
open Go.RowKit
section
variable {P : Program} {N : Nat} {M0 : MM} {w0 : Ctx} {w w' : World} {f f' : Frm} {H : Hp} {mu : Nat → Option Nat} {a : Act}

/-- What an owned slice's slot needs. -/
theorem own_srep (h : StM N M0 w0 f H mu a w) {r k : Nat} {e : TypeId} {sz : Nat} (hr : H r = .row e sz k) {g cap : Nat} {cur : Array Value} (hm : mu r = some g) (hg : w.heap[g]? = some (.cells cur e (0, 0)))
    (hk : k ≤ cap) (hc : cap ≤ maxLen) (hs : cur.size = cap * sz) (h7 : ∀ u ∈ cur.toList, u.oneCell' = true) {us : List Value} {cs : List D} (hu : cur.toList.take (k * sz) = us) (hrep : RepL (Mut M0 H mu) w us cs) (h1 : ∀ u ∈ us, u.oneCell' = true) (hl : cs.length = k * sz) :
    SRep M0 H mu w (.slice (some ⟨g, 0, none⟩) k cap) (.own r k cs) := by
  refine ⟨.sl _ _ _ us _ hk (fun e => by cases e) (fun ad ha => ?_) hrep, e, sz, k, hr, Nat.le_refl _, fun _ => ⟨hl, .inr ⟨g, cap, cur, rfl, hm, hg, hk, hc, hs, h7⟩⟩⟩
  cases ha
  refine ⟨fun _ => rfl, fun j u hj => ?_⟩
  have hj' : j < k * sz := by
    have := (List.getElem?_eq_some_iff.1 hj).1
    rw [hrep.length, hl] at this
    exact this
  rw [Addr.add_mid, Nat.zero_add]
  refine ⟨?_, ?_, h1 u (List.mem_of_getElem? hj)⟩
  · rw [cell_of_row w g j cur e _ hg, ← hj, ← hu, List.getElem?_take, if_pos hj', Array.getElem?_toList]
  · rintro (hm0 | ⟨s, hs'⟩)
    · exact h.sep r g (by rw [hr]; simp) hm _ rfl hm0
    · cases hh : H s with
      | none => rw [hh] at hs'; exact hs'
      | box ds =>
        rw [hh] at hs'
        have : s = r := h.inj s r g (by rw [hh]; simp) (by rw [hr]; simp) hs' hm
        subst this
        rw [hr] at hh
        cases hh
      | vec e2 sz2 v2 c2 =>
        rw [hh] at hs'
        have : s = r := h.inj s r g (by rw [hh]; simp) (by rw [hr]; simp) hs' hm
        subst this
        rw [hr] at hh
        cases hh
      | row e2 sz2 k2 =>
        rw [hh] at hs'
        have : s = r := h.inj s r g (by rw [hh]; simp) (by rw [hr]; simp) hs'.1 hm
        subst this
        rw [hr] at hh
        cases hh
        have := hs'.2
        simp at this
        omega
theorem zeroCells_one {z : Array Value} (hz : ∀ u ∈ z.toList, u.oneCell' = true) (n : Nat) : ∀ u ∈ (Builtin.zeroCells z n).toList, u.oneCell' = true := by
  intro u hu
  simp only [Builtin.zeroCells, Array.toList_map, List.mem_map, Array.toList_range, List.mem_range] at hu
  obtain ⟨j, hj, rfl⟩ := hu
  have hp : 0 < z.size := by
    rcases Nat.eq_zero_or_pos z.size with h0 | h0
    · rw [h0] at hj; simp at hj
    · exact h0
  have hlt : j % z.size < z.size := Nat.mod_lt _ hp
  rw [getElem!_pos z _ hlt]
  exact hz _ (by simp)
theorem run_append0 {t ty e : TypeId} {i : TypeInfo} (ht : P.underlying t = some (.slice e)) (hi : P.info? e = some i) {b : Option Addr} {n cap : Nat} (hn : n ≤ cap) {p : Option Addr} {c : Nat} :
    (Builtin.append_ #[t, t] ty #[.slice b n cap, .slice p 0 c]).run P w = .ok (.slice b n cap) w := by
  cases b <;> cases p <;> simp [Builtin.append_, run_underlying ht, sizeOf, typeInfo, hi, Builtin.lenOf, hn, Builtin.firstCells, loadCells, loadCellsFrom, storeCells]

/-- The one step of append on an owned slice. -/
theorem goes_app (h : StM N M0 w0 f H mu a w) {o : Oper} (hd : ∀ d, o.dst = some d → d < N ∧ w0.fix d = false) {s x : Operand} {t : TypeId} (ho : o.op = .call { callee := .builtin .append, args := #[s, x], argTypes := #[t, t] })
    (hs : opB N s = true) (hx : opB N x = true) {r n m : Nat} {cs news zs : List D} {e sz by_ : Nat} (hes : ev f s = .own r n cs) (hH : H r = .row e sz n) (hex : (ev f x).toD = some (.sl m news)) (hel : elT P t = some (e, sz, by_))
    (hz : zeroT P e = some zs) (hzl : zs.length = sz) (hsz : 0 < sz) (hlen : news.length = m * sz) (hb : (n + m) * by_ ≤ 140737488355328) (hmax : n + m ≤ 4611686018427387904) :
    Goes P N M0 w0 o f H ⟨.own r (n + m) (cs ++ news), some r, [(r, .row e sz (n + m))]⟩ a w := by
  have hv := ev_sound h hs
  rw [hes] at hv
  obtain ⟨hv0, e', sz', k', q1, q2, q3⟩ := hv
  rw [hH] at q1
  cases q1
  obtain ⟨hcl, hown⟩ := q3 rfl
  obtain ⟨p, c, us, x1, x2, x3, x4, x5⟩ := rep_sl (SRep.toD (ev_sound h hx) hex)
  obtain ⟨i, t1, t2, t3, t4⟩ := elT_spec hel
  obtain ⟨i', z, z1, z2, z3, z4⟩ := zeroT_spec (w := w) (M := Mut M0 H mu) hz
  rw [t2] at z1
  cases z1
  have hzc : z.cells.size = sz := by have := z3.length; simp at this; omega
  have husl : us.length = m * i.size := by rw [x5.length, hlen, t3]
  have hrun0 : ∀ v, a.eval s = v → (execOp a.eval o).run P w = (do pure (.value (← Builtin.append_ #[t, t] o.type #[v, .slice p m c])) : Sem Next).run P w := by
    intro v hv
    simp [execOp, ho, resolve, invoke, builtin, hv, x1]
  by_cases hm0 : m = 0
  · subst hm0
    have hnn : news = [] := List.eq_nil_of_length_eq_zero (by simpa using hlen)
    subst hnn
    obtain ⟨p0, cap0, us0, y1, y2, -, -, -⟩ := rep_sl hv0
    have hr := run_append0 (w := w) (ty := o.type) t1 t2 (p := p) (c := c) (b := p0) y2
    have hhp : app H [(r, HO.row e sz (n + 0))] = H := by
      funext q
      simp only [app, hup, Nat.add_zero]
      split
      · rename_i e5; rw [e5, hH]
      · rfl
    refine ⟨_, w, mu, .inl (by rw [hrun0 _ y1]; simp [hr]; rfl), ?_⟩
    rw [hhp]
    refine h.put hd ?_
    rw [Nat.add_zero, List.append_nil, ← y1]
    exact ⟨hv0, e, sz, n, hH, Nat.le_refl _, fun _ => ⟨hcl, hown⟩⟩
  · have hmp : 0 < m := Nat.pos_of_ne_zero hm0
    obtain ⟨pa, hpa⟩ : ∃ pa, p = some pa := by
      cases p with
      | none => have := (x3 rfl).1; omega
      | some pa => exact ⟨pa, rfl⟩
    subst hpa
    have hnews := x4 pa rfl
    have hcells : ∀ j v, us[j]? = some v → w.cell? (pa.add j) = some v := fun j v hj => (hnews.2 j v hj).1
    have hone : ∀ u ∈ us, u.oneCell' = true := fun u hu => by
      obtain ⟨j, hj⟩ := List.mem_iff_getElem?.1 hu
      exact (hnews.2 j u hj).2.2
    have hll : (cs ++ news).length = (n + m) * sz := by rw [List.length_append, hcl, hlen, Nat.add_mul]
    have hb48 : (n + m) * i.bytes ≤ 140737488355328 := by rw [t4]; exact hb
    -- a new block
    have fresh : ∀ (old : Nat) (vs : List Value), RepL (Mut M0 H mu) w vs cs → (∀ u ∈ vs, u.oneCell' = true) →
        (Builtin.append_ #[t, t] o.type #[a.eval s, .slice (some pa) m c]).run P w = .ok (.slice (some ⟨w.heap.size, 0, none⟩) (n + m) (grownCap w (n + m) old e))
          (w.drew.alloc (.cells (vs.toArray ++ us.toArray ++ Builtin.zeroCells z.cells (grownCap w (n + m) old e - (n + m))) e)) →
        Goes P N M0 w0 o f H ⟨.own r (n + m) (cs ++ news), some r, [(r, .row e sz (n + m))]⟩ a w := by
      intro old vs hvs hvs1 hr
      have hge := grownCap_ge w (n + m) old e
      have hcm : grownCap w (n + m) old e ≤ maxLen := grownCap_le_maxLen w (n + m) old e (by simp only [maxLen]; omega)
      generalize grownCap w (n + m) old e = cap at *
      generalize hcur : vs.toArray ++ us.toArray ++ Builtin.zeroCells z.cells (cap - (n + m)) = cur at *
      have hbel : Below w.heap.size w (w.drew.alloc (.cells cur e)) := ((Below.refl _ _).drew).alloc (Nat.le_refl _) _
      have h' := h.rowNew (w' := w.drew.alloc (.cells cur e)) hH (show n < n + m by omega) (g := w.heap.size) (Nat.le_refl _) (by simp) hbel
      have hst : Stay (Mut M0 H mu) w (Mut M0 (hup H r (.row e sz (n + m))) (fun t => if t = r then some w.heap.size else mu t)) (w.drew.alloc (.cells cur e)) := by
        intro ad u g1 g2
        have hlt := World.block_lt_of_cell? w ad g1
        refine ⟨(World.cell?_of_block (hbel.block _ hlt)).trans g1, fun g3 => g2 ?_⟩
        rcases g3 with g3 | ⟨q, g3⟩
        · exact .inl g3
        · by_cases hqr : q = r
          · subst hqr
            simp only [hup, if_true, Option.some.injEq] at g3
            omega
          · simp only [hup, hqr, if_false] at g3
            exact .inr ⟨q, g3⟩
      refine ⟨.slice (some ⟨w.heap.size, 0, none⟩) (n + m) cap, _, _, .inl (by rw [hrun0 _ rfl]; simp [hr]), h'.put hd ?_⟩
      refine own_srep h' (by simp [hup]) (g := w.heap.size) (cap := cap) (cur := cur) (by simp) (heap_alloc_new w.drew _) hge hcm ?_ ?_ (us := vs ++ us) ?_ ((RepL.mono hst hvs).append (RepL.mono hst x5)) ?_ hll
      · rw [← hcur]
        simp only [Array.size_append, List.size_toArray, size_zeroCells, hvs.length, hcl, husl, hzc, t3]
        rw [← Nat.add_mul, ← Nat.add_mul]
        congr 1
        omega
      · rw [← hcur]
        intro u hu
        simp only [Array.toList_append, List.mem_append] at hu
        rcases hu with (hu | hu) | hu
        · exact hvs1 u hu
        · exact hone u hu
        · exact zeroCells_one z4 _ u hu
      · rw [← hcur]
        simp only [Array.toList_append, List.append_assoc]
        rw [← List.append_assoc]
        have : (vs ++ us).length = (n + m) * sz := by rw [List.length_append, hvs.length, hcl, husl, t3, Nat.add_mul]
        rw [← this]
        exact List.take_left
      · intro u hu
        rcases List.mem_append.1 hu with hu | hu
        · exact hvs1 u hu
        · exact hone u hu
    rcases hown with ⟨o1, o2, o3⟩ | ⟨g, cap, cur, o1, o2, o3, o4, o5, o6, o7⟩
    · subst o2
      have hcs : cs = [] := List.eq_nil_of_length_eq_zero (by simpa using hcl)
      subst hcs
      refine fresh 0 [] .nil (by simp) ?_
      have hr := run_append_nil (P := P) w t o.type e i z t1 t2 z2 pa m c us husl hcells hmp (by omega) (by simp only [Nat.zero_add] at hb48; omega)
      rw [o1]
      simpa using hr
    · -- what the row holds
      have holds : ∃ vs : List Value, cur.toList.take (n * sz) = vs ∧ RepL (Mut M0 H mu) w vs cs ∧ ∀ u ∈ vs, u.oneCell' = true := by
        obtain ⟨p0, c0, vs, y1, y2, y3, y4, y5⟩ := rep_sl hv0
        rw [o1] at y1
        cases y1
        have hcl0 := y4 ⟨g, 0, none⟩ rfl
        refine ⟨vs, ?_, y5, fun u hu => ?_⟩
        · apply List.ext_getElem?
          intro j
          rw [List.getElem?_take]
          have hvl : vs.length = n * sz := by rw [y5.length, hcl]
          split
          · rename_i hj
            have := (hcl0.2 j vs[j] (List.getElem?_eq_getElem (by omega))).1
            rw [Addr.add_mid, Nat.zero_add, cell_of_row w g j cur e _ o3] at this
            rw [Array.getElem?_toList, this, List.getElem?_eq_getElem (by omega)]
          · rw [List.getElem?_eq_none (by omega)]
        · obtain ⟨j, hj⟩ := List.mem_iff_getElem?.1 hu
          exact (hcl0.2 j u hj).2.2
      obtain ⟨vs, v1, v2, v3⟩ := holds
      have hvl : vs.length = n * i.size := by rw [v2.length, hcl, t3]
      by_cases hroom : n + m ≤ cap
      · have hfit : n * i.size + us.length ≤ cur.size := by rw [husl, o6, t3, ← Nat.add_mul]; exact Nat.mul_le_mul_right _ hroom
        have hr := run_append_room (P := P) w t o.type e i t1 t2 g n cap cur o3 pa m c us husl hcells hone hroom hfit
        generalize hcur' : (cur.toList.take (n * i.size) ++ us ++ cur.toList.drop (n * i.size + us.length)).toArray = cur' at hr
        have hsz' : cur'.size = cap * sz := by rw [← hcur']; simp; rw [← o6]; omega
        have hsame : ∀ j, j < n * sz → cur'[j]? = cur[j]? := by
          intro j hj
          rw [← hcur', List.getElem?_toArray, splice_get _ _ _ _ (by simpa using hfit), if_pos (by rw [t3]; exact hj), Array.getElem?_toList]
        have h' := h.rowIn hH (show n < n + m by omega) o2 o3 hsame
        have hstay : Stay (Mut M0 H mu) w (Mut M0 (hup H r (.row e sz (n + m))) mu) (w.setRow g cur') := by
          intro ad u g1 g2
          refine ⟨?_, fun g3 => g2 ?_⟩
          · by_cases hbk : ad.block = g
            · have hoff : ¬ n * sz ≤ ad.off := fun hoff => g2 (.inr ⟨r, by rw [hH]; exact ⟨by rw [o2, hbk], hoff⟩⟩)
              obtain ⟨xb, xo, xs⟩ := ad
              simp only at hbk hoff
              subst hbk
              have e1 := setRow_heap w xb cur cur' e _ o3
              simp only [World.cell?, o3] at g1
              simp only [World.cell?, e1]
              split at g1
              · cases g1
              · rename_i hsp
                rw [hsame xo (by omega), if_neg hsp]; exact g1
            · exact (World.cell?_of_block (setRow_other w g ad.block cur' hbk)).trans g1
          · rcases g3 with g3 | ⟨q, g3⟩
            · exact .inl g3
            · refine .inr ⟨q, ?_⟩
              by_cases hqr : q = r
              · subst hqr
                simp only [hup, if_true] at g3
                rw [hH]
                exact ⟨g3.1, Nat.le_trans (Nat.mul_le_mul_right _ (by omega)) g3.2⟩
              · simpa only [hup, hqr, if_false] using g3
        refine ⟨.slice (some ⟨g, 0, none⟩) (n + m) cap, _, _, .inl (by rw [hrun0 _ o1]; simp [hr]), h'.put hd ?_⟩
        refine own_srep h' (by simp [hup]) (g := g) (cap := cap) (cur := cur') o2 (setRow_heap w g cur cur' e _ o3) hroom o5 hsz' ?_ (us := vs ++ us) ?_ ((RepL.mono hstay v2).append (RepL.mono hstay x5)) ?_ hll
        · rw [← hcur']
          intro u hu
          simp only [List.mem_append] at hu
          rcases hu with (hu | hu) | hu
          · exact o7 u (List.mem_of_mem_take hu)
          · exact hone u hu
          · exact o7 u (List.mem_of_mem_drop hu)
        · rw [← hcur', t3, v1]
          have : (vs ++ us).length = (n + m) * sz := by rw [List.length_append, hvl, husl, t3, Nat.add_mul]
          rw [← this]
          exact List.take_left
        · intro u hu
          rcases List.mem_append.1 hu with hu | hu
          · exact v3 u hu
          · exact hone u hu
      · have hold : ∀ j u, vs[j]? = some u → w.cell? ((⟨g, 0, none⟩ : Addr).add j) = some u := by
          intro j u hj
          rw [Addr.add_mid, Nat.zero_add, cell_of_row w g j cur e _ o3]
          rw [← v1, List.getElem?_take] at hj
          split at hj
          · simpa using hj
          · cases hj
        refine fresh cap vs v2 v3 ?_
        have hr := run_append_grow (P := P) w t o.type e i z t1 t2 z2 ⟨g, 0, none⟩ n cap vs hvl hold pa m c us husl hcells (by omega) (by omega) (growslice_fits (by omega) hb48)
        rw [o1]
        exact hr
/-- The first append, on a nil slice. -/
theorem goes_appN (h : StM N M0 w0 f H mu a w) {o : Oper} (hd : ∀ d, o.dst = some d → d < N ∧ w0.fix d = false) {s x : Operand} {t : TypeId} (ho : o.op = .call { callee := .builtin .append, args := #[s, x], argTypes := #[t, t] })
    (hs : opB N s = true) (hx : opB N x = true) {r m : Nat} {news zs : List D} {e sz by_ : Nat} (hdr : o.dst = some r) (hes : ev f s = .nil) (hH : H r = .none) (hex : (ev f x).toD = some (.sl m news)) (hel : elT P t = some (e, sz, by_))
    (hz : zeroT P e = some zs) (hzl : zs.length = sz) (hsz : 0 < sz) (hlen : news.length = m * sz) (hb : m * by_ ≤ 140737488355328) (hmax : m ≤ 4611686018427387904) :
    Goes P N M0 w0 o f H ⟨.own r m news, some r, [(r, .row e sz m)]⟩ a w := by
  have hv := ev_sound h hs
  rw [hes] at hv
  -- the same call out of a frame in which the slot owns the empty row
  have h' := h.new (w' := w) hH (Nat.lt_of_lt_of_le (hd r hdr).1 h.nle) (.row e sz 0) none (by simp) (Below.refl _ _) (by simp)
  have hv' : SRep M0 (hup H r (.row e sz 0)) (fun t => if t = r then none else mu t) w (a.eval s) (.own r 0 []) := by
    refine ⟨?_, e, sz, 0, by simp [hup], Nat.le_refl _, fun _ => ⟨by simp, .inl ⟨hv, rfl, by simp⟩⟩⟩
    rw [show a.eval s = .slice none 0 0 from hv]
    exact .sl none 0 0 [] [] (Nat.le_refl _) (fun _ => ⟨rfl, rfl, rfl⟩) (fun a e => by cases e) .nil
  obtain ⟨p, c, us, x1, x2, x3, x4, x5⟩ := rep_sl (SRep.toD (ev_sound h hx) hex)
  obtain ⟨i, t1, t2, t3, t4⟩ := elT_spec hel
  obtain ⟨i', z, z1, z2, z3, z4⟩ := zeroT_spec (w := w) (M := Mut M0 H mu) hz
  rw [t2] at z1
  cases z1
  have hzc : z.cells.size = sz := by have := z3.length; simp at this; omega
  have husl : us.length = m * i.size := by rw [x5.length, hlen, t3]
  have hv2 : a.eval s = .slice none 0 0 := hv
  have hrun0 : (execOp a.eval o).run P w = (do pure (.value (← Builtin.append_ #[t, t] o.type #[.slice none 0 0, .slice p m c])) : Sem Next).run P w := by
    simp [execOp, ho, resolve, invoke, builtin, hv2, x1]
  by_cases hm0 : m = 0
  · subst hm0
    have hnn : news = [] := List.eq_nil_of_length_eq_zero (by simpa using hlen)
    subst hnn
    have hr := run_append0 (w := w) (ty := o.type) t1 t2 (p := p) (c := c) (b := none) (Nat.le_refl 0)
    refine ⟨.slice none 0 0, w, _, .inl (by rw [hrun0]; simp [hr]), h'.put hd ?_⟩
    rw [← hv2]
    exact hv'
  · have hmp : 0 < m := Nat.pos_of_ne_zero hm0
    obtain ⟨pa, hpa⟩ : ∃ pa, p = some pa := by
      cases p with
      | none => have := (x3 rfl).1; omega
      | some pa => exact ⟨pa, rfl⟩
    subst hpa
    have hnews := x4 pa rfl
    have hcells : ∀ j v, us[j]? = some v → w.cell? (pa.add j) = some v := fun j v hj => (hnews.2 j v hj).1
    have hone : ∀ u ∈ us, u.oneCell' = true := fun u hu => by
      obtain ⟨j, hj⟩ := List.mem_iff_getElem?.1 hu
      exact (hnews.2 j u hj).2.2
    have hr := run_append_nil (P := P) w t o.type e i z t1 t2 z2 pa m c us husl hcells hmp (by omega) (by rw [t4]; omega)
    have hge := grownCap_ge w m 0 e
    have hcm : grownCap w m 0 e ≤ maxLen := grownCap_le_maxLen w m 0 e (by simp only [maxLen]; omega)
    generalize grownCap w m 0 e = cap at *
    generalize hcur : us.toArray ++ Builtin.zeroCells z.cells (cap - m) = cur at *
    have hbel : Below w.heap.size w (w.drew.alloc (.cells cur e)) := ((Below.refl _ _).drew).alloc (Nat.le_refl _) _
    have h2 := h.new (w' := w.drew.alloc (.cells cur e)) hH (Nat.lt_of_lt_of_le (hd r hdr).1 h.nle) (.row e sz m) (some w.heap.size) (fun x e => by cases e; exact ⟨Nat.le_refl _, by simp⟩) hbel (by simp)
    have hst := (Turn.new (w' := w.drew.alloc (.cells cur e)) h hH (.row e sz m) (some w.heap.size) (fun x e => by cases e; exact Nat.le_refl _) hbel).stay
    refine ⟨.slice (some ⟨w.heap.size, 0, none⟩) m cap, _, _, .inl (by rw [hrun0]; simp [hr]), h2.put hd ?_⟩
    refine own_srep h2 (by simp [hup]) (g := w.heap.size) (cap := cap) (cur := cur) (by simp) (heap_alloc_new w.drew _) hge hcm ?_ ?_ (us := us) ?_ (RepL.mono hst x5) hone hlen
    · rw [← hcur]
      simp only [Array.size_append, List.size_toArray, size_zeroCells, husl, hzc, t3]
      rw [← Nat.add_mul]
      congr 1
      omega
    · rw [← hcur]
      intro u hu
      simp only [Array.toList_append, List.mem_append] at hu
      rcases hu with hu | hu
      · exact hone u hu
      · exact zeroCells_one z4 _ u hu
    · rw [← hcur, Array.toList_append]
      have : us.length = m * sz := by rw [husl, t3]
      rw [← this]
      exact List.take_left
/-- append on a slice whose cells are written here and there. -/
theorem goes_vapp (h : StM N M0 w0 f H mu a w) {o : Oper} (hd : ∀ d, o.dst = some d → d < N ∧ w0.fix d = false) {s x : Operand} {t : TypeId} (ho : o.op = .call { callee := .builtin .append, args := #[s, x], argTypes := #[t, t] })
    (hs : opB N s = true) (hx : opB N x = true) {r ver n m : Nat} {cs : List SV} {news zs : List D} {e sz by_ : Nat} (hes : ev f s = .vec r ver n) (hH : H r = .vec e sz ver cs) (hex : (ev f x).toD = some (.sl m news)) (hel : elT P t = some (e, sz, by_))
    (hz : zeroT P e = some zs) (hzl : zs.length = sz) (hsz : 0 < sz) (hmp : 0 < m) (hlen : news.length = m * sz) (hb : (n + m) * by_ ≤ 140737488355328) (hmax : n + m ≤ 4611686018427387904) :
    Goes P N M0 w0 o f H ⟨.vec r (ver + 1) (n + m), some r, [(r, .vec e sz (ver + 1) (cs ++ news.map .d))]⟩ a w := by
  have hv := ev_sound h hs
  rw [hes] at hv
  obtain ⟨hv0, e1, sz1, ver1, cs1, g1, g2, g3⟩ := hv
  rw [hH] at g1
  cases g1
  obtain ⟨hcl, hown⟩ := g3 rfl
  obtain ⟨p, c, us, x1, x2, x3, x4, x5⟩ := rep_sl (SRep.toD (ev_sound h hx) hex)
  obtain ⟨i, t1, t2, t3, t4⟩ := elT_spec hel
  obtain ⟨i', z, z1, z2, z3, z4⟩ := zeroT_spec (w := w) (M := Mut M0 H mu) hz
  rw [t2] at z1
  cases z1
  have hzc : z.cells.size = sz := by have := z3.length; simp at this; omega
  have husl : us.length = m * i.size := by rw [x5.length, hlen, t3]
  obtain ⟨pa, hpa⟩ : ∃ pa, p = some pa := by
    cases p with
    | none => have := (x3 rfl).1; omega
    | some pa => exact ⟨pa, rfl⟩
  subst hpa
  have hnews := x4 pa rfl
  have hcells : ∀ j v, us[j]? = some v → w.cell? (pa.add j) = some v := fun j v hj => (hnews.2 j v hj).1
  have hone : ∀ u ∈ us, u.oneCell' = true := fun u hu => by
    obtain ⟨j, hj⟩ := List.mem_iff_getElem?.1 hu
    exact (hnews.2 j u hj).2.2
  have hll : (cs ++ news.map SV.d).length = (n + m) * sz := by rw [List.length_append, hcl, List.length_map, hlen, Nat.add_mul]
  have hb48 : (n + m) * i.bytes ≤ 140737488355328 := by rw [t4]; exact hb
  have hrun0 : ∀ v, a.eval s = v → (execOp a.eval o).run P w = (do pure (.value (← Builtin.append_ #[t, t] o.type #[v, .slice (some pa) m c])) : Sem Next).run P w := by
    intro v hv
    simp [execOp, ho, resolve, invoke, builtin, hv, x1]
  -- what the cells come to
  have cont : ∀ (vs : List Value) (tail : List Value), vs.length = n * sz → (∀ j y, cs[j]? = some y → SRep M0 H mu w (vs.getD j undef) y) → ∀ j y, (cs ++ news.map SV.d)[j]? = some y → SRep M0 H mu w ((vs ++ us ++ tail).toArray.getD j undef) y := by
    intro vs tail hvl hvs j y hj
    rcases Nat.lt_or_ge j cs.length with h1 | h1
    · rw [List.getElem?_append_left h1] at hj
      have := hvs j y hj
      have e1 : (vs ++ us ++ tail).toArray.getD j undef = vs.getD j undef := by
        simp only [Array.getD_eq_getD_getElem?, List.getElem?_toArray, List.getD_eq_getElem?_getD]
        rw [List.append_assoc, List.getElem?_append_left (by omega)]
      rw [e1]; exact this
    · rw [List.getElem?_append_right h1, List.getElem?_map] at hj
      obtain ⟨d, hd', rfl⟩ := Option.map_eq_some_iff.1 hj
      obtain ⟨u, hu, hr⟩ := x5.get hd'
      have e1 : (vs ++ us ++ tail).toArray.getD j undef = u := by
        simp only [Array.getD_eq_getD_getElem?, List.getElem?_toArray]
        rw [List.append_assoc, List.getElem?_append_right (by omega), hvl, ← hcl, List.getElem?_append_left (List.getElem?_eq_some_iff.1 hu).1, hu]
        rfl
      rw [e1]; exact hr
  have fresh : ∀ (old : Nat) (vs : List Value), vs.length = n * sz → (∀ j y, cs[j]? = some y → SRep M0 H mu w (vs.getD j undef) y) → (∀ u ∈ vs, u.oneCell' = true) →
      (Builtin.append_ #[t, t] o.type #[a.eval s, .slice (some pa) m c]).run P w = .ok (.slice (some ⟨w.heap.size, 0, none⟩) (n + m) (grownCap w (n + m) old e))
        (w.drew.alloc (.cells (vs.toArray ++ us.toArray ++ Builtin.zeroCells z.cells (grownCap w (n + m) old e - (n + m))) e)) →
      Goes P N M0 w0 o f H ⟨.vec r (ver + 1) (n + m), some r, [(r, .vec e sz (ver + 1) (cs ++ news.map .d))]⟩ a w := by
    intro old vs hvl hvs hvs1 hr
    have hge := grownCap_ge w (n + m) old e
    have hcm : grownCap w (n + m) old e ≤ maxLen := grownCap_le_maxLen w (n + m) old e (by simp only [maxLen]; omega)
    generalize grownCap w (n + m) old e = cap at *
    generalize hcur : vs.toArray ++ us.toArray ++ Builtin.zeroCells z.cells (cap - (n + m)) = cur at *
    have hcur' : cur = (vs ++ us ++ (Builtin.zeroCells z.cells (cap - (n + m))).toList).toArray := by
      rw [← hcur]; apply Array.ext'; simp
    have hcs : cur.size = cap * sz := by
      rw [← hcur]
      simp only [Array.size_append, List.size_toArray, size_zeroCells, hvl, husl, hzc, t3]
      rw [← Nat.add_mul, ← Nat.add_mul]
      congr 1
      omega
    have hbel : Below w.heap.size w (w.drew.alloc (.cells cur e)) := ((Below.refl _ _).drew).alloc (Nat.le_refl _) _
    have h' := (h.vecNew (w' := w.drew.alloc (.cells cur e)) (ver' := ver + 1) (cs' := cs ++ news.map .d) hH (Nat.lt_succ_self _) (g := w.heap.size) (Nat.le_refl _) (by simp) hbel (heap_alloc_new w.drew _) (by rw [hll, hcs]; exact Nat.mul_le_mul_right _ hge) (fun u hu => by
      rw [hcur'] at hu
      simp only [List.mem_append] at hu
      rcases hu with (hu | hu) | hu
      · exact hvs1 u hu
      · exact hone u hu
      · exact zeroCells_one z4 _ u hu) (by rw [hcur']; exact cont vs _ hvl hvs)).2
    refine ⟨.slice (some ⟨w.heap.size, 0, none⟩) (n + m) cap, _, _, .inl (by rw [hrun0 _ rfl]; simp [hr]), h'.put hd ?_⟩
    exact ⟨⟨_, _, rfl, (fun e => by cases e)⟩, e, sz, ver + 1, cs ++ news.map .d, by simp [hup], Nat.le_refl _, fun _ => ⟨hll, .inr ⟨w.heap.size, cap, cur, e, rfl, by simp, heap_alloc_new w.drew _, hge, hcm, hcs⟩⟩⟩
  rcases hown with ⟨o1, o2, o3⟩ | ⟨g, cap, cur, e', o1, o2, o3, o4, o5, o6⟩
  · subst o2
    have hcs0 : cs = [] := List.eq_nil_of_length_eq_zero (by simpa using hcl)
    subst hcs0
    refine fresh 0 [] (by simp) (fun j y hj => by simp at hj) (by simp) ?_
    have hr := run_append_nil (P := P) w t o.type e i z t1 t2 z2 pa m c us husl hcells hmp (by omega) (by simp only [Nat.zero_add] at hb48; omega)
    rw [o1]
    simpa using hr
  · obtain ⟨cur1, k1, k2, k3, k4, k5⟩ := h.vecCells hH o2
    rw [o3] at k1
    cases k1
    obtain ⟨q1, q2, q3⟩ := k5 0
    simp only [List.drop_zero] at q1 q2 q3
    have hvl : (cur.toList.take cs.length).length = n * i.size := by rw [q1, hcl, t3]
    have hgd : ∀ j y, cs[j]? = some y → SRep M0 H mu w ((cur.toList.take cs.length).getD j undef) y := fun j y hj => by
      have hlt := (List.getElem?_eq_some_iff.1 hj).1
      have e1 : (cur.toList.take cs.length).getD j undef = cur.getD j undef := by
        simp only [List.getD_eq_getElem?_getD, List.getElem?_take, hlt, if_true, Array.getElem?_toList, Array.getD_eq_getD_getElem?]
      rw [e1]; exact k4 j y hj
    have hv1 : ∀ u ∈ cur.toList.take cs.length, u.oneCell' = true := fun u hu => k3 u (List.mem_of_mem_take hu)
    by_cases hroom : n + m ≤ cap
    · have hfit : n * i.size + us.length ≤ cur.size := by rw [husl, o6, t3, ← Nat.add_mul]; exact Nat.mul_le_mul_right _ hroom
      have hr := run_append_room (P := P) w t o.type e i t1 t2 g n cap cur o3 pa m c us husl hcells hone hroom hfit
      generalize hcur' : (cur.toList.take (n * i.size) ++ us ++ cur.toList.drop (n * i.size + us.length)).toArray = cur' at hr
      have hsz' : cur'.size = cur.size := by rw [← hcur']; simp; omega
      have hnl : n * i.size = cs.length := by rw [hcl, t3]
      have h' := (h.vecIn (ver' := ver + 1) (cs' := cs ++ news.map .d) hH o2 o3 (cur' := cur') (Nat.le_succ _) (fun e => by omega) hsz' (by rw [hll, hsz', o6]; exact Nat.mul_le_mul_right _ hroom) (fun u hu => by
        rw [← hcur'] at hu
        simp only [List.mem_append] at hu
        rcases hu with (hu | hu) | hu
        · exact k3 u (List.mem_of_mem_take hu)
        · exact hone u hu
        · exact k3 u (List.mem_of_mem_drop hu)) (by
          rw [← hcur', hnl]
          exact cont _ _ (by rw [q1, hcl]) hgd)).2
      refine ⟨.slice (some ⟨g, 0, none⟩) (n + m) cap, _, _, .inl (by rw [hrun0 _ o1]; simp [hr]), h'.put hd ?_⟩
      exact ⟨⟨_, _, rfl, (fun e => by cases e)⟩, e, sz, ver + 1, cs ++ news.map .d, by simp [hup], Nat.le_refl _, fun _ => ⟨hll, .inr ⟨g, cap, cur', e, rfl, o2, setRow_heap w g cur cur' e _ o3, hroom, o5, hsz'.trans o6⟩⟩⟩
    · have hold : ∀ j u, (cur.toList.take cs.length)[j]? = some u → w.cell? ((⟨g, 0, none⟩ : Addr).add j) = some u := fun j u hj => (q2 j u hj).1
      refine fresh cap _ (by rw [hvl, t3]) hgd hv1 ?_
      have hr := run_append_grow (P := P) w t o.type e i z t1 t2 z2 ⟨g, 0, none⟩ n cap _ hvl hold pa m c us husl hcells (by omega) (by omega) (growslice_fits (by omega) hb48)
      rw [o1]
      exact hr
/-- The same, the first time, on a nil slice. -/
theorem goes_vappN (h : StM N M0 w0 f H mu a w) {o : Oper} (hd : ∀ d, o.dst = some d → d < N ∧ w0.fix d = false) {s x : Operand} {t : TypeId} (ho : o.op = .call { callee := .builtin .append, args := #[s, x], argTypes := #[t, t] })
    (hs : opB N s = true) (hx : opB N x = true) {r m : Nat} {news zs : List D} {e sz by_ : Nat} (hdr : o.dst = some r) (hes : ev f s = .nil) (hH : H r = .none) (hex : (ev f x).toD = some (.sl m news)) (hel : elT P t = some (e, sz, by_))
    (hz : zeroT P e = some zs) (hzl : zs.length = sz) (hsz : 0 < sz) (hmp : 0 < m) (hlen : news.length = m * sz) (hb : m * by_ ≤ 140737488355328) (hmax : m ≤ 4611686018427387904) :
    Goes P N M0 w0 o f H ⟨.vec r 0 m, some r, [(r, .vec e sz 0 (news.map .d))]⟩ a w := by
  have hv : a.eval s = .slice none 0 0 := by
    have := ev_sound h hs
    rw [hes] at this
    exact this
  obtain ⟨p, c, us, x1, x2, x3, x4, x5⟩ := rep_sl (SRep.toD (ev_sound h hx) hex)
  obtain ⟨i, t1, t2, t3, t4⟩ := elT_spec hel
  obtain ⟨i', z, z1, z2, z3, z4⟩ := zeroT_spec (w := w) (M := Mut M0 H mu) hz
  rw [t2] at z1
  cases z1
  have hzc : z.cells.size = sz := by have := z3.length; simp at this; omega
  have husl : us.length = m * i.size := by rw [x5.length, hlen, t3]
  obtain ⟨pa, hpa⟩ : ∃ pa, p = some pa := by
    cases p with
    | none => have := (x3 rfl).1; omega
    | some pa => exact ⟨pa, rfl⟩
  subst hpa
  have hnews := x4 pa rfl
  have hcells : ∀ j v, us[j]? = some v → w.cell? (pa.add j) = some v := fun j v hj => (hnews.2 j v hj).1
  have hone : ∀ u ∈ us, u.oneCell' = true := fun u hu => by
    obtain ⟨j, hj⟩ := List.mem_iff_getElem?.1 hu
    exact (hnews.2 j u hj).2.2
  have hrun0 : (execOp a.eval o).run P w = (do pure (.value (← Builtin.append_ #[t, t] o.type #[.slice none 0 0, .slice (some pa) m c])) : Sem Next).run P w := by
    simp [execOp, ho, resolve, invoke, builtin, hv, x1]
  have hr := run_append_nil (P := P) w t o.type e i z t1 t2 z2 pa m c us husl hcells hmp (by omega) (by rw [t4]; omega)
  have hge := grownCap_ge w m 0 e
  have hcm : grownCap w m 0 e ≤ maxLen := grownCap_le_maxLen w m 0 e (by simp only [maxLen]; omega)
  generalize grownCap w m 0 e = cap at *
  generalize hcur : us.toArray ++ Builtin.zeroCells z.cells (cap - m) = cur at *
  have hcs : cur.size = cap * sz := by
    rw [← hcur]
    simp only [Array.size_append, List.size_toArray, size_zeroCells, husl, hzc, t3]
    rw [← Nat.add_mul]
    congr 1
    omega
  have hbel : Below w.heap.size w (w.drew.alloc (.cells cur e)) := ((Below.refl _ _).drew).alloc (Nat.le_refl _) _
  have hst := (Turn.new (w' := w.drew.alloc (.cells cur e)) h hH (.vec e sz 0 (news.map .d)) (some w.heap.size) (fun x e => by cases e; exact Nat.le_refl _) hbel)
  have h2 := h.new (w' := w.drew.alloc (.cells cur e)) hH (Nat.lt_of_lt_of_le (hd r hdr).1 h.nle) (.vec e sz 0 (news.map .d)) (some w.heap.size) (fun x e => by cases e; exact ⟨Nat.le_refl _, by simp⟩) hbel (by simp) (fun e2 sz2 ver2 cs2 he => by
    cases he
    refine .inr ⟨w.heap.size, cur, rfl, heap_alloc_new w.drew _, by rw [List.length_map, hlen, hcs]; exact Nat.mul_le_mul_right _ hge, fun u hu => ?_, fun j y hj => ?_⟩
    · rw [← hcur] at hu
      simp only [Array.toList_append, List.mem_append] at hu
      rcases hu with hu | hu
      · exact hone u hu
      · exact zeroCells_one z4 _ u hu
    · rw [List.getElem?_map] at hj
      obtain ⟨d, hd', rfl⟩ := Option.map_eq_some_iff.1 hj
      obtain ⟨u, hu, hr⟩ := x5.get hd'
      have e1 : cur.getD j undef = u := by
        rw [← hcur]
        simp only [Array.getD_eq_getD_getElem?]
        rw [Array.getElem?_append_left (by simpa using (List.getElem?_eq_some_iff.1 hu).1)]
        simp [hu]
      rw [e1]
      exact SRep.turn hst (x := .d d) hr)
  refine ⟨.slice (some ⟨w.heap.size, 0, none⟩) m cap, _, _, .inl (by rw [hrun0]; simp [hr]), h2.put hd ?_⟩
  exact ⟨⟨_, _, rfl, (fun e => by cases e)⟩, e, sz, 0, news.map .d, by simp [hup], Nat.le_refl _, fun _ => ⟨by rw [List.length_map, hlen], .inr ⟨w.heap.size, cap, cur, e, rfl, by simp, heap_alloc_new w.drew _, hge, hcm, hcs⟩⟩⟩
end
end Go.Proofs.YtefiebkngpcaoaaDoor
