/- append on a slice of the call's own, under the pure logic. Conditions: the lengths are within the model's bounds. -/
import Derived.Test.YtefiebkngpcaoaaDoorPE5
set_option maxRecDepth 100000
set_option linter.unusedVariables false
set_option linter.unusedSimpArgs false
set_option linter.unusedSectionVars false
namespace Go.Proofs.YtefiebkngpcaoaaDoor
open Go.RowKit
section
variable {P : Program} {N : Nat} {M0 : MM} {w0 : Ctx} {w w' : World} {f f' : Frm} {H : Hp} {mu : Nat → Option Nat} {a : Act}

/-- What an owned slice's slot needs. -/
theorem own_srep (h : StM N M0 w0 f H mu a w) {r k : Nat} {e : TypeId} {sz : Nat} (hr : H r = .row e sz k) {g cap : Nat} {cur : Array Value} (hm : mu r = some g) (hg : w.heap[g]? = some (.cells cur e (0, 0)))
    (hk : k ≤ cap) (hc : cap ≤ maxLen) (hs : cur.size = cap * sz) (h7 : ∀ u ∈ cur.toList, u.oneCell' = true) {us : List Value} {cs : List D} (hu : cur.toList.take (k * sz) = us) (hrep : RepL (Mut M0 H mu) w us cs) (h1 : ∀ u ∈ us, u.oneCell' = true) (hl : cs.length = k * sz) :
    SRep M0 H mu w (.slice (some ⟨g, 0, none⟩) k cap) (.own r k cs) := by
  refine ⟨.sl _ _ _ us _ hk (fun e => by cases e) (fun ad ha => ?_) hrep, e, sz, k, hr, Nat.le_refl _, fun _ => ⟨hl, .inr ⟨g, cap, cur, rfl, hm, hg, hk, hc, hs, h7⟩⟩⟩
  cases ha
  refine ⟨fun _ => rfl, fun j u hj => ?_⟩
  have hj' : j < k * sz := by
    have := (List.getElem?_eq_some_iff.1 hj).1
    rw [hrep.length, hl] at this
    exact this
  rw [Addr.add_mid, Nat.zero_add]
  refine ⟨?_, ?_, h1 u (List.mem_of_getElem? hj)⟩
  · rw [cell_of_row w g j cur e _ hg, ← hj, ← hu, List.getElem?_take, if_pos hj', Array.getElem?_toList]
  · rintro (hm0 | ⟨s, hs'⟩)
    · exact h.sep r g (by rw [hr]; simp) hm _ rfl hm0
    · cases hh : H s with
      | none => rw [hh] at hs'; exact hs'
      | box ds =>
        rw [hh] at hs'
        have : s = r := h.inj s r g (by rw [hh]; simp) (by rw [hr]; simp) hs' hm
        subst this
        rw [hr] at hh
        cases hh
      | vec e2 sz2 v2 c2 =>
        rw [hh] at hs'
        have : s = r := h.inj s r g (by rw [hh]; simp) (by rw [hr]; simp) hs' hm
        subst this
        rw [hr] at hh
        cases hh
      | row e2 sz2 k2 =>
        rw [hh] at hs'
        have : s = r := h.inj s r g (by rw [hh]; simp) (by rw [hr]; simp) hs'.1 hm
        subst this
        rw [hr] at hh
        cases hh
        have := hs'.2
        simp at this
        omega
theorem zeroCells_one {z : Array Value} (hz : ∀ u ∈ z.toList, u.oneCell' = true) (n : Nat) : ∀ u ∈ (Builtin.zeroCells z n).toList, u.oneCell' = true := by
  intro u hu
  simp only [Builtin.zeroCells, Array.toList_map, List.mem_map, Array.toList_range, List.mem_range] at hu
  obtain ⟨j, hj, rfl⟩ := hu
  have hp : 0 < z.size := by
    rcases Nat.eq_zero_or_pos z.size with h0 | h0
    · rw [h0] at hj; simp at hj
    · exact h0
  have hlt : j % z.size < z.size := Nat.mod_lt _ hp
  rw [getElem!_pos z _ hlt]
  exact hz _ (by simp)
theorem run_append0 {t ty e : TypeId} {i : TypeInfo} (ht : P.underlying t = some (.slice e)) (hi : P.info? e = some i) {b : Option Addr} {n cap : Nat} (hn : n ≤ cap) {p : Option Addr} {c : Nat} :
    (Builtin.append_ #[t, t] ty #[.slice b n cap, .slice p 0 c]).run P w = .ok (.slice b n cap) w := by
  cases b <;> cases p <;> simp [Builtin.append_, run_underlying ht, sizeOf, typeInfo, hi, Builtin.lenOf, hn, Builtin.firstCells, loadCells, loadCellsFrom, storeCells]

/-- The one step of append on an owned slice. -/
theorem goes_app (h : StM N M0 w0 f H mu a w) {o : Oper} (hd : ∀ d, o.dst = some d → d < N ∧ w0.fix d = false) {s x : Operand} {t : TypeId} (ho : o.op = .call { callee := .builtin .append, args := #[s, x], argTypes := #[t, t] })
    (hs : opB N s = true) (hx : opB N x = true) {r n m : Nat} {cs news zs : List D} {e sz by_ : Nat} (hes : ev f s = .own r n cs) (hH : H r = .row e sz n) (hex : (ev f x).toD = some (.sl m news)) (hel : elT P t = some (e, sz, by_))
    (hz : zeroT P e = some zs) (hzl : zs.length = sz) (hsz : 0 < sz) (hlen : news.length = m * sz) (hb : (n + m) * by_ ≤ 140737488355328) (hmax : n + m ≤ 4611686018427387904) :
    Goes P N M0 w0 o f H ⟨.own r (n + m) (cs ++ news), some r, [(r, .row e sz (n + m))]⟩ a w := by
  have hv := ev_sound h hs
  rw [hes] at hv
  obtain ⟨hv0, e', sz', k', q1, q2, q3⟩ := hv
  rw [hH] at q1
  cases q1
  obtain ⟨hcl, hown⟩ := q3 rfl
  obtain ⟨p, c, us, x1, x2, x3, x4, x5⟩ := rep_sl (SRep.toD (ev_sound h hx) hex)
  obtain ⟨i, t1, t2, t3, t4⟩ := elT_spec hel
  obtain ⟨i', z, z1, z2, z3, z4⟩ := zeroT_spec (w := w) (M := Mut M0 H mu) hz
  rw [t2] at z1
  cases z1
  have hzc : z.cells.size = sz := by have := z3.length; simp at this; omega
  have husl : us.length = m * i.size := by rw [x5.length, hlen, t3]
  have hrun0 : ∀ v, a.eval s = v → (execOp a.eval o).run P w = (do pure (.value (← Builtin.append_ #[t, t] o.type #[v, .slice p m c])) : Sem Next).run P w := by
    intro v hv
    simp [execOp, ho, resolve, invoke, builtin, hv, x1]
  by_cases hm0 : m = 0
  · subst hm0
    have hnn : news = [] := List.eq_nil_of_length_eq_zero (by simpa using hlen)
    subst hnn
    obtain ⟨p0, cap0, us0, y1, y2, -, -, -⟩ := rep_sl hv0
    have hr := run_append0 (w := w) (ty := o.type) t1 t2 (p := p) (c := c) (b := p0) y2
    have hhp : app H [(r, HO.row e sz (n + 0))] = H := by
      funext q
      simp only [app, hup, Nat.add_zero]
      split
      · rename_i e5; rw [e5, hH]
      · rfl
    refine ⟨_, w, mu, .inl (by rw [hrun0 _ y1]; simp [hr]; rfl), ?_⟩
    rw [hhp]
    refine h.put hd ?_
    rw [Nat.add_zero, List.append_nil, ← y1]
    exact ⟨hv0, e, sz, n, hH, Nat.le_refl _, fun _ => ⟨hcl, hown⟩⟩
  · have hmp : 0 < m := Nat.pos_of_ne_zero hm0
    obtain ⟨pa, hpa⟩ : ∃ pa, p = some pa := by
      cases p with
      | none => have := (x3 rfl).1; omega
      | some pa => exact ⟨pa, rfl⟩
    subst hpa
    have hnews := x4 pa rfl
    have hcells : ∀ j v, us[j]? = some v → w.cell? (pa.add j) = some v := fun j v hj => (hnews.2 j v hj).1
    have hone : ∀ u ∈ us, u.oneCell' = true := fun u hu => by
      obtain ⟨j, hj⟩ := List.mem_iff_getElem?.1 hu
      exact (hnews.2 j u hj).2.2
    have hll : (cs ++ news).length = (n + m) * sz := by rw [List.length_append, hcl, hlen, Nat.add_mul]
    have hb48 : (n + m) * i.bytes ≤ 140737488355328 := by rw [t4]; exact hb
    -- a new block
    have fresh : ∀ (old : Nat) (vs : List Value), RepL (Mut M0 H mu) w vs cs → (∀ u ∈ vs, u.oneCell' = true) →
        (Builtin.append_ #[t, t] o.type #[a.eval s, .slice (some pa) m c]).run P w = .ok (.slice (some ⟨w.heap.size, 0, none⟩) (n + m) (grownCap w (n + m) old e))
          (w.drew.alloc (.cells (vs.toArray ++ us.toArray ++ Builtin.zeroCells z.cells (grownCap w (n + m) old e - (n + m))) e)) →
        Goes P N M0 w0 o f H ⟨.own r (n + m) (cs ++ news), some r, [(r, .row e sz (n + m))]⟩ a w := by
      intro old vs hvs hvs1 hr
      have hge := grownCap_ge w (n + m) old e
      have hcm : grownCap w (n + m) old e ≤ maxLen := grownCap_le_maxLen w (n + m) old e (by simp only [maxLen]; omega)
      generalize grownCap w (n + m) old e = cap at *
      generalize hcur : vs.toArray ++ us.toArray ++ Builtin.zeroCells z.cells (cap - (n + m)) = cur at *
      have hbel : Below w.heap.size w (w.drew.alloc (.cells cur e)) := ((Below.refl _ _).drew).alloc (Nat.le_refl _) _
      have h' := h.rowNew (w' := w.drew.alloc (.cells cur e)) hH (show n < n + m by omega) (g := w.heap.size) (Nat.le_refl _) (by simp) hbel
      have hst : Stay (Mut M0 H mu) w (Mut M0 (hup H r (.row e sz (n + m))) (fun t => if t = r then some w.heap.size else mu t)) (w.drew.alloc (.cells cur e)) := by
        intro ad u g1 g2
        have hlt := World.block_lt_of_cell? w ad g1
        refine ⟨(World.cell?_of_block (hbel.block _ hlt)).trans g1, fun g3 => g2 ?_⟩
        rcases g3 with g3 | ⟨q, g3⟩
        · exact .inl g3
        · by_cases hqr : q = r
          · subst hqr
            simp only [hup, if_true, Option.some.injEq] at g3
            omega
          · simp only [hup, hqr, if_false] at g3
            exact .inr ⟨q, g3⟩
      refine ⟨.slice (some ⟨w.heap.size, 0, none⟩) (n + m) cap, _, _, .inl (by rw [hrun0 _ rfl]; simp [hr]), h'.put hd ?_⟩
      refine own_srep h' (by simp [hup]) (g := w.heap.size) (cap := cap) (cur := cur) (by simp) (heap_alloc_new w.drew _) hge hcm ?_ ?_ (us := vs ++ us) ?_ ((RepL.mono hst hvs).append (RepL.mono hst x5)) ?_ hll
      · rw [← hcur]
        simp only [Array.size_append, List.size_toArray, size_zeroCells, hvs.length, hcl, husl, hzc, t3]
        rw [← Nat.add_mul, ← Nat.add_mul]
        congr 1
        omega
      · rw [← hcur]
        intro u hu
        simp only [Array.toList_append, List.mem_append] at hu
        rcases hu with (hu | hu) | hu
        · exact hvs1 u hu
        · exact hone u hu
        · exact zeroCells_one z4 _ u hu
      · rw [← hcur]
        simp only [Array.toList_append, List.append_assoc]
        rw [← List.append_assoc]
        have : (vs ++ us).length = (n + m) * sz := by rw [List.length_append, hvs.length, hcl, husl, t3, Nat.add_mul]
        rw [← this]
        exact List.take_left
      · intro u hu
        rcases List.mem_append.1 hu with hu | hu
        · exact hvs1 u hu
        · exact hone u hu
    rcases hown with ⟨o1, o2, o3⟩ | ⟨g, cap, cur, o1, o2, o3, o4, o5, o6, o7⟩
    · subst o2
      have hcs : cs = [] := List.eq_nil_of_length_eq_zero (by simpa using hcl)
      subst hcs
      refine fresh 0 [] .nil (by simp) ?_
      have hr := run_append_nil (P := P) w t o.type e i z t1 t2 z2 pa m c us husl hcells hmp (by omega) (by simp only [Nat.zero_add] at hb48; omega)
      rw [o1]
      simpa using hr
    · -- what the row holds
      have holds : ∃ vs : List Value, cur.toList.take (n * sz) = vs ∧ RepL (Mut M0 H mu) w vs cs ∧ ∀ u ∈ vs, u.oneCell' = true := by
        obtain ⟨p0, c0, vs, y1, y2, y3, y4, y5⟩ := rep_sl hv0
        rw [o1] at y1
        cases y1
        have hcl0 := y4 ⟨g, 0, none⟩ rfl
        refine ⟨vs, ?_, y5, fun u hu => ?_⟩
        · apply List.ext_getElem?
          intro j
          rw [List.getElem?_take]
          have hvl : vs.length = n * sz := by rw [y5.length, hcl]
          split
          · rename_i hj
            have := (hcl0.2 j vs[j] (List.getElem?_eq_getElem (by omega))).1
            rw [Addr.add_mid, Nat.zero_add, cell_of_row w g j cur e _ o3] at this
            rw [Array.getElem?_toList, this, List.getElem?_eq_getElem (by omega)]
          · rw [List.getElem?_eq_none (by omega)]
        · obtain ⟨j, hj⟩ := List.mem_iff_getElem?.1 hu
          exact (hcl0.2 j u hj).2.2
      obtain ⟨vs, v1, v2, v3⟩ := holds
      have hvl : vs.length = n * i.size := by rw [v2.length, hcl, t3]
      by_cases hroom : n + m ≤ cap
      · have hfit : n * i.size + us.length ≤ cur.size := by rw [husl, o6, t3, ← Nat.add_mul]; exact Nat.mul_le_mul_right _ hroom
        have hr := run_append_room (P := P) w t o.type e i t1 t2 g n cap cur o3 pa m c us husl hcells hone hroom hfit
        generalize hcur' : (cur.toList.take (n * i.size) ++ us ++ cur.toList.drop (n * i.size + us.length)).toArray = cur' at hr
        have hsz' : cur'.size = cap * sz := by rw [← hcur']; simp; rw [← o6]; omega
        have hsame : ∀ j, j < n * sz → cur'[j]? = cur[j]? := by
          intro j hj
          rw [← hcur', List.getElem?_toArray, splice_get _ _ _ _ (by simpa using hfit), if_pos (by rw [t3]; exact hj), Array.getElem?_toList]
        have h' := h.rowIn hH (show n < n + m by omega) o2 o3 hsame
        have hstay : Stay (Mut M0 H mu) w (Mut M0 (hup H r (.row e sz (n + m))) mu) (w.setRow g cur') := by
          intro ad u g1 g2
          refine ⟨?_, fun g3 => g2 ?_⟩
          · by_cases hbk : ad.block = g
            · have hoff : ¬ n * sz ≤ ad.off := fun hoff => g2 (.inr ⟨r, by rw [hH]; exact ⟨by rw [o2, hbk], hoff⟩⟩)
              obtain ⟨xb, xo, xs⟩ := ad
              simp only at hbk hoff
              subst hbk
              have e1 := setRow_heap w xb cur cur' e _ o3
              simp only [World.cell?, o3] at g1
              simp only [World.cell?, e1]
              split at g1
              · cases g1
              · rename_i hsp
                rw [hsame xo (by omega), if_neg hsp]; exact g1
            · exact (World.cell?_of_block (setRow_other w g ad.block cur' hbk)).trans g1
          · rcases g3 with g3 | ⟨q, g3⟩
            · exact .inl g3
            · refine .inr ⟨q, ?_⟩
              by_cases hqr : q = r
              · subst hqr
                simp only [hup, if_true] at g3
                rw [hH]
                exact ⟨g3.1, Nat.le_trans (Nat.mul_le_mul_right _ (by omega)) g3.2⟩
              · simpa only [hup, hqr, if_false] using g3
        refine ⟨.slice (some ⟨g, 0, none⟩) (n + m) cap, _, _, .inl (by rw [hrun0 _ o1]; simp [hr]), h'.put hd ?_⟩
        refine own_srep h' (by simp [hup]) (g := g) (cap := cap) (cur := cur') o2 (setRow_heap w g cur cur' e _ o3) hroom o5 hsz' ?_ (us := vs ++ us) ?_ ((RepL.mono hstay v2).append (RepL.mono hstay x5)) ?_ hll
        · rw [← hcur']
          intro u hu
          simp only [List.mem_append] at hu
          rcases hu with (hu | hu) | hu
          · exact o7 u (List.mem_of_mem_take hu)
          · exact hone u hu
          · exact o7 u (List.mem_of_mem_drop hu)
        · rw [← hcur', t3, v1]
          have : (vs ++ us).length = (n + m) * sz := by rw [List.length_append, hvl, husl, t3, Nat.add_mul]
          rw [← this]
          exact List.take_left
        · intro u hu
          rcases List.mem_append.1 hu with hu | hu
          · exact v3 u hu
          · exact hone u hu
      · have hold : ∀ j u, vs[j]? = some u → w.cell? ((⟨g, 0, none⟩ : Addr).add j) = some u := by
          intro j u hj
          rw [Addr.add_mid, Nat.zero_add, cell_of_row w g j cur e _ o3]
          rw [← v1, List.getElem?_take] at hj
          split at hj
          · simpa using hj
          · cases hj
        refine fresh cap vs v2 v3 ?_
        have hr := run_append_grow (P := P) w t o.type e i z t1 t2 z2 ⟨g, 0, none⟩ n cap vs hvl hold pa m c us husl hcells (by omega) (by omega) (growslice_fits (by omega) hb48)
        rw [o1]
        exact hr
/-- The first append, on a nil slice. -/
theorem goes_appN (h : StM N M0 w0 f H mu a w) {o : Oper} (hd : ∀ d, o.dst = some d → d < N ∧ w0.fix d = false) {s x : Operand} {t : TypeId} (ho : o.op = .call { callee := .builtin .append, args := #[s, x], argTypes := #[t, t] })
    (hs : opB N s = true) (hx : opB N x = true) {r m : Nat} {news zs : List D} {e sz by_ : Nat} (hdr : o.dst = some r) (hes : ev f s = .nil) (hH : H r = .none) (hex : (ev f x).toD = some (.sl m news)) (hel : elT P t = some (e, sz, by_))
    (hz : zeroT P e = some zs) (hzl : zs.length = sz) (hsz : 0 < sz) (hlen : news.length = m * sz) (hb : m * by_ ≤ 140737488355328) (hmax : m ≤ 4611686018427387904) :
    Goes P N M0 w0 o f H ⟨.own r m news, some r, [(r, .row e sz m)]⟩ a w := by
  have hv := ev_sound h hs
  rw [hes] at hv
  -- the same call out of a frame in which the slot owns the empty row
  have h' := h.new (w' := w) hH (Nat.lt_of_lt_of_le (hd r hdr).1 h.nle) (.row e sz 0) none (by simp) (Below.refl _ _) (by simp)
  have hv' : SRep M0 (hup H r (.row e sz 0)) (fun t => if t = r then none else mu t) w (a.eval s) (.own r 0 []) := by
    refine ⟨?_, e, sz, 0, by simp [hup], Nat.le_refl _, fun _ => ⟨by simp, .inl ⟨hv, rfl, by simp⟩⟩⟩
    rw [show a.eval s = .slice none 0 0 from hv]
    exact .sl none 0 0 [] [] (Nat.le_refl _) (fun _ => ⟨rfl, rfl, rfl⟩) (fun a e => by cases e) .nil
  obtain ⟨p, c, us, x1, x2, x3, x4, x5⟩ := rep_sl (SRep.toD (ev_sound h hx) hex)
  obtain ⟨i, t1, t2, t3, t4⟩ := elT_spec hel
  obtain ⟨i', z, z1, z2, z3, z4⟩ := zeroT_spec (w := w) (M := Mut M0 H mu) hz
  rw [t2] at z1
  cases z1
  have hzc : z.cells.size = sz := by have := z3.length; simp at this; omega
  have husl : us.length = m * i.size := by rw [x5.length, hlen, t3]
  have hv2 : a.eval s = .slice none 0 0 := hv
  have hrun0 : (execOp a.eval o).run P w = (do pure (.value (← Builtin.append_ #[t, t] o.type #[.slice none 0 0, .slice p m c])) : Sem Next).run P w := by
    simp [execOp, ho, resolve, invoke, builtin, hv2, x1]
  by_cases hm0 : m = 0
  · subst hm0
    have hnn : news = [] := List.eq_nil_of_length_eq_zero (by simpa using hlen)
    subst hnn
    have hr := run_append0 (w := w) (ty := o.type) t1 t2 (p := p) (c := c) (b := none) (Nat.le_refl 0)
    refine ⟨.slice none 0 0, w, _, .inl (by rw [hrun0]; simp [hr]), h'.put hd ?_⟩
    rw [← hv2]
    exact hv'
  · have hmp : 0 < m := Nat.pos_of_ne_zero hm0
    obtain ⟨pa, hpa⟩ : ∃ pa, p = some pa := by
      cases p with
      | none => have := (x3 rfl).1; omega
      | some pa => exact ⟨pa, rfl⟩
    subst hpa
    have hnews := x4 pa rfl
    have hcells : ∀ j v, us[j]? = some v → w.cell? (pa.add j) = some v := fun j v hj => (hnews.2 j v hj).1
    have hone : ∀ u ∈ us, u.oneCell' = true := fun u hu => by
      obtain ⟨j, hj⟩ := List.mem_iff_getElem?.1 hu
      exact (hnews.2 j u hj).2.2
    have hr := run_append_nil (P := P) w t o.type e i z t1 t2 z2 pa m c us husl hcells hmp (by omega) (by rw [t4]; omega)
    have hge := grownCap_ge w m 0 e
    have hcm : grownCap w m 0 e ≤ maxLen := grownCap_le_maxLen w m 0 e (by simp only [maxLen]; omega)
    generalize grownCap w m 0 e = cap at *
    generalize hcur : us.toArray ++ Builtin.zeroCells z.cells (cap - m) = cur at *
    have hbel : Below w.heap.size w (w.drew.alloc (.cells cur e)) := ((Below.refl _ _).drew).alloc (Nat.le_refl _) _
    have h2 := h.new (w' := w.drew.alloc (.cells cur e)) hH (Nat.lt_of_lt_of_le (hd r hdr).1 h.nle) (.row e sz m) (some w.heap.size) (fun x e => by cases e; exact ⟨Nat.le_refl _, by simp⟩) hbel (by simp)
    have hst := (Turn.new (w' := w.drew.alloc (.cells cur e)) h hH (.row e sz m) (some w.heap.size) (fun x e => by cases e; exact Nat.le_refl _) hbel).stay
    refine ⟨.slice (some ⟨w.heap.size, 0, none⟩) m cap, _, _, .inl (by rw [hrun0]; simp [hr]), h2.put hd ?_⟩
    refine own_srep h2 (by simp [hup]) (g := w.heap.size) (cap := cap) (cur := cur) (by simp) (heap_alloc_new w.drew _) hge hcm ?_ ?_ (us := us) ?_ (RepL.mono hst x5) hone hlen
    · rw [← hcur]
      simp only [Array.size_append, List.size_toArray, size_zeroCells, husl, hzc, t3]
      rw [← Nat.add_mul]
      congr 1
      omega
    · rw [← hcur]
      intro u hu
      simp only [Array.toList_append, List.mem_append] at hu
      rcases hu with hu | hu
      · exact hone u hu
      · exact zeroCells_one z4 _ u hu
    · rw [← hcur, Array.toList_append]
      have : us.length = m * sz := by rw [husl, t3]
      rw [← this]
      exact List.take_left
/-- append on a slice whose cells are written here and there. -/
theorem goes_vapp (h : StM N M0 w0 f H mu a w) {o : Oper} (hd : ∀ d, o.dst = some d → d < N ∧ w0.fix d = false) {s x : Operand} {t : TypeId} (ho : o.op = .call { callee := .builtin .append, args := #[s, x], argTypes := #[t, t] })
    (hs : opB N s = true) (hx : opB N x = true) {r ver n m : Nat} {cs : List SV} {news zs : List D} {e sz by_ : Nat} (hes : ev f s = .vec r ver n) (hH : H r = .vec e sz ver cs) (hex : (ev f x).toD = some (.sl m news)) (hel : elT P t = some (e, sz, by_))
    (hz : zeroT P e = some zs) (hzl : zs.length = sz) (hsz : 0 < sz) (hmp : 0 < m) (hlen : news.length = m * sz) (hb : (n + m) * by_ ≤ 140737488355328) (hmax : n + m ≤ 4611686018427387904) :
    Goes P N M0 w0 o f H ⟨.vec r (ver + 1) (n + m), some r, [(r, .vec e sz (ver + 1) (cs ++ news.map .d))]⟩ a w := by
  have hv := ev_sound h hs
  rw [hes] at hv
  obtain ⟨hv0, e1, sz1, ver1, cs1, g1, g2, g3⟩ := hv
  rw [hH] at g1
  cases g1
  obtain ⟨hcl, hown⟩ := g3 rfl
  obtain ⟨p, c, us, x1, x2, x3, x4, x5⟩ := rep_sl (SRep.toD (ev_sound h hx) hex)
  obtain ⟨i, t1, t2, t3, t4⟩ := elT_spec hel
  obtain ⟨i', z, z1, z2, z3, z4⟩ := zeroT_spec (w := w) (M := Mut M0 H mu) hz
  rw [t2] at z1
  cases z1
  have hzc : z.cells.size = sz := by have := z3.length; simp at this; omega
  have husl : us.length = m * i.size := by rw [x5.length, hlen, t3]
  obtain ⟨pa, hpa⟩ : ∃ pa, p = some pa := by
    cases p with
    | none => have := (x3 rfl).1; omega
    | some pa => exact ⟨pa, rfl⟩
  subst hpa
  have hnews := x4 pa rfl
  have hcells : ∀ j v, us[j]? = some v → w.cell? (pa.add j) = some v := fun j v hj => (hnews.2 j v hj).1
  have hone : ∀ u ∈ us, u.oneCell' = true := fun u hu => by
    obtain ⟨j, hj⟩ := List.mem_iff_getElem?.1 hu
    exact (hnews.2 j u hj).2.2
  have hll : (cs ++ news.map SV.d).length = (n + m) * sz := by rw [List.length_append, hcl, List.length_map, hlen, Nat.add_mul]
  have hb48 : (n + m) * i.bytes ≤ 140737488355328 := by rw [t4]; exact hb
  have hrun0 : ∀ v, a.eval s = v → (execOp a.eval o).run P w = (do pure (.value (← Builtin.append_ #[t, t] o.type #[v, .slice (some pa) m c])) : Sem Next).run P w := by
    intro v hv
    simp [execOp, ho, resolve, invoke, builtin, hv, x1]
  -- what the cells come to
  have cont : ∀ (vs : List Value) (tail : List Value), vs.length = n * sz → (∀ j y, cs[j]? = some y → SRep M0 H mu w (vs.getD j undef) y) → ∀ j y, (cs ++ news.map SV.d)[j]? = some y → SRep M0 H mu w ((vs ++ us ++ tail).toArray.getD j undef) y := by
    intro vs tail hvl hvs j y hj
    rcases Nat.lt_or_ge j cs.length with h1 | h1
    · rw [List.getElem?_append_left h1] at hj
      have := hvs j y hj
      have e1 : (vs ++ us ++ tail).toArray.getD j undef = vs.getD j undef := by
        simp only [Array.getD_eq_getD_getElem?, List.getElem?_toArray, List.getD_eq_getElem?_getD]
        rw [List.append_assoc, List.getElem?_append_left (by omega)]
      rw [e1]; exact this
    · rw [List.getElem?_append_right h1, List.getElem?_map] at hj
      obtain ⟨d, hd', rfl⟩ := Option.map_eq_some_iff.1 hj
      obtain ⟨u, hu, hr⟩ := x5.get hd'
      have e1 : (vs ++ us ++ tail).toArray.getD j undef = u := by
        simp only [Array.getD_eq_getD_getElem?, List.getElem?_toArray]
        rw [List.append_assoc, List.getElem?_append_right (by omega), hvl, ← hcl, List.getElem?_append_left (List.getElem?_eq_some_iff.1 hu).1, hu]
        rfl
      rw [e1]; exact hr
  have fresh : ∀ (old : Nat) (vs : List Value), vs.length = n * sz → (∀ j y, cs[j]? = some y → SRep M0 H mu w (vs.getD j undef) y) → (∀ u ∈ vs, u.oneCell' = true) →
      (Builtin.append_ #[t, t] o.type #[a.eval s, .slice (some pa) m c]).run P w = .ok (.slice (some ⟨w.heap.size, 0, none⟩) (n + m) (grownCap w (n + m) old e))
        (w.drew.alloc (.cells (vs.toArray ++ us.toArray ++ Builtin.zeroCells z.cells (grownCap w (n + m) old e - (n + m))) e)) →
      Goes P N M0 w0 o f H ⟨.vec r (ver + 1) (n + m), some r, [(r, .vec e sz (ver + 1) (cs ++ news.map .d))]⟩ a w := by
    intro old vs hvl hvs hvs1 hr
    have hge := grownCap_ge w (n + m) old e
    have hcm : grownCap w (n + m) old e ≤ maxLen := grownCap_le_maxLen w (n + m) old e (by simp only [maxLen]; omega)
    generalize grownCap w (n + m) old e = cap at *
    generalize hcur : vs.toArray ++ us.toArray ++ Builtin.zeroCells z.cells (cap - (n + m)) = cur at *
    have hcur' : cur = (vs ++ us ++ (Builtin.zeroCells z.cells (cap - (n + m))).toList).toArray := by
      rw [← hcur]; apply Array.ext'; simp
    have hcs : cur.size = cap * sz := by
      rw [← hcur]
      simp only [Array.size_append, List.size_toArray, size_zeroCells, hvl, husl, hzc, t3]
      rw [← Nat.add_mul, ← Nat.add_mul]
      congr 1
      omega
    have hbel : Below w.heap.size w (w.drew.alloc (.cells cur e)) := ((Below.refl _ _).drew).alloc (Nat.le_refl _) _
    have h' := (h.vecNew (w' := w.drew.alloc (.cells cur e)) (ver' := ver + 1) (cs' := cs ++ news.map .d) hH (Nat.lt_succ_self _) (g := w.heap.size) (Nat.le_refl _) (by simp) hbel (heap_alloc_new w.drew _) (by rw [hll, hcs]; exact Nat.mul_le_mul_right _ hge) (fun u hu => by
      rw [hcur'] at hu
      simp only [List.mem_append] at hu
      rcases hu with (hu | hu) | hu
      · exact hvs1 u hu
      · exact hone u hu
      · exact zeroCells_one z4 _ u hu) (by rw [hcur']; exact cont vs _ hvl hvs)).2
    refine ⟨.slice (some ⟨w.heap.size, 0, none⟩) (n + m) cap, _, _, .inl (by rw [hrun0 _ rfl]; simp [hr]), h'.put hd ?_⟩
    exact ⟨⟨_, _, rfl, (fun e => by cases e)⟩, e, sz, ver + 1, cs ++ news.map .d, by simp [hup], Nat.le_refl _, fun _ => ⟨hll, .inr ⟨w.heap.size, cap, cur, e, rfl, by simp, heap_alloc_new w.drew _, hge, hcm, hcs⟩⟩⟩
  rcases hown with ⟨o1, o2, o3⟩ | ⟨g, cap, cur, e', o1, o2, o3, o4, o5, o6⟩
  · subst o2
    have hcs0 : cs = [] := List.eq_nil_of_length_eq_zero (by simpa using hcl)
    subst hcs0
    refine fresh 0 [] (by simp) (fun j y hj => by simp at hj) (by simp) ?_
    have hr := run_append_nil (P := P) w t o.type e i z t1 t2 z2 pa m c us husl hcells hmp (by omega) (by simp only [Nat.zero_add] at hb48; omega)
    rw [o1]
    simpa using hr
  · obtain ⟨cur1, k1, k2, k3, k4, k5⟩ := h.vecCells hH o2
    rw [o3] at k1
    cases k1
    obtain ⟨q1, q2, q3⟩ := k5 0
    simp only [List.drop_zero] at q1 q2 q3
    have hvl : (cur.toList.take cs.length).length = n * i.size := by rw [q1, hcl, t3]
    have hgd : ∀ j y, cs[j]? = some y → SRep M0 H mu w ((cur.toList.take cs.length).getD j undef) y := fun j y hj => by
      have hlt := (List.getElem?_eq_some_iff.1 hj).1
      have e1 : (cur.toList.take cs.length).getD j undef = cur.getD j undef := by
        simp only [List.getD_eq_getElem?_getD, List.getElem?_take, hlt, if_true, Array.getElem?_toList, Array.getD_eq_getD_getElem?]
      rw [e1]; exact k4 j y hj
    have hv1 : ∀ u ∈ cur.toList.take cs.length, u.oneCell' = true := fun u hu => k3 u (List.mem_of_mem_take hu)
    by_cases hroom : n + m ≤ cap
    · have hfit : n * i.size + us.length ≤ cur.size := by rw [husl, o6, t3, ← Nat.add_mul]; exact Nat.mul_le_mul_right _ hroom
      have hr := run_append_room (P := P) w t o.type e i t1 t2 g n cap cur o3 pa m c us husl hcells hone hroom hfit
      generalize hcur' : (cur.toList.take (n * i.size) ++ us ++ cur.toList.drop (n * i.size + us.length)).toArray = cur' at hr
      have hsz' : cur'.size = cur.size := by rw [← hcur']; simp; omega
      have hnl : n * i.size = cs.length := by rw [hcl, t3]
      have h' := (h.vecIn (ver' := ver + 1) (cs' := cs ++ news.map .d) hH o2 o3 (cur' := cur') (Nat.le_succ _) (fun e => by omega) hsz' (by rw [hll, hsz', o6]; exact Nat.mul_le_mul_right _ hroom) (fun u hu => by
        rw [← hcur'] at hu
        simp only [List.mem_append] at hu
        rcases hu with (hu | hu) | hu
        · exact k3 u (List.mem_of_mem_take hu)
        · exact hone u hu
        · exact k3 u (List.mem_of_mem_drop hu)) (by
          rw [← hcur', hnl]
          exact cont _ _ (by rw [q1, hcl]) hgd)).2
      refine ⟨.slice (some ⟨g, 0, none⟩) (n + m) cap, _, _, .inl (by rw [hrun0 _ o1]; simp [hr]), h'.put hd ?_⟩
      exact ⟨⟨_, _, rfl, (fun e => by cases e)⟩, e, sz, ver + 1, cs ++ news.map .d, by simp [hup], Nat.le_refl _, fun _ => ⟨hll, .inr ⟨g, cap, cur', e, rfl, o2, setRow_heap w g cur cur' e _ o3, hroom, o5, hsz'.trans o6⟩⟩⟩
    · have hold : ∀ j u, (cur.toList.take cs.length)[j]? = some u → w.cell? ((⟨g, 0, none⟩ : Addr).add j) = some u := fun j u hj => (q2 j u hj).1
      refine fresh cap _ (by rw [hvl, t3]) hgd hv1 ?_
      have hr := run_append_grow (P := P) w t o.type e i z t1 t2 z2 ⟨g, 0, none⟩ n cap _ hvl hold pa m c us husl hcells (by omega) (by omega) (growslice_fits (by omega) hb48)
      rw [o1]
      exact hr
/-- The same, the first time, on a nil slice. -/
theorem goes_vappN (h : StM N M0 w0 f H mu a w) {o : Oper} (hd : ∀ d, o.dst = some d → d < N ∧ w0.fix d = false) {s x : Operand} {t : TypeId} (ho : o.op = .call { callee := .builtin .append, args := #[s, x], argTypes := #[t, t] })
    (hs : opB N s = true) (hx : opB N x = true) {r m : Nat} {news zs : List D} {e sz by_ : Nat} (hdr : o.dst = some r) (hes : ev f s = .nil) (hH : H r = .none) (hex : (ev f x).toD = some (.sl m news)) (hel : elT P t = some (e, sz, by_))
    (hz : zeroT P e = some zs) (hzl : zs.length = sz) (hsz : 0 < sz) (hmp : 0 < m) (hlen : news.length = m * sz) (hb : m * by_ ≤ 140737488355328) (hmax : m ≤ 4611686018427387904) :
    Goes P N M0 w0 o f H ⟨.vec r 0 m, some r, [(r, .vec e sz 0 (news.map .d))]⟩ a w := by
  have hv : a.eval s = .slice none 0 0 := by
    have := ev_sound h hs
    rw [hes] at this
    exact this
  obtain ⟨p, c, us, x1, x2, x3, x4, x5⟩ := rep_sl (SRep.toD (ev_sound h hx) hex)
  obtain ⟨i, t1, t2, t3, t4⟩ := elT_spec hel
  obtain ⟨i', z, z1, z2, z3, z4⟩ := zeroT_spec (w := w) (M := Mut M0 H mu) hz
  rw [t2] at z1
  cases z1
  have hzc : z.cells.size = sz := by have := z3.length; simp at this; omega
  have husl : us.length = m * i.size := by rw [x5.length, hlen, t3]
  obtain ⟨pa, hpa⟩ : ∃ pa, p = some pa := by
    cases p with
    | none => have := (x3 rfl).1; omega
    | some pa => exact ⟨pa, rfl⟩
  subst hpa
  have hnews := x4 pa rfl
  have hcells : ∀ j v, us[j]? = some v → w.cell? (pa.add j) = some v := fun j v hj => (hnews.2 j v hj).1
  have hone : ∀ u ∈ us, u.oneCell' = true := fun u hu => by
    obtain ⟨j, hj⟩ := List.mem_iff_getElem?.1 hu
    exact (hnews.2 j u hj).2.2
  have hrun0 : (execOp a.eval o).run P w = (do pure (.value (← Builtin.append_ #[t, t] o.type #[.slice none 0 0, .slice (some pa) m c])) : Sem Next).run P w := by
    simp [execOp, ho, resolve, invoke, builtin, hv, x1]
  have hr := run_append_nil (P := P) w t o.type e i z t1 t2 z2 pa m c us husl hcells hmp (by omega) (by rw [t4]; omega)
  have hge := grownCap_ge w m 0 e
  have hcm : grownCap w m 0 e ≤ maxLen := grownCap_le_maxLen w m 0 e (by simp only [maxLen]; omega)
  generalize grownCap w m 0 e = cap at *
  generalize hcur : us.toArray ++ Builtin.zeroCells z.cells (cap - m) = cur at *
  have hcs : cur.size = cap * sz := by
    rw [← hcur]
    simp only [Array.size_append, List.size_toArray, size_zeroCells, husl, hzc, t3]
    rw [← Nat.add_mul]
    congr 1
    omega
  have hbel : Below w.heap.size w (w.drew.alloc (.cells cur e)) := ((Below.refl _ _).drew).alloc (Nat.le_refl _) _
  have hst := (Turn.new (w' := w.drew.alloc (.cells cur e)) h hH (.vec e sz 0 (news.map .d)) (some w.heap.size) (fun x e => by cases e; exact Nat.le_refl _) hbel)
  have h2 := h.new (w' := w.drew.alloc (.cells cur e)) hH (Nat.lt_of_lt_of_le (hd r hdr).1 h.nle) (.vec e sz 0 (news.map .d)) (some w.heap.size) (fun x e => by cases e; exact ⟨Nat.le_refl _, by simp⟩) hbel (by simp) (fun e2 sz2 ver2 cs2 he => by
    cases he
    refine .inr ⟨w.heap.size, cur, rfl, heap_alloc_new w.drew _, by rw [List.length_map, hlen, hcs]; exact Nat.mul_le_mul_right _ hge, fun u hu => ?_, fun j y hj => ?_⟩
    · rw [← hcur] at hu
      simp only [Array.toList_append, List.mem_append] at hu
      rcases hu with hu | hu
      · exact hone u hu
      · exact zeroCells_one z4 _ u hu
    · rw [List.getElem?_map] at hj
      obtain ⟨d, hd', rfl⟩ := Option.map_eq_some_iff.1 hj
      obtain ⟨u, hu, hr⟩ := x5.get hd'
      have e1 : cur.getD j undef = u := by
        rw [← hcur]
        simp only [Array.getD_eq_getD_getElem?]
        rw [Array.getElem?_append_left (by simpa using (List.getElem?_eq_some_iff.1 hu).1)]
        simp [hu]
      rw [e1]
      exact SRep.turn hst (x := .d d) hr)
  refine ⟨.slice (some ⟨w.heap.size, 0, none⟩) m cap, _, _, .inl (by rw [hrun0]; simp [hr]), h2.put hd ?_⟩
  exact ⟨⟨_, _, rfl, (fun e => by cases e)⟩, e, sz, 0, news.map .d, by simp [hup], Nat.le_refl _, fun _ => ⟨by rw [List.length_map, hlen], .inr ⟨w.heap.size, cap, cur, e, rfl, by simp, heap_alloc_new w.drew _, hge, hcm, hcs⟩⟩⟩
end
end Go.Proofs.YtefiebkngpcaoaaDoor
