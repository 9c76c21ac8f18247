/- Calls by contract; one operation of the pure logic, whatever it is; what it hangs on. No condition beyond each lemma's own. -/
import Derived.Test.YtandclggkgmpgaaPE6
set_option linter.unusedVariables false
set_option linter.unusedSimpArgs false
set_option linter.unusedSectionVars false
namespace Go.Proofs.Ytandclggkgmpgaa
open Go.RowKit

/-- A function's contract on pure data: it hands back what stands for res, and nothing that was there has turned. -/
def PC (P : Program) (k : FuncId) (args : List D) (res : D) : Prop :=
  (∃ fn, P.funcs[k]? = some fn ∧ (fn.name == "runtime.NumGoroutine") = false ∧ fn.body.isNone = false) ∧
  ∀ (M : Addr → Prop) (w : World) (vs : List Value), RepL M w vs args → (∀ x, M x → x.block < w.heap.size) →
    Calls P k vs.toArray w fun e w' => ∃ v, e = .returned v ∧ Rep M w' v res ∧ Below w.heap.size w w'
/-- == on two values of many cells. -/
def AggEq (P : Program) (t : TypeId) (xs ys : List D) (b : Bool) : Prop :=
  ∀ (M : Addr → Prop) (w : World) (vs us : Array Value) (x y : Operand) (op : BinOp), op = .eql ∨ op = .neq → RepL M w vs.toList xs → RepL M w us.toList ys → (∀ u ∈ vs.toList, u.oneCell' = true) → (∀ u ∈ us.toList, u.oneCell' = true) →
    (eqGuard op t x y (.agg vs) (.agg us)).run P w = .ok () w ∧ (Op.equal t (.agg vs) (.agg us)).run P w = .ok b w

/-- One operation, and what it comes to. -/
inductive POp (P : Program) (o : Oper) (f : Frm) (H : Hp) : Eff → Prop
  | step (e : Eff) (h : pstep P o f H = some e) : POp P o f H e
  | call (x : Operand) (as : Array Operand) (tys : Array TypeId) (k : FuncId) (first cap ds : List D) (res : D) (ho : o.op = .call { callee := .value x, args := as, argTypes := tys })
      (hx : ev f x = .d (.fn (.func k) first cap)) (ha : toDs (as.toList.map (ev f)) = some ds) (hc : PC P k (first ++ ds ++ cap) res) : POp P o f H (.val (.d res))
  | ice (t : TypeId) (x : Operand) (ys : List SV) (ds : List D) (ho : o.op = .box t x) (hc : (ev f x).cells = some ys) (hd : toDs ys = some ds) : POp P o f H (.val (.d (.ep ds)))
  | eql (op : BinOp) (t t' : TypeId) (x y : Operand) (xs ys : List D) (b : Bool) (ho : o.op = .binOp op t x y t') (hx : ev f x = .d (.agg xs)) (hy : ev f y = .d (.agg ys))
      (hb : AggEq P t xs ys b) (hop : op = .eql ∨ op = .neq) : POp P o f H (.val (.d (.bool (if op = .eql then b else !b))))
  | grow (s x : Operand) (t : TypeId) (r n m : Nat) (cs news zs : List D) (e sz bts : Nat) (ho : o.op = .call { callee := .builtin .append, args := #[s, x], argTypes := #[t, t] })
      (hes : ev f s = .own r n cs) (hH : H r = .row e sz n) (hex : (ev f x).toD = some (.sl m news)) (hel : elT P t = some (e, sz, bts)) (hz : zeroT P e = some zs) (hzl : zs.length = sz) (hsz : 0 < sz) (hlen : news.length = m * sz)
      (hb : (n + m) * bts ≤ 140737488355328) (hmax : n + m ≤ 4611686018427387904) : POp P o f H ⟨.own r (n + m) (cs ++ news), some r, some (r, .row e sz (n + m))⟩
  | grow0 (s x : Operand) (t : TypeId) (r m : Nat) (news zs : List D) (e sz bts : Nat) (ho : o.op = .call { callee := .builtin .append, args := #[s, x], argTypes := #[t, t] })
      (hes : ev f s = .nil) (hH : H r = .none) (hex : (ev f x).toD = some (.sl m news)) (hel : elT P t = some (e, sz, bts)) (hz : zeroT P e = some zs) (hzl : zs.length = sz) (hsz : 0 < sz) (hlen : news.length = m * sz)
      (hb : m * bts ≤ 140737488355328) (hmax : m ≤ 4611686018427387904) : POp P o f H ⟨.own r m news, some r, some (r, .row e sz m)⟩
/-- Does the operation name slots of the frame alone? -/
def opOk (N : Nat) (o : Oper) : Bool := (match o.dst with | some d => decide (d < N) | none => true) && o.op.operands.toList.all (opB N)
section
variable {P : Program} {N : Nat} {M0 : Addr → Prop} {w0 w : World} {f f' : Frm} {H H' : Hp} {mu : Nat → Option Nat} {a : Act} {o : Oper} {e : Eff}

theorem opOk_dst (h : opOk N o = true) : ∀ d, o.dst = some d → d < N := by
  intro d hd
  simp only [opOk, hd, Bool.and_eq_true, decide_eq_true_eq] at h
  exact h.1
theorem opOk_ops (h : opOk N o = true) : ∀ x ∈ o.op.operands.toList, opB N x = true := by
  simp only [opOk, Bool.and_eq_true, List.all_eq_true] at h
  exact h.2
theorem goes_step (h : StM N M0 w0 f H mu a w) (hk : opOk N o = true) (he : pstep P o f H = some e) : Goes P N M0 w0 o f H e a w := by
  have hd := opOk_dst hk
  have hx := opOk_ops hk
  cases ho : o.op <;> simp only [ho, Op.operands] at hx
  case move x => exact goes_move h hd (.inl ho) (hx _ (by simp)) he
  case assign x => exact goes_move h hd (.inr ho) (hx _ (by simp)) he
  case pick c x y => exact goes_pick h hd ho (hx _ (by simp)) (hx _ (by simp)) (hx _ (by simp)) he
  case alloc t => exact goes_alloc h hd ho he
  case box t x => exact goes_box h hd ho (hx _ (by simp)) he
  case load t x => exact goes_load h hd ho (hx _ (by simp)) he
  case store t x y => exact goes_store h hd ho (hx _ (by simp)) (hx _ (by simp)) he
  case fieldAddr t x i => exact goes_fieldAddr h hd ho (hx _ (by simp)) he
  case field t x i => exact goes_field h hd ho (hx _ (by simp)) he
  case indexAddr t x i => exact goes_indexAddr h hd ho (hx _ (by simp)) (hx _ (by simp)) he
  case index t x i => exact goes_index h hd ho (hx _ (by simp)) (hx _ (by simp)) he
  case extract x i => exact goes_extract h hd ho (hx _ (by simp)) he
  case nilCheck x => exact goes_nilCheck h hd ho (hx _ (by simp)) he
  case binOp op t x y t' => exact goes_binOp h hd ho (hx _ (by simp)) (hx _ (by simp)) he
  case unOp op t x => exact goes_unOp h hd ho (hx _ (by simp)) he
  case convert s t x => exact goes_convert h hd ho (hx _ (by simp)) he
  case makeFunc fn fi ca => exact goes_makeFunc h hd ho (List.all_eq_true.2 fun x hq => hx x (by simp at hq ⊢; exact .inl hq)) (List.all_eq_true.2 fun x hq => hx x (by simp at hq ⊢; exact .inr hq)) he
  case build t ps => exact goes_build h hd ho (fun p hp => hx p.2 (by simp; exact ⟨p.1, by simpa using hp⟩)) he
  case buildSlice t n ps => exact goes_buildSlice h hd ho (fun p hp => hx p.2 (by simp; exact ⟨p.1, by simpa using hp⟩)) he
  case slice t x lo hi mx =>
    cases mx with
    | none => exact goes_slice h hd ho (hx _ (by simp)) (fun z hz => hx z (by simp [hz])) (fun z hz => hx z (by simp [hz])) he
    | some m => simp [pstep, ho] at he
  case call c =>
    obtain ⟨cl, as, tys⟩ := c
    cases cl with
    | builtin b => exact goes_built h hd ho (fun x hxx => hx x (by simpa [Call.operands] using hxx)) he
    | _ => simp [pstep, ho] at he
  all_goals (simp [pstep, ho] at he)

theorem run_call {k : FuncId} {fn : Func} (hf : P.funcs[k]? = some fn) (hn : (fn.name == "runtime.NumGoroutine") = false) (hb : fn.body.isNone = false) (args : Array Value) :
    (callFunc k args).run P w = .ok (.enter k args) w := by
  simp only [beq_eq_false_iff_ne, ne_eq] at hn
  simp only [Option.isNone_eq_false_iff] at hb
  have hb' : fn.body ≠ none := by intro e; rw [e] at hb; cases hb
  simp [callFunc, program, Sem.run, hf, hn, hb']
/-- What any operation comes to, as the walk's own word. -/
theorem pop_wp (h : StM N M0 w0 f H mu a w) (hk : opOk N o = true) (hp : POp P o f H e) {K : Act → World → Prop} {Q : Exit → Act → World → Prop}
    (hK : ∀ v w' mu', StM N M0 w0 (updo f o.dst e.res) (app H e.wr) mu' (a.put o.dst v) w' → K (a.put o.dst v) w') : o.wp P a w K Q := by
  cases hp with
  | step e he =>
    obtain ⟨v, w', mu', hr, hs⟩ := goes_step h hk he
    unfold Oper.wp
    rcases hr with hr | ⟨hr, rfl⟩
    · rw [hr]; exact hK v w' mu' hs
    · rw [hr]; exact hK undef w' mu' hs
  | call x as tys k first cap ds res ho hx ha hc =>
    have hx0 := opOk_ops hk
    simp only [ho, Op.operands, Call.operands] at hx0
    have hv := ev_sound h (hx0 x (by simp))
    rw [hx] at hv
    generalize hev : a.eval x = v at hv
    obtain ⟨⟨fn, hf, hn, hb⟩, hcall⟩ := hc
    cases (show Rep (Mut M0 H mu) w v (.fn (.func k) first cap) from hv) with
    | fn fk vs us ds' es h1 h2 =>
      have hargs : RepL (Mut M0 H mu) w (as.toList.map a.eval) ds := by
        refine toDs_sound ha (by simp) fun j v x hj hy => ?_
        simp only [List.getElem?_map, Option.map_eq_some_iff] at hj hy
        obtain ⟨q, hq, rfl⟩ := hj
        obtain ⟨q', hq', rfl⟩ := hy
        rw [hq] at hq'
        cases hq'
        exact ev_sound h (hx0 q (by simp; exact .inr (Array.mem_toList_iff.1 (List.mem_of_getElem? hq))))
      have hall := (h1.append hargs).append h2
      have hrun : (execOp a.eval o).run P w = .ok (.enter k (vs ++ as.map a.eval ++ us)) w := by
        simp only [execOp, ho, resolve, hev, Deferred.ofValue, Sem.run_bind, Sem.run_pure, Result.andThen_ok, invoke]
        exact run_call hf hn hb _
      unfold Oper.wp
      rw [hrun]
      have hcc := hcall (Mut M0 H mu) w (vs.toList ++ as.toList.map a.eval ++ us.toList) hall (fun x hx => h.mut_lt hx)
      have e1 : (vs.toList ++ as.toList.map a.eval ++ us.toList).toArray = vs ++ as.map a.eval ++ us := by
        apply Array.ext'; simp
      rw [e1] at hcc
      refine hcc.mono ?_
      rintro e w' ⟨u, rfl, hu, hw⟩
      exact hK u w' mu ((h.grow hw).put (opOk_dst hk) hu)
  | ice t x ys ds ho hc hds =>
    have hx0 := opOk_ops hk
    simp only [ho, Op.operands] at hx0
    obtain ⟨v, w', mu', hr, hs⟩ := goes_ice h (opOk_dst hk) ho (hx0 x (by simp)) hc hds
    unfold Oper.wp
    rcases hr with hr | ⟨hr, rfl⟩
    · rw [hr]; exact hK v w' mu' hs
    · rw [hr]; exact hK undef w' mu' hs
  | eql op t t' x y xs ys b ho hx hy hb hop =>
    have hx0 := opOk_ops hk
    simp only [ho, Op.operands] at hx0
    have hv := ev_sound h (hx0 x (by simp))
    have hu := ev_sound h (hx0 y (by simp))
    rw [hx] at hv
    rw [hy] at hu
    obtain ⟨vs, e1, g1, g3⟩ := SRep.d_agg hv
    obtain ⟨us, e2, g2, g4⟩ := SRep.d_agg hu
    obtain ⟨k1, k2⟩ := hb _ w vs us x y op hop g1 g2 g3 g4
    have hrun : (execOp a.eval o).run P w = .ok (.value (.bool (if op = .eql then b else !b))) w := by
      rcases hop with rfl | rfl <;> simp [execOp, ho, e1, e2, k1, binOp, k2]
    unfold Oper.wp
    rw [hrun]
    exact hK _ w mu (h.put (opOk_dst hk) (Rep.bool _))
  | grow s x t r n m cs news zs e sz bts ho hes hH hex hel hz hzl hsz hlen hb hmax =>
    have hx0 := opOk_ops hk
    simp only [ho, Op.operands, Call.operands] at hx0
    obtain ⟨v, w', mu', hr, hs⟩ := goes_app h (opOk_dst hk) ho (hx0 s (by simp)) (hx0 x (by simp)) hes hH hex hel hz hzl hsz hlen hb hmax
    unfold Oper.wp
    rcases hr with hr | ⟨hr, rfl⟩
    · rw [hr]; exact hK v w' mu' hs
    · rw [hr]; exact hK undef w' mu' hs
  | grow0 s x t r m news zs e sz bts ho hes hH hex hel hz hzl hsz hlen hb hmax =>
    have hx0 := opOk_ops hk
    simp only [ho, Op.operands, Call.operands] at hx0
    obtain ⟨v, w', mu', hr, hs⟩ := goes_appN h (opOk_dst hk) ho (hx0 s (by simp)) (hx0 x (by simp)) hes hH hex hel hz hzl hsz hlen hb hmax
    unfold Oper.wp
    rcases hr with hr | ⟨hr, rfl⟩
    · rw [hr]; exact hK v w' mu' hs
    · rw [hr]; exact hK undef w' mu' hs

theorem partsD_local : ∀ {l : List (Nat × Operand)}, (∀ p ∈ l, ev f p.2 = ev f' p.2) → partsD f l = partsD f' l
  | [], _ => rfl
  | p :: l, h => by
    obtain ⟨i, x⟩ := p
    simp only [partsD]
    rw [h (i, x) (by simp), partsD_local fun q hq => h q (by simp [hq])]
theorem bndD_local {y d : Nat} {x : Option Operand} (h : ∀ z, x = some z → ev f z = ev f' z) : bndD f y d x = bndD f' y d x := by
  cases x with
  | none => rfl
  | some z => simp only [bndD, h z rfl]
theorem pBuilt_local {b : Builtin} {as : List Operand} {tys : List TypeId} (h : ∀ x ∈ as, ev f x = ev f' x) : pBuilt P f b as tys = pBuilt P f' b as tys := by
  unfold pBuilt
  split
  · rw [h _ (by simp)]
  · rw [h _ (by simp), h _ (by simp)]
  · rw [h _ (by simp), h _ (by simp)]
  · rfl
/-- What a step hangs on: its operands and the names that it touches. -/
theorem pstep_local (he : pstep P o f H = some e) (hf : ∀ x ∈ o.op.operands.toList, ev f x = ev f' x) (hH : ∀ s, (e.rd = some s ∨ ∃ q, e.wr = some (s, q)) → H s = H' s) : pstep P o f' H' = some e := by
  cases ho : o.op <;> simp only [ho, Op.operands] at hf <;> simp only [pstep, ho] at he ⊢
  case move x => rw [← hf x (by simp)]; exact he
  case assign x => rw [← hf x (by simp)]; exact he
  case pick c x y => rw [← hf c (by simp), ← hf x (by simp), ← hf y (by simp)]; exact he
  case alloc t =>
    split at he
    · rename_i s zs hs hz
      split at he
      · rename_i hn
        cases he
        simp only [← hH s (.inr ⟨_, rfl⟩), hn]
      · cases he
    · cases he
  case box t x =>
    rw [← hf x (by simp)]
    split at he
    · rename_i s zs hs hz
      split at he
      · rename_i hn
        cases he
        simp only [hz, ← hH s (.inr ⟨_, rfl⟩), hn]
      · cases he
    · cases he
  case load t x =>
    rw [← hf x (by simp)]
    split at he
    · rename_i s off ag n hs ht
      split at he
      · rename_i cs hcs
        split at he
        · rename_i v hv
          cases he
          simp only [hs, ht, ← hH s (.inl rfl), hcs, hv]
        · cases he
      · cases he
    · rename_i cs ag n hs ht
      split at he
      · rename_i v hv
        cases he
        simp only [hs, ht, hv]
      · cases he
    · cases he
  case store t x y =>
    rw [← hf x (by simp), ← hf y (by simp)]
    split at he
    · rename_i s off ag n ys hs ht hy
      split at he
      · rename_i cs hcs
        split at he
        · rename_i hb
          cases he
          simp only [← hH s (.inl rfl), hcs, if_pos hb]
        · cases he
      · cases he
    · cases he
  case fieldAddr t x i => rw [← hf x (by simp)]; exact he
  case field t x i => rw [← hf x (by simp)]; exact he
  case indexAddr t x i => rw [← hf x (by simp), ← hf i (by simp)]; exact he
  case index t x i => rw [← hf x (by simp), ← hf i (by simp)]; exact he
  case extract x i => rw [← hf x (by simp)]; exact he
  case nilCheck x => rw [← hf x (by simp)]; exact he
  case binOp op t x y t' => rw [← hf x (by simp), ← hf y (by simp)]; exact he
  case unOp op t x => rw [← hf x (by simp)]; exact he
  case convert s t x => rw [← hf x (by simp)]; exact he
  case makeFunc fn fi ca =>
    have e1 : fi.toList.map (ev f') = fi.toList.map (ev f) := List.map_congr_left fun x hx => (hf x (by simp at hx ⊢; exact .inl hx)).symm
    have e2 : ca.toList.map (ev f') = ca.toList.map (ev f) := List.map_congr_left fun x hx => (hf x (by simp at hx ⊢; exact .inr hx)).symm
    rw [e1, e2]; exact he
  case build t ps =>
    rw [← partsD_local fun p hp => hf p.2 (by simp; exact ⟨p.1, by simpa using hp⟩)]; exact he
  case buildSlice t n ps =>
    rw [← partsD_local fun p hp => hf p.2 (by simp; exact ⟨p.1, by simpa using hp⟩)]; exact he
  case slice t x lo hi mx =>
    cases mx with
    | some m => simp at he
    | none =>
      simp only at he ⊢
      rw [← hf x (by simp)]
      have e1 : ∀ y d, bndD f' y d lo = bndD f y d lo := fun y d => bndD_local fun z hz => (hf z (by simp [hz])).symm
      have e2 : ∀ y d, bndD f' y d hi = bndD f y d hi := fun y d => bndD_local fun z hz => (hf z (by simp [hz])).symm
      simp only [e1, e2]
      exact he
  case call c =>
    obtain ⟨cl, as, tys⟩ := c
    cases cl with
    | builtin b =>
      simp only at he ⊢
      rw [← pBuilt_local fun x hx => hf x (by simpa [Call.operands] using hx)]
      exact he
    | _ => simp at he
  all_goals (simp at he)
theorem pop_local (he : POp P o f H e) (hf : ∀ x ∈ o.op.operands.toList, ev f x = ev f' x) (hH : ∀ s, (e.rd = some s ∨ ∃ q, e.wr = some (s, q)) → H s = H' s) : POp P o f' H' e := by
  cases he with
  | step e he => exact .step e (pstep_local he hf hH)
  | call x as tys k first cap ds res ho hx ha hc =>
    simp only [ho, Op.operands, Call.operands] at hf
    refine .call x as tys k first cap ds res ho ((hf x (by simp)).symm.trans hx) ?_ hc
    rw [← ha]
    congr 1
    exact List.map_congr_left fun q hq => (hf q (by simp; exact .inr (Array.mem_toList_iff.1 hq))).symm
  | ice t x ys ds ho hc hds =>
    simp only [ho, Op.operands] at hf
    exact .ice t x ys ds ho (by rw [← hf x (by simp)]; exact hc) hds
  | eql op t t' x y xs ys b ho hx hy hb hop =>
    simp only [ho, Op.operands] at hf
    exact .eql op t t' x y xs ys b ho ((hf x (by simp)).symm.trans hx) ((hf y (by simp)).symm.trans hy) hb hop
  | grow s x t r n m cs news zs e sz bts ho hes hH' hex hel hz hzl hsz hlen hb hmax =>
    simp only [ho, Op.operands, Call.operands] at hf
    exact .grow s x t r n m cs news zs e sz bts ho ((hf s (by simp)).symm.trans hes) ((hH r (.inl rfl)).symm.trans hH') (by rw [← hf x (by simp)]; exact hex) hel hz hzl hsz hlen hb hmax
  | grow0 s x t r m news zs e sz bts ho hes hH' hex hel hz hzl hsz hlen hb hmax =>
    simp only [ho, Op.operands, Call.operands] at hf
    exact .grow0 s x t r m news zs e sz bts ho ((hf s (by simp)).symm.trans hes) ((hH r (.inl rfl)).symm.trans hH') (by rw [← hf x (by simp)]; exact hex) hel hz hzl hsz hlen hb hmax
end
end Go.Proofs.Ytandclggkgmpgaa
