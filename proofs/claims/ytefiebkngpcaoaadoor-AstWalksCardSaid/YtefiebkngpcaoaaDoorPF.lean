/- Calls by contract; one operation of the pure logic, whatever it is; what it hangs on. No condition beyond each lemma's own. -/
import Derived.Test.YtefiebkngpcaoaaDoorPE6
import Derived.Test.YtefiebkngpcaoaaDoorPE7
import Derived.CallsIn
import Derived.OrdersIn
import Derived.TacticsIn
set_option maxRecDepth 100000
set_option linter.unusedVariables false
set_option linter.unusedSimpArgs false
set_option linter.unusedSectionVars false
namespace Go.Proofs.YtefiebkngpcaoaaDoor
open Go.RowKit

/-- A function's contract on pure data: it hands back what stands for res, and nothing that was there has turned. -/
def PC (P : Program) (k : FuncId) (args : List D) (res : D) : Prop :=
  (∃ fn, P.funcs[k]? = some fn ∧ (fn.name == "runtime.NumGoroutine") = false ∧ fn.body.isNone = false) ∧
  ∀ (M : Addr → Prop) (w : World) (vs : List Value), Globs M w → RepL M w vs args → (∀ x, M x → x.block < w.heap.size) →
    Calls P k vs.toArray w fun e w' => ∃ v, e = .returned v ∧ Rep M w' v res ∧ Below w.heap.size w w'
/-- == on two values of many cells. -/
def AggEq (P : Program) (t : TypeId) (xs ys : List D) (b : Bool) : Prop :=
  ∀ (M : Addr → Prop) (w : World) (vs us : Array Value) (x y : Operand) (op : BinOp), op = .eql ∨ op = .neq → RepL M w vs.toList xs → RepL M w us.toList ys → (∀ u ∈ vs.toList, u.oneCell' = true) → (∀ u ∈ us.toList, u.oneCell' = true) →
    (eqGuard op t x y (.agg vs) (.agg us)).run P w = .ok () w ∧ (Op.equal t (.agg vs) (.agg us)).run P w = .ok b w

/-- One operation, and what it comes to. -/
inductive POp (P : Program) (o : Oper) (f : Frm) (H : Hp) : Eff → Prop
  | step (e : Eff) (h : pstep P o f H = some e) : POp P o f H e
  | call (x : Operand) (as : Array Operand) (tys : Array TypeId) (k : FuncId) (first cap ds : List D) (res : D) (ho : o.op = .call { callee := .value x, args := as, argTypes := tys })
      (hx : ev f x = .d (.fn (.func k) first cap)) (ha : toDs (as.toList.map (ev f)) = some ds) (hc : PC P k (first ++ ds ++ cap) res) : POp P o f H (.val (.d res))
  | calln (x : Operand) (as : Array Operand) (tys : Array TypeId) (k : FuncId) (first cap ds : List D) (res : D) (ho : o.op = .call { callee := .value x, args := as, argTypes := tys })
      (hx : ev f x = .d (.fn (.func k) first cap)) (ha : toDsN (as.toList.map (ev f)) = some ds) (hc : PC P k (first ++ ds ++ cap) res) : POp P o f H (.val (.d res))
  | callm (x : Operand) (as : Array Operand) (tys : Array TypeId) (k : FuncId) (args : List SV) (H0 H1 : Hp) (res : SV) (ρ : Nat → Nat) (ns0 ns1 : List Nat) (ho : o.op = .call { callee := .value x, args := as, argTypes := tys })
      (hx : ev f x = .d (.fn (.func k) [] [])) (hc : PM P k args H0 res H1) (hh : Hand H (as.toList.map (ev f)) args H0 H1 res ρ ns0 ns1) : POp P o f H ⟨res.ren ρ, none, wrM H1 ρ ns1⟩
  | buildn (t : TypeId) (parts : Array (Nat × Operand)) (zs : List D) (pl : List (Nat × Nat)) (ps : List (Nat × D)) (cs : List D) (ho : o.op = .build t parts) (hz : zeroTN P t = some zs) (hpl : placesT P t = some pl) (hps : partsD f parts.toList = some ps)
      (hf : pfill (fun i => pl[i]?) zs ps = some cs) : POp P o f H (.val (.d (.agg cs)))
  | ice (t : TypeId) (x : Operand) (ys : List SV) (ds : List D) (ho : o.op = .box t x) (hc : (ev f x).cells = some ys) (hd : toDs ys = some ds) : POp P o f H (.val (.d (.ep ds)))
  | eql (op : BinOp) (t t' : TypeId) (x y : Operand) (xs ys : List D) (b : Bool) (ho : o.op = .binOp op t x y t') (hx : ev f x = .d (.agg xs)) (hy : ev f y = .d (.agg ys))
      (hb : AggEq P t xs ys b) (hop : op = .eql ∨ op = .neq) : POp P o f H (.val (.d (.bool (if op = .eql then b else !b))))
  | grow (s x : Operand) (t : TypeId) (r n m : Nat) (cs news zs : List D) (e sz bts : Nat) (ho : o.op = .call { callee := .builtin .append, args := #[s, x], argTypes := #[t, t] })
      (hes : ev f s = .own r n cs) (hH : H r = .row e sz n) (hex : (ev f x).toD = some (.sl m news)) (hel : elT P t = some (e, sz, bts)) (hz : zeroT P e = some zs) (hzl : zs.length = sz) (hsz : 0 < sz) (hlen : news.length = m * sz)
      (hb : (n + m) * bts ≤ 140737488355328) (hmax : n + m ≤ 4611686018427387904) : POp P o f H ⟨.own r (n + m) (cs ++ news), some r, [(r, .row e sz (n + m))]⟩
  | grow0 (s x : Operand) (t : TypeId) (r m : Nat) (news zs : List D) (e sz bts : Nat) (ho : o.op = .call { callee := .builtin .append, args := #[s, x], argTypes := #[t, t] })
      (hdr : o.dst = some r) (hes : ev f s = .nil) (hH : H r = .none) (hex : (ev f x).toD = some (.sl m news)) (hel : elT P t = some (e, sz, bts)) (hz : zeroT P e = some zs) (hzl : zs.length = sz) (hsz : 0 < sz) (hlen : news.length = m * sz)
      (hb : m * bts ≤ 140737488355328) (hmax : m ≤ 4611686018427387904) : POp P o f H ⟨.own r m news, some r, [(r, .row e sz m)]⟩
  | vapp (s x : Operand) (t : TypeId) (r ver n m : Nat) (cs : List SV) (news zs : List D) (e sz bts : Nat) (ho : o.op = .call { callee := .builtin .append, args := #[s, x], argTypes := #[t, t] })
      (hes : ev f s = .vec r ver n) (hH : H r = .vec e sz ver cs) (hex : (ev f x).toD = some (.sl m news)) (hel : elT P t = some (e, sz, bts)) (hz : zeroT P e = some zs) (hzl : zs.length = sz) (hsz : 0 < sz) (hmp : 0 < m) (hlen : news.length = m * sz)
      (hb : (n + m) * bts ≤ 140737488355328) (hmax : n + m ≤ 4611686018427387904) : POp P o f H ⟨.vec r (ver + 1) (n + m), some r, [(r, .vec e sz (ver + 1) (cs ++ news.map .d))]⟩
  | vapp0 (s x : Operand) (t : TypeId) (r m : Nat) (news zs : List D) (e sz bts : Nat) (ho : o.op = .call { callee := .builtin .append, args := #[s, x], argTypes := #[t, t] })
      (hdr : o.dst = some r) (hes : ev f s = .nil) (hH : H r = .none) (hex : (ev f x).toD = some (.sl m news)) (hel : elT P t = some (e, sz, bts)) (hz : zeroT P e = some zs) (hzl : zs.length = sz) (hsz : 0 < sz) (hmp : 0 < m) (hlen : news.length = m * sz)
      (hb : m * bts ≤ 140737488355328) (hmax : m ≤ 4611686018427387904) : POp P o f H ⟨.vec r 0 m, some r, [(r, .vec e sz 0 (news.map .d))]⟩
  | vbuild (t : TypeId) (len : Nat) (parts : Array (Nat × Operand)) (s et sz bts : Nat) (ps : List (Nat × D)) (zs cs : List D) (ho : o.op = .buildSlice t len parts) (hdr : o.dst = some s) (hs : H s = .none) (hel : elT P t = some (et, sz, bts)) (hps : partsD f parts.toList = some ps)
      (hz : zeroT P et = some zs) (hc : zs.length = sz ∧ len * sz ≤ 16777216 ∧ len * sz ≠ 0) (hf : pfill (fun i => some (i * sz, sz)) (repD len zs) ps = some cs) (hcl : cs.length = len * sz) : POp P o f H ⟨.vec s 0 len, none, [(s, .vec et sz 0 (cs.map .d))]⟩
/-- Does the operation name slots of the frame alone? -/
def opOk (N : Nat) (o : Oper) : Bool := (match o.dst with | some d => decide (d < N) | none => true) && o.op.operands.toList.all (opB N)
section
variable {P : Program} {N : Nat} {M0 : MM} {w0 : Ctx} {w : World} {f f' : Frm} {H H' : Hp} {mu : Nat → Option Nat} {a : Act} {o : Oper} {e : Eff}

theorem opOk_dst (h : opOk N o = true) : ∀ d, o.dst = some d → d < N := by
  intro d hd
  simp only [opOk, hd, Bool.and_eq_true, decide_eq_true_eq] at h
  exact h.1
theorem opOk_ops (h : opOk N o = true) : ∀ x ∈ o.op.operands.toList, opB N x = true := by
  simp only [opOk, Bool.and_eq_true, List.all_eq_true] at h
  exact h.2
/-- The fence: none, in a round or not. -/
abbrev fen (ro : Option Nat) : Fence := { Fence.wide with round := ro }
theorem wpIn_value {ro : Option Nat} {n : Nat} {K : Act → World → Prop} {Q : Exit → Act → World → Prop} (hnd : ∀ c, o.op ≠ .defer c) {v : Value} {w' : World} (hr : (execOp a.eval o).run P w = .ok (.value v) w') (hK : K (a.put o.dst v) w') : o.wpIn (fen ro) n P a w K Q :=
  ⟨fun _ _ => trivial, by rw [Oper.semAt_eq _ _ _ hnd, hr]; exact hK⟩
theorem wpIn_skipOp {ro : Option Nat} {n : Nat} {K : Act → World → Prop} {Q : Exit → Act → World → Prop} (hnd : ∀ c, o.op ≠ .defer c) {w' : World} (hr : (execOp a.eval o).run P w = .ok .skip w') (hK : K (a.put o.dst undef) w') : o.wpIn (fen ro) n P a w K Q :=
  ⟨fun _ _ => trivial, by rw [Oper.semAt_eq _ _ _ hnd, hr]; exact hK⟩
theorem wpIn_enter {ro : Option Nat} {n : Nat} {K : Act → World → Prop} {Q : Exit → Act → World → Prop} (hnd : ∀ c, o.op ≠ .defer c) {k : FuncId} {args : Array Value} {w' : World} (hr : (execOp a.eval o).run P w = .ok (.enter k args) w')
    (hc : Calls P k args w' fun e w'' => ∃ v, e = .returned v ∧ K (a.put o.dst v) w'') : o.wpIn (fen ro) n P a w K Q :=
  ⟨fun _ _ => trivial, by
    rw [Oper.semAt_eq _ _ _ hnd, hr]
    refine ⟨(fun h => by cases h), ?_⟩
    have h1 : CallsIn Fence.wide (n - 1) P k args w' (fun
      | .returned v, w'' => K (a.put o.dst v) w''
      | .panicked chain, w'' => Q (.panic chain) a w''
      | .outgrown, _ => LetsOut Q) := callsIn_wide.2 (hc.mono fun e w'' ⟨v, he, hv⟩ => by subst he; exact hv)
    exact h1⟩
theorem nodefer {o' : Op} (ho : o.op = o') (h : ∀ c, o' ≠ .defer c) : ∀ c, o.op ≠ .defer c := fun c hc => h c (ho.symm.trans hc)
theorem pstep_nodefer (he : pstep P o f H = some e) : ∀ c, o.op ≠ .defer c := fun c hc => by simp [pstep, hc] at he
theorem goes_wp (h : Goes P N M0 w0 o f H e a w) (hnd : ∀ c, o.op ≠ .defer c) {n : Nat} {K : Act → World → Prop} {Q : Exit → Act → World → Prop}
    (hK : ∀ v w' mu', StM N M0 w0 (updo f o.dst e.res) (app H e.wr) mu' (a.put o.dst v) w' → K (a.put o.dst v) w') : o.wpIn (fen w0.ro) n P a w K Q := by
  obtain ⟨v, w', mu', hr, hs⟩ := h
  rcases hr with hr | ⟨hr, rfl⟩
  · exact wpIn_value hnd hr (hK v w' mu' hs)
  · exact wpIn_skipOp hnd hr (hK undef w' mu' hs)
theorem goes_step (h : StM N M0 w0 f H mu a w) (hk : opOk N o = true) (hfx : ∀ d, o.dst = some d → w0.fix d = false) (he : pstep P o f H = some e) : Goes P N M0 w0 o f H e a w := by
  have hd : ∀ d, o.dst = some d → d < N ∧ w0.fix d = false := fun d hd => ⟨opOk_dst hk d hd, hfx d hd⟩
  have hx := opOk_ops hk
  cases ho : o.op <;> simp only [ho, Op.operands] at hx
  case move x => exact goes_move h hd (.inl ho) (hx _ (by simp)) he
  case assign x => exact goes_move h hd (.inr ho) (hx _ (by simp)) he
  case pick c x y => exact goes_pick h hd ho (hx _ (by simp)) (hx _ (by simp)) (hx _ (by simp)) he
  case alloc t => exact goes_alloc h hd ho he
  case box t x => exact goes_box h hd ho (hx _ (by simp)) he
  case load t x => exact goes_load h hd ho (hx _ (by simp)) he
  case store t x y => exact goes_store h hd ho (hx _ (by simp)) (hx _ (by simp)) he
  case fieldAddr t x i => exact goes_fieldAddr h hd ho (hx _ (by simp)) he
  case field t x i => exact goes_field h hd ho (hx _ (by simp)) he
  case indexAddr t x i => exact goes_indexAddr h hd ho (hx _ (by simp)) (hx _ (by simp)) he
  case index t x i => exact goes_index h hd ho (hx _ (by simp)) (hx _ (by simp)) he
  case extract x i => exact goes_extract h hd ho (hx _ (by simp)) he
  case nilCheck x => exact goes_nilCheck h hd ho (hx _ (by simp)) he
  case binOp op t x y t' => exact goes_binOp h hd ho (hx _ (by simp)) (hx _ (by simp)) he
  case unOp op t x => exact goes_unOp h hd ho (hx _ (by simp)) he
  case convert s t x => exact goes_convert h hd ho (hx _ (by simp)) he
  case makeFunc fn fi ca => exact goes_makeFunc h hd ho (List.all_eq_true.2 fun x hq => hx x (by simp at hq ⊢; exact .inl hq)) (List.all_eq_true.2 fun x hq => hx x (by simp at hq ⊢; exact .inr hq)) he
  case build t ps => exact goes_build h hd ho (fun p hp => hx p.2 (by simp; exact ⟨p.1, by simpa using hp⟩)) he
  case buildSlice t n ps => exact goes_buildSlice h hd ho (fun p hp => hx p.2 (by simp; exact ⟨p.1, by simpa using hp⟩)) he
  case slice t x lo hi mx =>
    cases mx with
    | none => exact goes_slice h hd ho (hx _ (by simp)) (fun z hz => hx z (by simp [hz])) (fun z hz => hx z (by simp [hz])) he
    | some m => simp [pstep, ho] at he
  case call c =>
    obtain ⟨cl, as, tys⟩ := c
    cases cl with
    | builtin b => exact goes_built h hd ho (fun x hxx => hx x (by simpa [Call.operands] using hxx)) he
    | _ => simp [pstep, ho] at he
  all_goals (simp [pstep, ho] at he)

theorem run_call {k : FuncId} {fn : Func} (hf : P.funcs[k]? = some fn) (hn : (fn.name == "runtime.NumGoroutine") = false) (hb : fn.body.isNone = false) (args : Array Value) :
    (callFunc k args).run P w = .ok (.enter k args) w := by
  simp only [beq_eq_false_iff_ne, ne_eq] at hn
  simp only [Option.isNone_eq_false_iff] at hb
  have hb' : fn.body ≠ none := by intro e; rw [e] at hb; cases hb
  simp [callFunc, program, Sem.run, hf, hn, hb']
/-- What any operation comes to, as the walk's own word. -/
theorem pop_wp (h : StM N M0 w0 f H mu a w) (hk : opOk N o = true) (hfx : ∀ d, o.dst = some d → w0.fix d = false) (hp : POp P o f H e) {n : Nat} {K : Act → World → Prop} {Q : Exit → Act → World → Prop}
    (hK : ∀ v w' mu', StM N M0 w0 (updo f o.dst e.res) (app H e.wr) mu' (a.put o.dst v) w' → K (a.put o.dst v) w') : o.wpIn (fen w0.ro) n P a w K Q := by
  have hd : ∀ d, o.dst = some d → d < N ∧ w0.fix d = false := fun d hd => ⟨opOk_dst hk d hd, hfx d hd⟩
  cases hp with
  | step e he => exact goes_wp (goes_step h hk hfx he) (pstep_nodefer he) hK
  | call x as tys k first cap ds res ho hx ha hc =>
    have hx0 := opOk_ops hk
    simp only [ho, Op.operands, Call.operands] at hx0
    have hv := ev_sound h (hx0 x (by simp))
    rw [hx] at hv
    generalize hev : a.eval x = v at hv
    obtain ⟨⟨fn, hf, hn, hb⟩, hcall⟩ := hc
    cases (show Rep (Mut M0 H mu) w v (.fn (.func k) first cap) from hv) with
    | fn fk vs us ds' es h1 h2 =>
      have hargs : RepL (Mut M0 H mu) w (as.toList.map a.eval) ds := by
        refine toDs_sound ha (by simp) fun j v x hj hy => ?_
        simp only [List.getElem?_map, Option.map_eq_some_iff] at hj hy
        obtain ⟨q, hq, rfl⟩ := hj
        obtain ⟨q', hq', rfl⟩ := hy
        rw [hq] at hq'
        cases hq'
        exact ev_sound h (hx0 q (by simp; exact .inr (Array.mem_toList_iff.1 (List.mem_of_getElem? hq))))
      have hall := (h1.append hargs).append h2
      have hrun : (execOp a.eval o).run P w = .ok (.enter k (vs ++ as.map a.eval ++ us)) w := by
        simp only [execOp, ho, resolve, hev, Deferred.ofValue, Sem.run_bind, Sem.run_pure, Result.andThen_ok, invoke]
        exact run_call hf hn hb _
      have hcc := hcall (Mut M0 H mu) w (vs.toList ++ as.toList.map a.eval ++ us.toList) h.gl hall (fun x hx => h.mut_lt hx)
      have e1 : (vs.toList ++ as.toList.map a.eval ++ us.toList).toArray = vs ++ as.map a.eval ++ us := by
        apply Array.ext'; simp
      rw [e1] at hcc
      refine wpIn_enter (nodefer ho (by simp)) hrun (hcc.mono ?_)
      rintro e w' ⟨u, rfl, hu, hw⟩
      exact ⟨u, rfl, hK u w' mu ((h.grow hw).put hd hu)⟩
  | calln x as tys k first cap ds res ho hx ha hc =>
    have hx0 := opOk_ops hk
    simp only [ho, Op.operands, Call.operands] at hx0
    have hv := ev_sound h (hx0 x (by simp))
    rw [hx] at hv
    generalize hev : a.eval x = v at hv
    obtain ⟨⟨fn, hf, hn, hb⟩, hcall⟩ := hc
    cases (show Rep (Mut M0 H mu) w v (.fn (.func k) first cap) from hv) with
    | fn fk vs us ds' es h1 h2 =>
      have hargs : RepL (Mut M0 H mu) w (as.toList.map a.eval) ds := by
        refine toDsN_sound ha (by simp) fun j v x hj hy => ?_
        simp only [List.getElem?_map, Option.map_eq_some_iff] at hj hy
        obtain ⟨q, hq, rfl⟩ := hj
        obtain ⟨q', hq', rfl⟩ := hy
        rw [hq] at hq'
        cases hq'
        exact ev_sound h (hx0 q (by simp; exact .inr (Array.mem_toList_iff.1 (List.mem_of_getElem? hq))))
      have hall := (h1.append hargs).append h2
      have hrun : (execOp a.eval o).run P w = .ok (.enter k (vs ++ as.map a.eval ++ us)) w := by
        simp only [execOp, ho, resolve, hev, Deferred.ofValue, Sem.run_bind, Sem.run_pure, Result.andThen_ok, invoke]
        exact run_call hf hn hb _
      have hcc := hcall (Mut M0 H mu) w (vs.toList ++ as.toList.map a.eval ++ us.toList) h.gl hall (fun x hx => h.mut_lt hx)
      have e1 : (vs.toList ++ as.toList.map a.eval ++ us.toList).toArray = vs ++ as.map a.eval ++ us := by
        apply Array.ext'; simp
      rw [e1] at hcc
      refine wpIn_enter (nodefer ho (by simp)) hrun (hcc.mono ?_)
      rintro e w' ⟨u, rfl, hu, hw⟩
      exact ⟨u, rfl, hK u w' mu ((h.grow hw).put hd hu)⟩
  | callm x as tys k args H0 H1 res ρ ns0 ns1 ho hx hc hh =>
    have hx0 := opOk_ops hk
    simp only [ho, Op.operands, Call.operands] at hx0
    have hv := ev_sound h (hx0 x (by simp))
    rw [hx] at hv
    generalize hev : a.eval x = v at hv
    obtain ⟨⟨fn, hf, hn, hb⟩, -, hcall⟩ := hc
    cases (show Rep (Mut M0 H mu) w v (.fn (.func k) [] []) from hv) with
    | fn fk vs us ds' es h1 h2 =>
      have hvs : vs = #[] := by apply Array.ext'; have := h1.length; simpa using this
      have hus : us = #[] := by apply Array.ext'; have := h2.length; simpa using this
      subst hvs hus
      have hst : Stay (Mut M0 H mu) w (Mut ⟨Rest M0 H mu ρ ns0, fun _ => False⟩ H0 (mu0of mu ρ ns0)) w := stay_iff fun x => (rest_mut hh.d0 hh.hH hh.cl0 x).symm
      have hag : ∀ s ∈ ns0, H (ρ s) = (H0 s).ren ρ ∧ mu (ρ s) = mu0of mu ρ ns0 s := fun s hs => ⟨hh.hH s hs, by simp [mu0of, hs]⟩
      have hrun : (execOp a.eval o).run P w = .ok (.enter k (as.map a.eval)) w := by
        simp only [execOp, ho, resolve, hev, Deferred.ofValue, Sem.run_bind, Sem.run_pure, Result.andThen_ok, invoke, Array.empty_append, Array.append_empty]
        exact run_call hf hn hb _
      have hcc := hcall (Rest M0 H mu ρ ns0) (mu0of mu ρ ns0) w (as.toList.map a.eval) (h.mem0 hh.d0 hh.hH hh.cl0 fun s hs t ht => hh.inj s (hh.sub s hs) t (hh.sub t ht)) (by simpa using hh.len) fun j v z hj hz => by
        simp only [List.getElem?_map, Option.map_eq_some_iff] at hj
        obtain ⟨q, hq, rfl⟩ := hj
        have hy := ev_sound h (hx0 q (by simp; exact .inr (Array.mem_toList_iff.1 (List.mem_of_getElem? hq))))
        rcases hh.arg j (ev f q) z (by simp only [List.getElem?_map, hq, Option.map_some]) hz with ⟨g1, g2⟩ | ⟨d, g1, rfl⟩
        · rw [g2] at hy
          exact hy.unren hst hag g1
        · exact Rep.mono hst (SRep.toD hy g1)
      have e1 : (as.toList.map a.eval).toArray = as.map a.eval := by apply Array.ext'; simp
      rw [e1] at hcc
      refine wpIn_enter (nodefer ho (by simp)) hrun (hcc.mono ?_)
      rintro e w' ⟨u, mu1, rfl, hu, hm, hs, hb, hp⟩
      obtain ⟨mu', h', hr⟩ := h.callm hh.d0 hh.d1 hh.hH hh.cl0 hh.cl1 hh.sub hh.inj hh.fresh (appM_in hh.inj) (fun t ht => appM_out ht) hm hs hb hp
      exact ⟨u, rfl, hK u w' mu' (h'.put hd (hr u res hh.res hu))⟩
  | buildn t parts zs pl ps cs ho hz hpl hps hf =>
    have hx0 := opOk_ops hk
    simp only [ho, Op.operands] at hx0
    exact goes_wp (goes_buildN h hd ho (fun p hp => hx0 p.2 (by simp; exact ⟨p.1, by simpa using hp⟩)) hz hpl hps hf) (nodefer ho (by simp)) hK
  | ice t x ys ds ho hc hds =>
    have hx0 := opOk_ops hk
    simp only [ho, Op.operands] at hx0
    exact goes_wp (goes_ice h hd ho (hx0 x (by simp)) hc hds) (nodefer ho (by simp)) hK
  | eql op t t' x y xs ys b ho hx hy hb hop =>
    have hx0 := opOk_ops hk
    simp only [ho, Op.operands] at hx0
    have hv := ev_sound h (hx0 x (by simp))
    have hu := ev_sound h (hx0 y (by simp))
    rw [hx] at hv
    rw [hy] at hu
    obtain ⟨vs, e1, g1, g3⟩ := SRep.d_agg hv
    obtain ⟨us, e2, g2, g4⟩ := SRep.d_agg hu
    obtain ⟨k1, k2⟩ := hb _ w vs us x y op hop g1 g2 g3 g4
    have hrun : (execOp a.eval o).run P w = .ok (.value (.bool (if op = .eql then b else !b))) w := by
      rcases hop with rfl | rfl <;> simp [execOp, ho, e1, e2, k1, binOp, k2]
    exact wpIn_value (nodefer ho (by simp)) hrun (hK _ w mu (h.put hd (Rep.bool _)))
  | grow s x t r n m cs news zs e sz bts ho hes hH hex hel hz hzl hsz hlen hb hmax =>
    have hx0 := opOk_ops hk
    simp only [ho, Op.operands, Call.operands] at hx0
    exact goes_wp (goes_app h hd ho (hx0 s (by simp)) (hx0 x (by simp)) hes hH hex hel hz hzl hsz hlen hb hmax) (nodefer ho (by simp)) hK
  | grow0 s x t r m news zs e sz bts ho hdr hes hH hex hel hz hzl hsz hlen hb hmax =>
    have hx0 := opOk_ops hk
    simp only [ho, Op.operands, Call.operands] at hx0
    exact goes_wp (goes_appN h hd ho (hx0 s (by simp)) (hx0 x (by simp)) hdr hes hH hex hel hz hzl hsz hlen hb hmax) (nodefer ho (by simp)) hK
  | vapp s x t r ver n m cs news zs e sz bts ho hes hH hex hel hz hzl hsz hmp hlen hb hmax =>
    have hx0 := opOk_ops hk
    simp only [ho, Op.operands, Call.operands] at hx0
    exact goes_wp (goes_vapp h hd ho (hx0 s (by simp)) (hx0 x (by simp)) hes hH hex hel hz hzl hsz hmp hlen hb hmax) (nodefer ho (by simp)) hK
  | vapp0 s x t r m news zs e sz bts ho hdr hes hH hex hel hz hzl hsz hmp hlen hb hmax =>
    have hx0 := opOk_ops hk
    simp only [ho, Op.operands, Call.operands] at hx0
    exact goes_wp (goes_vappN h hd ho (hx0 s (by simp)) (hx0 x (by simp)) hdr hes hH hex hel hz hzl hsz hmp hlen hb hmax) (nodefer ho (by simp)) hK
  | vbuild t len parts s et sz bts ps zs cs ho hdr hs hel hps hz hc hf hcl =>
    have hx0 := opOk_ops hk
    simp only [ho, Op.operands] at hx0
    exact goes_wp (goes_vbuild h hd ho (fun p hp => hx0 p.2 (by simp; exact ⟨p.1, by simpa using hp⟩)) hdr hs hel hps hz hc hf hcl) (nodefer ho (by simp)) hK

/-- Any operation whatever, by what it does to every state of this kind. -/
def Sem1 (P : Program) (o : Oper) (f : Frm) (H : Hp) (K : Frm → Hp → Prop) : Prop :=
  ∀ (N : Nat) (M0 : MM) (C : Ctx) (mu : Nat → Option Nat) (a : Act) (w : World) (n : Nat) (Q : Exit → Act → World → Prop) (Kw : Act → World → Prop), C.P = P → opOk N o = true → (∀ d, o.dst = some d → C.fix d = false) → StM N M0 C f H mu a w →
    (∀ f' H' M0' mu' a' w', StM N M0' C f' H' mu' a' w' → K f' H' → Kw a' w') → o.wpIn (fen C.ro) n P a w Kw Q

theorem partsD_local : ∀ {l : List (Nat × Operand)}, (∀ p ∈ l, ev f p.2 = ev f' p.2) → partsD f l = partsD f' l
  | [], _ => rfl
  | p :: l, h => by
    obtain ⟨i, x⟩ := p
    simp only [partsD]
    rw [h (i, x) (by simp), partsD_local fun q hq => h q (by simp [hq])]
theorem bndD_local {y d : Nat} {x : Option Operand} (h : ∀ z, x = some z → ev f z = ev f' z) : bndD f y d x = bndD f' y d x := by
  cases x with
  | none => rfl
  | some z => simp only [bndD, h z rfl]
theorem pBuilt_local {b : Builtin} {as : List Operand} {tys : List TypeId} {v : SV} {rd : Option Nat} (he : pBuilt P f H b as tys = some (v, rd)) (h : ∀ x ∈ as, ev f x = ev f' x) (hH : ∀ s, rd = some s → H s = H' s) : pBuilt P f' H' b as tys = some (v, rd) := by
  unfold pBuilt at he ⊢
  split at he
  · rename_i x t
    rw [← h _ (by simp)]
    split at he
    · rename_i r off n cap hs
      (try simp only [hs]); exact he
    · rename_i r ver n hs
      (try simp only [hs]); exact he
    · rename_i hnb hnb2
      cases hs : ev f x with
      | bs r off n cap => exact absurd hs (hnb r off n cap)
      | vec r ver n => exact absurd hs (hnb2 r ver n)
      | _ => rw [hs] at he; exact he
  · rw [← h _ (by simp), ← h _ (by simp)]; exact he
  · rw [← h _ (by simp), ← h _ (by simp)]; exact he
  · cases he
/-- What a step hangs on: its operands and the names that it touches. -/
theorem pstep_local (he : pstep P o f H = some e) (hf : ∀ x ∈ o.op.operands.toList, ev f x = ev f' x) (hH : ∀ s, (e.rd = some s ∨ ∃ q, (s, q) ∈ e.wr) → H s = H' s) : pstep P o f' H' = some e := by
  cases ho : o.op <;> simp only [ho, Op.operands] at hf <;> simp only [pstep, ho] at he ⊢
  case move x => rw [← hf x (by simp)]; exact he
  case assign x => rw [← hf x (by simp)]; exact he
  case pick c x y => rw [← hf c (by simp), ← hf x (by simp), ← hf y (by simp)]; exact he
  case alloc t =>
    split at he
    · rename_i s zs hs hz
      split at he
      · rename_i hn
        cases he
        simp only [← hH s (.inr ⟨_, List.mem_singleton_self _⟩), hn]
      · cases he
    · cases he
  case box t x =>
    rw [← hf x (by simp)]
    split at he
    · rename_i s zs hs hz
      split at he
      · rename_i hn
        cases he
        simp only [hz, ← hH s (.inr ⟨_, List.mem_singleton_self _⟩), hn]
      · cases he
    · cases he
  case load t x =>
    rw [← hf x (by simp)]
    split at he
    · rename_i s off ag n hs ht
      split at he
      · rename_i cs hcs
        split at he
        · rename_i v hv
          cases he
          simp only [hs, ht, ← hH s (.inl rfl), hcs, hv]
        · cases he
      · cases he
    · rename_i r ver off ag n hs ht
      split at he
      · rename_i e1 sz1 ver2 cs hcs
        split at he
        · rename_i hvv
          split at he
          · rename_i v hv
            cases he
            simp only [hs, ht, ← hH r (.inl rfl), hcs, hv, if_pos hvv]
          · cases he
        · cases he
      · cases he
    · rename_i cs ag n hs ht
      split at he
      · rename_i v hv
        cases he
        simp only [hs, ht, hv]
      · cases he
    · cases he
  case store t x y =>
    rw [← hf x (by simp), ← hf y (by simp)]
    split at he
    · rename_i s off ag n ys hs ht hy
      split at he
      · rename_i cs hcs
        split at he
        · rename_i hb
          cases he
          simp only [← hH s (.inl rfl), hcs, if_pos hb]
        · cases he
      · cases he
    · rename_i r ver off ag n ys hs ht hy
      split at he
      · rename_i e1 sz1 ver2 cs hcs
        split at he
        · rename_i hb
          cases he
          simp only [← hH r (.inl rfl), hcs, if_pos hb]
        · cases he
      · cases he
    · cases he
  case fieldAddr t x i =>
    rw [← hf x (by simp)]
    split at he
    · rename_i s o off ag n hs ht
      (try simp only [hs, ht]); exact he
    · rename_i r ver o off ag n hs ht
      (try simp only [hs, ht]); exact he
    · rename_i cs off ag n hs ht
      (try simp only [hs, ht]); exact he
    · cases he
  case field t x i => rw [← hf x (by simp)]; exact he
  case indexAddr t x i =>
    rw [← hf x (by simp), ← hf i (by simp)]
    split at he
    · rename_i s off n cap et sz by_ k j hs ht hj
      (try simp only [hs, ht, hj]); exact he
    · rename_i r ver n et sz by_ k j hs ht hj
      (try simp only [hs, ht, hj]); exact he
    · rename_i et sz by_ k j ht hj hnb hnb2
      cases hs : ev f x with
      | bs s off n cap => exact absurd hs (hnb s off n cap)
      | vec r ver n => exact absurd hs (hnb2 r ver n)
      | _ => rw [hs] at he; (try simp only [ht, hj]); exact he
    · cases he
  case index t x i => rw [← hf x (by simp), ← hf i (by simp)]; exact he
  case extract x i => rw [← hf x (by simp)]; exact he
  case nilCheck x => rw [← hf x (by simp)]; exact he
  case binOp op t x y t' => rw [← hf x (by simp), ← hf y (by simp)]; exact he
  case unOp op t x => rw [← hf x (by simp)]; exact he
  case convert s t x =>
    rw [← hf x (by simp)]
    split at he
    · rename_i r off n cap hs
      split at he
      · rename_i et sz by_ cs hel hst hcs
        split at he
        · rename_i ds hik hds
          split at he
          · rename_i bs hbs
            cases he
            simp only [hs, hel, hst, ← hH r (.inl rfl), hcs, hik, hds, hbs]
          · cases he
        · cases he
      · cases he
    · rename_i r ver n hs
      split at he
      · rename_i et sz0 by_ e1 sz ver2 cs hel hst hcs
        split at he
        · rename_i hvv
          split at he
          · rename_i ds hik hds
            split at he
            · rename_i bs hbs
              cases he
              simp only [hs, hel, hst, ← hH r (.inl rfl), hcs, if_pos hvv, hik, hds, hbs]
            · cases he
          · cases he
        · cases he
      · cases he
    · rename_i hnb hnb2
      cases hs : ev f x with
      | bs r off n cap => exact absurd hs (hnb r off n cap)
      | vec r ver n => exact absurd hs (hnb2 r ver n)
      | _ => rw [hs] at he; exact he
  case makeFunc fn fi ca =>
    have e1 : fi.toList.map (ev f') = fi.toList.map (ev f) := List.map_congr_left fun x hx => (hf x (by simp at hx ⊢; exact .inl hx)).symm
    have e2 : ca.toList.map (ev f') = ca.toList.map (ev f) := List.map_congr_left fun x hx => (hf x (by simp at hx ⊢; exact .inr hx)).symm
    rw [e1, e2]; exact he
  case build t ps =>
    rw [← partsD_local fun p hp => hf p.2 (by simp; exact ⟨p.1, by simpa using hp⟩)]; exact he
  case buildSlice t n ps =>
    rw [← partsD_local fun p hp => hf p.2 (by simp; exact ⟨p.1, by simpa using hp⟩)]; exact he
  case slice t x lo hi mx =>
    cases mx with
    | some m => simp at he
    | none =>
      simp only at he ⊢
      rw [← hf x (by simp)]
      have e1 : ∀ y d, bndD f' y d lo = bndD f y d lo := fun y d => bndD_local fun z hz => (hf z (by simp [hz])).symm
      have e2 : ∀ y d, bndD f' y d hi = bndD f y d hi := fun y d => bndD_local fun z hz => (hf z (by simp [hz])).symm
      simp only [e1, e2]
      exact he
  case call c =>
    obtain ⟨cl, as, tys⟩ := c
    cases cl with
    | builtin b =>
      simp only at he ⊢
      split at he
      · rename_i v rd hb
        cases he
        rw [pBuilt_local hb (fun x hx => hf x (by simpa [Call.operands] using hx)) fun s hs => hH s (.inl hs)]
      · cases he
    | _ => simp at he
  all_goals (simp at he)
theorem pop_local (he : POp P o f H e) (hf : ∀ x ∈ o.op.operands.toList, ev f x = ev f' x) (hH : ∀ s, (e.rd = some s ∨ ∃ q, (s, q) ∈ e.wr) → H s = H' s) : POp P o f' H' e := by
  cases he with
  | step e he => exact .step e (pstep_local he hf hH)
  | call x as tys k first cap ds res ho hx ha hc =>
    simp only [ho, Op.operands, Call.operands] at hf
    refine .call x as tys k first cap ds res ho ((hf x (by simp)).symm.trans hx) ?_ hc
    rw [← ha]
    congr 1
    exact List.map_congr_left fun q hq => (hf q (by simp; exact .inr (Array.mem_toList_iff.1 hq))).symm
  | calln x as tys k first cap ds res ho hx ha hc =>
    simp only [ho, Op.operands, Call.operands] at hf
    refine .calln x as tys k first cap ds res ho ((hf x (by simp)).symm.trans hx) ?_ hc
    rw [← ha]
    congr 1
    exact List.map_congr_left fun q hq => (hf q (by simp; exact .inr (Array.mem_toList_iff.1 hq))).symm
  | callm x as tys k args H0 H1 res ρ ns0 ns1 ho hx hc hh =>
    simp only [ho, Op.operands, Call.operands] at hf
    have e1 : as.toList.map (ev f') = as.toList.map (ev f) := List.map_congr_left fun q hq => (hf q (by simp; exact .inr (Array.mem_toList_iff.1 hq))).symm
    have e2 : ∀ s ∈ ns1, H (ρ s) = H' (ρ s) := fun s hs => hH (ρ s) (.inr ⟨(H1 s).ren ρ, List.mem_map.2 ⟨s, hs, rfl⟩⟩)
    refine .callm x as tys k args H0 H1 res ρ ns0 ns1 ho ((hf x (by simp)).symm.trans hx) hc ?_
    rw [e1]
    exact { hh with hH := fun s hs => (e2 s (hh.sub s hs)).symm.trans (hh.hH s hs), fresh := fun s hs h0 => ⟨(e2 s hs).symm.trans (hh.fresh s hs h0).1, (hh.fresh s hs h0).2⟩ }
  | buildn t parts zs pl ps cs ho hz hpl hps hf' =>
    simp only [ho, Op.operands] at hf
    exact .buildn t parts zs pl ps cs ho hz hpl (by rw [← partsD_local fun p hp => hf p.2 (by simp; exact ⟨p.1, by simpa using hp⟩)]; exact hps) hf'
  | ice t x ys ds ho hc hds =>
    simp only [ho, Op.operands] at hf
    exact .ice t x ys ds ho (by rw [← hf x (by simp)]; exact hc) hds
  | eql op t t' x y xs ys b ho hx hy hb hop =>
    simp only [ho, Op.operands] at hf
    exact .eql op t t' x y xs ys b ho ((hf x (by simp)).symm.trans hx) ((hf y (by simp)).symm.trans hy) hb hop
  | grow s x t r n m cs news zs e sz bts ho hes hH' hex hel hz hzl hsz hlen hb hmax =>
    simp only [ho, Op.operands, Call.operands] at hf
    exact .grow s x t r n m cs news zs e sz bts ho ((hf s (by simp)).symm.trans hes) ((hH r (.inl rfl)).symm.trans hH') (by rw [← hf x (by simp)]; exact hex) hel hz hzl hsz hlen hb hmax
  | grow0 s x t r m news zs e sz bts ho hdr hes hH' hex hel hz hzl hsz hlen hb hmax =>
    simp only [ho, Op.operands, Call.operands] at hf
    exact .grow0 s x t r m news zs e sz bts ho hdr ((hf s (by simp)).symm.trans hes) ((hH r (.inl rfl)).symm.trans hH') (by rw [← hf x (by simp)]; exact hex) hel hz hzl hsz hlen hb hmax
  | vapp s x t r ver n m cs news zs e sz bts ho hes hH' hex hel hz hzl hsz hmp hlen hb hmax =>
    simp only [ho, Op.operands, Call.operands] at hf
    exact .vapp s x t r ver n m cs news zs e sz bts ho ((hf s (by simp)).symm.trans hes) ((hH r (.inl rfl)).symm.trans hH') (by rw [← hf x (by simp)]; exact hex) hel hz hzl hsz hmp hlen hb hmax
  | vapp0 s x t r m news zs e sz bts ho hdr hes hH' hex hel hz hzl hsz hmp hlen hb hmax =>
    simp only [ho, Op.operands, Call.operands] at hf
    exact .vapp0 s x t r m news zs e sz bts ho hdr ((hf s (by simp)).symm.trans hes) ((hH r (.inl rfl)).symm.trans hH') (by rw [← hf x (by simp)]; exact hex) hel hz hzl hsz hmp hlen hb hmax
  | vbuild t len parts s et sz bts ps zs cs ho hdr hs hel hps hz hc hf' hcl =>
    simp only [ho, Op.operands] at hf
    exact .vbuild t len parts s et sz bts ps zs cs ho hdr ((hH s (.inr ⟨_, List.mem_singleton_self _⟩)).symm.trans hs) hel (by rw [← partsD_local fun p hp => hf p.2 (by simp; exact ⟨p.1, by simpa using hp⟩)]; exact hps) hz hc hf' hcl
end
end Go.Proofs.YtefiebkngpcaoaaDoor
