/- The pure logic of iterators: a contract that says what is gone through; yield. No condition beyond each lemma's own. -/
import Derived.Test.YtefiebkngpcaoaaDoorPG3
set_option maxRecDepth 100000
set_option linter.unusedVariables false
set_option linter.unusedSimpArgs false
set_option linter.unusedSectionVars false
namespace Go.Proofs.YtefiebkngpcaoaaDoor
open Go.RowKit

/-- An iterator's contract: called with whatever body, it goes through these, in order, till it is told to stop. -/
def PS (P : Program) (k : FuncId) (cap : List D) (xs : List (List D)) : Prop :=
  (∃ fn, P.funcs[k]? = some fn ∧ (fn.name == "runtime.NumGoroutine") = false ∧ fn.body.isNone = false) ∧
  ∀ (l : Nat) (J : List (List D) → List (List D) → (Addr → Prop) → (Addr → Prop) → World → Prop) (Jx : (Addr → Prop) → (Addr → Prop) → World → Prop) (M : Addr → Prop) (w : World) (vs : List Value),
    (∀ pre rest Mc Mi Mi' w w', J pre rest Mc Mi w → Keep Mi w Mi' w' → (∀ x, Mi' x → x.block < w'.heap.size) → J pre rest Mc Mi' w') →
    (∀ Mc Mi Mi' w w', Jx Mc Mi w → Keep Mi w Mi' w' → (∀ x, Mi' x → x.block < w'.heap.size) → Jx Mc Mi' w') →
    (∀ pre x rest Mc Mi W (args : Array Value), J pre (x :: rest) Mc Mi W → RepL (fun a => Mc a ∨ Mi a) W args.toList x →
      YieldGo P l args W fun b W' => ∃ Mc', Keep Mc W Mc' W' ∧ (∀ x, Mc' x → x.block < W'.heap.size) ∧ if b then J (pre ++ [x]) rest Mc' Mi W' else Jx Mc' Mi W') →
    Globs M w → RepL M w vs cap → (∀ x, M x → x.block < w.heap.size) → J [] xs M (fun _ => False) w →
    Calls P k (#[.func (.yield l) #[] #[]] ++ vs.toArray) w fun e w' => (∃ v, e = .returned v) ∧ ∃ Mc Mi, J xs [] Mc Mi w' ∨ Jx Mc Mi w'
section
variable {P : Program} {o : Oper} {f : Frm} {H : Hp}
/-- yield, out of an iterator. -/
theorem sem_yield {x : Operand} {as : Array Operand} {tys : Array TypeId} {l : Nat} {pre rest : List (List D)} {d : List D} (ho : o.op = .call { callee := .value x, args := as, argTypes := tys }) (hx : ev f x = .yld l) (htr : f TR = .trace l pre (d :: rest))
    (ha : toDs (as.toList.map (ev f)) = some d) {K : Frm → Hp → Prop} (hK : ∀ b, K (updo (upd f TR (if b then .trace l (pre ++ [d]) rest else .stop)) o.dst (.d (.bool b))) H) : Sem1 P o f H K := by
  intro N M0 C mu a w n Q Kw hP hk hfx h hKw
  have hx0 := opOk_ops hk
  simp only [ho, Op.operands, Call.operands] at hx0
  have hv : a.eval x = .func (.yield l) #[] #[] := by
    have := ev_sound h (hx0 x (by simp))
    rw [hx] at this
    exact this
  have hargs : RepL (Mut M0 H mu) w (as.map a.eval).toList d := by
    rw [Array.toList_map]
    refine toDs_sound ha (by simp) fun j v x hj hy => ?_
    simp only [List.getElem?_map, Option.map_eq_some_iff] at hj hy
    obtain ⟨q, hq, rfl⟩ := hj
    obtain ⟨q', hq', rfl⟩ := hy
    rw [hq] at hq'
    cases hq'
    exact ev_sound h (hx0 q (by simp; exact .inr (Array.mem_toList_iff.1 (List.mem_of_getElem? hq))))
  obtain ⟨hp, hJ⟩ := h.tr l pre (d :: rest) htr
  have hset : ∀ y, M0.c y ∨ Mine M0 H mu y → Mut M0 H mu y := fun y hy => hy.elim (fun h1 => .inl (.inl h1)) fun h1 => h1.elim (fun h2 => .inl (.inr h2)) .inr
  have hargs' : RepL (fun y => M0.c y ∨ Mine M0 H mu y) w (as.map a.eval).toList d := RepL.mono (fun y u g1 g2 => ⟨g1, fun g3 => g2 (hset y g3)⟩) hargs
  obtain ⟨fn, tmps, assign, body, hrun, hround⟩ := C.hy l pre d rest M0.c (Mine M0 H mu) w _ hJ hargs'
  have hexec : (execOp a.eval o).run P w = .ok (.round l fn tmps assign body) w := by
    rw [← hP]
    simp only [execOp, ho, resolve, hv, Deferred.ofValue, Sem.run_bind, Sem.run_pure, Result.andThen_ok, invoke, Array.empty_append]
    exact hrun
  refine ⟨fun _ _ => trivial, ?_⟩
  rw [Oper.semAt_eq _ _ _ (nodefer ho (by simp)), hexec]
  refine ⟨(fun h => by cases h), ?_⟩
  have h1 : RoundIn Fence.wide (n - 1) P l fn tmps assign body w (fun e W' => ∃ b, e = .returned (.bool b) ∧ ∃ Mc', Keep M0.c w Mc' W' ∧ (∀ x, Mc' x → x.block < W'.heap.size) ∧ if b then C.J l (pre ++ [d]) rest Mc' (Mine M0 H mu) W' else C.Jx Mc' (Mine M0 H mu) W') := by
    rw [hP] at hround
    exact ⟨hround.1, fun c cs _ => hround.2 c cs (room_wide _)⟩
  have h2 := h1.mono (R' := fun
      | .returned v, w'' => Kw (a.put o.dst v) w''
      | .panicked chain, w'' => Q (.panic chain) a w''
      | .outgrown, _ => LetsOut Q) (by
    rintro e W' ⟨b, rfl, Mc', k1, k2, k3⟩
    have hs := StM.yielded (f' := upd f TR (if b then .trace l (pre ++ [d]) rest else .stop)) h hp k1 k2 (fun t ht => by
        simp only [upd]
        rw [if_neg]
        have := h.nle
        intro e
        subst e
        exact absurd ht (by omega))
      (fun l' pre' rest' ht => by
        simp only [upd, if_true] at ht
        cases b with
        | true => simp at ht; obtain ⟨rfl, rfl, rfl⟩ := ht; simpa using k3
        | false => simp at ht)
      (fun ht => by
        simp only [upd, if_true] at ht
        cases b with
        | true => simp at ht
        | false => simpa using k3)
    exact hKw _ _ _ _ _ _ (hs.put (v := .bool b) (x := .d (.bool b)) (fun d hd => ⟨opOk_dst hk d hd, hfx d hd⟩) (Rep.bool b)) (hK b))
  exact h2
/-- An iterator that hands its yield on to another one. -/
theorem sem_deleg {x q : Operand} {tys : Array TypeId} {l : Nat} {pre rest xs : List (List D)} {k : FuncId} {cap : List D} (ho : o.op = .call { callee := .value x, args := #[q], argTypes := tys }) (hx : ev f x = .d (.fn (.func k) [] cap)) (hq : ev f q = .yld l) (hPS : PS P k cap xs)
    (htr : f TR = .trace l pre (xs ++ rest)) {K : Frm → Hp → Prop} (hT : K (updo (upd f TR (.trace l (pre ++ xs) rest)) o.dst .junk) H) (hF : K (updo (upd f TR .stop) o.dst .junk) H) : Sem1 P o f H K := by
  intro N M0 C mu a w n Q Kw hP hk hfx h hKw
  have hx0 := opOk_ops hk
  simp only [ho, Op.operands, Call.operands] at hx0
  have hvq : a.eval q = .func (.yield l) #[] #[] := by
    have := ev_sound h (hx0 q (by simp))
    rw [hq] at this
    exact this
  have hv := ev_sound h (hx0 x (by simp))
  rw [hx] at hv
  obtain ⟨us, hvx, hus⟩ : ∃ us : Array Value, a.eval x = .func (.func k) #[] us ∧ RepL (Mut M0 H mu) w us.toList cap := by
    generalize a.eval x = v at hv
    cases (show Rep (Mut M0 H mu) w v (.fn (.func k) [] cap) from hv) with
    | fn fk vs us ds es g1 g2 =>
      have : vs = #[] := by
        apply Array.ext'
        have := g1.length
        simpa using this
      subst this
      exact ⟨us, rfl, g2⟩
  obtain ⟨⟨fn, hf, hn, hb⟩, hcall⟩ := hPS
  have hexec : (execOp a.eval o).run P w = .ok (.enter k (#[.func (.yield l) #[] #[]] ++ us)) w := by
    simp only [execOp, ho, resolve, hvx, Deferred.ofValue, Sem.run_bind, Sem.run_pure, Result.andThen_ok, invoke, Array.empty_append]
    have : (#[q] : Array Operand).map a.eval = #[.func (.yield l) #[] #[]] := by simp [hvq]
    rw [this]
    exact run_call hf hn hb _
  have updTR : ∀ (y : SV) (t : Nat), t < N → upd f TR y t = f t := fun y t ht => by
    simp only [upd]
    rw [if_neg]
    intro e
    have := h.nle
    subst e
    exact absurd ht (Nat.not_lt.2 this)
  have toUpd : ∀ {M : MM} {w' : World} {g g' : Frm}, StM N M C g H mu a w' → (∀ t, t < N → g' t = g t) → (∀ l pre rest, g' TR = .trace l pre rest → g TR = .trace l pre rest) → (g' TR = .stop → g TR = .stop) → StM N M C g' H mu a w' :=
    fun hs h1 h2 h3 => ⟨hs.marks, hs.nodup, hs.rdef, hs.size, hs.nle, fun t ht => by rw [h1 t ht]; exact hs.slots t ht, hs.base, hs.osq, hs.below, hs.cp, hs.keep, hs.xeq, hs.xc, hs.old, hs.sep, hs.box, hs.row, hs.vec, hs.inj, hs.same, fun l p r ht => hs.tr l p r (h2 l p r ht), fun ht => hs.st (h3 ht), hs.rnd, hs.mono, hs.gl⟩
  have hD : ∀ d ∈ a.defers, ∀ D, d.target = .collected D → D < w.heap.size := fun d hd D hD => by
    obtain ⟨D', g1, g2, g3, g4⟩ := h.marks d hd
    rw [g1] at hD
    simp only [Target.collected.injEq] at hD
    have := (Array.getElem?_eq_some_iff.1 g3).1
    omega
  have hro : ∀ r, C.ro = some r → r < w.heap.size := fun r hr => (Array.getElem?_eq_some_iff.1 (h.rnd r hr).1.choose_spec).1
  have hin : ∀ {c x' Mi Mi' : Addr → Prop} {W W' : World} {g : Frm}, StM N ⟨c, fun y => x' y ∨ Mi y⟩ C g H mu a W → (∀ y, Mi y → w.heap.size ≤ y.block) → w.heap.size ≤ W.heap.size → Keep Mi W Mi' W' → (∀ y, Mi' y → y.block < W'.heap.size) →
      StM N ⟨c, fun y => x' y ∨ Mi' y⟩ C g H mu a W' ∧ ∀ y, Mi' y → w.heap.size ≤ y.block := fun hs hmi hsz kp hb =>
    StM.inner hs kp hb h.keep.size h.base hsz hmi (fun d hd D hD' y hy hm => by have := hD d hd D hD'; have := hmi y hm; omega) (fun r hr y hy hm => by have := hro r hr; have := hmi y hm; omega)
  have hcc := hcall l (fun pre' rest' Mc Mi W => xs = pre' ++ rest' ∧ ∃ c x', Mc = Mut ⟨c, x'⟩ H mu ∧ StM N ⟨c, fun y => x' y ∨ Mi y⟩ C (upd f TR (.trace l (pre ++ pre') (rest' ++ rest))) H mu a W ∧ (∀ y, Mi y → w.heap.size ≤ y.block) ∧ w.heap.size ≤ W.heap.size)
    (fun Mc Mi W => ∃ c x', Mc = Mut ⟨c, x'⟩ H mu ∧ StM N ⟨c, fun y => x' y ∨ Mi y⟩ C (upd f TR .stop) H mu a W ∧ (∀ y, Mi y → w.heap.size ≤ y.block) ∧ w.heap.size ≤ W.heap.size)
    (Mut M0 H mu) w us.toList
    (fun pre' rest' Mc Mi Mi' W W' ⟨hxs, c, x', h1, h2, h3, h4⟩ kp hb => have ⟨k1, k2⟩ := hin h2 h3 h4 kp hb; ⟨hxs, c, x', h1, k1, k2, Nat.le_trans h4 kp.size⟩)
    (fun Mc Mi Mi' W W' ⟨c, x', h1, h2, h3, h4⟩ kp hb => have ⟨k1, k2⟩ := hin h2 h3 h4 kp hb; ⟨c, x', h1, k1, k2, Nat.le_trans h4 kp.size⟩)
    ?yield h.gl hus (fun x hx => h.mut_lt hx) ⟨by simp, M0.c, M0.x, rfl, toUpd (M := ⟨M0.c, fun y => M0.x y ∨ False⟩) (by simpa using h) (updTR _) (fun l' p r ht => by simp only [upd, if_true, List.append_nil] at ht; rw [htr]; exact ht) (fun ht => by simp only [upd, if_true] at ht; cases ht), fun y hy => hy.elim, Nat.le_refl _⟩
  case yield =>
    rintro pre' d rest' Mc Mi W args ⟨hxs, c, x', hm, hs, h3, h4⟩ hargs
    obtain ⟨hp, hJ⟩ := hs.tr l (pre ++ pre') (d :: (rest' ++ rest)) (by simp [upd])
    have hargs' : RepL (fun y => c y ∨ Mine ⟨c, fun y => x' y ∨ Mi y⟩ H mu y) W args.toList d := RepL.mono (fun y u g1 g2 => ⟨g1, fun g3 => g2 (by
      rw [hm]
      rcases g3 with g3 | (g3 | g3) | g3
      · exact .inl (.inl (.inl g3))
      · exact .inl (.inl (.inr g3))
      · exact .inr g3
      · exact .inl (.inr g3))⟩) hargs
    obtain ⟨fn, tmps, assign, body, hrun, hround⟩ := C.hy l (pre ++ pre') d (rest' ++ rest) c _ W args hJ hargs'
    rw [hP] at hrun hround
    refine ⟨fn, tmps, assign, body, hrun, hround.mono ?_⟩
    rintro e W' ⟨b, rfl, c', k1, k2, k3⟩
    have hkeep : Keep Mc W (Mut ⟨c', x'⟩ H mu) W' := by
      rw [hm]
      exact ⟨k1.os, k1.tape, k1.output, k1.size, fun y u g1 g2 => have ⟨q1, q2⟩ := k1.cell y u g1 fun g => g2 (.inl (.inl g)); ⟨q1, fun g => g.elim (fun g => g.elim q2 fun g => g2 (.inl (.inr g))) fun g => g2 (.inr g)⟩,
        fun b hb hm => have ⟨q1, q2⟩ := k1.blk b hb fun y hy g => hm y hy (.inl (.inl g)); ⟨q1, fun y hy g => g.elim (fun g => g.elim (q2 y hy) fun g => hm y hy (.inl (.inr g))) fun g => hm y hy (.inr g)⟩⟩
    have go : ∀ y : SV, (∀ l' p r, y = .trace l' p r → C.J l' p r c' (Mine ⟨c, fun y => x' y ∨ Mi y⟩ H mu) W') → (y = .stop → C.Jx c' (Mine ⟨c, fun y => x' y ∨ Mi y⟩ H mu) W') → StM N ⟨c', fun y => x' y ∨ Mi y⟩ C (upd f TR y) H mu a W' := fun y g1 g2 =>
      StM.yielded hs hp k1 k2 (fun t ht => by rw [updTR _ t ht, updTR _ t ht]) (fun l' p r ht => g1 l' p r (by simpa [upd] using ht)) (fun ht => g2 (by simpa [upd] using ht))
    refine ⟨b, rfl, Mut ⟨c', x'⟩ H mu, hkeep, ?_, ?_⟩
    · have hs' := go .junk (fun l' p r e => by cases e) (fun e => by cases e)
      exact fun y hy => hs'.mut_lt (hy.elim (fun g => g.elim (fun g => .inl (.inl g)) fun g => .inl (.inr (.inl g))) .inr)
    · cases b with
      | true =>
        simp only [if_true] at k3 ⊢
        exact ⟨by rw [hxs]; simp, c', x', rfl, go _ (fun l' p r e => by cases e; rw [← List.append_assoc]; exact k3) (fun e => by cases e), h3, Nat.le_trans h4 k1.size⟩
      | false =>
        simp only [Bool.false_eq_true, if_false] at k3 ⊢
        exact ⟨c', x', rfl, go _ (fun l' p r e => by cases e) (fun _ => k3), h3, Nat.le_trans h4 k1.size⟩
  rw [Array.toArray_toList] at hcc
  refine wpIn_enter (nodefer ho (by simp)) hexec (hcc.mono ?_)
  rintro e w' ⟨⟨v, rfl⟩, Mc, Mi, (⟨-, c, x', -, hs, -⟩ | ⟨c, x', -, hs, -⟩)⟩
  · exact ⟨v, rfl, hKw _ _ _ _ _ _ (hs.put (v := v) (x := .junk) (fun d hd => ⟨opOk_dst hk d hd, hfx d hd⟩) trivial) (by simpa using hT)⟩
  · exact ⟨v, rfl, hKw _ _ _ _ _ _ (hs.put (v := v) (x := .junk) (fun d hd => ⟨opOk_dst hk d hd, hfx d hd⟩) trivial) hF⟩
end
end Go.Proofs.YtefiebkngpcaoaaDoor
