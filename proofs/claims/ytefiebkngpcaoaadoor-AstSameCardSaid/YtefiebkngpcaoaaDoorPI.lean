/- The pure logic of iterators: a contract from a walk; a loop over one, for the walk. Conditions: the closed checks of the code. -/
import Derived.Test.YtefiebkngpcaoaaDoorPK
set_option maxRecDepth 100000
set_option linter.unusedVariables false
set_option linter.unusedSimpArgs false
set_option linter.unusedSectionVars false
namespace Go.Proofs.YtefiebkngpcaoaaDoor
open Go.RowKit

/-- An iterator's frame at its start. -/
def iniY (l : Nat) (xs : List (List D)) (cap : List D) : Frm := fun t => if t = 1000000 then .trace l [] xs else if t = 0 then .yld l else match cap[t - 1]? with
  | some d => d.sv
  | none => .d (.tup [])
/-- What an iterator's body must come to. -/
def itQ (l : Nat) (xs : List (List D)) : Exit → Frm → Hp → Prop
  | .normal, f, _ | .ret, f, _ => f 1000000 = .trace l xs [] ∨ f 1000000 = .stop
  | _, _, _ => False
theorem it_n {l : Nat} {xs : List (List D)} {f : Frm} {H : Hp} (h : f 1000000 = .trace l xs [] ∨ f 1000000 = .stop) : itQ l xs .normal f H := h
theorem it_r {l : Nat} {xs : List (List D)} {f : Frm} {H : Hp} (h : f 1000000 = .trace l xs [] ∨ f 1000000 = .stop) : itQ l xs .ret f H := h
def Ctx.iter (P : Program) (w : World) (M : Addr → Prop) (l : Nat) (J : List (List D) → List (List D) → (Addr → Prop) → (Addr → Prop) → World → Prop) (Jx : (Addr → Prop) → (Addr → Prop) → World → Prop)
    (hJ : ∀ pre rest Mc Mi Mi' w w', J pre rest Mc Mi w → Keep Mi w Mi' w' → (∀ x, Mi' x → x.block < w'.heap.size) → J pre rest Mc Mi' w') (hJx : ∀ Mc Mi Mi' w w', Jx Mc Mi w → Keep Mi w Mi' w' → (∀ x, Mi' x → x.block < w'.heap.size) → Jx Mc Mi' w')
    (hY : ∀ pre x rest Mc Mi W (args : Array Value), J pre (x :: rest) Mc Mi W → RepL (fun a => Mc a ∨ Mi a) W args.toList x →
      YieldGo P l args W fun b W' => ∃ Mc', Keep Mc W Mc' W' ∧ (∀ x, Mc' x → x.block < W'.heap.size) ∧ if b then J (pre ++ [x]) rest Mc' Mi W' else Jx Mc' Mi W') : Ctx where
  P := P
  w := w
  foot := fun _ => False
  pure := False
  c0 := M
  R := fun _ => True
  w1 := w
  X := fun _ => False
  fix := fun _ => false
  tm := #[]
  ro := none
  H0 := fun _ => .none
  mu0 := fun _ => none
  fp := fun _ _ => rfl
  J := fun l' pre rest Mc Mi W => l' = l ∧ J pre rest Mc Mi W
  Jx := Jx
  jst := fun _ pre rest Mc Mi Mi' w w' h k b => ⟨h.1, hJ pre rest Mc Mi Mi' w w' h.2 k b⟩
  jxst := hJx
  hy := fun l' pre x rest Mc Mi W args h ha => by
    obtain ⟨rfl, h⟩ := h
    obtain ⟨fn, tmps, assign, body, h1, h2⟩ := hY pre x rest Mc Mi W args h ha
    refine ⟨fn, tmps, assign, body, h1, h2.mono fun e W' ⟨b, g1, Mc', g2, g3, g4⟩ => ⟨b, g1, Mc', g2, g3, ?_⟩⟩
    cases b with
    | true => exact ⟨rfl, by simpa using g4⟩
    | false => simpa using g4
section
variable {P : Program}
theorem ps_of_pwp {k : FuncId} {fn : Func} {c : Code} {cap : List D} {xs : List (List D)} (hf : P.funcs[k]? = some fn) (hb : fn.body = some c) (hr : fn.results = #[])
    (hk : ((fn.name != "runtime.NumGoroutine") && codeOk fn.ntmps c && decide (cap.length + 1 ≤ fn.ntmps) && P.follows .mixedOrders && decide (fn.ntmps ≤ TR)) = true)
    (hp : ∀ l, pwp P c (itQ l xs) (iniY l xs cap) (fun _ => .none)) : PS P k cap xs := by
  simp only [Bool.and_eq_true, decide_eq_true_eq, bne, Bool.not_eq_true'] at hk
  obtain ⟨⟨⟨⟨hn, hc⟩, hl⟩, hmix⟩, hTR⟩ := hk
  refine ⟨⟨fn, hf, hn, by rw [hb]; rfl⟩, fun l J Jx M w vs hJ hJx hY hgl hvs hM h0 => ?_⟩
  have hlen := hvs.length
  obtain ⟨C, hC⟩ : ∃ C : Ctx, C = Ctx.iter P w M l J Jx hJ hJx hY := ⟨_, rfl⟩
  have hCp : C.P = P := by rw [hC]; rfl
  have hro : C.ro = none := by rw [hC]; rfl
  have hsnd := pwp_sound (N := fn.ntmps) hmix c C 0 (itQ l xs) (bodyPostM Fence.wide 0 P fn (fun e w' => (∃ v, e = .returned v) ∧ ∃ Mc Mi, J xs [] Mc Mi w' ∨ Jx Mc Mi w')) hCp hc (fun _ _ => by rw [hC]; rfl) ?_ ⟨M, fun _ => False⟩ (iniY l xs cap) (fun _ => .none) (fun _ => none)
    { tmps := #[Value.func (.yield l) #[] #[]] ++ vs.toArray ++ Array.replicate (fn.ntmps - (#[Value.func (.yield l) #[] #[]] ++ vs.toArray).size) undef, defers := [] } w ?_ (hp l)
  · rw [hro] at hsnd
    exact callsIn_wide.1 (callsIn_of_wp_marks (F := Fence.wide) (n := 0) hf hb trivial hsnd)
  · intro e f H a w' M0 mu hne h hq
    have fin : (f 1000000 = .trace l xs [] ∨ f 1000000 = .stop) → LeavesInM Fence.wide 0 P fn a.tmps (fun e w' => (∃ v, e = .returned v) ∧ ∃ Mc Mi, J xs [] Mc Mi w' ∨ Jx Mc Mi w') a.defers .returning w' := by
      intro hT
      refine leaves_of a.defers w' h (by rw [hC]; exact Nat.le_refl _) fun w2 h' => ?_
      obtain ⟨v, g1, g2⟩ := results_of (rs := []) h' hr rfl rfl
      refine ⟨v, g1, ⟨v, rfl⟩, ?_⟩
      rcases hT with hT | hT
      · have := (h'.tr l xs [] hT).2
        rw [hC] at this
        exact ⟨_, _, .inl (show l = l ∧ J xs [] M0.c (Mine M0 H mu) w2 from this).2⟩
      · have := (h'.st hT).2
        rw [hC] at this
        exact ⟨_, _, .inr this⟩
    cases e with
    | normal => exact fin hq
    | ret => exact fin hq
    | _ => exact hq.elim
  · have hmine : Mine ⟨M, fun _ => False⟩ (fun _ => HO.none) (fun _ => none) = fun _ => False := by
      funext y
      exact propext ⟨fun h => h.elim id fun ⟨s, hs⟩ => hs.elim, False.elim⟩
    have hslot : ∀ t, t < fn.ntmps → SRep ⟨M, fun _ => False⟩ (fun _ => HO.none) (fun _ => none) w ((#[Value.func (.yield l) #[] #[]] ++ vs.toArray ++ Array.replicate (fn.ntmps - (#[Value.func (.yield l) #[] #[]] ++ vs.toArray).size) undef).getD t undef) (iniY l xs cap t) := by
      intro t ht
      have ht' : t ≠ 1000000 := fun e => by subst e; exact absurd ht (Nat.not_lt.2 hTR)
      unfold iniY
      rw [if_neg ht']
      cases t with
      | zero =>
        rw [if_pos rfl]
        show _ = _
        simp [Array.getElem?_append]
      | succ t =>
        rw [if_neg (by omega)]
        have := ini_slots hvs (fn.ntmps - 1) t
        have e1 : (#[Value.func (.yield l) #[] #[]] ++ vs.toArray ++ Array.replicate (fn.ntmps - (#[Value.func (.yield l) #[] #[]] ++ vs.toArray).size) undef).getD (t + 1) undef = (vs.toArray ++ Array.replicate (fn.ntmps - 1 - vs.toArray.size) undef).getD t undef := by
          have e2 : fn.ntmps - (#[Value.func (.yield l) #[] #[]] ++ vs.toArray).size = fn.ntmps - 1 - vs.toArray.size := by simp; omega
          rw [e2, Array.append_assoc]
          simp [Array.getElem?_append]
        rw [e1]
        exact this
    rw [hC]
    exact ⟨(fun d hd => by cases hd), List.nodup_nil, fun _ => rfl, (by simp; omega), hTR, hslot, Nat.le_refl _, ⟨rfl, rfl, rfl⟩, False.elim, False.elim,
      ⟨rfl, rfl, rfl, Nat.le_refl _, fun x u _ h2 => absurd trivial h2, fun b _ h2 => absurd trivial (h2 ⟨b, 0, none⟩ rfl)⟩, fun y _ => Iff.rfl, fun x hx => hx.elim, fun x hx => hx.elim (hM x) False.elim, fun s b h => absurd rfl h, (fun s cs h => by cases h),
      (fun r e sz k h => by cases h), (fun r e sz ver cs h => by cases h), fun s s' b h => absurd rfl h, (fun t h => by cases h), (fun l' pre rest h => by
        have h : SV.trace l [] xs = .trace l' pre rest := h
        cases h
        exact ⟨id, rfl, by rw [hmine]; exact h0⟩), (fun h => by cases (show SV.trace l [] xs = .stop from h)), (fun l h => by cases h), Steps.same (fun s b h => absurd rfl h), hgl.iff fun x hx => hx.elim (fun h => h.elim id False.elim) fun ⟨s, hs⟩ => hs.elim⟩

end
section
variable {P : Program} {ops : Array Oper} {Q : List Sig → Frm → Hp → Prop} {o : Oper} {rest : List Oper} {tr : List Sig} {f : Frm} {H : Hp}
/-- yield: it goes on, or not. -/
theorem ev_yld {tm : Tmp} {x : Operand} {as : Array Operand} {tys : Array TypeId} {l : Nat} {pre xs : List (List D)} {d : List D} (hg : o.guard = none) (hd : o.dst = some tm) (ho : o.op = .call { callee := .value x, args := as, argTypes := tys }) (hx : ev f x = .yld l)
    (ht : f 1000000 = .trace l pre (d :: xs)) (ha : toDs (as.toList.map (ev f)) = some d) (hT : pEval P ops false Q rest (tr ++ [anySig]) (upd (upd f 1000000 (.trace l (pre ++ [d]) xs)) tm (.d (.bool true))) H)
    (hF : pEval P ops false Q rest (tr ++ [anySig]) (upd (upd f 1000000 .stop) tm (.d (.bool false))) H) : pEval P ops false Q (o :: rest) tr f H :=
  ev_any hg (sem_yield ho hx ht ha fun b => by
    rw [hd]
    cases b with
    | true => exact hT
    | false => exact hF)
/-- The yield is handed on. -/
theorem ev_dlg {tm : Tmp} {x q : Operand} {tys : Array TypeId} {l : Nat} {pre rest' xs : List (List D)} {k : FuncId} {cap : List D} (hg : o.guard = none) (hd : o.dst = some tm) (ho : o.op = .call { callee := .value x, args := #[q], argTypes := tys }) (hx : ev f x = .d (.fn (.func k) [] cap)) (hq : ev f q = .yld l) (hPS : PS P k cap xs)
    (ht : f 1000000 = .trace l pre (xs ++ rest')) (hT : pEval P ops false Q rest (tr ++ [anySig]) (upd (upd f 1000000 (.trace l (pre ++ xs) rest')) tm .junk) H)
    (hF : pEval P ops false Q rest (tr ++ [anySig]) (upd (upd f 1000000 .stop) tm .junk) H) : pEval P ops false Q (o :: rest) tr f H :=
  ev_any hg (sem_deleg ho hx hq hPS ht (by rw [hd]; exact hT) (by rw [hd]; exact hF))
theorem ev_dlg0 {tm : Tmp} {x q : Operand} {tys : Array TypeId} {l : Nat} {pre xs : List (List D)} {k : FuncId} {cap : List D} (hg : o.guard = none) (hd : o.dst = some tm) (ho : o.op = .call { callee := .value x, args := #[q], argTypes := tys }) (hx : ev f x = .d (.fn (.func k) [] cap)) (hq : ev f q = .yld l) (hPS : PS P k cap xs)
    (ht : f 1000000 = .trace l pre xs) (hT : pEval P ops false Q rest (tr ++ [anySig]) (upd (upd f 1000000 (.trace l (pre ++ xs) [])) tm .junk) H)
    (hF : pEval P ops false Q rest (tr ++ [anySig]) (upd (upd f 1000000 .stop) tm .junk) H) : pEval P ops false Q (o :: rest) tr f H :=
  ev_dlg hg hd ho hx hq hPS (by rw [List.append_nil]; exact ht) hT hF
end
attribute [irreducible] itQ
attribute [go_sem] iniY List.size_toArray
end Go.Proofs.YtefiebkngpcaoaaDoor
