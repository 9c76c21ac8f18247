/- Contracts of functions that write into memory handed in by name. No condition beyond each lemma's own. -/
import Derived.Test.YtandclggkgmpgaaPI
import Derived.Test.YtandclggkgmpgaaPF
import Derived.Test.YtandclggkgmpgaaPK
set_option maxRecDepth 100000
set_option linter.unusedVariables false
set_option linter.unusedSimpArgs false
set_option linter.unusedSectionVars false
namespace Go.Proofs.Ytandclggkgmpgaa
open Go.RowKit

def iniS (args : List SV) : Frm := fun t => match args[t]? with
  | some x => x
  | none => .d (.tup [])
/-- What the results' slots hold. -/
def resSlot (f : Frm) : ResultVar → SV
  | .tmp t => f t
  | .cell _ _ => .junk
def pResS (f : Frm) (rs : List ResultVar) (res : SV) : Prop := match rs with
  | [.tmp t] => f t = res
  | _ => ∃ ds, toDs (rs.map (resSlot f)) = some ds ∧ ds.length ≠ 1 ∧ res = .d (.tup ds)
/-- What a body must come to, over named memory. -/
def bodyM (P : Program) (rs : List ResultVar) (res : SV) (H1 : Hp) : Exit → Frm → Hp → Prop
  | .normal, f, H | .ret, f, H => ∃ f', Cv f H f' H1 ∧ pResS f' rs res
  | _, _, _ => False
def Ctx.names (P : Program) (w : World) (M : Addr → Prop) (H0 : Hp) (mu0 : Nat → Option Nat) (fp : ∀ s, s < TR → H0 s = .none) : Ctx :=
  { Ctx.plain P w M with foot := Foot H0 mu0, H0 := H0, mu0 := mu0, fp := fp }
section
variable {P : Program} {N : Nat} {M0 : MM} {C : Ctx} {w : World} {f : Frm} {H : Hp} {mu : Nat → Option Nat} {a : Act}
/-- What no other may write but those who could before. -/
theorem StM.lone (h : StM N M0 C f H mu a w) {v : Value} {x : SV} (hv : SRep M0 H mu w v x) : SRep ⟨M0.c, fun _ => False⟩ H mu w v x :=
  SRep.others (M0 := M0) (M0' := ⟨M0.c, fun _ => False⟩) (fun y u h1 h2 => ⟨h1, fun h3 => h2 (h3.elim (fun h4 => h4.elim (fun h5 => .inl (.inl h5)) False.elim) .inr)⟩) (fun s b _ _ => rfl) hv
theorem StM.mem (h : StM N M0 C f H mu a w) (hrow : ∀ r e size k, H r ≠ .row e size k) : Mem M0.c H mu w where
  old := fun x hx => h.old x (.inl hx)
  sep := fun s b h1 h2 x hx hm => h.sep s b h1 h2 x hx (.inl hm)
  box := fun s cs hs => by
    obtain ⟨b, arr, e, h1, h2, h3, h4, h5⟩ := h.box s cs hs
    exact ⟨b, arr, e, h1, h3, h4, fun j x hj => ⟨h.lone (h5 j x hj).1, (h5 j x hj).2⟩⟩
  row := hrow
  vec := fun r e sz ver cs hr => by
    rcases h.vec r e sz ver cs hr with h1 | ⟨g, cur, h1, h2, h3, h4, h5, h6⟩
    · exact .inl h1
    · exact .inr ⟨g, cur, h1, h3, h4, h5, fun j x hj => h.lone (h6 j x hj)⟩
  inj := h.inj
  gl := h.gl.iff fun x hx => hx.elim (fun h1 => h1.elim (fun h2 => .inl (.inl h2)) False.elim) .inr
theorem resS_of (h : StM N M0 C f H mu a w) {fn : Func} {rs : List ResultVar} (hr : fn.results = rs.toArray) (hro : resOk N rs = true) {res : SV} (h1 : pResS f rs res) : ∃ v, (results fn a.tmps).run P w = .ok v w ∧ SRep M0 H mu w v res := by
  have gen : (∃ ds, toDs (rs.map (resSlot f)) = some ds ∧ ds.length ≠ 1 ∧ res = .d (.tup ds)) → ∃ v, (results fn a.tmps).run P w = .ok v w ∧ SRep M0 H mu w v res := by
    rintro ⟨ds, h2, h3, rfl⟩
    have hslot : ∀ r ∈ rs, SRep M0 H mu w (match r with | .tmp t => a.tmps.getD t undef | .cell _ _ => undef) (resSlot f r) := fun r hr => by
      cases r with
      | tmp t =>
        have : resOk N [.tmp t] = true := by
          simp only [resOk, List.all_eq_true] at hro ⊢
          intro x hx
          simp at hx
          subst hx
          exact hro _ hr
        exact h.slots t (by simpa [resOk] using this)
      | cell t ty => exact trivial
    have hrep : RepL (Mut M0 H mu) w (rs.map fun r => match r with | .tmp t => a.tmps.getD t undef | .cell _ _ => undef) ds := by
      refine toDs_sound h2 (by simp) fun j v x hj hy => ?_
      simp only [List.getElem?_map, Option.map_eq_some_iff] at hj hy
      obtain ⟨q, hq, rfl⟩ := hj
      obtain ⟨q', hq', rfl⟩ := hy
      rw [hq] at hq'
      cases hq'
      exact hslot q (List.mem_of_getElem? hq)
    have hcell : ∀ r ∈ rs, ∃ t, r = .tmp t := fun r hr => by
      cases r with
      | tmp t => exact ⟨t, rfl⟩
      | cell t ty =>
        exfalso
        obtain ⟨j, hj⟩ := List.mem_iff_getElem?.1 hr
        have : ∀ (l : List ResultVar) (ds : List D), toDs (l.map (resSlot f)) = some ds → (.cell t ty) ∉ l := by
          intro l
          induction l with
          | nil => intro ds _ hm; cases hm
          | cons x l ih =>
            intro ds hd hm
            simp only [List.map_cons, toDs] at hd
            split at hd
            · rename_i d ds' g1 g2
              rcases List.mem_cons.1 hm with hm | hm
              · subst hm; simp [resSlot, SV.toD] at g1
              · exact ih _ g2 hm
            · cases hd
        exact this rs ds h2 hr
    have hm := run_mapM_list (P := P) (w := w) (g := res1 a.tmps) rs #[] (rs.map fun r => match r with | .tmp t => a.tmps.getD t undef | .cell _ _ => undef) (by simp) fun j r v hj hv => by
      obtain ⟨t, rfl⟩ := hcell r (List.mem_of_getElem? hj)
      simp only [List.getElem?_map, hj, Option.map_some, Option.some.injEq] at hv
      subst hv
      rfl
    generalize (rs.map fun r => match r with | .tmp t => a.tmps.getD t undef | .cell _ _ => undef) = us at hrep hm
    have hrun : (fn.results.mapM (res1 a.tmps)).run P w = .ok us.toArray w := by
      rw [hr, List.mapM_toArray]
      have : (List.mapM (res1 a.tmps) rs).run P w = .ok us w := by simpa [List.mapM] using hm
      simp [this]
    have hlen := hrep.length
    refine ⟨.tuple us.toArray, ?_, Rep.tup _ _ (by simpa using hrep)⟩
    rw [results_res1, Sem.run_bind, hrun]
    simp only [Result.andThen_ok]
    rw [dif_neg (by simp; omega)]
    rfl
  unfold pResS at h1
  split at h1
  · rename_i t
    have ht : t < N := by simpa [resOk] using hro
    refine ⟨a.tmps.getD t undef, ?_, h1 ▸ h.slots t ht⟩
    rw [results_res1, hr]
    simp [res1]
  · exact gen h1
theorem iniS_ghost (args : List SV) (h : args.length ≤ TR) : iniS args TR = .d (.tup []) := by
  unfold iniS
  rw [List.getElem?_eq_none h]
theorem StM.place (h : StM N M0 C f H mu a w) (hrow : ∀ r e size k, H r ≠ .row e size k) {s b : Nat} (h1 : H s ≠ .none) (h2 : mu s = some b) : C.w.heap.size ≤ b ∨ C.foot b := by
  cases hh : H s with
  | none => exact absurd hh h1
  | box cs =>
    obtain ⟨b', arr, e, g1, g2, -⟩ := h.box s cs hh
    rw [h2] at g1; cases g1; exact g2
  | row e size k => exact absurd hh (hrow _ _ _ _)
  | vec e sz ver cs =>
    rcases h.vec s e sz ver cs hh with ⟨g1, -⟩ | ⟨g, cur, g1, g2, -⟩
    · rw [h2] at g1; cases g1
    · rw [h2] at g1; cases g1; exact g2
/-- A contract over named memory, out of the walk of the body. -/
theorem pm_of_pwp {k : FuncId} {fn : Func} {c : Code} {args : List SV} {H0 : Hp} {res : SV} {H1 : Hp} (rs : List ResultVar) (hf : P.funcs[k]? = some fn) (hb : fn.body = some c) (hr : fn.results = rs.toArray)
    (hk : ((fn.name != "runtime.NumGoroutine") && codeOk fn.ntmps c && resOk fn.ntmps rs && decide (args.length ≤ fn.ntmps) && P.follows .mixedOrders && decide (fn.ntmps ≤ TR)) = true)
    (fp : ∀ s, s < TR → H0 s = .none) (hrow : ∀ r e size k, H1 r ≠ .row e size k) (hp : pwp P c (bodyM P rs res H1) (iniS args) H0) : PM P k args H0 res H1 := by
  simp only [Bool.and_eq_true, decide_eq_true_eq, bne, Bool.not_eq_true'] at hk
  obtain ⟨⟨⟨⟨⟨hn, hc⟩, hro⟩, hl⟩, hmix⟩, hTR⟩ := hk
  refine ⟨⟨fn, hf, hn, by rw [hb]; rfl⟩, fp, fun M mu w vs hm hlen hvs => ?_⟩
  refine callsIn_wide.1 (callsIn_of_wp_marks (F := Fence.wide) (n := 0) hf hb trivial (pwp_sound (N := fn.ntmps) hmix c (Ctx.names P w M H0 mu fp) 0 (bodyM P rs res H1) _ rfl hc (fun _ _ => rfl) ?_ ⟨M, fun _ => False⟩ (iniS args) H0 mu _ w ?_ hp))
  · intro e f H a w' M0 mu1 hne h hq
    have fin : (∃ f', Cv f H f' H1 ∧ pResS f' rs res) → LeavesInM Fence.wide 0 P fn a.tmps (fun e w' => ∃ v mu', e = .returned v ∧ SRep ⟨M, fun _ => False⟩ H1 mu' w' v res ∧ Mem M H1 mu' w' ∧ Steps H0 mu w H1 mu' w' ∧ BelowX (Foot H0 mu) w w' ∧ ∀ s b, H1 s ≠ .none → mu' s = some b → w.heap.size ≤ b ∨ Foot H0 mu b) a.defers .returning w' := by
      rintro ⟨f', h1, h2⟩
      obtain ⟨mu2, h'⟩ := h.cv h1
      refine leaves_of a.defers w' h' (Nat.le_refl _) fun w2 h'' => ?_
      obtain ⟨v, g1, g2⟩ := resS_of h'' hr hro h2
      have hcp : M0.c = M := h''.cp trivial
      have g3 := h''.lone g2
      have g4 := h''.mem hrow
      rw [hcp] at g3 g4
      exact ⟨v, g1, v, mu2, rfl, g3, g4, h''.mono, h''.below trivial, fun s b q1 q2 => h''.place hrow q1 q2⟩
    cases e with
    | normal => exact fin hq
    | ret => exact fin hq
    | _ => exact hq.elim
  · have hslot : ∀ t, t < fn.ntmps → SRep ⟨M, fun _ => False⟩ H0 mu w ((vs.toArray ++ Array.replicate (fn.ntmps - vs.toArray.size) undef).getD t undef) (iniS args t) := by
      intro t ht
      unfold iniS
      cases hd : args[t]? with
      | none =>
        have hge : args.length ≤ t := by
          rcases Nat.lt_or_ge t args.length with h | h
          · rw [List.getElem?_eq_getElem h] at hd; cases hd
          · exact h
        have : (vs.toArray ++ Array.replicate (fn.ntmps - vs.toArray.size) undef).getD t undef = undef := by
          rw [Array.getD_eq_getD_getElem?, Array.getElem?_append_right (by simp; omega), Array.getElem?_replicate]
          split <;> rfl
        rw [this]
        exact Rep.tup #[] [] .nil
      | some x =>
        have hlt : t < vs.length := by rw [hlen]; exact (List.getElem?_eq_some_iff.1 hd).1
        have : (vs.toArray ++ Array.replicate (fn.ntmps - vs.toArray.size) undef).getD t undef = vs[t] := by
          rw [Array.getD_eq_getD_getElem?, Array.getElem?_append_left (by simpa using hlt)]
          simp [hlt]
        rw [this]
        exact hvs t vs[t] x (by simp [hlt]) hd
    have hgh := iniS_ghost args (Nat.le_trans hl hTR)
    exact ⟨(fun d hd => by cases hd), List.nodup_nil, fun _ => rfl, (by simp; omega), hTR, hslot, Nat.le_refl _, ⟨rfl, rfl, rfl⟩, fun _ => BelowX.refl _ _, fun _ => rfl,
      ⟨rfl, rfl, rfl, Nat.le_refl _, fun x u _ h2 => absurd trivial h2, fun b _ h2 => absurd trivial (h2 ⟨b, 0, none⟩ rfl)⟩, fun y _ => Iff.rfl, fun x hx => hx.elim, fun x hx => hx.elim (hm.old x) False.elim, fun s b h1 h2 x hx h3 => h3.elim (hm.sep s b h1 h2 x hx) False.elim,
      fun s cs hs => by
        obtain ⟨b, arr, e, g1, g2, g3, g4⟩ := hm.box s cs hs
        exact ⟨b, arr, e, g1, .inr ⟨s, by rw [hs]; simp, g1⟩, g2, g3, g4⟩,
      fun r e sz k h => absurd h (hm.row _ _ _ _), fun r e sz ver cs hr => by
        rcases hm.vec r e sz ver cs hr with g1 | ⟨g, cur, g1, g2⟩
        · exact .inl g1
        · exact .inr ⟨g, cur, g1, .inr ⟨r, by rw [hr]; simp, g1⟩, g2⟩,
      hm.inj, (fun t h => by cases h), (fun l pre rest h => by rw [hgh] at h; cases h), (fun h => by rw [hgh] at h; cases h), (fun l h => by cases h), Steps.same (fun s b h1 h2 => rfl), hm.gl⟩
end
section
variable {P : Program} {ops : Array Oper} {dr : Bool} {Q : List Sig → Frm → Hp → Prop} {o : Oper} {rest : List Oper} {tr : List Sig} {f : Frm} {H : Hp}
/-- A call of a function that writes into the caller's named memory. -/
theorem ev_callm {tm : Tmp} {x : Operand} {as : Array Operand} {tys : Array TypeId} {k : FuncId} {args : List SV} {H0 H1 : Hp} {res : SV} {ρ : Nat → Nat} {ns0 ns1 : List Nat} (hg : o.guard = none) (hd : o.dst = some tm) (ho : o.op = .call { callee := .value x, args := as, argTypes := tys })
    (hx : ev f x = .d (.fn (.func k) [] [])) (hc : PM P k args H0 res H1) (hh : Hand H (as.toList.map (ev f)) args H0 H1 res ρ ns0 ns1) (h : pEval P ops dr Q rest (tr ++ [(none, ns1.map ρ)]) (upd f tm (res.ren ρ)) (app H (wrM H1 ρ ns1))) : pEval P ops dr Q (o :: rest) tr f H := by
  unfold pEval
  simp only [pW, hg]
  refine .inl ⟨_, .callm x as tys k args H0 H1 res ρ ns0 ns1 ho hx hc hh, ?_⟩
  have e : (Eff.sig ⟨res.ren ρ, none, wrM H1 ρ ns1⟩) = (none, ns1.map ρ) := by simp [Eff.sig, wrM, Function.comp_def]
  rw [e]
  simp only [hd, updo]
  exact h
end
/-- Names under a table of names. -/
def renT : List (Nat × Nat) → Nat → Nat
  | [], s => s
  | (a, b) :: l, s => if s = a then b else renT l s
def HandH (H : Hp) (ρ : Nat → Nat) : List (Nat × HO) → Prop
  | [] => True
  | (s, o) :: l => H (ρ s) = o.ren ρ ∧ HandH H ρ l
def HandF (H : Hp) (ρ : Nat → Nat) (ns0 : List Nat) : List Nat → Prop
  | [] => True
  | s :: l => (s ∈ ns0 ∨ (H (ρ s) = .none ∧ ρ s < TR)) ∧ HandF H ρ ns0 l
def HandA (ρ : Nat → Nat) (ns0 : List Nat) : List SV → List SV → Prop
  | [], [] => True
  | y :: ys, z :: zs => ArgOk ρ ns0 y z ∧ HandA ρ ns0 ys zs
  | _, _ => False
theorem HandA.spec {ρ : Nat → Nat} {ns0 : List Nat} : ∀ {ys zs : List SV}, HandA ρ ns0 ys zs → ys.length = zs.length ∧ ∀ (j : Nat) y z, ys[j]? = some y → zs[j]? = some z → ArgOk ρ ns0 y z
  | [], [], _ => ⟨rfl, fun j y z h => by simp at h⟩
  | y :: ys, z :: zs, h => by
    obtain ⟨h1, h2⟩ := HandA.spec h.2
    refine ⟨by simp [h1], fun j a b ha hb => ?_⟩
    cases j with
    | zero => simp at ha hb; subst ha hb; exact h.1
    | succ j => exact h2 j a b (by simpa using ha) (by simpa using hb)
  | [], _ :: _, h => h.elim
  | _ :: _, [], h => h.elim
theorem hpm_mem : ∀ {l : List (Nat × HO)}, (∀ p ∈ l, p.2 ≠ .none) → ∀ s, hpm l s ≠ .none ↔ s ∈ l.map (·.1)
  | [], _, s => by simp [hpm]
  | (u, o) :: l, h, s => by
    have ih := hpm_mem (l := l) (fun p hp => h p (by simp [hp])) s
    by_cases hs : s = u
    · subst hs
      have := h (s, o) (by simp)
      simp [hpm, this]
    · simp only [hpm, hs, if_false, List.map_cons, List.mem_cons, false_or]
      exact ih
theorem handH_spec {H : Hp} {ρ : Nat → Nat} : ∀ {l : List (Nat × HO)}, HandH H ρ l → ((l.map (·.1)).Nodup) → ∀ s ∈ l.map (·.1), H (ρ s) = (hpm l s).ren ρ
  | [], _, _, s, hs => by cases hs
  | (u, o) :: l, h, hn, s, hs => by
    simp only [List.map_cons, List.nodup_cons] at hn
    by_cases hsu : s = u
    · subst hsu; simp only [hpm, if_true]; exact h.1
    · simp only [hpm, hsu, if_false]
      exact handH_spec h.2 hn.2 s (by simpa [hsu] using hs)
theorem handF_spec {H : Hp} {ρ : Nat → Nat} {ns0 : List Nat} : ∀ {l : List Nat}, HandF H ρ ns0 l → ∀ s ∈ l, s ∉ ns0 → H (ρ s) = .none ∧ ρ s < TR
  | [], _, s, hs, _ => by cases hs
  | u :: l, h, s, hs, hn => by
    rcases List.mem_cons.1 hs with rfl | hs
    · exact h.1.resolve_left hn
    · exact handF_spec h.2 s hs hn
theorem hpm_inn {ns : List Nat} : ∀ {l : List (Nat × HO)}, (l.all fun p => p.2.inn ns) = true → ∀ s ∈ l.map (·.1), (hpm l s).inn ns = true
  | [], _, s, hs => by cases hs
  | (u, o) :: l, h, s, hs => by
    simp only [List.all_cons, Bool.and_eq_true] at h
    by_cases hsu : s = u
    · subst hsu; simp only [hpm, if_true]; exact h.1
    · simp only [hpm, hsu, if_false]
      exact hpm_inn h.2 s (by simpa [hsu] using hs)
theorem inn_some {ns : List Nat} {l : List (Nat × HO)} (h : (l.all fun p => p.2.inn ns) = true) : ∀ p ∈ l, p.2 ≠ .none := fun p hp e => by
  have := List.all_eq_true.1 h p hp
  rw [e] at this
  cases this
/-- What is handed in and back, by lists and a table. -/
theorem Hand.of {H : Hp} {ys args : List SV} {l0 l1 : List (Nat × HO)} {res : SV} (tab : List (Nat × Nat)) (ha : HandA (renT tab) (l0.map (·.1)) ys args) (hH : HandH H (renT tab) l0) (hF : HandF H (renT tab) (l0.map (·.1)) (l1.map (·.1)))
    (i0 : (l0.all fun p => p.2.inn (l0.map (·.1))) = true) (i1 : (l1.all fun p => p.2.inn (l1.map (·.1))) = true) (hr : res.inn (l1.map (·.1)) = true)
    (hk : (decide ((l0.map (·.1)).Nodup) && ((l0.map (·.1)).all fun s => (l1.map (·.1)).contains s) && (l1.map (·.1)).all fun s => (l1.map (·.1)).all fun t => renT tab s != renT tab t || s == t) = true) :
    Hand H ys args (hpm l0) (hpm l1) res (renT tab) (l0.map (·.1)) (l1.map (·.1)) := by
  simp only [Bool.and_eq_true, decide_eq_true_eq, List.all_eq_true] at hk
  obtain ⟨⟨h1, h2⟩, h3⟩ := hk
  exact ⟨(HandA.spec ha).1, (HandA.spec ha).2, hpm_mem (inn_some i0), hpm_mem (inn_some i1), handH_spec hH h1, hpm_inn i0, hpm_inn i1, fun s hs => by simpa using h2 s hs,
    fun s hs t ht e => by have := h3 s hs t ht; simp only [e, bne_self_eq_false, Bool.false_or, beq_iff_eq] at this; exact this, handF_spec hF, hr⟩
theorem ren_ds (ρ : Nat → Nat) (l : List D) : (l.map SV.d).map (SV.ren ρ) = l.map SV.d := by rw [List.map_map]; rfl
theorem inn_ds (ns : List Nat) (l : List D) : (l.map SV.d).all (SV.inn ns) = true := by simp [SV.inn]
theorem bm_n {P : Program} {rs : List ResultVar} {res : SV} {H1 : Hp} {f : Frm} {H : Hp} (h : ∃ f', Cv f H f' H1 ∧ pResS f' rs res) : bodyM P rs res H1 .normal f H := h
theorem bm_r {P : Program} {rs : List ResultVar} {res : SV} {H1 : Hp} {f : Frm} {H : Hp} (h : ∃ f', Cv f H f' H1 ∧ pResS f' rs res) : bodyM P rs res H1 .ret f H := h
theorem pres0 {f : Frm} : pResS f [] (.d (.tup [])) := ⟨[], rfl, by simp, rfl⟩
attribute [go_sem] iniS
attribute [irreducible] bodyM
end Go.Proofs.Ytandclggkgmpgaa
