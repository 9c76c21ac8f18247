/- Contracts over named memory; calls of such functions: names under another name. No condition beyond each lemma's own. Calls by contract; one operation of the pure logic, whatever it is; what it hangs on. No condition beyond each lemma's own. -/
import Derived.Test.YtefiebkngpcaoaaDoorPE6
import Derived.CallsIn
import Derived.OrdersIn
import Derived.TacticsIn
set_option maxRecDepth 100000
set_option linter.unusedVariables false
set_option linter.unusedSimpArgs false
set_option linter.unusedSectionVars false
namespace Go.Proofs.YtefiebkngpcaoaaDoor
open Go.RowKit

/-- Named memory, among cells that others may write. -/
structure Mem (M : Addr → Prop) (H : Hp) (mu : Nat → Option Nat) (w : World) : Prop where
  old : ∀ x, M x → x.block < w.heap.size
  sep : ∀ s b, H s ≠ .none → mu s = some b → ∀ x : Addr, x.block = b → ¬ M x
  box : ∀ s cs, H s = .box cs → ∃ b arr e, mu s = some b ∧ w.heap[b]? = some (.cells arr e (0, 0)) ∧ arr.size = cs.length ∧
    ∀ j x, cs[j]? = some x → SRep ⟨M, fun _ => False⟩ H mu w (arr.getD j undef) x ∧ (arr.getD j undef).oneCell' = true
  row : ∀ r e size k, H r ≠ .row e size k
  vec : ∀ r e sz ver cs, H r = .vec e sz ver cs → (mu r = none ∧ cs = []) ∨ ∃ g cur, mu r = some g ∧ w.heap[g]? = some (.cells cur e (0, 0)) ∧ cs.length ≤ cur.size ∧ (∀ u ∈ cur.toList, u.oneCell' = true) ∧
    ∀ j x, cs[j]? = some x → SRep ⟨M, fun _ => False⟩ H mu w (cur.getD j undef) x
  inj : ∀ s s' b, H s ≠ .none → H s' ≠ .none → mu s = some b → mu s' = some b → s = s'
  gl : Globs (Mut ⟨M, fun _ => False⟩ H mu) w
/-- The blocks of names. -/
def Foot (H : Hp) (mu : Nat → Option Nat) (b : Nat) : Prop := ∃ s, H s ≠ .none ∧ mu s = some b
/-- A function's contract over named memory: what it hands back, how the names lie behind it; nothing else that was there has turned. -/
def PM (P : Program) (k : FuncId) (args : List SV) (H0 : Hp) (res : SV) (H1 : Hp) : Prop :=
  (∃ fn, P.funcs[k]? = some fn ∧ (fn.name == "runtime.NumGoroutine") = false ∧ fn.body.isNone = false) ∧ (∀ s, s < TR → H0 s = .none) ∧
  ∀ (M : Addr → Prop) (mu : Nat → Option Nat) (w : World) (vs : List Value), Mem M H0 mu w → vs.length = args.length → (∀ (j : Nat) v x, vs[j]? = some v → args[j]? = some x → SRep ⟨M, fun _ => False⟩ H0 mu w v x) →
    Calls P k vs.toArray w fun e w' => ∃ v mu', e = .returned v ∧ SRep ⟨M, fun _ => False⟩ H1 mu' w' v res ∧ Mem M H1 mu' w' ∧ Steps H0 mu w H1 mu' w' ∧ BelowX (Foot H0 mu) w w' ∧ ∀ s b, H1 s ≠ .none → mu' s = some b → w.heap.size ≤ b ∨ Foot H0 mu b
def SA.ren (ρ : Nat → Nat) : SA → SA
  | .d x => .d x
  | .loc s off => .loc (ρ s) off
def SV.ren (ρ : Nat → Nat) : SV → SV
  | .d x => .d x
  | .loc s off => .loc (ρ s) off
  | .own r n cs => .own (ρ r) n cs
  | .bs s off n cap => .bs (ρ s) off n cap
  | .vec r ver n => .vec (ρ r) ver n
  | .vptr r ver off => .vptr (ρ r) ver off
  | .clo f first cap => .clo f (first.map (SA.ren ρ)) (cap.map (SA.ren ρ))
  | x => x
def HO.ren (ρ : Nat → Nat) : HO → HO
  | .box cs => .box (cs.map (SV.ren ρ))
  | .vec e sz ver cs => .vec e sz ver (cs.map (SV.ren ρ))
  | x => x
/-- Is every name of these? -/
def SA.inn (ns : List Nat) : SA → Bool
  | .d _ => true
  | .loc s _ => ns.contains s
def SV.inn (ns : List Nat) : SV → Bool
  | .d _ | .nil | .junk => true
  | .loc s _ => ns.contains s
  | .bs s _ _ _ => ns.contains s
  | .vec r _ _ => ns.contains r
  | .vptr r _ _ => ns.contains r
  | .clo _ first cap => first.all (SA.inn ns) && cap.all (SA.inn ns)
  | _ => false
def HO.inn (ns : List Nat) : HO → Bool
  | .box cs => cs.all (SV.inn ns)
  | .vec _ _ _ cs => cs.all (SV.inn ns)
  | _ => false
section
variable {M0 M1 : MM} {H H1 : Hp} {mu mu1 : Nat → Option Nat} {w : World} {ρ : Nat → Nat} {ns : List Nat}
theorem SAL.ren (hst : Stay (Mut M1 H1 mu1) w (Mut M0 H mu) w) (hag : ∀ s ∈ ns, H (ρ s) = (H1 s).ren ρ ∧ mu (ρ s) = mu1 s) {vs : List Value} {xs : List SA} (hi : xs.all (SA.inn ns) = true) (h : SAL M1 H1 mu1 w vs xs) : SAL M0 H mu w vs (xs.map (SA.ren ρ)) := by
  refine ⟨by simpa using h.1, fun j v x h1 h2 => ?_⟩
  simp only [List.getElem?_map, Option.map_eq_some_iff] at h2
  obtain ⟨y, hy, rfl⟩ := h2
  have h3 := h.2 j v y h1 hy
  have h4 := List.all_eq_true.1 hi y (List.mem_of_getElem? hy)
  cases y with
  | d x => exact Rep.mono hst h3
  | loc s off =>
    obtain ⟨cs, b, g1, g2, g3⟩ := h3
    obtain ⟨a1, a2⟩ := hag s (by simpa [SA.inn] using h4)
    rw [g1] at a1
    exact ⟨_, b, a1, a2.trans g2, g3⟩
/-- The callee's view of a value is the caller's. -/
theorem SRep.ren (hst : Stay (Mut M1 H1 mu1) w (Mut M0 H mu) w) (hag : ∀ s ∈ ns, H (ρ s) = (H1 s).ren ρ ∧ mu (ρ s) = mu1 s) {v : Value} {x : SV} (hi : x.inn ns = true) (h : SRep M1 H1 mu1 w v x) : SRep M0 H mu w v (x.ren ρ) := by
  cases x with
  | d x => exact Rep.mono hst h
  | loc s off =>
    obtain ⟨cs, b, g1, g2, g3⟩ := h
    obtain ⟨a1, a2⟩ := hag s (by simpa [SV.inn] using hi)
    rw [g1] at a1
    exact ⟨_, b, a1, a2.trans g2, g3⟩
  | bs s off n cap =>
    obtain ⟨cs, b, g1, g2, g3⟩ := h
    obtain ⟨a1, a2⟩ := hag s (by simpa [SV.inn] using hi)
    rw [g1] at a1
    exact ⟨_, b, a1, a2.trans g2, g3⟩
  | vec r ver n =>
    obtain ⟨h0, e, sz, v1, cs, g1, g2, g3⟩ := h
    obtain ⟨a1, a2⟩ := hag r (by simpa [SV.inn] using hi)
    rw [g1] at a1
    refine ⟨h0, e, sz, v1, _, a1, g2, fun e1 => ?_⟩
    obtain ⟨q1, q2⟩ := g3 e1
    refine ⟨by simpa using q1, ?_⟩
    rcases q2 with ⟨b1, b2, b3⟩ | ⟨g, cap, cur, e', b1, b2, b3⟩
    · exact .inl ⟨b1, b2, a2.trans b3⟩
    · exact .inr ⟨g, cap, cur, e', b1, a2.trans b2, b3⟩
  | vptr r ver off =>
    obtain ⟨h0, e, sz, v1, cs, g1, g2, g3⟩ := h
    obtain ⟨a1, a2⟩ := hag r (by simpa [SV.inn] using hi)
    rw [g1] at a1
    refine ⟨h0, e, sz, v1, _, a1, g2, fun e1 => ?_⟩
    obtain ⟨g, b1, b2⟩ := g3 e1
    exact ⟨g, a2.trans b1, b2⟩
  | clo g first cap =>
    obtain ⟨vs, us, h1, h2, h3⟩ := h
    simp only [SV.inn, Bool.and_eq_true] at hi
    exact ⟨vs, us, h1, h2.ren hst hag hi.1, h3.ren hst hag hi.2⟩
  | nil => exact h
  | junk => trivial
  | _ => simp [SV.inn] at hi
theorem SAL.unren (hst : Stay (Mut M0 H mu) w (Mut M1 H1 mu1) w) (hag : ∀ s ∈ ns, H (ρ s) = (H1 s).ren ρ ∧ mu (ρ s) = mu1 s) {vs : List Value} {xs : List SA} (hi : xs.all (SA.inn ns) = true) (h : SAL M0 H mu w vs (xs.map (SA.ren ρ))) : SAL M1 H1 mu1 w vs xs := by
  refine ⟨by simpa using h.1, fun j v y h1 hy => ?_⟩
  have h3 := h.2 j v (y.ren ρ) h1 (by simp [hy])
  have h4 := List.all_eq_true.1 hi y (List.mem_of_getElem? hy)
  cases y with
  | d x => exact Rep.mono hst h3
  | loc s off =>
    obtain ⟨cs, b, g1, g2, g3⟩ := h3
    obtain ⟨a1, a2⟩ := hag s (by simpa [SA.inn] using h4)
    rw [a1] at g1
    cases hh : H1 s with
    | box ds => exact ⟨ds, b, hh, a2.symm.trans g2, g3⟩
    | _ => rw [hh] at g1; simp [HO.ren] at g1
/-- The caller's view of a value is the callee's. -/
theorem SRep.unren (hst : Stay (Mut M0 H mu) w (Mut M1 H1 mu1) w) (hag : ∀ s ∈ ns, H (ρ s) = (H1 s).ren ρ ∧ mu (ρ s) = mu1 s) {v : Value} {x : SV} (hi : x.inn ns = true) (h : SRep M0 H mu w v (x.ren ρ)) : SRep M1 H1 mu1 w v x := by
  cases x with
  | d x => exact Rep.mono hst h
  | loc s off =>
    obtain ⟨cs, b, g1, g2, g3⟩ := h
    obtain ⟨a1, a2⟩ := hag s (by simpa [SV.inn] using hi)
    rw [a1] at g1
    cases hh : H1 s with
    | box ds => exact ⟨ds, b, hh, a2.symm.trans g2, g3⟩
    | _ => rw [hh] at g1; simp [HO.ren] at g1
  | bs s off n cap =>
    obtain ⟨cs, b, g1, g2, g3⟩ := h
    obtain ⟨a1, a2⟩ := hag s (by simpa [SV.inn] using hi)
    rw [a1] at g1
    cases hh : H1 s with
    | box ds => exact ⟨ds, b, hh, a2.symm.trans g2, g3⟩
    | _ => rw [hh] at g1; simp [HO.ren] at g1
  | vec r ver n =>
    obtain ⟨h0, e, sz, v1, cs, g1, g2, g3⟩ := h
    obtain ⟨a1, a2⟩ := hag r (by simpa [SV.inn] using hi)
    rw [a1] at g1
    cases hh : H1 r with
    | vec e2 sz2 v2 ds =>
      rw [hh] at g1
      simp only [HO.ren, HO.vec.injEq] at g1
      obtain ⟨rfl, rfl, rfl, rfl⟩ := g1
      refine ⟨h0, e2, sz2, v2, ds, hh, g2, fun e1 => ?_⟩
      obtain ⟨q1, q2⟩ := g3 e1
      refine ⟨by simpa using q1, ?_⟩
      rcases q2 with ⟨b1, b2, b3⟩ | ⟨g, cap, cur, e', b1, b2, b3⟩
      · exact .inl ⟨b1, b2, a2.symm.trans b3⟩
      · exact .inr ⟨g, cap, cur, e', b1, a2.symm.trans b2, b3⟩
    | _ => rw [hh] at g1; simp [HO.ren] at g1
  | vptr r ver off =>
    obtain ⟨h0, e, sz, v1, cs, g1, g2, g3⟩ := h
    obtain ⟨a1, a2⟩ := hag r (by simpa [SV.inn] using hi)
    rw [a1] at g1
    cases hh : H1 r with
    | vec e2 sz2 v2 ds =>
      rw [hh] at g1
      simp only [HO.ren, HO.vec.injEq] at g1
      obtain ⟨rfl, rfl, rfl, rfl⟩ := g1
      refine ⟨h0, e2, sz2, v2, ds, hh, g2, fun e1 => ?_⟩
      obtain ⟨g, b1, b2⟩ := g3 e1
      exact ⟨g, a2.symm.trans b1, b2⟩
    | _ => rw [hh] at g1; simp [HO.ren] at g1
  | clo g first cap =>
    obtain ⟨vs, us, h1, h2, h3⟩ := h
    simp only [SV.inn, Bool.and_eq_true] at hi
    exact ⟨vs, us, h1, h2.unren hst hag hi.1, h3.unren hst hag hi.2⟩
  | nil => exact h
  | junk => trivial
  | _ => simp [SV.inn] at hi
end
section
variable {N : Nat} {M0 : MM} {C : Ctx} {w w' : World} {f : Frm} {H H' H0 H1 : Hp} {mu mu1 : Nat → Option Nat} {a : Act} {ρ : Nat → Nat} {ns0 ns1 : List Nat}
def NamedAt (H : Hp) (mu : Nat → Option Nat) (s : Nat) (a : Addr) : Prop := match H s with
  | .none => False
  | .box _ => mu s = some a.block
  | .row _ size n => mu s = some a.block ∧ n * size ≤ a.off
  | .vec _ _ _ _ => mu s = some a.block
theorem named_iff {x : Addr} : Named H mu x ↔ ∃ s, NamedAt H mu s x := Iff.rfl
theorem namedAt_mu {s : Nat} {x : Addr} (h : NamedAt H mu s x) : H s ≠ .none ∧ mu s = some x.block := by
  unfold NamedAt at h
  cases hh : H s with
  | none => rw [hh] at h; exact h.elim
  | box cs => rw [hh] at h; exact ⟨by simp, h⟩
  | row e sz k => rw [hh] at h; exact ⟨by simp, h.1⟩
  | vec e sz v c => rw [hh] at h; exact ⟨by simp, h⟩
theorem HO.inn_cases {o : HO} (h : o.inn ns0 = true) : (∃ cs, o = .box cs ∧ cs.all (SV.inn ns0) = true) ∨ ∃ e sz v cs, o = .vec e sz v cs ∧ cs.all (SV.inn ns0) = true := by
  cases o with
  | box cs => exact .inl ⟨cs, rfl, h⟩
  | vec e sz v cs => exact .inr ⟨e, sz, v, cs, rfl, h⟩
  | _ => simp [HO.inn] at h
theorem NamedAt.whole {s : Nat} {x : Addr} {o : HO} (h : o.inn ns0 = true) (hH : H s = o.ren ρ) (hm : mu s = some x.block) : NamedAt H mu s x := by
  unfold NamedAt
  rw [hH]
  rcases HO.inn_cases h with ⟨cs, e, -⟩ | ⟨e1, sz, v, cs, e, -⟩ <;> rw [e] <;> exact hm
/-- The cells that the callee must not take for its own. -/
def Rest (M0 : MM) (H : Hp) (mu : Nat → Option Nat) (ρ : Nat → Nat) (ns0 : List Nat) (x : Addr) : Prop := M0.all x ∨ ∃ t, (∀ s ∈ ns0, ρ s ≠ t) ∧ NamedAt H mu t x
def mu0of (mu : Nat → Option Nat) (ρ : Nat → Nat) (ns0 : List Nat) (s : Nat) : Option Nat := if s ∈ ns0 then mu (ρ s) else none
theorem rest_mut (d0 : ∀ s, H0 s ≠ .none ↔ s ∈ ns0) (hH : ∀ s ∈ ns0, H (ρ s) = (H0 s).ren ρ) (cl0 : ∀ s ∈ ns0, (H0 s).inn ns0 = true) (x : Addr) : Mut ⟨Rest M0 H mu ρ ns0, fun _ => False⟩ H0 (mu0of mu ρ ns0) x ↔ Mut M0 H mu x := by
  constructor
  · rintro ((h | h) | ⟨s, hs⟩)
    · rcases h with h | ⟨t, -, ht⟩
      · exact .inl h
      · exact .inr ⟨t, ht⟩
    · exact h.elim
    · have hs : NamedAt H0 (mu0of mu ρ ns0) s x := hs
      obtain ⟨h1, h2⟩ := namedAt_mu hs
      have hm := (d0 s).1 h1
      simp only [mu0of, hm, if_true] at h2
      exact .inr ⟨ρ s, NamedAt.whole (cl0 s hm) (hH s hm) h2⟩
  · rintro (h | ⟨t, ht⟩)
    · exact .inl (.inl (.inl h))
    · have ht : NamedAt H mu t x := ht
      by_cases hr : ∃ s ∈ ns0, ρ s = t
      · obtain ⟨s, hs, rfl⟩ := hr
        refine .inr ⟨s, ?_⟩
        have h2 := (namedAt_mu ht).2
        show NamedAt H0 (mu0of mu ρ ns0) s x
        have hm : mu0of mu ρ ns0 s = some x.block := by simp only [mu0of, hs, if_true]; exact h2
        unfold NamedAt
        rcases HO.inn_cases (cl0 s hs) with ⟨cs, e, -⟩ | ⟨e1, sz, v, cs, e, -⟩ <;> rw [e] <;> exact hm
      · exact .inl (.inl (.inr ⟨t, fun s hs e => hr ⟨s, hs, e⟩, ht⟩))
theorem stay_iff {A B : Addr → Prop} (h : ∀ x, A x ↔ B x) : Stay A w B w := fun x u h1 h2 => ⟨h1, fun h3 => h2 ((h x).2 h3)⟩
/-- The callee's memory, out of the caller's. -/
theorem StM.mem0 (h : StM N M0 C f H mu a w) (d0 : ∀ s, H0 s ≠ .none ↔ s ∈ ns0) (hH : ∀ s ∈ ns0, H (ρ s) = (H0 s).ren ρ) (cl0 : ∀ s ∈ ns0, (H0 s).inn ns0 = true) (inj : ∀ s ∈ ns0, ∀ t ∈ ns0, ρ s = ρ t → s = t) :
    Mem (Rest M0 H mu ρ ns0) H0 (mu0of mu ρ ns0) w := by
  have hne : ∀ s ∈ ns0, H (ρ s) ≠ .none := fun s hs e => by
    rw [hH s hs] at e
    rcases HO.inn_cases (cl0 s hs) with ⟨cs, e1, -⟩ | ⟨e1, sz, v, cs, e1, -⟩ <;> rw [e1] at e <;> cases e
  have hmu : ∀ s ∈ ns0, mu0of mu ρ ns0 s = mu (ρ s) := fun s hs => by simp [mu0of, hs]
  have hag : ∀ s ∈ ns0, H (ρ s) = (H0 s).ren ρ ∧ mu (ρ s) = mu0of mu ρ ns0 s := fun s hs => ⟨hH s hs, (hmu s hs).symm⟩
  have hst : Stay (Mut M0 H mu) w (Mut ⟨Rest M0 H mu ρ ns0, fun _ => False⟩ H0 (mu0of mu ρ ns0)) w := stay_iff fun x => (rest_mut d0 hH cl0 x).symm
  refine ⟨fun x hx => ?_, fun s b h1 h2 x hx hr => ?_, fun s cs hs => ?_, fun r e sz k hr => ?_, fun r e sz ver cs hr => ?_, fun s s' b h1 h2 h3 h4 => ?_, h.gl.iff fun x hx => (rest_mut d0 hH cl0 x).1 hx⟩
  · rcases hx with hx | ⟨t, -, ht⟩
    · exact h.old x hx
    · exact (h.named_lt ⟨t, ht⟩).2
  · have hm := (d0 s).1 h1
    rw [hmu s hm] at h2
    rcases hr with hr | ⟨t, ht1, ht2⟩
    · exact h.sep _ b (hne s hm) h2 x hx hr
    · obtain ⟨g1, g2⟩ := namedAt_mu ht2
      exact ht1 s hm (h.inj _ _ b (hne s hm) g1 h2 (by rw [g2, hx]))
  · have hm := (d0 s).1 (by rw [hs]; simp)
    have e := hH s hm
    have hc := cl0 s hm
    rw [hs] at e hc
    obtain ⟨b, arr, et, g1, g2, g3, g4, g5⟩ := h.box (ρ s) _ e
    refine ⟨b, arr, et, (hmu s hm).trans g1, g3, by simpa using g4, fun j x hj => ?_⟩
    obtain ⟨q1, q2⟩ := g5 j (x.ren ρ) (by simp [hj])
    exact ⟨q1.unren hst hag (List.all_eq_true.1 hc x (List.mem_of_getElem? hj)), q2⟩
  · have hm := (d0 r).1 (by rw [hr]; simp)
    have := cl0 r hm
    rw [hr] at this
    simp [HO.inn] at this
  · have hm := (d0 r).1 (by rw [hr]; simp)
    have e1 := hH r hm
    have hc := cl0 r hm
    rw [hr] at e1 hc
    rcases h.vec (ρ r) _ _ _ _ e1 with ⟨g1, g2⟩ | ⟨g, cur, g1, g2, g3, g4, g5, g6⟩
    · exact .inl ⟨(hmu r hm).trans g1, by simpa using g2⟩
    · refine .inr ⟨g, cur, (hmu r hm).trans g1, g3, by simpa using g4, g5, fun j x hj => ?_⟩
      exact (g6 j (x.ren ρ) (by simp [hj])).unren hst hag (List.all_eq_true.1 hc x (List.mem_of_getElem? hj))
  · have hm := (d0 s).1 h1
    have hm' := (d0 s').1 h2
    rw [hmu s hm] at h3
    rw [hmu s' hm'] at h4
    exact inj s hm s' hm' (h.inj _ _ b (hne s hm) (hne s' hm') h3 h4)
/-- Behind the call: the caller's state. -/
theorem StM.callm (h : StM N M0 C f H mu a w) (d0 : ∀ s, H0 s ≠ .none ↔ s ∈ ns0) (d1 : ∀ s, H1 s ≠ .none ↔ s ∈ ns1) (hH : ∀ s ∈ ns0, H (ρ s) = (H0 s).ren ρ) (cl0 : ∀ s ∈ ns0, (H0 s).inn ns0 = true) (cl1 : ∀ s ∈ ns1, (H1 s).inn ns1 = true)
    (sub : ∀ s ∈ ns0, s ∈ ns1) (inj : ∀ s ∈ ns1, ∀ t ∈ ns1, ρ s = ρ t → s = t) (hnew : ∀ s ∈ ns1, s ∉ ns0 → H (ρ s) = .none ∧ ρ s < TR) (e1 : ∀ s ∈ ns1, H' (ρ s) = (H1 s).ren ρ) (e2 : ∀ t, (∀ s ∈ ns1, ρ s ≠ t) → H' t = H t)
    (hm : Mem (Rest M0 H mu ρ ns0) H1 mu1 w') (st : Steps H0 (mu0of mu ρ ns0) w H1 mu1 w') (bx : BelowX (Foot H0 (mu0of mu ρ ns0)) w w') (pl : ∀ s b, H1 s ≠ .none → mu1 s = some b → w.heap.size ≤ b ∨ Foot H0 (mu0of mu ρ ns0) b) :
    ∃ mu', StM N M0 C f H' mu' a w' ∧ ∀ v x, SV.inn ns1 x = true → SRep ⟨Rest M0 H mu ρ ns0, fun _ => False⟩ H1 mu1 w' v x → SRep M0 H' mu' w' v (x.ren ρ) := by
  have inj0 : ∀ s ∈ ns0, ∀ t ∈ ns0, ρ s = ρ t → s = t := fun s hs t ht => inj s (sub s hs) t (sub t ht)
  have hne : ∀ s ∈ ns0, H (ρ s) ≠ .none := fun s hs e => by
    rw [hH s hs] at e
    rcases HO.inn_cases (cl0 s hs) with ⟨cs, e1, -⟩ | ⟨e1, sz, v, cs, e1, -⟩ <;> rw [e1] at e <;> cases e
  have old0 : ∀ s ∈ ns1, H (ρ s) ≠ .none → s ∈ ns0 := fun s hs hn => by
    by_cases h0 : s ∈ ns0
    · exact h0
    · exact absurd (hnew s hs h0).1 hn
  have hfoot : ∀ {b}, Foot H0 (mu0of mu ρ ns0) b → ∃ s ∈ ns0, mu (ρ s) = some b := fun ⟨s, h1, h2⟩ => by
    have hs := (d0 s).1 h1
    simp only [mu0of, hs, if_true] at h2
    exact ⟨s, hs, h2⟩
  have fnamed : ∀ {x : Addr}, Foot H0 (mu0of mu ρ ns0) x.block → Named H mu x := fun hf => by
    obtain ⟨s, hs, h2⟩ := hfoot hf
    exact ⟨ρ s, NamedAt.whole (cl0 s hs) (hH s hs) h2⟩
  obtain ⟨mu', m1, m2⟩ : ∃ mu' : Nat → Option Nat, (∀ s ∈ ns1, mu' (ρ s) = mu1 s) ∧ ∀ t, (∀ s ∈ ns1, ρ s ≠ t) → mu' t = mu t := by
    refine ⟨fun t => match ns1.find? (fun s => ρ s == t) with | some s => mu1 s | none => mu t, fun s hs => ?_, fun t ht => ?_⟩
    · cases hf : ns1.find? (fun x => ρ x == ρ s) with
      | none => exact absurd (List.find?_eq_none.1 hf s hs) (by simp)
      | some x =>
        have h1 := List.mem_of_find?_eq_some hf
        have h2 := List.find?_some hf
        have : x = s := inj x h1 s hs (by simpa using h2)
        subst this
        simp only [hf]
    · cases hf : ns1.find? (fun x => ρ x == t) with
      | none => simp only [hf]
      | some x =>
        have h1 := List.mem_of_find?_eq_some hf
        have h2 := List.find?_some hf
        exact absurd (by simpa using h2) (ht x h1)
  have img : ∀ t, (∃ s ∈ ns1, ρ s = t) ∨ ∀ s ∈ ns1, ρ s ≠ t := fun t => by
    by_cases hx : ∃ s ∈ ns1, ρ s = t
    · exact .inl hx
    · exact .inr fun s hs e => hx ⟨s, hs, e⟩
  have nofoot : ∀ {t b}, (∀ s ∈ ns1, ρ s ≠ t) → H t ≠ .none → mu t = some b → w'.heap[b]? = w.heap[b]? := fun ht h1 h2 =>
    bx.block _ (h.mu_lt h1 h2) fun hf => by
      obtain ⟨s, hs, h3⟩ := hfoot hf
      exact ht s (sub s hs) (h.inj _ _ _ (hne s hs) h1 h3 h2)
  have back : ∀ {t x}, (∀ s ∈ ns1, ρ s ≠ t) → NamedAt H' mu' t x → NamedAt H mu t x := fun ht hx => by
    unfold NamedAt at hx ⊢
    rw [e2 _ ht, m2 _ ht] at hx
    exact hx
  have hno : ∀ x : Addr, x.block < w.heap.size → ¬ Named H mu x → ¬ Named H' mu' x := fun x hlt hn ⟨t, ht⟩ => by
    have ht : NamedAt H' mu' t x := ht
    rcases img t with ⟨s, hs, rfl⟩ | hi
    · obtain ⟨-, g2⟩ := namedAt_mu ht
      rw [m1 s hs] at g2
      rcases pl s x.block ((d1 s).2 hs) g2 with h3 | h3
      · omega
      · exact hn (fnamed h3)
    · exact hn ⟨t, back hi ht⟩
  have own : Keep (Named H mu) w (Named H' mu') w' := by
    refine ⟨bx.os, bx.tape, bx.output, bx.size, fun x u h1 h2 => ?_, fun b hb hn => ?_⟩
    · have hlt := World.block_lt_of_cell? w x h1
      exact ⟨(World.cell?_of_block (bx.block _ hlt fun hf => h2 (fnamed hf))).trans h1, hno x hlt h2⟩
    · refine ⟨bx.block b hb fun hf => hn ⟨b, 0, none⟩ rfl (fnamed (x := ⟨b, 0, none⟩) hf), fun y hy => hno y (by omega) (hn y hy)⟩
  have turn : Turn M0 H mu w H' mu' w' := by
    refine ⟨own, fun t cs ht => ?_, fun t e sz k ht => ?_, fun t e sz ver cs ht => ?_⟩
    · rcases img t with ⟨s, hs, rfl⟩ | hi
      · have h0 := old0 s hs (by rw [ht]; simp)
        have h3 := hH s h0
        rw [ht] at h3
        cases hh : H0 s with
        | box c0 =>
          rcases st.box s c0 hh with h4 | ⟨⟨c1, h4⟩, h5⟩
          · exact absurd h4 ((d1 s).2 hs)
          · refine ⟨⟨_, by rw [e1 s hs, h4]; rfl⟩, ?_⟩
            rw [m1 s hs, h5]
            simp [mu0of, h0]
        | _ => rw [hh] at h3; simp [HO.ren] at h3
      · exact ⟨⟨cs, (e2 t hi).trans ht⟩, m2 t hi⟩
    · rcases img t with ⟨s, hs, rfl⟩ | hi
      · have h0 := old0 s hs (by rw [ht]; simp)
        have h3 := hH s h0
        rw [ht] at h3
        rcases HO.inn_cases (cl0 s h0) with ⟨cs, e1, -⟩ | ⟨e1, sz, v, cs, e1, -⟩ <;> rw [e1] at h3 <;> simp [HO.ren] at h3
      · exact ⟨k, Nat.le_refl _, (e2 t hi).trans ht, fun _ => ⟨m2 t hi, fun g hg => nofoot hi (by rw [ht]; simp) hg⟩⟩
    · rcases img t with ⟨s, hs, rfl⟩ | hi
      · have h0 := old0 s hs (by rw [ht]; simp)
        have h3 := hH s h0
        rw [ht] at h3
        cases hh : H0 s with
        | vec e' sz' v' c0 =>
          rw [hh] at h3
          simp only [HO.ren, HO.vec.injEq] at h3
          obtain ⟨rfl, rfl, rfl, rfl⟩ := h3
          have hmu0 : mu0of mu ρ ns0 s = mu (ρ s) := by simp [mu0of, h0]
          rcases st.vec s _ _ _ _ hh with h4 | ⟨v1, c1, h4, h5, h6⟩
          · exact absurd h4 ((d1 s).2 hs)
          · refine ⟨v1, _, by rw [e1 s hs, h4]; rfl, h5, fun hv => ?_⟩
            obtain ⟨q1, q2, q3⟩ := h6 hv
            rw [hmu0] at q2 q3
            exact ⟨by simpa using q1, (m1 s hs).trans q2, q3⟩
        | _ => rw [hh] at h3; simp [HO.ren] at h3
      · exact ⟨ver, cs, (e2 t hi).trans ht, Nat.le_refl _, fun _ => ⟨rfl, m2 t hi, fun g cur e' hg hc => ⟨cur, (nofoot hi (by rw [ht]; simp) hg).trans hc, rfl⟩⟩⟩
  have hag : ∀ s ∈ ns1, H' (ρ s) = (H1 s).ren ρ ∧ mu' (ρ s) = mu1 s := fun s hs => ⟨e1 s hs, m1 s hs⟩
  have hst : Stay (Mut ⟨Rest M0 H mu ρ ns0, fun _ => False⟩ H1 mu1) w' (Mut M0 H' mu') w' := fun x u h1 h2 => ⟨h1, fun h3 => h2 (by
    rcases h3 with h3 | ⟨t, ht⟩
    · exact .inl (.inl (.inl h3))
    · have ht : NamedAt H' mu' t x := ht
      rcases img t with ⟨s, hs, rfl⟩ | hi
      · refine .inr ⟨s, ?_⟩
        have g2 := (namedAt_mu ht).2
        rw [m1 s hs] at g2
        show NamedAt H1 mu1 s x
        unfold NamedAt
        rcases HO.inn_cases (cl1 s hs) with ⟨cs, e, -⟩ | ⟨e1, sz, v, cs, e, -⟩ <;> rw [e] <;> exact g2
      · exact .inl (.inl (.inr ⟨t, fun s hs => hi s (sub s hs), back hi ht⟩)))⟩
  have place : ∀ s ∈ ns1, ∀ b, mu1 s = some b → C.w.heap.size ≤ b ∨ C.foot b := fun s hs b hb => by
    rcases pl s b ((d1 s).2 hs) hb with h3 | h3
    · exact .inl (Nat.le_trans h.base h3)
    · exact (h.named_lt (fnamed (x := ⟨b, 0, none⟩) h3)).1
  refine ⟨mu', h.move own (Steps.of turn fun t ht => ?_) rfl h.size (fun t b h1 h2 => ?_) (fun t ht => (h.slots t ht).turn turn) (fun t cs ht => ?_) (fun t e sz k ht => ?_) (fun t e sz ver cs ht => ?_) (fun t t' b h1 h2 h3 h4 => ?_) (fun _ _ => rfl) (.inl rfl), fun v x hx hv => hv.ren hst hag hx⟩
  · rcases img t with ⟨s, hs, rfl⟩ | hi
    · by_cases h0 : s ∈ ns0
      · exact absurd ht (hne s h0)
      · exact .inr (hnew s hs h0).2
    · exact .inl ((e2 t hi).trans ht)
  · rcases img t with ⟨s, hs, rfl⟩ | hi
    · rw [m1 s hs] at h2
      rcases pl s b ((d1 s).2 hs) h2 with h3 | h3
      · exact .inr h3
      · obtain ⟨s0, hs0, h4⟩ := hfoot h3
        exact .inl ⟨ρ s0, hne s0 hs0, h4⟩
    · rw [e2 t hi] at h1
      rw [m2 t hi] at h2
      exact .inl ⟨t, h1, h2⟩
  · rcases img t with ⟨s, hs, rfl⟩ | hi
    · rw [e1 s hs] at ht
      cases hh : H1 s with
      | box c1 =>
        rw [hh] at ht
        simp only [HO.ren, HO.box.injEq] at ht
        subst ht
        obtain ⟨b, arr, e, g1, g2, g3, g4⟩ := hm.box s c1 hh
        have hc := cl1 s hs
        rw [hh] at hc
        refine ⟨b, arr, e, (m1 s hs).trans g1, place s hs b g1, g2, by simpa using g3, fun j x hj => ?_⟩
        simp only [List.getElem?_map, Option.map_eq_some_iff] at hj
        obtain ⟨y, hy, rfl⟩ := hj
        exact ⟨(g4 j y hy).1.ren hst hag (List.all_eq_true.1 hc y (List.mem_of_getElem? hy)), (g4 j y hy).2⟩
      | _ => rw [hh] at ht; simp [HO.ren] at ht
    · rw [e2 t hi] at ht
      obtain ⟨b, arr, e, g1, g2, g3, g4, g5⟩ := h.box t cs ht
      exact ⟨b, arr, e, (m2 t hi).trans g1, g2, (nofoot hi (by rw [ht]; simp) g1).trans g3, g4, fun j x hj => ⟨(g5 j x hj).1.turn turn, (g5 j x hj).2⟩⟩
  · rcases img t with ⟨s, hs, rfl⟩ | hi
    · rw [e1 s hs] at ht
      rcases HO.inn_cases (cl1 s hs) with ⟨cs, e1, -⟩ | ⟨e1, sz, v, cs, e1, -⟩ <;> rw [e1] at ht <;> simp [HO.ren] at ht
    · rw [e2 t hi] at ht
      rcases h.row t e sz k ht with g1 | ⟨g, g1, g2, g3⟩
      · exact .inl ((m2 t hi).trans g1)
      · exact .inr ⟨g, (m2 t hi).trans g1, g2, Nat.lt_of_lt_of_le g3 bx.size⟩
  · rcases img t with ⟨s, hs, rfl⟩ | hi
    · rw [e1 s hs] at ht
      cases hh : H1 s with
      | vec e' sz' v' c1 =>
        rw [hh] at ht
        simp only [HO.ren, HO.vec.injEq] at ht
        obtain ⟨rfl, rfl, rfl, rfl⟩ := ht
        have hc := cl1 s hs
        rw [hh] at hc
        rcases hm.vec s _ _ _ _ hh with ⟨g1, g2⟩ | ⟨g, cur, g1, g2, g3, g4, g5⟩
        · exact .inl ⟨(m1 s hs).trans g1, by simp [g2]⟩
        · refine .inr ⟨g, cur, (m1 s hs).trans g1, place s hs g g1, g2, by simpa using g3, g4, fun j x hj => ?_⟩
          simp only [List.getElem?_map, Option.map_eq_some_iff] at hj
          obtain ⟨y, hy, rfl⟩ := hj
          exact (g5 j y hy).ren hst hag (List.all_eq_true.1 hc y (List.mem_of_getElem? hy))
      | _ => rw [hh] at ht; simp [HO.ren] at ht
    · rw [e2 t hi] at ht
      rcases h.vec t e sz ver cs ht with ⟨g1, g2⟩ | ⟨g, cur, g1, g2, g3, g4, g5, g6⟩
      · exact .inl ⟨(m2 t hi).trans g1, g2⟩
      · exact .inr ⟨g, cur, (m2 t hi).trans g1, g2, (nofoot hi (by rw [ht]; simp) g1).trans g3, g4, g5, fun j x hj => (g6 j x hj).turn turn⟩
  · have mixed : ∀ {t t' b}, (∃ s ∈ ns1, ρ s = t) → (∀ s ∈ ns1, ρ s ≠ t') → H' t' ≠ .none → mu' t = some b → mu' t' = some b → False := by
      rintro t t' b ⟨s, hs, rfl⟩ hi h2 h3 h4
      rw [m1 s hs] at h3
      rw [e2 t' hi] at h2
      rw [m2 t' hi] at h4
      rcases pl s b ((d1 s).2 hs) h3 with h5 | h5
      · have := h.mu_lt h2 h4; omega
      · obtain ⟨s0, hs0, h6⟩ := hfoot h5
        exact hi s0 (sub s0 hs0) (h.inj _ _ _ (hne s0 hs0) h2 h6 h4)
    rcases img t with hi | hi <;> rcases img t' with hi' | hi'
    · obtain ⟨s, hs, rfl⟩ := hi
      obtain ⟨s', hs', rfl⟩ := hi'
      rw [m1 s hs] at h3
      rw [m1 s' hs'] at h4
      rw [hm.inj s s' b ((d1 s).2 hs) ((d1 s').2 hs') h3 h4]
    · exact (mixed hi hi' h2 h3 h4).elim
    · exact (mixed hi' hi h1 h4 h3).elim
    · rw [e2 t hi] at h1
      rw [e2 t' hi'] at h2
      rw [m2 t hi] at h3
      rw [m2 t' hi'] at h4
      exact h.inj t t' b h1 h2 h3 h4
end
/-- An argument as the callee sees it. -/
def ArgOk (ρ : Nat → Nat) (ns0 : List Nat) (y z : SV) : Prop := (z.inn ns0 = true ∧ y = z.ren ρ) ∨ ∃ d, y.toD = some d ∧ z = .d d
/-- What is handed in, what is handed back: the callee's names and the caller's. -/
structure Hand (H : Hp) (ys args : List SV) (H0 H1 : Hp) (res : SV) (ρ : Nat → Nat) (ns0 ns1 : List Nat) : Prop where
  len : ys.length = args.length
  arg : ∀ (j : Nat) y z, ys[j]? = some y → args[j]? = some z → ArgOk ρ ns0 y z
  d0 : ∀ s, H0 s ≠ .none ↔ s ∈ ns0
  d1 : ∀ s, H1 s ≠ .none ↔ s ∈ ns1
  hH : ∀ s ∈ ns0, H (ρ s) = (H0 s).ren ρ
  cl0 : ∀ s ∈ ns0, (H0 s).inn ns0 = true
  cl1 : ∀ s ∈ ns1, (H1 s).inn ns1 = true
  sub : ∀ s ∈ ns0, s ∈ ns1
  inj : ∀ s ∈ ns1, ∀ t ∈ ns1, ρ s = ρ t → s = t
  fresh : ∀ s ∈ ns1, s ∉ ns0 → H (ρ s) = .none ∧ ρ s < TR
  res : res.inn ns1 = true
def wrM (H1 : Hp) (ρ : Nat → Nat) (ns1 : List Nat) : List (Nat × HO) := ns1.map fun s => (ρ s, (H1 s).ren ρ)
section
variable {H H1 : Hp} {ρ : Nat → Nat}
theorem appM_out : ∀ {ns : List Nat} {H : Hp} {t : Nat}, (∀ s ∈ ns, ρ s ≠ t) → app H (wrM H1 ρ ns) t = H t
  | [], _, _, _ => rfl
  | s :: ns, H, t, h => by
    show app (hup H (ρ s) _) (wrM H1 ρ ns) t = H t
    rw [appM_out fun u hu => h u (by simp [hu])]
    simp [hup, (h s (by simp)).symm]
theorem appM_in : ∀ {ns : List Nat} {H : Hp}, (∀ s ∈ ns, ∀ t ∈ ns, ρ s = ρ t → s = t) → ∀ s ∈ ns, app H (wrM H1 ρ ns) (ρ s) = (H1 s).ren ρ
  | [], _, _, s, hs => by cases hs
  | u :: ns, H, hi, s, hs => by
    show app (hup H (ρ u) _) (wrM H1 ρ ns) (ρ s) = _
    by_cases h : s ∈ ns
    · exact appM_in (fun a ha b hb => hi a (by simp [ha]) b (by simp [hb])) s h
    · have hsu : s = u := by simpa [h] using hs
      subst hsu
      rw [appM_out (ns := ns) fun t (ht : t ∈ ns) e => h (hi t (List.mem_cons_of_mem _ ht) s (by simp) e ▸ ht)]
      simp [hup]
end
end Go.Proofs.YtefiebkngpcaoaaDoor
namespace Go.Proofs.YtefiebkngpcaoaaDoor
open Go.RowKit

/-- A function's contract on pure data: it hands back what stands for res, and nothing that was there has turned. -/
def PC (P : Program) (k : FuncId) (args : List D) (res : D) : Prop :=
  (∃ fn, P.funcs[k]? = some fn ∧ (fn.name == "runtime.NumGoroutine") = false ∧ fn.body.isNone = false) ∧
  ∀ (M : Addr → Prop) (w : World) (vs : List Value), Globs M w → RepL M w vs args → (∀ x, M x → x.block < w.heap.size) →
    Calls P k vs.toArray w fun e w' => ∃ v, e = .returned v ∧ Rep M w' v res ∧ Below w.heap.size w w'
/-- == on two values of many cells. -/
def AggEq (P : Program) (t : TypeId) (xs ys : List D) (b : Bool) : Prop :=
  ∀ (M : Addr → Prop) (w : World) (vs us : Array Value) (x y : Operand) (op : BinOp), op = .eql ∨ op = .neq → RepL M w vs.toList xs → RepL M w us.toList ys → (∀ u ∈ vs.toList, u.oneCell' = true) → (∀ u ∈ us.toList, u.oneCell' = true) →
    (eqGuard op t x y (.agg vs) (.agg us)).run P w = .ok () w ∧ (Op.equal t (.agg vs) (.agg us)).run P w = .ok b w

/-- One operation, and what it comes to. -/
inductive POp (P : Program) (o : Oper) (f : Frm) (H : Hp) : Eff → Prop
  | step (e : Eff) (h : pstep P o f H = some e) : POp P o f H e
  | call (x : Operand) (as : Array Operand) (tys : Array TypeId) (k : FuncId) (first cap ds : List D) (res : D) (ho : o.op = .call { callee := .value x, args := as, argTypes := tys })
      (hx : ev f x = .d (.fn (.func k) first cap)) (ha : toDs (as.toList.map (ev f)) = some ds) (hc : PC P k (first ++ ds ++ cap) res) : POp P o f H (.val (.d res))
  | calln (x : Operand) (as : Array Operand) (tys : Array TypeId) (k : FuncId) (first cap ds : List D) (res : D) (ho : o.op = .call { callee := .value x, args := as, argTypes := tys })
      (hx : ev f x = .d (.fn (.func k) first cap)) (ha : toDsN (as.toList.map (ev f)) = some ds) (hc : PC P k (first ++ ds ++ cap) res) : POp P o f H (.val (.d res))
  | callm (x : Operand) (as : Array Operand) (tys : Array TypeId) (k : FuncId) (args : List SV) (H0 H1 : Hp) (res : SV) (ρ : Nat → Nat) (ns0 ns1 : List Nat) (ho : o.op = .call { callee := .value x, args := as, argTypes := tys })
      (hx : ev f x = .d (.fn (.func k) [] [])) (hc : PM P k args H0 res H1) (hh : Hand H (as.toList.map (ev f)) args H0 H1 res ρ ns0 ns1) : POp P o f H ⟨res.ren ρ, none, wrM H1 ρ ns1⟩
  | buildn (t : TypeId) (parts : Array (Nat × Operand)) (zs : List D) (pl : List (Nat × Nat)) (ps : List (Nat × D)) (cs : List D) (ho : o.op = .build t parts) (hz : zeroTN P t = some zs) (hpl : placesT P t = some pl) (hps : partsD f parts.toList = some ps)
      (hf : pfill (fun i => pl[i]?) zs ps = some cs) : POp P o f H (.val (.d (.agg cs)))
  | ice (t : TypeId) (x : Operand) (ys : List SV) (ds : List D) (ho : o.op = .box t x) (hc : (ev f x).cells = some ys) (hd : toDs ys = some ds) : POp P o f H (.val (.d (.ep ds)))
  | eql (op : BinOp) (t t' : TypeId) (x y : Operand) (xs ys : List D) (b : Bool) (ho : o.op = .binOp op t x y t') (hx : ev f x = .d (.agg xs)) (hy : ev f y = .d (.agg ys))
      (hb : AggEq P t xs ys b) (hop : op = .eql ∨ op = .neq) : POp P o f H (.val (.d (.bool (if op = .eql then b else !b))))
  | grow (s x : Operand) (t : TypeId) (r n m : Nat) (cs news zs : List D) (e sz bts : Nat) (ho : o.op = .call { callee := .builtin .append, args := #[s, x], argTypes := #[t, t] })
      (hes : ev f s = .own r n cs) (hH : H r = .row e sz n) (hex : (ev f x).toD = some (.sl m news)) (hel : elT P t = some (e, sz, bts)) (hz : zeroT P e = some zs) (hzl : zs.length = sz) (hsz : 0 < sz) (hlen : news.length = m * sz)
      (hb : (n + m) * bts ≤ 140737488355328) (hmax : n + m ≤ 4611686018427387904) : POp P o f H ⟨.own r (n + m) (cs ++ news), some r, [(r, .row e sz (n + m))]⟩
  | grow0 (s x : Operand) (t : TypeId) (r m : Nat) (news zs : List D) (e sz bts : Nat) (ho : o.op = .call { callee := .builtin .append, args := #[s, x], argTypes := #[t, t] })
      (hdr : o.dst = some r) (hes : ev f s = .nil) (hH : H r = .none) (hex : (ev f x).toD = some (.sl m news)) (hel : elT P t = some (e, sz, bts)) (hz : zeroT P e = some zs) (hzl : zs.length = sz) (hsz : 0 < sz) (hlen : news.length = m * sz)
      (hb : m * bts ≤ 140737488355328) (hmax : m ≤ 4611686018427387904) : POp P o f H ⟨.own r m news, some r, [(r, .row e sz m)]⟩
  | vapp (s x : Operand) (t : TypeId) (r ver n m : Nat) (cs : List SV) (news zs : List D) (e sz bts : Nat) (ho : o.op = .call { callee := .builtin .append, args := #[s, x], argTypes := #[t, t] })
      (hes : ev f s = .vec r ver n) (hH : H r = .vec e sz ver cs) (hex : (ev f x).toD = some (.sl m news)) (hel : elT P t = some (e, sz, bts)) (hz : zeroT P e = some zs) (hzl : zs.length = sz) (hsz : 0 < sz) (hmp : 0 < m) (hlen : news.length = m * sz)
      (hb : (n + m) * bts ≤ 140737488355328) (hmax : n + m ≤ 4611686018427387904) : POp P o f H ⟨.vec r (ver + 1) (n + m), some r, [(r, .vec e sz (ver + 1) (cs ++ news.map .d))]⟩
  | vapp0 (s x : Operand) (t : TypeId) (r m : Nat) (news zs : List D) (e sz bts : Nat) (ho : o.op = .call { callee := .builtin .append, args := #[s, x], argTypes := #[t, t] })
      (hdr : o.dst = some r) (hes : ev f s = .nil) (hH : H r = .none) (hex : (ev f x).toD = some (.sl m news)) (hel : elT P t = some (e, sz, bts)) (hz : zeroT P e = some zs) (hzl : zs.length = sz) (hsz : 0 < sz) (hmp : 0 < m) (hlen : news.length = m * sz)
      (hb : m * bts ≤ 140737488355328) (hmax : m ≤ 4611686018427387904) : POp P o f H ⟨.vec r 0 m, some r, [(r, .vec e sz 0 (news.map .d))]⟩
  | vbuild (t : TypeId) (len : Nat) (parts : Array (Nat × Operand)) (s et sz bts : Nat) (ps : List (Nat × D)) (zs cs : List D) (ho : o.op = .buildSlice t len parts) (hdr : o.dst = some s) (hs : H s = .none) (hel : elT P t = some (et, sz, bts)) (hps : partsD f parts.toList = some ps)
      (hz : zeroT P et = some zs) (hc : zs.length = sz ∧ len * sz ≤ 16777216 ∧ len * sz ≠ 0) (hf : pfill (fun i => some (i * sz, sz)) (repD len zs) ps = some cs) (hcl : cs.length = len * sz) : POp P o f H ⟨.vec s 0 len, none, [(s, .vec et sz 0 (cs.map .d))]⟩
/-- Does the operation name slots of the frame alone? -/
def opOk (N : Nat) (o : Oper) : Bool := (match o.dst with | some d => decide (d < N) | none => true) && o.op.operands.toList.all (opB N)
section
variable {P : Program} {N : Nat} {M0 : MM} {w0 : Ctx} {w : World} {f f' : Frm} {H H' : Hp} {mu : Nat → Option Nat} {a : Act} {o : Oper} {e : Eff}

theorem opOk_dst (h : opOk N o = true) : ∀ d, o.dst = some d → d < N := by
  intro d hd
  simp only [opOk, hd, Bool.and_eq_true, decide_eq_true_eq] at h
  exact h.1
theorem opOk_ops (h : opOk N o = true) : ∀ x ∈ o.op.operands.toList, opB N x = true := by
  simp only [opOk, Bool.and_eq_true, List.all_eq_true] at h
  exact h.2
/-- The fence: none, in a round or not. -/
abbrev fen (ro : Option Nat) : Fence := { Fence.wide with round := ro }
theorem wpIn_value {ro : Option Nat} {n : Nat} {K : Act → World → Prop} {Q : Exit → Act → World → Prop} (hnd : ∀ c, o.op ≠ .defer c) {v : Value} {w' : World} (hr : (execOp a.eval o).run P w = .ok (.value v) w') (hK : K (a.put o.dst v) w') : o.wpIn (fen ro) n P a w K Q :=
  ⟨fun _ _ => trivial, by rw [Oper.semAt_eq _ _ _ hnd, hr]; exact hK⟩
theorem wpIn_skipOp {ro : Option Nat} {n : Nat} {K : Act → World → Prop} {Q : Exit → Act → World → Prop} (hnd : ∀ c, o.op ≠ .defer c) {w' : World} (hr : (execOp a.eval o).run P w = .ok .skip w') (hK : K (a.put o.dst undef) w') : o.wpIn (fen ro) n P a w K Q :=
  ⟨fun _ _ => trivial, by rw [Oper.semAt_eq _ _ _ hnd, hr]; exact hK⟩
theorem wpIn_enter {ro : Option Nat} {n : Nat} {K : Act → World → Prop} {Q : Exit → Act → World → Prop} (hnd : ∀ c, o.op ≠ .defer c) {k : FuncId} {args : Array Value} {w' : World} (hr : (execOp a.eval o).run P w = .ok (.enter k args) w')
    (hc : Calls P k args w' fun e w'' => ∃ v, e = .returned v ∧ K (a.put o.dst v) w'') : o.wpIn (fen ro) n P a w K Q :=
  ⟨fun _ _ => trivial, by
    rw [Oper.semAt_eq _ _ _ hnd, hr]
    refine ⟨(fun h => by cases h), ?_⟩
    have h1 : CallsIn Fence.wide (n - 1) P k args w' (fun
      | .returned v, w'' => K (a.put o.dst v) w''
      | .panicked chain, w'' => Q (.panic chain) a w''
      | .outgrown, _ => LetsOut Q) := callsIn_wide.2 (hc.mono fun e w'' ⟨v, he, hv⟩ => by subst he; exact hv)
    exact h1⟩
theorem nodefer {o' : Op} (ho : o.op = o') (h : ∀ c, o' ≠ .defer c) : ∀ c, o.op ≠ .defer c := fun c hc => h c (ho.symm.trans hc)
theorem pstep_nodefer (he : pstep P o f H = some e) : ∀ c, o.op ≠ .defer c := fun c hc => by simp [pstep, hc] at he
theorem goes_wp (h : Goes P N M0 w0 o f H e a w) (hnd : ∀ c, o.op ≠ .defer c) {n : Nat} {K : Act → World → Prop} {Q : Exit → Act → World → Prop}
    (hK : ∀ v w' mu', StM N M0 w0 (updo f o.dst e.res) (app H e.wr) mu' (a.put o.dst v) w' → K (a.put o.dst v) w') : o.wpIn (fen w0.ro) n P a w K Q := by
  obtain ⟨v, w', mu', hr, hs⟩ := h
  rcases hr with hr | ⟨hr, rfl⟩
  · exact wpIn_value hnd hr (hK v w' mu' hs)
  · exact wpIn_skipOp hnd hr (hK undef w' mu' hs)
theorem goes_step (h : StM N M0 w0 f H mu a w) (hk : opOk N o = true) (hfx : ∀ d, o.dst = some d → w0.fix d = false) (he : pstep P o f H = some e) : Goes P N M0 w0 o f H e a w := by
  have hd : ∀ d, o.dst = some d → d < N ∧ w0.fix d = false := fun d hd => ⟨opOk_dst hk d hd, hfx d hd⟩
  have hx := opOk_ops hk
  cases ho : o.op <;> simp only [ho, Op.operands] at hx
  case move x => exact goes_move h hd (.inl ho) (hx _ (by simp)) he
  case assign x => exact goes_move h hd (.inr ho) (hx _ (by simp)) he
  case pick c x y => exact goes_pick h hd ho (hx _ (by simp)) (hx _ (by simp)) (hx _ (by simp)) he
  case alloc t => exact goes_alloc h hd ho he
  case box t x => exact goes_box h hd ho (hx _ (by simp)) he
  case load t x => exact goes_load h hd ho (hx _ (by simp)) he
  case store t x y => exact goes_store h hd ho (hx _ (by simp)) (hx _ (by simp)) he
  case fieldAddr t x i => exact goes_fieldAddr h hd ho (hx _ (by simp)) he
  case field t x i => exact goes_field h hd ho (hx _ (by simp)) he
  case indexAddr t x i => exact goes_indexAddr h hd ho (hx _ (by simp)) (hx _ (by simp)) he
  case index t x i => exact goes_index h hd ho (hx _ (by simp)) (hx _ (by simp)) he
  case extract x i => exact goes_extract h hd ho (hx _ (by simp)) he
  case nilCheck x => exact goes_nilCheck h hd ho (hx _ (by simp)) he
  case binOp op t x y t' => exact goes_binOp h hd ho (hx _ (by simp)) (hx _ (by simp)) he
  case unOp op t x => exact goes_unOp h hd ho (hx _ (by simp)) he
  case convert s t x => exact goes_convert h hd ho (hx _ (by simp)) he
  case makeFunc fn fi ca => exact goes_makeFunc h hd ho (List.all_eq_true.2 fun x hq => hx x (by simp at hq ⊢; exact .inl hq)) (List.all_eq_true.2 fun x hq => hx x (by simp at hq ⊢; exact .inr hq)) he
  case build t ps => exact goes_build h hd ho (fun p hp => hx p.2 (by simp; exact ⟨p.1, by simpa using hp⟩)) he
  case buildSlice t n ps => exact goes_buildSlice h hd ho (fun p hp => hx p.2 (by simp; exact ⟨p.1, by simpa using hp⟩)) he
  case slice t x lo hi mx =>
    cases mx with
    | none => exact goes_slice h hd ho (hx _ (by simp)) (fun z hz => hx z (by simp [hz])) (fun z hz => hx z (by simp [hz])) he
    | some m => simp [pstep, ho] at he
  case call c =>
    obtain ⟨cl, as, tys⟩ := c
    cases cl with
    | builtin b => exact goes_built h hd ho (fun x hxx => hx x (by simpa [Call.operands] using hxx)) he
    | _ => simp [pstep, ho] at he
  all_goals (simp [pstep, ho] at he)

theorem run_call {k : FuncId} {fn : Func} (hf : P.funcs[k]? = some fn) (hn : (fn.name == "runtime.NumGoroutine") = false) (hb : fn.body.isNone = false) (args : Array Value) :
    (callFunc k args).run P w = .ok (.enter k args) w := by
  simp only [beq_eq_false_iff_ne, ne_eq] at hn
  simp only [Option.isNone_eq_false_iff] at hb
  have hb' : fn.body ≠ none := by intro e; rw [e] at hb; cases hb
  simp [callFunc, program, Sem.run, hf, hn, hb']
/-- What any operation comes to, as the walk's own word. -/
theorem pop_wp (h : StM N M0 w0 f H mu a w) (hk : opOk N o = true) (hfx : ∀ d, o.dst = some d → w0.fix d = false) (hp : POp P o f H e) {n : Nat} {K : Act → World → Prop} {Q : Exit → Act → World → Prop}
    (hK : ∀ v w' mu', StM N M0 w0 (updo f o.dst e.res) (app H e.wr) mu' (a.put o.dst v) w' → K (a.put o.dst v) w') : o.wpIn (fen w0.ro) n P a w K Q := by
  have hd : ∀ d, o.dst = some d → d < N ∧ w0.fix d = false := fun d hd => ⟨opOk_dst hk d hd, hfx d hd⟩
  cases hp with
  | step e he => exact goes_wp (goes_step h hk hfx he) (pstep_nodefer he) hK
  | call x as tys k first cap ds res ho hx ha hc =>
    have hx0 := opOk_ops hk
    simp only [ho, Op.operands, Call.operands] at hx0
    have hv := ev_sound h (hx0 x (by simp))
    rw [hx] at hv
    generalize hev : a.eval x = v at hv
    obtain ⟨⟨fn, hf, hn, hb⟩, hcall⟩ := hc
    cases (show Rep (Mut M0 H mu) w v (.fn (.func k) first cap) from hv) with
    | fn fk vs us ds' es h1 h2 =>
      have hargs : RepL (Mut M0 H mu) w (as.toList.map a.eval) ds := by
        refine toDs_sound ha (by simp) fun j v x hj hy => ?_
        simp only [List.getElem?_map, Option.map_eq_some_iff] at hj hy
        obtain ⟨q, hq, rfl⟩ := hj
        obtain ⟨q', hq', rfl⟩ := hy
        rw [hq] at hq'
        cases hq'
        exact ev_sound h (hx0 q (by simp; exact .inr (Array.mem_toList_iff.1 (List.mem_of_getElem? hq))))
      have hall := (h1.append hargs).append h2
      have hrun : (execOp a.eval o).run P w = .ok (.enter k (vs ++ as.map a.eval ++ us)) w := by
        simp only [execOp, ho, resolve, hev, Deferred.ofValue, Sem.run_bind, Sem.run_pure, Result.andThen_ok, invoke]
        exact run_call hf hn hb _
      have hcc := hcall (Mut M0 H mu) w (vs.toList ++ as.toList.map a.eval ++ us.toList) h.gl hall (fun x hx => h.mut_lt hx)
      have e1 : (vs.toList ++ as.toList.map a.eval ++ us.toList).toArray = vs ++ as.map a.eval ++ us := by
        apply Array.ext'; simp
      rw [e1] at hcc
      refine wpIn_enter (nodefer ho (by simp)) hrun (hcc.mono ?_)
      rintro e w' ⟨u, rfl, hu, hw⟩
      exact ⟨u, rfl, hK u w' mu ((h.grow hw).put hd hu)⟩
  | calln x as tys k first cap ds res ho hx ha hc =>
    have hx0 := opOk_ops hk
    simp only [ho, Op.operands, Call.operands] at hx0
    have hv := ev_sound h (hx0 x (by simp))
    rw [hx] at hv
    generalize hev : a.eval x = v at hv
    obtain ⟨⟨fn, hf, hn, hb⟩, hcall⟩ := hc
    cases (show Rep (Mut M0 H mu) w v (.fn (.func k) first cap) from hv) with
    | fn fk vs us ds' es h1 h2 =>
      have hargs : RepL (Mut M0 H mu) w (as.toList.map a.eval) ds := by
        refine toDsN_sound ha (by simp) fun j v x hj hy => ?_
        simp only [List.getElem?_map, Option.map_eq_some_iff] at hj hy
        obtain ⟨q, hq, rfl⟩ := hj
        obtain ⟨q', hq', rfl⟩ := hy
        rw [hq] at hq'
        cases hq'
        exact ev_sound h (hx0 q (by simp; exact .inr (Array.mem_toList_iff.1 (List.mem_of_getElem? hq))))
      have hall := (h1.append hargs).append h2
      have hrun : (execOp a.eval o).run P w = .ok (.enter k (vs ++ as.map a.eval ++ us)) w := by
        simp only [execOp, ho, resolve, hev, Deferred.ofValue, Sem.run_bind, Sem.run_pure, Result.andThen_ok, invoke]
        exact run_call hf hn hb _
      have hcc := hcall (Mut M0 H mu) w (vs.toList ++ as.toList.map a.eval ++ us.toList) h.gl hall (fun x hx => h.mut_lt hx)
      have e1 : (vs.toList ++ as.toList.map a.eval ++ us.toList).toArray = vs ++ as.map a.eval ++ us := by
        apply Array.ext'; simp
      rw [e1] at hcc
      refine wpIn_enter (nodefer ho (by simp)) hrun (hcc.mono ?_)
      rintro e w' ⟨u, rfl, hu, hw⟩
      exact ⟨u, rfl, hK u w' mu ((h.grow hw).put hd hu)⟩
  | callm x as tys k args H0 H1 res ρ ns0 ns1 ho hx hc hh =>
    have hx0 := opOk_ops hk
    simp only [ho, Op.operands, Call.operands] at hx0
    have hv := ev_sound h (hx0 x (by simp))
    rw [hx] at hv
    generalize hev : a.eval x = v at hv
    obtain ⟨⟨fn, hf, hn, hb⟩, -, hcall⟩ := hc
    cases (show Rep (Mut M0 H mu) w v (.fn (.func k) [] []) from hv) with
    | fn fk vs us ds' es h1 h2 =>
      have hvs : vs = #[] := by apply Array.ext'; have := h1.length; simpa using this
      have hus : us = #[] := by apply Array.ext'; have := h2.length; simpa using this
      subst hvs hus
      have hst : Stay (Mut M0 H mu) w (Mut ⟨Rest M0 H mu ρ ns0, fun _ => False⟩ H0 (mu0of mu ρ ns0)) w := stay_iff fun x => (rest_mut hh.d0 hh.hH hh.cl0 x).symm
      have hag : ∀ s ∈ ns0, H (ρ s) = (H0 s).ren ρ ∧ mu (ρ s) = mu0of mu ρ ns0 s := fun s hs => ⟨hh.hH s hs, by simp [mu0of, hs]⟩
      have hrun : (execOp a.eval o).run P w = .ok (.enter k (as.map a.eval)) w := by
        simp only [execOp, ho, resolve, hev, Deferred.ofValue, Sem.run_bind, Sem.run_pure, Result.andThen_ok, invoke, Array.empty_append, Array.append_empty]
        exact run_call hf hn hb _
      have hcc := hcall (Rest M0 H mu ρ ns0) (mu0of mu ρ ns0) w (as.toList.map a.eval) (h.mem0 hh.d0 hh.hH hh.cl0 fun s hs t ht => hh.inj s (hh.sub s hs) t (hh.sub t ht)) (by simpa using hh.len) fun j v z hj hz => by
        simp only [List.getElem?_map, Option.map_eq_some_iff] at hj
        obtain ⟨q, hq, rfl⟩ := hj
        have hy := ev_sound h (hx0 q (by simp; exact .inr (Array.mem_toList_iff.1 (List.mem_of_getElem? hq))))
        rcases hh.arg j (ev f q) z (by simp only [List.getElem?_map, hq, Option.map_some]) hz with ⟨g1, g2⟩ | ⟨d, g1, rfl⟩
        · rw [g2] at hy
          exact hy.unren hst hag g1
        · exact Rep.mono hst (SRep.toD hy g1)
      have e1 : (as.toList.map a.eval).toArray = as.map a.eval := by apply Array.ext'; simp
      rw [e1] at hcc
      refine wpIn_enter (nodefer ho (by simp)) hrun (hcc.mono ?_)
      rintro e w' ⟨u, mu1, rfl, hu, hm, hs, hb, hp⟩
      obtain ⟨mu', h', hr⟩ := h.callm hh.d0 hh.d1 hh.hH hh.cl0 hh.cl1 hh.sub hh.inj hh.fresh (appM_in hh.inj) (fun t ht => appM_out ht) hm hs hb hp
      exact ⟨u, rfl, hK u w' mu' (h'.put hd (hr u res hh.res hu))⟩
  | buildn t parts zs pl ps cs ho hz hpl hps hf =>
    have hx0 := opOk_ops hk
    simp only [ho, Op.operands] at hx0
    exact goes_wp (goes_buildN h hd ho (fun p hp => hx0 p.2 (by simp; exact ⟨p.1, by simpa using hp⟩)) hz hpl hps hf) (nodefer ho (by simp)) hK
  | ice t x ys ds ho hc hds =>
    have hx0 := opOk_ops hk
    simp only [ho, Op.operands] at hx0
    exact goes_wp (goes_ice h hd ho (hx0 x (by simp)) hc hds) (nodefer ho (by simp)) hK
  | eql op t t' x y xs ys b ho hx hy hb hop =>
    have hx0 := opOk_ops hk
    simp only [ho, Op.operands] at hx0
    have hv := ev_sound h (hx0 x (by simp))
    have hu := ev_sound h (hx0 y (by simp))
    rw [hx] at hv
    rw [hy] at hu
    obtain ⟨vs, e1, g1, g3⟩ := SRep.d_agg hv
    obtain ⟨us, e2, g2, g4⟩ := SRep.d_agg hu
    obtain ⟨k1, k2⟩ := hb _ w vs us x y op hop g1 g2 g3 g4
    have hrun : (execOp a.eval o).run P w = .ok (.value (.bool (if op = .eql then b else !b))) w := by
      rcases hop with rfl | rfl <;> simp [execOp, ho, e1, e2, k1, binOp, k2]
    exact wpIn_value (nodefer ho (by simp)) hrun (hK _ w mu (h.put hd (Rep.bool _)))
  | grow s x t r n m cs news zs e sz bts ho hes hH hex hel hz hzl hsz hlen hb hmax =>
    have hx0 := opOk_ops hk
    simp only [ho, Op.operands, Call.operands] at hx0
    exact goes_wp (goes_app h hd ho (hx0 s (by simp)) (hx0 x (by simp)) hes hH hex hel hz hzl hsz hlen hb hmax) (nodefer ho (by simp)) hK
  | grow0 s x t r m news zs e sz bts ho hdr hes hH hex hel hz hzl hsz hlen hb hmax =>
    have hx0 := opOk_ops hk
    simp only [ho, Op.operands, Call.operands] at hx0
    exact goes_wp (goes_appN h hd ho (hx0 s (by simp)) (hx0 x (by simp)) hdr hes hH hex hel hz hzl hsz hlen hb hmax) (nodefer ho (by simp)) hK
  | vapp s x t r ver n m cs news zs e sz bts ho hes hH hex hel hz hzl hsz hmp hlen hb hmax =>
    have hx0 := opOk_ops hk
    simp only [ho, Op.operands, Call.operands] at hx0
    exact goes_wp (goes_vapp h hd ho (hx0 s (by simp)) (hx0 x (by simp)) hes hH hex hel hz hzl hsz hmp hlen hb hmax) (nodefer ho (by simp)) hK
  | vapp0 s x t r m news zs e sz bts ho hdr hes hH hex hel hz hzl hsz hmp hlen hb hmax =>
    have hx0 := opOk_ops hk
    simp only [ho, Op.operands, Call.operands] at hx0
    exact goes_wp (goes_vappN h hd ho (hx0 s (by simp)) (hx0 x (by simp)) hdr hes hH hex hel hz hzl hsz hmp hlen hb hmax) (nodefer ho (by simp)) hK
  | vbuild t len parts s et sz bts ps zs cs ho hdr hs hel hps hz hc hf hcl =>
    have hx0 := opOk_ops hk
    simp only [ho, Op.operands] at hx0
    exact goes_wp (goes_vbuild h hd ho (fun p hp => hx0 p.2 (by simp; exact ⟨p.1, by simpa using hp⟩)) hdr hs hel hps hz hc hf hcl) (nodefer ho (by simp)) hK

/-- Any operation whatever, by what it does to every state of this kind. -/
def Sem1 (P : Program) (o : Oper) (f : Frm) (H : Hp) (K : Frm → Hp → Prop) : Prop :=
  ∀ (N : Nat) (M0 : MM) (C : Ctx) (mu : Nat → Option Nat) (a : Act) (w : World) (n : Nat) (Q : Exit → Act → World → Prop) (Kw : Act → World → Prop), C.P = P → opOk N o = true → (∀ d, o.dst = some d → C.fix d = false) → StM N M0 C f H mu a w →
    (∀ f' H' M0' mu' a' w', StM N M0' C f' H' mu' a' w' → K f' H' → Kw a' w') → o.wpIn (fen C.ro) n P a w Kw Q

theorem partsD_local : ∀ {l : List (Nat × Operand)}, (∀ p ∈ l, ev f p.2 = ev f' p.2) → partsD f l = partsD f' l
  | [], _ => rfl
  | p :: l, h => by
    obtain ⟨i, x⟩ := p
    simp only [partsD]
    rw [h (i, x) (by simp), partsD_local fun q hq => h q (by simp [hq])]
theorem bndD_local {y d : Nat} {x : Option Operand} (h : ∀ z, x = some z → ev f z = ev f' z) : bndD f y d x = bndD f' y d x := by
  cases x with
  | none => rfl
  | some z => simp only [bndD, h z rfl]
theorem pBuilt_local {b : Builtin} {as : List Operand} {tys : List TypeId} {v : SV} {rd : Option Nat} (he : pBuilt P f H b as tys = some (v, rd)) (h : ∀ x ∈ as, ev f x = ev f' x) (hH : ∀ s, rd = some s → H s = H' s) : pBuilt P f' H' b as tys = some (v, rd) := by
  unfold pBuilt at he ⊢
  split at he
  · rename_i x t
    rw [← h _ (by simp)]
    split at he
    · rename_i r off n cap hs
      (try simp only [hs]); exact he
    · rename_i r ver n hs
      (try simp only [hs]); exact he
    · rename_i hnb hnb2
      cases hs : ev f x with
      | bs r off n cap => exact absurd hs (hnb r off n cap)
      | vec r ver n => exact absurd hs (hnb2 r ver n)
      | _ => rw [hs] at he; exact he
  · rw [← h _ (by simp), ← h _ (by simp)]; exact he
  · rw [← h _ (by simp), ← h _ (by simp)]; exact he
  · cases he
/-- What a step hangs on: its operands and the names that it touches. -/
theorem pstep_local (he : pstep P o f H = some e) (hf : ∀ x ∈ o.op.operands.toList, ev f x = ev f' x) (hH : ∀ s, (e.rd = some s ∨ ∃ q, (s, q) ∈ e.wr) → H s = H' s) : pstep P o f' H' = some e := by
  cases ho : o.op <;> simp only [ho, Op.operands] at hf <;> simp only [pstep, ho] at he ⊢
  case move x => rw [← hf x (by simp)]; exact he
  case assign x => rw [← hf x (by simp)]; exact he
  case pick c x y => rw [← hf c (by simp), ← hf x (by simp), ← hf y (by simp)]; exact he
  case alloc t =>
    split at he
    · rename_i s zs hs hz
      split at he
      · rename_i hn
        cases he
        simp only [← hH s (.inr ⟨_, List.mem_singleton_self _⟩), hn]
      · cases he
    · cases he
  case box t x =>
    rw [← hf x (by simp)]
    split at he
    · rename_i s zs hs hz
      split at he
      · rename_i hn
        cases he
        simp only [hz, ← hH s (.inr ⟨_, List.mem_singleton_self _⟩), hn]
      · cases he
    · cases he
  case load t x =>
    rw [← hf x (by simp)]
    split at he
    · rename_i s off ag n hs ht
      split at he
      · rename_i cs hcs
        split at he
        · rename_i v hv
          cases he
          simp only [hs, ht, ← hH s (.inl rfl), hcs, hv]
        · cases he
      · cases he
    · rename_i r ver off ag n hs ht
      split at he
      · rename_i e1 sz1 ver2 cs hcs
        split at he
        · rename_i hvv
          split at he
          · rename_i v hv
            cases he
            simp only [hs, ht, ← hH r (.inl rfl), hcs, hv, if_pos hvv]
          · cases he
        · cases he
      · cases he
    · rename_i cs ag n hs ht
      split at he
      · rename_i v hv
        cases he
        simp only [hs, ht, hv]
      · cases he
    · cases he
  case store t x y =>
    rw [← hf x (by simp), ← hf y (by simp)]
    split at he
    · rename_i s off ag n ys hs ht hy
      split at he
      · rename_i cs hcs
        split at he
        · rename_i hb
          cases he
          simp only [← hH s (.inl rfl), hcs, if_pos hb]
        · cases he
      · cases he
    · rename_i r ver off ag n ys hs ht hy
      split at he
      · rename_i e1 sz1 ver2 cs hcs
        split at he
        · rename_i hb
          cases he
          simp only [← hH r (.inl rfl), hcs, if_pos hb]
        · cases he
      · cases he
    · cases he
  case fieldAddr t x i =>
    rw [← hf x (by simp)]
    split at he
    · rename_i s o off ag n hs ht
      (try simp only [hs, ht]); exact he
    · rename_i r ver o off ag n hs ht
      (try simp only [hs, ht]); exact he
    · rename_i cs off ag n hs ht
      (try simp only [hs, ht]); exact he
    · cases he
  case field t x i => rw [← hf x (by simp)]; exact he
  case indexAddr t x i =>
    rw [← hf x (by simp), ← hf i (by simp)]
    split at he
    · rename_i s off n cap et sz by_ k j hs ht hj
      (try simp only [hs, ht, hj]); exact he
    · rename_i r ver n et sz by_ k j hs ht hj
      (try simp only [hs, ht, hj]); exact he
    · rename_i et sz by_ k j ht hj hnb hnb2
      cases hs : ev f x with
      | bs s off n cap => exact absurd hs (hnb s off n cap)
      | vec r ver n => exact absurd hs (hnb2 r ver n)
      | _ => rw [hs] at he; (try simp only [ht, hj]); exact he
    · cases he
  case index t x i => rw [← hf x (by simp), ← hf i (by simp)]; exact he
  case extract x i => rw [← hf x (by simp)]; exact he
  case nilCheck x => rw [← hf x (by simp)]; exact he
  case binOp op t x y t' => rw [← hf x (by simp), ← hf y (by simp)]; exact he
  case unOp op t x => rw [← hf x (by simp)]; exact he
  case convert s t x =>
    rw [← hf x (by simp)]
    split at he
    · rename_i r off n cap hs
      split at he
      · rename_i et sz by_ cs hel hst hcs
        split at he
        · rename_i ds hik hds
          split at he
          · rename_i bs hbs
            cases he
            simp only [hs, hel, hst, ← hH r (.inl rfl), hcs, hik, hds, hbs]
          · cases he
        · cases he
      · cases he
    · rename_i r ver n hs
      split at he
      · rename_i et sz0 by_ e1 sz ver2 cs hel hst hcs
        split at he
        · rename_i hvv
          split at he
          · rename_i ds hik hds
            split at he
            · rename_i bs hbs
              cases he
              simp only [hs, hel, hst, ← hH r (.inl rfl), hcs, if_pos hvv, hik, hds, hbs]
            · cases he
          · cases he
        · cases he
      · cases he
    · rename_i hnb hnb2
      cases hs : ev f x with
      | bs r off n cap => exact absurd hs (hnb r off n cap)
      | vec r ver n => exact absurd hs (hnb2 r ver n)
      | _ => rw [hs] at he; exact he
  case makeFunc fn fi ca =>
    have e1 : fi.toList.map (ev f') = fi.toList.map (ev f) := List.map_congr_left fun x hx => (hf x (by simp at hx ⊢; exact .inl hx)).symm
    have e2 : ca.toList.map (ev f') = ca.toList.map (ev f) := List.map_congr_left fun x hx => (hf x (by simp at hx ⊢; exact .inr hx)).symm
    rw [e1, e2]; exact he
  case build t ps =>
    rw [← partsD_local fun p hp => hf p.2 (by simp; exact ⟨p.1, by simpa using hp⟩)]; exact he
  case buildSlice t n ps =>
    rw [← partsD_local fun p hp => hf p.2 (by simp; exact ⟨p.1, by simpa using hp⟩)]; exact he
  case slice t x lo hi mx =>
    cases mx with
    | some m => simp at he
    | none =>
      simp only at he ⊢
      rw [← hf x (by simp)]
      have e1 : ∀ y d, bndD f' y d lo = bndD f y d lo := fun y d => bndD_local fun z hz => (hf z (by simp [hz])).symm
      have e2 : ∀ y d, bndD f' y d hi = bndD f y d hi := fun y d => bndD_local fun z hz => (hf z (by simp [hz])).symm
      simp only [e1, e2]
      exact he
  case call c =>
    obtain ⟨cl, as, tys⟩ := c
    cases cl with
    | builtin b =>
      simp only at he ⊢
      split at he
      · rename_i v rd hb
        cases he
        rw [pBuilt_local hb (fun x hx => hf x (by simpa [Call.operands] using hx)) fun s hs => hH s (.inl hs)]
      · cases he
    | _ => simp at he
  all_goals (simp at he)
theorem pop_local (he : POp P o f H e) (hf : ∀ x ∈ o.op.operands.toList, ev f x = ev f' x) (hH : ∀ s, (e.rd = some s ∨ ∃ q, (s, q) ∈ e.wr) → H s = H' s) : POp P o f' H' e := by
  cases he with
  | step e he => exact .step e (pstep_local he hf hH)
  | call x as tys k first cap ds res ho hx ha hc =>
    simp only [ho, Op.operands, Call.operands] at hf
    refine .call x as tys k first cap ds res ho ((hf x (by simp)).symm.trans hx) ?_ hc
    rw [← ha]
    congr 1
    exact List.map_congr_left fun q hq => (hf q (by simp; exact .inr (Array.mem_toList_iff.1 hq))).symm
  | calln x as tys k first cap ds res ho hx ha hc =>
    simp only [ho, Op.operands, Call.operands] at hf
    refine .calln x as tys k first cap ds res ho ((hf x (by simp)).symm.trans hx) ?_ hc
    rw [← ha]
    congr 1
    exact List.map_congr_left fun q hq => (hf q (by simp; exact .inr (Array.mem_toList_iff.1 hq))).symm
  | callm x as tys k args H0 H1 res ρ ns0 ns1 ho hx hc hh =>
    simp only [ho, Op.operands, Call.operands] at hf
    have e1 : as.toList.map (ev f') = as.toList.map (ev f) := List.map_congr_left fun q hq => (hf q (by simp; exact .inr (Array.mem_toList_iff.1 hq))).symm
    have e2 : ∀ s ∈ ns1, H (ρ s) = H' (ρ s) := fun s hs => hH (ρ s) (.inr ⟨(H1 s).ren ρ, List.mem_map.2 ⟨s, hs, rfl⟩⟩)
    refine .callm x as tys k args H0 H1 res ρ ns0 ns1 ho ((hf x (by simp)).symm.trans hx) hc ?_
    rw [e1]
    exact { hh with hH := fun s hs => (e2 s (hh.sub s hs)).symm.trans (hh.hH s hs), fresh := fun s hs h0 => ⟨(e2 s hs).symm.trans (hh.fresh s hs h0).1, (hh.fresh s hs h0).2⟩ }
  | buildn t parts zs pl ps cs ho hz hpl hps hf' =>
    simp only [ho, Op.operands] at hf
    exact .buildn t parts zs pl ps cs ho hz hpl (by rw [← partsD_local fun p hp => hf p.2 (by simp; exact ⟨p.1, by simpa using hp⟩)]; exact hps) hf'
  | ice t x ys ds ho hc hds =>
    simp only [ho, Op.operands] at hf
    exact .ice t x ys ds ho (by rw [← hf x (by simp)]; exact hc) hds
  | eql op t t' x y xs ys b ho hx hy hb hop =>
    simp only [ho, Op.operands] at hf
    exact .eql op t t' x y xs ys b ho ((hf x (by simp)).symm.trans hx) ((hf y (by simp)).symm.trans hy) hb hop
  | grow s x t r n m cs news zs e sz bts ho hes hH' hex hel hz hzl hsz hlen hb hmax =>
    simp only [ho, Op.operands, Call.operands] at hf
    exact .grow s x t r n m cs news zs e sz bts ho ((hf s (by simp)).symm.trans hes) ((hH r (.inl rfl)).symm.trans hH') (by rw [← hf x (by simp)]; exact hex) hel hz hzl hsz hlen hb hmax
  | grow0 s x t r m news zs e sz bts ho hdr hes hH' hex hel hz hzl hsz hlen hb hmax =>
    simp only [ho, Op.operands, Call.operands] at hf
    exact .grow0 s x t r m news zs e sz bts ho hdr ((hf s (by simp)).symm.trans hes) ((hH r (.inl rfl)).symm.trans hH') (by rw [← hf x (by simp)]; exact hex) hel hz hzl hsz hlen hb hmax
  | vapp s x t r ver n m cs news zs e sz bts ho hes hH' hex hel hz hzl hsz hmp hlen hb hmax =>
    simp only [ho, Op.operands, Call.operands] at hf
    exact .vapp s x t r ver n m cs news zs e sz bts ho ((hf s (by simp)).symm.trans hes) ((hH r (.inl rfl)).symm.trans hH') (by rw [← hf x (by simp)]; exact hex) hel hz hzl hsz hmp hlen hb hmax
  | vapp0 s x t r m news zs e sz bts ho hdr hes hH' hex hel hz hzl hsz hmp hlen hb hmax =>
    simp only [ho, Op.operands, Call.operands] at hf
    exact .vapp0 s x t r m news zs e sz bts ho hdr ((hf s (by simp)).symm.trans hes) ((hH r (.inl rfl)).symm.trans hH') (by rw [← hf x (by simp)]; exact hex) hel hz hzl hsz hmp hlen hb hmax
  | vbuild t len parts s et sz bts ps zs cs ho hdr hs hel hps hz hc hf' hcl =>
    simp only [ho, Op.operands] at hf
    exact .vbuild t len parts s et sz bts ps zs cs ho hdr ((hH s (.inr ⟨_, List.mem_singleton_self _⟩)).symm.trans hs) hel (by rw [← partsD_local fun p hp => hf p.2 (by simp; exact ⟨p.1, by simpa using hp⟩)]; exact hps) hz hc hf' hcl
end
end Go.Proofs.YtefiebkngpcaoaaDoor
