/- The operations of the pure logic are sound. Condition: the slots that they name are the frame's. -/
import Derived.Test.YtefiebkngpcaoaaDoorPC
import Derived.Deep.MidRow
set_option maxRecDepth 100000
set_option linter.unusedVariables false
set_option linter.unusedSimpArgs false
set_option linter.unusedSectionVars false
namespace Go.Proofs.YtefiebkngpcaoaaDoor
open Go.RowKit
section
variable {P : Program} {N : Nat} {M0 : MM} {w0 : Ctx} {w : World} {f : Frm} {H : Hp} {mu : Nat → Option Nat} {a : Act}

theorem ofV1_sound {M : Addr → Prop} {v : Value} {d : D} (h : ofV1 v = some d) : Rep M w v d := by
  unfold ofV1 at h
  split at h <;> first | (cases h; done) | skip
  · cases h; exact .bool _
  · cases h; exact .int _ _
  · cases h; exact .str _
  · cases h; exact .nilp
  · cases h; exact .sl none 0 0 [] [] (Nat.le_refl _) (fun _ => ⟨rfl, rfl, rfl⟩) (fun a e => by cases e) .nil
  · cases h; exact .nilf
theorem ofV1_one {v : Value} {d : D} (h : ofV1 v = some d) : v.oneCell' = true := by
  unfold ofV1 at h
  split at h <;> first | (cases h; done) | rfl
theorem ofVs_sound {M : Addr → Prop} : ∀ {vs : List Value} {ds : List D}, ofVs vs = some ds → RepL M w vs ds ∧ ∀ v ∈ vs, v.oneCell' = true
  | [], ds, h => by simp [ofVs] at h; subst h; exact ⟨.nil, by simp⟩
  | v :: vs, ds, h => by
    unfold ofVs at h
    split at h
    · rename_i d ds' h1 h2
      cases h
      obtain ⟨k1, k2⟩ := ofVs_sound (M := M) h2
      refine ⟨.cons _ _ _ _ (ofV1_sound h1) k1, fun x hx => ?_⟩
      rcases List.mem_cons.1 hx with rfl | hx
      · exact ofV1_one h1
      · exact k2 x hx
    · cases h
theorem ofV_sound {M : Addr → Prop} {v : Value} {d : D} (h : ofV v = some d) : Rep M w v d := by
  unfold ofV at h
  split at h
  · rename_i cs
    cases hc : ofVs cs.toList with
    | none => rw [hc] at h; cases h
    | some ds =>
      rw [hc] at h; cases h
      obtain ⟨k1, k2⟩ := ofVs_sound (w := w) (M := M) hc
      exact .agg _ _ k1 k2
  · rename_i cs
    cases hc : ofVs cs.toList with
    | none => rw [hc] at h; cases h
    | some ds =>
      rw [hc] at h; cases h
      exact .tup _ _ (ofVs_sound (w := w) (M := M) hc).1
  · exact ofV1_sound h
theorem ev_sound (h : StM N M0 w0 f H mu a w) {x : Operand} (hx : opB N x = true) : SRep M0 H mu w (a.eval x) (ev f x) := by
  cases x with
  | tmp t => exact h.slots t (by simpa [opB] using hx)
  | const v =>
    simp only [ev, Act.eval, cst]
    split
    · rfl
    · split
      · rename_i d hv
        exact ofV_sound hv
      · exact trivial
  | func k => exact Rep.fn _ _ _ _ _ .nil .nil
  | global g =>
    simp only [ev, Act.eval]
    split
    · rename_i cs hg
      exact h.gl g cs hg
    · exact trivial
theorem Rep.one {M : Addr → Prop} {v : Value} {d : D} (h : Rep M w v d) (hd : d.one = true) : v.oneCell' = true := by
  cases h <;> first | rfl | (simp [D.one] at hd)
theorem SRep.d_agg {v : Value} {ds : List D} (h : SRep M0 H mu w v (.d (.agg ds))) : ∃ vs : Array Value, v = .agg vs ∧ RepL (Mut M0 H mu) w vs.toList ds ∧ ∀ u ∈ vs.toList, u.oneCell' = true := by
  cases (show Rep (Mut M0 H mu) w v (.agg ds) from h) with
  | agg vs ds h h1 => exact ⟨vs, rfl, h, h1⟩
theorem cells_of_one {v : Value} (h : v.oneCell' = true) : v.cells = #[v] := by
  cases v <;> first | rfl | (simp [Value.oneCell'] at h)
/-- The cells of a value. -/
theorem SRep.cells {v : Value} {x : SV} {ys : List SV} (h : SRep M0 H mu w v x) (hc : x.cells = some ys) :
    v.cells.size = ys.length ∧ (∀ j y, ys[j]? = some y → SRep M0 H mu w (v.cells.getD j undef) y ∧ (v.cells.getD j undef).oneCell' = true) ∧ ∀ u ∈ v.cells.toList, u.oneCell' = true := by
  have single : v.oneCell' = true → v.cells = #[v] → ys = [x] → v.cells.size = ys.length ∧ (∀ j y, ys[j]? = some y → SRep M0 H mu w (v.cells.getD j undef) y ∧ (v.cells.getD j undef).oneCell' = true) ∧ ∀ u ∈ v.cells.toList, u.oneCell' = true := by
    intro h1 h2 h3
    subst h3
    rw [h2]
    refine ⟨rfl, fun j y hj => ?_, fun u hu => by simp at hu; subst hu; exact h1⟩
    cases j with
    | zero => simp at hj; subst hj; exact ⟨h, h1⟩
    | succ j => simp at hj
  cases x with
  | d x =>
    cases x with
    | agg ds =>
      obtain ⟨vs, rfl, h1, h2⟩ := SRep.d_agg h
      simp only [SV.cells, Option.some.injEq] at hc
      subst hc
      have hl := h1.length
      refine ⟨by simpa [Value.cells] using hl, fun j y hj => ?_, h2⟩
      simp only [List.getElem?_map, Option.map_eq_some_iff] at hj
      obtain ⟨d, hd, rfl⟩ := hj
      obtain ⟨u, hu, hr⟩ := h1.get hd
      have : (Value.agg vs).cells.getD j undef = u := by
        simp only [Value.cells]
        simp at hu
        simp [hu]
      rw [this]
      exact ⟨hr, h2 u (List.mem_of_getElem? hu)⟩
    | tup ds => simp [SV.cells] at hc
    | bool b => cases (show Rep (Mut M0 H mu) w v _ from h); exact single rfl rfl (by simpa [SV.cells] using hc.symm)
    | int b => cases (show Rep (Mut M0 H mu) w v _ from h); exact single rfl rfl (by simpa [SV.cells] using hc.symm)
    | str b => cases (show Rep (Mut M0 H mu) w v _ from h); exact single rfl rfl (by simpa [SV.cells] using hc.symm)
    | nilp => cases (show Rep (Mut M0 H mu) w v _ from h); exact single rfl rfl (by simpa [SV.cells] using hc.symm)
    | nils => cases (show Rep (Mut M0 H mu) w v _ from h); exact single rfl rfl (by simpa [SV.cells] using hc.symm)
    | ep b => cases (show Rep (Mut M0 H mu) w v _ from h); exact single rfl rfl (by simpa [SV.cells] using hc.symm)
    | sl b => cases (show Rep (Mut M0 H mu) w v _ from h); exact single rfl rfl (by simpa [SV.cells] using hc.symm)
    | fn b => cases (show Rep (Mut M0 H mu) w v _ from h); exact single rfl rfl (by simpa [SV.cells] using hc.symm)
    | nilf => cases (show Rep (Mut M0 H mu) w v _ from h); exact single rfl rfl (by simpa [SV.cells] using hc.symm)
  | loc s off =>
    obtain ⟨cs, b, h1, h2, rfl⟩ := (show ∃ cs b, H s = .box cs ∧ mu s = some b ∧ v = .pointer (some ⟨b, off, none⟩) from h)
    exact single rfl rfl (by simpa [SV.cells] using hc.symm)
  | own r n cs =>
    have h0 : Rep (Mut M0 H mu) w v (.sl n cs) := h.1
    cases h0
    exact single rfl rfl (by simpa [SV.cells] using hc.symm)
  | nil =>
    have h0 : v = .slice none 0 0 := h
    subst h0
    exact single rfl rfl (by simpa [SV.cells] using hc.symm)
  | bs s off n cap =>
    obtain ⟨cs, b, h1, h2, rfl, h5⟩ := h
    exact single rfl rfl (by simpa [SV.cells] using hc.symm)
  | clo g first cap =>
    obtain ⟨vs, us, rfl, h2, h3⟩ := h
    exact single rfl rfl (by simpa [SV.cells] using hc.symm)
  | vec r ver n =>
    obtain ⟨⟨p, cap, rfl, -⟩, -⟩ := h
    exact single rfl rfl (by simpa [SV.cells] using hc.symm)
  | vptr r ver off =>
    obtain ⟨⟨x, rfl⟩, -⟩ := h
    exact single rfl rfl (by simpa [SV.cells] using hc.symm)
  | yld l =>
    have h0 : v = .func (.yield l) #[] #[] := h
    subst h0
    exact single rfl rfl (by simpa [SV.cells] using hc.symm)
  | trace l pre rest => simp [SV.cells] at hc
  | stop => simp [SV.cells] at hc
  | junk => simp [SV.cells] at hc
theorem toSA_sound {v : Value} {x : SV} {y : SA} (h : SRep M0 H mu w v x) (hd : x.toSA = some y) : SARep M0 H mu w v y := by
  have other : ∀ {z : SV}, SRep M0 H mu w v z → (match z.toD with | some y => some (SA.d y) | none => none) = some y → SARep M0 H mu w v y := by
    intro z hz he
    cases hq : z.toD with
    | none => rw [hq] at he; cases he
    | some d => rw [hq] at he; cases he; exact SRep.toD hz hq
  cases x with
  | loc s off => simp [SV.toSA] at hd; subst hd; exact h
  | _ => exact other h hd
theorem toSAs_sound : ∀ {xs : List SV} {ds : List SA} {vs : List Value}, toSAs xs = some ds → vs.length = xs.length → (∀ (j : Nat) (v : Value) (x : SV), vs[j]? = some v → xs[j]? = some x → SRep M0 H mu w v x) → SAL M0 H mu w vs ds
  | [], ds, vs, h, hl, _ => by
    simp [toSAs] at h
    subst h
    exact ⟨by simpa using hl, fun j v x h1 h2 => by simp at h2⟩
  | x :: xs, ds, vs, h, hl, hr => by
    unfold toSAs at h
    split at h
    · rename_i d ds' h1 h2
      cases h
      cases vs with
      | nil => simp at hl
      | cons v vs =>
        have ih := toSAs_sound h2 (by simpa using hl) fun j v x h3 h4 => hr (j + 1) v x (by simpa using h3) (by simpa using h4)
        refine ⟨by simp [ih.1], fun j u y h3 h4 => ?_⟩
        cases j with
        | zero => simp at h3 h4; subst h3 h4; exact toSA_sound (hr 0 _ _ rfl rfl) h1
        | succ j => exact ih.2 j u y (by simpa using h3) (by simpa using h4)
    · cases h
theorem toDs_sound : ∀ {xs : List SV} {ds : List D} {vs : List Value}, toDs xs = some ds → vs.length = xs.length → (∀ (j : Nat) (v : Value) (x : SV), vs[j]? = some v → xs[j]? = some x → SRep M0 H mu w v x) → RepL (Mut M0 H mu) w vs ds
  | [], ds, vs, h, hl, _ => by
    simp [toDs] at h
    subst h
    cases vs with
    | nil => exact .nil
    | cons v vs => simp at hl
  | x :: xs, ds, vs, h, hl, hr => by
    unfold toDs at h
    split at h
    · rename_i d ds' h1 h2
      cases h
      cases vs with
      | nil => simp at hl
      | cons v vs =>
        exact .cons _ _ _ _ (SRep.toD (hr 0 v x rfl rfl) h1) (toDs_sound h2 (by simpa using hl) fun j v x h3 h4 => hr (j + 1) v x (by simpa using h3) (by simpa using h4))
    · cases h

theorem SRep.toDN {v : Value} {x : SV} {y : D} (h : SRep M0 H mu w v x) (hd : x.toDN = some y) : Rep (Mut M0 H mu) w v y := by
  cases x with
  | nil =>
    simp [SV.toDN] at hd
    subst hd
    rw [show v = .slice none 0 0 from h]
    exact .nils
  | _ => exact SRep.toD h hd
theorem toDsN_sound : ∀ {xs : List SV} {ds : List D} {vs : List Value}, toDsN xs = some ds → vs.length = xs.length → (∀ (j : Nat) (v : Value) (x : SV), vs[j]? = some v → xs[j]? = some x → SRep M0 H mu w v x) → RepL (Mut M0 H mu) w vs ds
  | [], ds, vs, h, hl, _ => by
    simp [toDsN] at h
    subst h
    cases vs with
    | nil => exact .nil
    | cons v vs => simp at hl
  | x :: xs, ds, vs, h, hl, hr => by
    unfold toDsN at h
    split at h
    · rename_i d ds' h1 h2
      cases h
      cases vs with
      | nil => simp at hl
      | cons v vs =>
        exact .cons _ _ _ _ (SRep.toDN (hr 0 v x rfl rfl) h1) (toDsN_sound h2 (by simpa using hl) fun j v x h3 h4 => hr (j + 1) v x (by simpa using h3) (by simpa using h4))
    · cases h
/-- What a step comes to. -/
def Goes (P : Program) (N : Nat) (M0 : MM) (w0 : Ctx) (o : Oper) (f : Frm) (H : Hp) (e : Eff) (a : Act) (w : World) : Prop :=
  ∃ v w' mu', ((execOp a.eval o).run P w = .ok (.value v) w' ∨ ((execOp a.eval o).run P w = .ok .skip w' ∧ v = undef)) ∧ StM N M0 w0 (updo f o.dst e.res) (app H e.wr) mu' (a.put o.dst v) w'
theorem goes_val (h : StM N M0 w0 f H mu a w) {o : Oper} (hd : ∀ d, o.dst = some d → d < N ∧ w0.fix d = false) {x : SV} {rd : Option Nat} {v : Value} (hr : (execOp a.eval o).run P w = .ok (.value v) w) (hx : SRep M0 H mu w v x) :
    Goes P N M0 w0 o f H ⟨x, rd, []⟩ a w :=
  ⟨v, w, mu, .inl hr, h.put hd hx⟩

theorem tyI_spec {t : TypeId} {ag : Bool} {n : Nat} (h : tyI P t = some (ag, n)) : (∀ w, (isAgg t).run P w = .ok ag w) ∧ ∀ w, (sizeOf t).run P w = .ok n w := by
  unfold tyI at h
  cases hu : P.underlying t with
  | none => rw [hu] at h; cases h
  | some d =>
    cases hi : P.info? t with
    | none => rw [hu, hi] at h; cases d <;> cases h
    | some i =>
      rw [hu, hi] at h
      have h2 : ∀ w, (sizeOf t).run P w = .ok i.size w := fun w => by simp [sizeOf, typeInfo, hi]
      have h1 : ∀ w, (isAgg t).run P w = .ok (match d with | .struct _ | .array _ _ => true | _ => false) w := fun w => by
        unfold isAgg
        rw [Sem.run_bind, run_underlying hu w]
        cases d <;> rfl
      cases d <;> simp only [Option.some.injEq, Prod.mk.injEq] at h <;> (obtain ⟨rfl, rfl⟩ := h; exact ⟨h1, h2⟩)
end
end Go.Proofs.YtefiebkngpcaoaaDoor
