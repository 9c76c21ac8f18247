/- Contracts of the elder form as contracts on pure data. No condition beyond each lemma's own. -/
import Derived.Test.YtefiebkngpcaoaaDoorPK
import Derived.Test.YtefiebkngpcaoaaDoorBase
set_option maxRecDepth 100000
set_option linter.unusedVariables false
set_option linter.unusedSimpArgs false
set_option linter.unusedSectionVars false
namespace Go.Proofs.YtefiebkngpcaoaaDoor
open Go.RowKit

def gv1 : D → Option Value
  | .bool b => some (.bool b)
  | .int k n => some (.int k n)
  | .str s => some (.string s)
  | _ => none
def gvs : List D → Option (List Value)
  | [] => some []
  | x :: xs => match gv1 x, gvs xs with
    | some v, some vs => some (v :: vs)
    | _, _ => none
/-- Data that are one value wherever they stand: numbers, texts, bools, structs of these. -/
def gv : D → Option Value
  | .agg cs => (gvs cs).map fun l => .agg l.toArray
  | x => gv1 x
def gva : List D → Option (List Value)
  | [] => some []
  | x :: xs => match gv x, gva xs with
    | some v, some vs => some (v :: vs)
    | _, _ => none
def gvr : D → Option Value
  | .tup cs => (gva cs).map fun l => .tuple l.toArray
  | x => gv x
theorem gv1_eq {M : Addr → Prop} {w : World} {d : D} {u : Value} (h : gv1 d = some u) : (∀ v, Rep M w v d → v = u) ∧ Rep M w u d ∧ u.oneCell' = true := by
  cases d <;> simp only [gv1] at h <;> cases h
  · exact ⟨fun v hv => rep_bool hv, .bool _, rfl⟩
  · exact ⟨fun v hv => rep_int hv, .int _ _, rfl⟩
  · exact ⟨fun v hv => rep_str hv, .str _, rfl⟩
theorem gvs_eq {M : Addr → Prop} {w : World} : ∀ {ds : List D} {us : List Value}, gvs ds = some us → (∀ vs, RepL M w vs ds → vs = us) ∧ RepL M w us ds ∧ ∀ u ∈ us, u.oneCell' = true
  | [], us, h => by simp [gvs] at h; subst h; exact ⟨fun vs hv => by cases hv; rfl, .nil, by simp⟩
  | d :: ds, us, h => by
    unfold gvs at h
    split at h
    · rename_i u us' h1 h2
      cases h
      obtain ⟨a1, a2, a3⟩ := gv1_eq (M := M) (w := w) h1
      obtain ⟨b1, b2, b3⟩ := gvs_eq (M := M) (w := w) h2
      refine ⟨fun vs hv => ?_, .cons _ _ _ _ a2 b2, fun x hx => ?_⟩
      · cases hv with
        | cons v d vs ds hv ht => rw [a1 v hv, b1 vs ht]
      · rcases List.mem_cons.1 hx with rfl | hx
        · exact a3
        · exact b3 x hx
    · cases h
theorem gv_eq {M : Addr → Prop} {w : World} {d : D} {u : Value} (h : gv d = some u) : (∀ v, Rep M w v d → v = u) ∧ Rep M w u d := by
  unfold gv at h
  split at h
  · rename_i cs
    cases hc : gvs cs with
    | none => rw [hc] at h; cases h
    | some us =>
      rw [hc] at h; cases h
      obtain ⟨b1, b2, b3⟩ := gvs_eq (M := M) (w := w) hc
      refine ⟨fun v hv => ?_, .agg _ _ (by simpa using b2) (by simpa using b3)⟩
      cases hv with
      | agg vs ds hr h1 => rw [← b1 _ hr]
  · obtain ⟨a1, a2, -⟩ := gv1_eq (M := M) (w := w) h
    exact ⟨a1, a2⟩
theorem gva_eq {M : Addr → Prop} {w : World} : ∀ {ds : List D} {us : List Value}, gva ds = some us → (∀ vs, RepL M w vs ds → vs = us) ∧ RepL M w us ds
  | [], us, h => by simp [gva] at h; subst h; exact ⟨fun vs hv => by cases hv; rfl, .nil⟩
  | d :: ds, us, h => by
    unfold gva at h
    split at h
    · rename_i u us' h1 h2
      cases h
      obtain ⟨a1, a2⟩ := gv_eq (M := M) (w := w) h1
      obtain ⟨b1, b2⟩ := gva_eq (M := M) (w := w) h2
      refine ⟨fun vs hv => ?_, .cons _ _ _ _ a2 b2⟩
      cases hv with
      | cons v d vs ds hv ht => rw [a1 v hv, b1 vs ht]
    · cases h
theorem gvr_rep {M : Addr → Prop} {w : World} {d : D} {u : Value} (h : gvr d = some u) : Rep M w u d := by
  unfold gvr at h
  split at h
  · rename_i cs
    cases hc : gva cs with
    | none => rw [hc] at h; cases h
    | some us =>
      rw [hc] at h; cases h
      exact .tup _ _ (by simpa using (gva_eq (M := M) (w := w) hc).2)
  · exact (gv_eq h).2
/-- A contract of the elder form. -/
theorem pc_of_ex {P : Program} {k : FuncId} {fn : Func} {args : List D} {res : D} {vals : List Value} {v : Value} (hf : P.funcs[k]? = some fn) (hn : (fn.name != "runtime.NumGoroutine" && !fn.body.isNone) = true)
    (ha : gva args = some vals) (hr : gvr res = some v) (h : ∀ w, Calls P k vals.toArray w fun e w' => e = .returned v ∧ Ex w w') : PC P k args res := by
  simp only [Bool.and_eq_true, bne, Bool.not_eq_true'] at hn
  refine ⟨⟨fn, hf, hn.1, hn.2⟩, fun M w vs _ hvs _ => ?_⟩
  rw [(gva_eq ha).1 vs hvs]
  exact (h w).mono fun e w' ⟨he, hx⟩ => ⟨v, he, gvr_rep hr, hx⟩
theorem pc_of_qt {P : Program} {k : FuncId} {fn : Func} {args : List D} {res : D} {vals : List Value} {v : Value} (hf : P.funcs[k]? = some fn) (hn : (fn.name != "runtime.NumGoroutine" && !fn.body.isNone) = true)
    (ha : gva args = some vals) (hr : gvr res = some v) (h : ∀ w, Calls P k vals.toArray w fun e w' => e = .returned v ∧ ∃ n, w' = w.drewN n) : PC P k args res :=
  pc_of_ex hf hn ha hr fun w => (h w).mono fun e w' ⟨he, n, hw⟩ => ⟨he, by rw [hw]; exact (Ex.refl w).drewN⟩
theorem pc_of_id {P : Program} {k : FuncId} {fn : Func} {args : List D} {res : D} {vals : List Value} {v : Value} (hf : P.funcs[k]? = some fn) (hn : (fn.name != "runtime.NumGoroutine" && !fn.body.isNone) = true)
    (ha : gva args = some vals) (hr : gvr res = some v) (h : ∀ w, Calls P k vals.toArray w fun e w' => e = .returned v ∧ w = w') : PC P k args res :=
  pc_of_ex hf hn ha hr fun w => (h w).mono fun e w' ⟨he, hw⟩ => ⟨he, by rw [← hw]; exact Ex.refl w⟩
/-- And back: what a law's row asks. -/
theorem calls_of_pcg {P : Program} {k : FuncId} {args : List D} {res : D} {v : Value} (h : PC P k args res) (hr : ∀ M w' u, Rep M w' u res → u = v) (w : World) (hg : Globs (fun _ => False) w) (vs : List Value) (hv : RepL (fun _ => False) w vs args) :
    Calls P k vs.toArray w fun e w' => e = .returned v ∧ Ex w w' :=
  (h.2 (fun _ => False) w vs hg hv (fun _ h => h.elim)).mono fun e w' ⟨u, he, hu, hx⟩ => ⟨by rw [he, hr _ _ _ hu], hx⟩
/-- The same of a program without tables. -/
theorem calls_of_pc {P : Program} {k : FuncId} {args : List D} {res : D} {v : Value} (h : PC P k args res) (hr : ∀ M w' u, Rep M w' u res → u = v) (w : World) (vs : List Value) (hv : RepL (fun _ => False) w vs args) (hn : gtab = [] := by rfl) :
    Calls P k vs.toArray w fun e w' => e = .returned v ∧ Ex w w' :=
  calls_of_pcg h hr w (fun g cs hg => by simp [gcells, hn] at hg) vs hv
end Go.Proofs.YtefiebkngpcaoaaDoor
