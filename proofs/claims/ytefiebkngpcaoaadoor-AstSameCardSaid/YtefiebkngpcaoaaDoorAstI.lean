/- An expression, a number that came in. No condition. -/
import Derived.Test.YtefiebkngpcaoaaDoorFrameD
set_option maxRecDepth 100000
set_option linter.unusedVariables false
set_option linter.unusedSimpArgs false
set_option linter.unusedSectionVars false
namespace Go.Proofs.YtefiebkngpcaoaaDoor
open Go.RowKit

theorem i64_of_wf {x : Int} (h : (Lit.int .i64 x).wf = true) : I64 x := by
  simp [Lit.wf, IntKind.min, IntKind.max, IntKind.signed, IntKind.bits] at h
  exact ⟨by omega, by omega⟩
theorem Expr_fields : ∃ f g h i j : Field, (Tryd.prog.fieldsOf 24).toList = [f, g, h, i, j] ∧ f.offset = 0 ∧ g.offset = 1 ∧ h.offset = 2 ∧ i.offset = 3 ∧ j.offset = 4 ∧ f.type = 3 ∧ g.type = 3 ∧ h.type = 9 ∧ i.type = 9 ∧ j.type = 22 := by
  refine ⟨_, _, _, _, _, rfl, ?_, ?_, ?_, ?_, ?_, ?_, ?_, ?_, ?_, ?_⟩ <;> kernel_rfl
theorem opens_Expr : ∀ fuel, Opens Tryd.prog 24 Exp.cells Exp.Ok fuel := by
  intro fuel
  induction fuel using Nat.strongRecOn with
  | _ fuel ih =>
    have hs : ∀ m, m < fuel → OpensF Tryd.prog (Tryd.prog.fieldsOf 24).toList 0 (fun p : Int × (Int × (ByteArray × (ByteArray × (List Exp × Unit)))) => [D.int .i64 p.1] ++ ([D.int .i64 p.2.1] ++ ([D.str p.2.2.1] ++ ([D.str p.2.2.2.1] ++ ([D.sl p.2.2.2.2.1.length (p.2.2.2.2.1.flatMap Exp.cells)] ++ [])))))
        (fun p => (Lit.int .i64 p.1).wf = true ∧ (Lit.int .i64 p.2.1).wf = true ∧ p.2.2.1.size ≤ maxLen ∧ p.2.2.2.1.size ≤ maxLen ∧ (p.2.2.2.2.1.length ≤ maxLen ∧ ∀ x ∈ p.2.2.2.2.1, x.Ok) ∧ True) 5 m := by
      intro m hm
      obtain ⟨f, g, h, i, j, hfg, o1, o2, o3, o4, o5, t1, t2, t3, t4, t5⟩ := Expr_fields
      rw [hfg]
      exact opensF_cons (k := 1) o1 (by rw [t1]; kernel_rfl) (by rw [t1]; exact opens_int Tryd.underlying3 m) (opensF_cons (k := 1) o2 (by rw [t2]; kernel_rfl) (by rw [t2]; exact opens_int Tryd.underlying3 m)
        (opensF_cons (k := 1) o3 (by rw [t3]; kernel_rfl) (by rw [t3]; exact opens_str Tryd.underlying9 m) (opensF_cons (k := 1) o4 (by rw [t4]; kernel_rfl) (by rw [t4]; exact opens_str Tryd.underlying9 m)
          (opensF_cons (k := 1) o5 (by rw [t5]; kernel_rfl) (by rw [t5]; exact opens_slice (n := 5) Tryd.underlying22 (by kernel_rfl) fun j hj => ih j (by omega)) opensF_nil))))
    refine (opens_struct Tryd.underlying24 (by kernel_rfl) hs).imp ?_
    rintro ⟨op, n, a, s, l, u⟩ ⟨h1, h2, h3, h4, ⟨h5, h6⟩, -⟩
    exact ⟨.mk op n a s l, .mk op n a s l (i64_of_wf h1) (i64_of_wf h2) h3 h4 h5 h6, Exp.cells_mk op n a s l⟩
theorem came_expr {H : Type} {enc : TypeId × Value → H} {w : World} {base : Nat} {v : Value} {d : DataW H} {p : List MemPlace} (hv : Value.okWide Tryd.prog w .any base 24 v) (h : DataW.Trod enc Tryd.prog w 0 (fun _ => true) true 24 v d p) :
    ∃ x : Exp, x.Ok ∧ Rep (fun _ => False) w v (.agg x.cells) := came_struct Tryd.underlying24 hv h opens_Expr
theorem came_int {H : Type} {enc : TypeId × Value → H} {W : World} {base : Nat} {t : TypeId} {k : IntKind} {v : Value} {d : DataW H} {p : List MemPlace} (ht : Tryd.prog.underlying t = some (.int k)) (hv : Value.okWide Tryd.prog W .any base t v) (h : DataW.Trod enc Tryd.prog W 0 (fun _ => true) true t v d p) :
    ∃ x : Int, v = .int k x ∧ (Lit.int k x).wf = true := by
  unfold Value.okWide at hv
  rw [ht] at hv
  simp only [Cell.okWide, ht, Cell.ok] at hv
  obtain ⟨fuel, h⟩ := h
  have hc : v.cells.toList = [v] := by
    cases v <;> first | rfl | (simp at hv)
  rw [hc] at h
  obtain ⟨s, e, -, hs⟩ := DataW.trod_int ht h
  simp at e
  exact ⟨s, e, hs⟩
theorem u8_of_wf {x : Int} (h : (Lit.int .u8 x).wf = true) : 0 ≤ x ∧ x ≤ 255 := by
  simp [Lit.wf, IntKind.min, IntKind.max, IntKind.signed, IntKind.bits] at h
  exact ⟨by omega, by omega⟩
end Go.Proofs.YtefiebkngpcaoaaDoor
