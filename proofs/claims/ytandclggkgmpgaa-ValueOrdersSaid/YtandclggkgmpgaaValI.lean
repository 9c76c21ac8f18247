/- A type that came in. No condition. -/
import Derived.Test.YtandclggkgmpgaaValS
import Derived.Test.YtandclggkgmpgaaFrameV
set_option maxRecDepth 100000
set_option linter.unusedVariables false
set_option linter.unusedSimpArgs false
set_option linter.unusedSectionVars false
namespace Go.Proofs.Ytandclggkgmpgaa
open Go.RowKit

theorem i64_of_wf {x : Int} (h : (Lit.int .i64 x).wf = true) : I64 x := by
  simp [Lit.wf, IntKind.min, IntKind.max, IntKind.signed, IntKind.bits] at h
  exact ⟨by omega, by omega⟩
theorem Type_fields : ∃ f g : Field, (Try.prog.fieldsOf 26).toList = [f, g] ∧ f.offset = 0 ∧ g.offset = 1 ∧ f.type = 3 ∧ g.type = 24 := by
  refine ⟨_, _, rfl, ?_, ?_, ?_, ?_⟩ <;> kernel_rfl
theorem opens_Type : ∀ fuel, Opens Try.prog 26 Typ.cells Typ.Ok fuel := by
  intro fuel
  induction fuel using Nat.strongRecOn with
  | _ fuel ih =>
    have hs : ∀ m, m < fuel → OpensF Try.prog (Try.prog.fieldsOf 26).toList 0 (fun p : Int × (List Typ × Unit) => [D.int .i64 p.1] ++ ([D.sl p.2.1.length (p.2.1.flatMap Typ.cells)] ++ [])) (fun p => (Lit.int .i64 p.1).wf = true ∧ (p.2.1.length ≤ maxLen ∧ ∀ x ∈ p.2.1, x.Ok) ∧ True) 2 m := by
      intro m hm
      obtain ⟨f, g, hfg, o1, o2, t1, t2⟩ := Type_fields
      rw [hfg]
      exact opensF_cons (k := 1) o1 (by rw [t1]; kernel_rfl) (by rw [t1]; exact opens_int Try.underlying3 m) (opensF_cons (k := 1) o2 (by rw [t2]; kernel_rfl) (by rw [t2]; exact opens_slice (n := 2) Try.underlying24 (by kernel_rfl) fun j hj => ih j (by omega)) opensF_nil)
    refine (opens_struct Try.underlying26 (by kernel_rfl) hs).imp ?_
    rintro ⟨k, l, u⟩ ⟨h1, ⟨h2, h3⟩, -⟩
    exact ⟨.mk k l, .mk k l (i64_of_wf h1) h2 h3, Typ.cells_mk k l⟩
theorem came_type {H : Type} {enc : TypeId × Value → H} {w : World} {base : Nat} {v : Value} {d : DataW H} {p : List MemPlace} (hv : Value.okWide Try.prog w .any base 26 v) (h : DataW.Trod enc Try.prog w 0 (fun _ => true) true 26 v d p) :
    ∃ x : Typ, x.Ok ∧ Rep (fun _ => False) w v (.agg x.cells) := came_struct Try.underlying26 hv h opens_Type
theorem Value_fields : ∃ f g h i : Field, (Try.prog.fieldsOf 34).toList = [f, g, h, i] ∧ f.offset = 0 ∧ g.offset = 1 ∧ h.offset = 2 ∧ i.offset = 3 ∧ f.type = 3 ∧ g.type = 3 ∧ h.type = 9 ∧ i.type = 32 := by
  refine ⟨_, _, _, _, rfl, ?_, ?_, ?_, ?_, ?_, ?_, ?_, ?_⟩ <;> kernel_rfl
theorem opens_Value : ∀ fuel, Opens Try.prog 34 Vlu.cells Vlu.Ok fuel := by
  intro fuel
  induction fuel using Nat.strongRecOn with
  | _ fuel ih =>
    have hs : ∀ m, m < fuel → OpensF Try.prog (Try.prog.fieldsOf 34).toList 0 (fun p : Int × (Int × (ByteArray × (List Vlu × Unit))) => [D.int .i64 p.1] ++ ([D.int .i64 p.2.1] ++ ([D.str p.2.2.1] ++ ([D.sl p.2.2.2.1.length (p.2.2.2.1.flatMap Vlu.cells)] ++ []))))
        (fun p => (Lit.int .i64 p.1).wf = true ∧ (Lit.int .i64 p.2.1).wf = true ∧ p.2.2.1.size ≤ maxLen ∧ (p.2.2.2.1.length ≤ maxLen ∧ ∀ x ∈ p.2.2.2.1, x.Ok) ∧ True) 4 m := by
      intro m hm
      obtain ⟨f, g, h, i, hfg, o1, o2, o3, o4, t1, t2, t3, t4⟩ := Value_fields
      rw [hfg]
      exact opensF_cons (k := 1) o1 (by rw [t1]; kernel_rfl) (by rw [t1]; exact opens_int Try.underlying3 m) (opensF_cons (k := 1) o2 (by rw [t2]; kernel_rfl) (by rw [t2]; exact opens_int Try.underlying3 m)
        (opensF_cons (k := 1) o3 (by rw [t3]; kernel_rfl) (by rw [t3]; exact opens_str Try.underlying9 m) (opensF_cons (k := 1) o4 (by rw [t4]; kernel_rfl) (by rw [t4]; exact opens_slice (n := 4) Try.underlying32 (by kernel_rfl) fun j hj => ih j (by omega)) opensF_nil)))
    refine (opens_struct Try.underlying34 (by kernel_rfl) hs).imp ?_
    rintro ⟨k, n, s, l, u⟩ ⟨h1, h2, h3, ⟨h4, h5⟩, -⟩
    exact ⟨.mk k n s l, .mk k n s l (i64_of_wf h1) (i64_of_wf h2) h3 h4 h5, Vlu.cells_mk k n s l⟩
theorem came_value {H : Type} {enc : TypeId × Value → H} {w : World} {base : Nat} {v : Value} {d : DataW H} {p : List MemPlace} (hv : Value.okWide Try.prog w .any base 34 v) (h : DataW.Trod enc Try.prog w 0 (fun _ => true) true 34 v d p) :
    ∃ x : Vlu, x.Ok ∧ Rep (fun _ => False) w v (.agg x.cells) := came_struct Try.underlying34 hv h opens_Value
theorem came_int {H : Type} {enc : TypeId × Value → H} {W : World} {base : Nat} {t : TypeId} {k : IntKind} {v : Value} {d : DataW H} {p : List MemPlace} (ht : Try.prog.underlying t = some (.int k)) (hv : Value.okWide Try.prog W .any base t v) (h : DataW.Trod enc Try.prog W 0 (fun _ => true) true t v d p) :
    ∃ x : Int, v = .int k x ∧ (Lit.int k x).wf = true := by
  unfold Value.okWide at hv
  rw [ht] at hv
  simp only [Cell.okWide, ht, Cell.ok] at hv
  obtain ⟨fuel, h⟩ := h
  have hc : v.cells.toList = [v] := by
    cases v <;> first | rfl | (simp at hv)
  rw [hc] at h
  obtain ⟨s, e, -, hs⟩ := DataW.trod_int ht h
  simp at e
  exact ⟨s, e, hs⟩
theorem u8_of_wf {x : Int} (h : (Lit.int .u8 x).wf = true) : 0 ≤ x ∧ x ≤ 255 := by
  simp [Lit.wf, IntKind.min, IntKind.max, IntKind.signed, IntKind.bits] at h
  exact ⟨by omega, by omega⟩
end Go.Proofs.Ytandclggkgmpgaa
