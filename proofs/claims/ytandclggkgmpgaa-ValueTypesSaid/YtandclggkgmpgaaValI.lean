/- A type that came in. No condition. -/
import Derived.Test.YtandclggkgmpgaaValS
import Derived.Test.YtandclggkgmpgaaFrameV
set_option linter.unusedVariables false
set_option linter.unusedSimpArgs false
set_option linter.unusedSectionVars false
namespace Go.Proofs.Ytandclggkgmpgaa
open Go.RowKit

theorem i64_of_wf {x : Int} (h : (Lit.int .i64 x).wf = true) : I64 x := by
  simp [Lit.wf, IntKind.min, IntKind.max, IntKind.signed, IntKind.bits] at h
  exact ⟨by omega, by omega⟩
theorem Type_fields : ∃ f g : Field, (Try.prog.fieldsOf 26).toList = [f, g] ∧ f.offset = 0 ∧ g.offset = 1 ∧ f.type = 3 ∧ g.type = 24 := by
  refine ⟨_, _, rfl, ?_, ?_, ?_, ?_⟩ <;> kernel_rfl
theorem opens_Type : ∀ fuel, Opens Try.prog 26 Typ.cells Typ.Ok fuel := by
  intro fuel
  induction fuel using Nat.strongRecOn with
  | _ fuel ih =>
    have hs : ∀ m, m < fuel → OpensF Try.prog (Try.prog.fieldsOf 26).toList 0 (fun p : Int × (List Typ × Unit) => [D.int .i64 p.1] ++ ([D.sl p.2.1.length (p.2.1.flatMap Typ.cells)] ++ [])) (fun p => (Lit.int .i64 p.1).wf = true ∧ (p.2.1.length ≤ maxLen ∧ ∀ x ∈ p.2.1, x.Ok) ∧ True) 2 m := by
      intro m hm
      obtain ⟨f, g, hfg, o1, o2, t1, t2⟩ := Type_fields
      rw [hfg]
      exact opensF_cons (k := 1) o1 (by rw [t1]; kernel_rfl) (by rw [t1]; exact opens_int Try.underlying3 m) (opensF_cons (k := 1) o2 (by rw [t2]; kernel_rfl) (by rw [t2]; exact opens_slice (n := 2) Try.underlying24 (by kernel_rfl) fun j hj => ih j (by omega)) opensF_nil)
    refine (opens_struct Try.underlying26 (by kernel_rfl) hs).imp ?_
    rintro ⟨k, l, u⟩ ⟨h1, ⟨h2, h3⟩, -⟩
    exact ⟨.mk k l, .mk k l (i64_of_wf h1) h2 h3, Typ.cells_mk k l⟩
theorem came_type {H : Type} {enc : TypeId × Value → H} {w : World} {base : Nat} {v : Value} {d : DataW H} {p : List MemPlace} (hv : Value.okWide Try.prog w .any base 26 v) (h : DataW.Trod enc Try.prog w 0 (fun _ => true) true 26 v d p) :
    ∃ x : Typ, x.Ok ∧ Rep (fun _ => False) w v (.agg x.cells) := came_struct Try.underlying26 hv h opens_Type
end Go.Proofs.Ytandclggkgmpgaa
