/- What the laws' rows share: closed facts on the program, and how an argument of each shape is read. No condition beyond each lemma's own. -/
import Derived.Test.YtandclggkgmpgaaBase
import Derived.Test.YtandclggkgmpgaaPQ
import Derived.ProofKit
import Derived.OpenShut
import Derived.ShutString
import Derived.ChangeOld
import Derived.Below
import Derived.Lib.SmallJoins
set_option maxRecDepth 100000
set_option linter.unusedVariables false
set_option linter.unusedSimpArgs false
set_option linter.unusedSectionVars false
namespace Go.Proofs.Ytandclggkgmpgaa
open Go.ChangeShapes Go.WideShapes Go.ChangeAt Go.RowKit Go.Joins

theorem own : ownKnob Try.prog.godebug = none := by kernel_rfl
theorem laidOut : laidOutB Try.prog = true := by kernel_rfl
/-- A text that came in. -/
theorem open_str {H : Type} {enc : TypeId × Value → H} {W : World} {base : Nat} {v : Value} {d : DataW H} {p : List MemPlace} (hv : Value.okWide Try.prog W .any base 9 v) (h : DataW.Trod enc Try.prog W 0 (fun _ => true) true 9 v d p) :
    ∃ s : ByteArray, v = .string s ∧ s.size ≤ maxLen := by
  unfold Value.okWide at hv
  rw [Try.underlying9] at hv
  simp only [Cell.okWide, Try.underlying9, Cell.ok] at hv
  obtain ⟨fuel, h⟩ := h
  have hc : v.cells.toList = [v] := by
    cases v <;> first | rfl | (simp at hv)
  rw [hc] at h
  obtain ⟨s, e, -, hs⟩ := DataW.trod_string Try.underlying9 h
  simp at e
  exact ⟨s, e, hs⟩
end Go.Proofs.Ytandclggkgmpgaa
