/- What the laws' rows share: closed facts on the program, and how an argument of each shape is read. -/
import Derived.Test.YtjheegdkngkhaaaBase
import Derived.ProofKit
import Derived.OpenShut
import Derived.ShutString
import Derived.ChangeOld
import Derived.Below
import Derived.Lib.SmallJoins
set_option linter.unusedVariables false
set_option linter.unusedSimpArgs false
set_option linter.unusedSectionVars false
namespace Go.Proofs.Ytjheegdkngkhaaa
open Go.ChangeShapes Go.WideShapes Go.ChangeAt Go.RowKit Go.Joins

theorem own : ownKnob Try.prog.godebug = none := by kernel_rfl
theorem laidOut : laidOutB Try.prog = true := by kernel_rfl
def I64 (n : Int) : Prop := -9223372036854775808 ≤ n ∧ n ≤ 9223372036854775807
theorem i64_of_wf {x : Int} (h : (Lit.int .i64 x).wf = true) : I64 x := by
  simp [Lit.wf, IntKind.min, IntKind.max, IntKind.signed, IntKind.bits] at h
  exact ⟨by omega, by omega⟩
theorem Time_cells : Try.prog.cellsOf 23 = 2 := by kernel_rfl
/-- A time that came in. -/
theorem open_time {H : Type} {enc : TypeId × Value → H} {W : World} {base : Nat} {v : Value} {d : DataW H} {p : List MemPlace} (hv : Value.okWide Try.prog W .any base 23 v) (h : DataW.Trod enc Try.prog W 0 (fun _ => true) true 23 v d p) :
    ∃ n m, v = .agg #[.int .i64 n, .int .i64 m] ∧ I64 n ∧ I64 m := by
  obtain ⟨c0, c1, y0, y1, k, rfl, -, -, t0, t1⟩ := open_agg2 Try.underlying23 (by kernel_rfl) Time_cells hv h
  obtain ⟨a, e0, rfl, wa⟩ := DataW.trod_int Try.underlying3 t0
  obtain ⟨b, e1, rfl, wb⟩ := DataW.trod_int Try.underlying3 t1
  simp at e0 e1
  subst e0 e1
  exact ⟨a, b, rfl, i64_of_wf wa, i64_of_wf wb⟩
/-- An int that came in. -/
theorem open_i64 {H : Type} {enc : TypeId × Value → H} {W : World} {base : Nat} {v : Value} {d : DataW H} {p : List MemPlace} (hv : Value.okWide Try.prog W .any base 3 v) (h : DataW.Trod enc Try.prog W 0 (fun _ => true) true 3 v d p) :
    ∃ n, v = .int .i64 n ∧ I64 n := by
  obtain ⟨a, rfl, -, -, wa⟩ := open_int Try.underlying3 hv h
  exact ⟨a, rfl, i64_of_wf wa⟩
end Go.Proofs.Ytjheegdkngkhaaa
