/- Small lemmas on worlds, wraps and endings that all walks of this seat use. Conditions: none beyond those each lemma states. -/
import Derived.Test.YtefiebkngpcaoaaDoorRows
import Derived.WalkKit
import Derived.WalkSpells
import Derived.WalkLawsBesides
import Derived.Deep.QuietTactic
import Derived.BigQuiet
import Derived.Deep.RegionHeld3
import Derived.Lib.Hide
import Derived.Deep.LoopGhost
set_option maxRecDepth 100000
set_option linter.unusedVariables false
set_option linter.unusedSimpArgs false
set_option linter.unusedSectionVars false
namespace Go.Proofs.YtefiebkngpcaoaaDoor
open Go.RowKit

theorem bcell {W w1 : World} (hb : Below W.heap.size W w1) : (∀ b o, b < W.heap.size → w1.cell? ⟨b, o, none⟩ = W.cell? ⟨b, o, none⟩) ∧ (∀ b o, b < W.heap.size → w1.frozen? ⟨b, o, none⟩ = W.frozen? ⟨b, o, none⟩) :=
  ⟨fun b o h => hb.cell (p := ⟨b, o, none⟩) h, fun b o h => hb.frozen (p := ⟨b, o, none⟩) h⟩
theorem below_drewN {B : Nat} {a w : World} (h : Below B a w) (n : Nat) : Below B a (w.drewN n) :=
  ⟨h.os, h.tape, h.output, h.size, h.block⟩
/-- What a call that writes nothing old leaves: every block that was there is as it was. -/
def Ex (w w' : World) : Prop := Below w.heap.size w w'
theorem Ex.refl (w : World) : Ex w w := Below.refl _ _
theorem Ex.of {w w' : World} (h : Below w.heap.size w w') : Ex w w' := h
theorem Ex.size {w w' : World} (h : Ex w w') : w.heap.size ≤ w'.heap.size := Below.size h
theorem Ex.call {a b c : World} (h : Ex a b) (k : Ex b c) : Ex a c := Below.trans h (Below.mono k (Below.size h))
theorem Ex.alloc {a w : World} {o : Obj} (h : Ex a w) : Ex a (w.alloc o) := Below.alloc h (Below.size h) o
theorem Ex.drew {a w : World} (h : Ex a w) : Ex a w.drew := Below.drew h
theorem Ex.drewN {a w : World} {n : Nat} (h : Ex a w) : Ex a (w.drewN n) := below_drewN h n
theorem Ex.setCell {a w : World} {p : Addr} (h : Ex a w) (hp : a.heap.size ≤ p.block) (u : Value) : Ex a (w.setCell p u) := Below.setCell h hp u
theorem Ex.up {k : Nat} {W w' : World} (h : Ex W w') (hk : k < W.heap.size) : k < w'.heap.size := Nat.lt_of_lt_of_le hk h.size
theorem Ex.upA {k : Nat} {W w' : World} {o : Obj} (h : Ex (W.alloc o) w') (hk : k ≤ W.heap.size) : k < w'.heap.size := Nat.lt_of_lt_of_le (by rw [World.size_alloc]; exact Nat.lt_succ_of_le hk) h.size
theorem Ex.cell {w w' : World} (h : Ex w w') : ∀ b o, b < w.heap.size → w'.cell? ⟨b, o, none⟩ = w.cell? ⟨b, o, none⟩ := fun b o hb => Below.cell h (p := ⟨b, o, none⟩) hb
theorem Ex.frozen {w w' : World} (h : Ex w w') : ∀ b o, b < w.heap.size → w'.frozen? ⟨b, o, none⟩ = w.frozen? ⟨b, o, none⟩ := fun b o hb => Below.frozen h (p := ⟨b, o, none⟩) hb
theorem Ex.facts {w w' : World} (h : Ex w w') : (∀ b o, b < w.heap.size → w'.cell? ⟨b, o, none⟩ = w.cell? ⟨b, o, none⟩) ∧ (∀ b o, b < w.heap.size → w'.frozen? ⟨b, o, none⟩ = w.frozen? ⟨b, o, none⟩) ∧ w.heap.size ≤ w'.heap.size :=
  ⟨h.cell, h.frozen, h.size⟩
theorem Ex.facts2 {w w' : World} (h : Ex w w') : (∀ b o, b < w.heap.size → w'.cell? ⟨b, o, none⟩ = w.cell? ⟨b, o, none⟩) ∧ (∀ b o, b < w.heap.size → w'.frozen? ⟨b, o, none⟩ = w.frozen? ⟨b, o, none⟩) :=
  ⟨h.cell, h.frozen⟩
theorem World.size_drewN (w : World) (n : Nat) : (w.drewN n).heap.size = w.heap.size := rfl
theorem World.cell?_drewN (w : World) (n : Nat) (a : Addr) : (w.drewN n).cell? a = w.cell? a := rfl
theorem World.frozen?_drewN (w : World) (n : Nat) (a : Addr) : (w.drewN n).frozen? a = w.frozen? a := rfl
/-- Only draws. -/
def Qt (w w' : World) : Prop := ∃ n, w' = w.drewN n
theorem Qt.refl (w : World) : Qt w w := ⟨0, rfl⟩
theorem Qt.drewN {w W : World} {n : Nat} (h : Qt w W) : Qt w (W.drewN n) := by obtain ⟨m, rfl⟩ := h; exact ⟨m + n, World.drewN_drewN _ _ _⟩
theorem Qt.drew {w W : World} (h : Qt w W) : Qt w W.drew := by obtain ⟨m, rfl⟩ := h; exact ⟨m + 1, rfl⟩
theorem Qt.ex {w w' : World} (h : Qt w w') : Ex w w' := by obtain ⟨m, rfl⟩ := h; exact (Ex.refl w).drewN
theorem Qt.trans {a b c : World} (h : Qt a b) (k : Qt b c) : Qt a c := by obtain ⟨m, rfl⟩ := k; exact h.drewN
theorem ret_int {k : IntKind} {a b : Int} (h : a = b) : Ending.returned (.int k a) = .returned (.int k b) := by rw [h]
theorem ret_bool {a b : Bool} (h : a = b) : Ending.returned (.bool a) = .returned (.bool b) := by rw [h]
theorem u64_wrap (n : Int) : IntKind.u64.wrap n = n % 18446744073709551616 := by
  simp [IntKind.wrap, IntKind.bits, IntKind.signed]
theorem u64_mod_in (n : Int) (h : 0 ≤ n) (h' : n < 18446744073709551616) : n % 18446744073709551616 = n := Int.emod_eq_of_lt h h'
end Go.Proofs.YtefiebkngpcaoaaDoor
