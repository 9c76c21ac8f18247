/- What the laws' rows of a seat with a table share: closed facts on the program, the table as it was laid, how an argument of each shape is read. No condition beyond each lemma's own. -/
import Derived.Test.YtefiebkngpcaoaaDoorBase
import Derived.Test.YtefiebkngpcaoaaDoorPQ
import Derived.Test.YtefiebkngpcaoaaDoorAstS
import Derived.Test.YtefiebkngpcaoaaDoorRows
import Derived.Test.YtefiebkngpcaoaaDoorCards
import Derived.Test.YtefiebkngpcaoaaDoorTie
import Derived.ProofKit
import Derived.OpenShut
import Derived.ShutString
import Derived.ChangeOld
import Derived.Below
import Derived.Lib.SmallJoins
import Derived.LaidMore
import Derived.MakeChecks
import Derived.Stop.Joined
import Derived.SevenTiedAt
set_option maxRecDepth 100000
set_option linter.unusedVariables false
set_option linter.unusedSimpArgs false
set_option linter.unusedSectionVars false
namespace Go.Proofs.YtefiebkngpcaoaaDoor
open Go.ChangeShapes Go.WideShapes Go.ChangeAt Go.RowKit Go.Joins

theorem own : ownKnob Tryd.prog.godebug = none := by kernel_rfl
theorem laidOut : laidOutB Tryd.prog = true := by kernel_rfl
/-- A text that came in. -/
theorem open_str {H : Type} {enc : TypeId × Value → H} {W : World} {base : Nat} {v : Value} {d : DataW H} {p : List MemPlace} (hv : Value.okWide Tryd.prog W .any base 9 v) (h : DataW.Trod enc Tryd.prog W 0 (fun _ => true) true 9 v d p) :
    ∃ s : ByteArray, v = .string s ∧ s.size ≤ maxLen := by
  unfold Value.okWide at hv
  rw [Tryd.underlying9] at hv
  simp only [Cell.okWide, Tryd.underlying9, Cell.ok] at hv
  obtain ⟨fuel, h⟩ := h
  have hc : v.cells.toList = [v] := by
    cases v <;> first | rfl | (simp at hv)
  rw [hc] at h
  obtain ⟨s, e, -, hs⟩ := DataW.trod_string Tryd.underlying9 h
  simp at e
  exact ⟨s, e, hs⟩
/-- An array of texts that reads as these. -/
theorem array_texts {P : Program} {H : Type} {enc : TypeId × Value → H} {w : World} {base : Nat} {sp : Nat → Bool} {held : Bool} {fuel t n e : Nat} {cs : List Value} {p : List MemPlace} {ws : List ByteArray} (ht : P.underlying t = some (.array n e)) (he : P.underlying e = some .string)
    (hc : P.cellsOf e = 1) (hct : P.cellsOf t = ws.length) (h : DataW.trod enc P w base sp held fuel t cs = some (.agg (ws.map fun s => .lit (.string s.data.toList)), p)) : cs = ws.map .string := by
  obtain ⟨xs, m, rfl, hx, hlen, hn, hel⟩ := DataW.trod_array ht h
  simp only [Prod.mk.injEq, DataW.agg.injEq] at hx
  have hxl : ws.length = xs.length := by have := congrArg List.length hx.1; simpa using this
  apply List.ext_getElem?
  intro i
  by_cases hi : i < ws.length
  · have h1 := hel i (by omega)
    rw [hc, Nat.mul_one] at h1
    rw [List.getElem?_eq_getElem (show i < xs.length by omega)] at h1
    obtain ⟨s, e1, e2, -⟩ := DataW.trod_string he h1
    have h2 : (ws.map fun s => (DataW.lit (.string s.data.toList) : DataW H))[i]? = some xs[i].1 := by rw [hx.1, List.getElem?_map, List.getElem?_eq_getElem (show i < xs.length by omega)]; rfl
    rw [List.getElem?_map, List.getElem?_eq_getElem hi, e2] at h2
    simp only [Option.map_some, Option.some.injEq, DataW.lit.injEq] at h2
    injection h2 with h2
    have h3 : s = ws[i] := by
      have : s.data = ws[i].data := Array.toList_inj.1 h2.symm
      show (⟨s.data⟩ : ByteArray) = ⟨ws[i].data⟩
      rw [this]
    have h4 : cs[i]? = some (.string s) := by
      have : ((cs.drop i).take 1)[0]? = some (.string s) := by rw [e1]; rfl
      rw [List.getElem?_take, if_pos (by omega), List.getElem?_drop] at this
      simpa using this
    rw [h4, h3, List.getElem?_map, List.getElem?_eq_getElem hi]; rfl
  · rw [List.getElem?_eq_none (by omega), List.getElem?_eq_none (by simp; omega)]
theorem gWords : Tryd.prog.globalNamed "gavotte/ast.words" = some 0 := by kernel_rfl
theorem tWords : ∃ t, (Tryd.prog.globals[0]?).map (·.type) = some t ∧ Tryd.prog.underlying t = some (.array 33 9) ∧ Tryd.prog.cellsOf t = 33 := by
  refine ⟨_, rfl, ?_, ?_⟩ <;> kernel_rfl
theorem cString : Tryd.prog.cellsOf 9 = 1 := by kernel_rfl
theorem words_laid {H : Type} : (Rows.laid_gavotte_ast_words : DataW H) = .agg (wordsB.map fun s => .lit (.string s.data.toList)) := rfl
/-- The table lies there as it was laid. -/
theorem globs_of {W : World} (h : laidMetH Tryd.prog [("gavotte/ast.words", Rows.laid_gavotte_ast_words)] W) : Globs (fun _ => False) W := by
  rw [MakeChecks.laidMetH_plain _ _ _ (by kernel_rfl)] at h
  obtain ⟨ps, ⟨g0, t0, cs0, f0, p0, q0, hg0, ht0, hv0, hd0, -⟩, -⟩ := h
  obtain rfl := Option.some.inj (gWords.symm.trans hg0)
  obtain ⟨t, k1, k2, k3⟩ := tWords
  obtain rfl := Option.some.inj (k1.symm.trans ht0)
  rw [words_laid] at hd0
  have hcs := array_texts (ws := wordsB) k2 Tryd.underlying9 cString k3 hd0
  have hcell : ∀ j, W.cell? ⟨0, j, none⟩ = (wordsB.map Value.string)[j]? := fun j => by
    rw [World.var?_cell hg0 hv0 j, ← hcs]; simp
  have hrep : ∀ l : List ByteArray, RepL (fun _ => False) W (l.map Value.string) (l.map D.str) := fun l => by
    induction l with
    | nil => exact .nil
    | cons x l ih => exact .cons _ _ _ _ (.str x) ih
  intro g cs hg
  have hgt : gtab = [(0, gt_words)] := rfl
  unfold gcells at hg
  rw [hgt, List.find?_cons] at hg
  split at hg
  · rename_i hq
    have hgg : 0 = g := by simpa using hq
    subst hgg
    simp only [Option.map_some, Option.some.injEq] at hg
    subst hg
    refine .ep _ (wordsB.map Value.string) gt_words ⟨fun _ => rfl, fun j u hj => ?_⟩ (hrep wordsB)
    rw [Addr.add_mid, Nat.zero_add]
    refine ⟨(hcell j).trans hj, fun h => h, ?_⟩
    rw [List.getElem?_map] at hj
    obtain ⟨s, -, rfl⟩ := Option.map_eq_some_iff.1 hj
    rfl
  · simp at hg
theorem door_met (os : Os) (args : Array Value) : laidMetH Tryd.prog [("gavotte/ast.words", Rows.laid_gavotte_ast_words)] ((World.doorLaid Tryd.prog 400 os).forCall (fun _ _ => 0) ⟨#[], args, []⟩).memory :=
  laidMetH_of_parts3 (fuel := 8) (laidMet_of_run' 8 (by kernel_rfl) (by kernel_rfl)) (by kernel_rfl) (by kernel_rfl)
end Go.Proofs.YtefiebkngpcaoaaDoor
