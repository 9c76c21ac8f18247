/- Expressions as plain data. Plain, no program in sight. -/
import Derived.Test.YtefiebkngpcaoaaDoorValS
set_option maxRecDepth 100000
set_option linter.unusedVariables false
set_option linter.unusedSimpArgs false
set_option linter.unusedSectionVars false
namespace Go.Proofs.YtefiebkngpcaoaaDoor
open Go.RowKit

/-- An expression. -/
inductive Exp where
  | mk (op n : Int) (name sub : ByteArray) (args : List Exp)
mutual
def Exp.cells : Exp → List D
  | .mk op n a s l => [.int .i64 op, .int .i64 n, .str a, .str s, .sl l.length (Exp.cellsL l)]
def Exp.cellsL : List Exp → List D
  | [] => []
  | x :: l => x.cells ++ Exp.cellsL l
end
def rowE : Row Exp := ⟨Exp.cells, 5, fun x => by cases x; rfl⟩
theorem cellsL_E : ∀ l : List Exp, Exp.cellsL l = rowE.cs l
  | [] => rfl
  | x :: l => by rw [Row.cs_cons, Exp.cellsL, cellsL_E l]; rfl
theorem Exp.cells_mk (op n : Int) (a s : ByteArray) (l : List Exp) : Exp.cells (.mk op n a s l) = [.int .i64 op, .int .i64 n, .str a, .str s, .sl l.length (rowE.cs l)] := by rw [Exp.cells, cellsL_E]
/-- As what comes in is. -/
inductive Exp.Ok : Exp → Prop
  | mk (op n : Int) (a s : ByteArray) (l : List Exp) (h1 : I64 op) (h2 : I64 n) (h3 : a.size ≤ maxLen) (h4 : s.size ≤ maxLen) (h5 : l.length ≤ maxLen) (h6 : ∀ x ∈ l, Exp.Ok x) : Exp.Ok (.mk op n a s l)
theorem Exp.Ok.parts {op n : Int} {a s : ByteArray} {l : List Exp} (h : (Exp.mk op n a s l).Ok) : I64 op ∧ I64 n ∧ a.size ≤ maxLen ∧ s.size ≤ maxLen ∧ l.length ≤ maxLen ∧ ∀ x ∈ l, x.Ok := by
  cases h; exact ⟨by assumption, by assumption, by assumption, by assumption, by assumption, by assumption⟩
/-- The words of the language. -/
def wordsB : List ByteArray := gt_words.map fun d => match d with | .str s => s | _ => ⟨#[]⟩
def wordB (s : ByteArray) : Bool := wordsB.any fun x => s.toList == x.toList
/-- A name of the language's: no word. -/
def nameA (s : ByteArray) : Bool := nameB s.data.toList && !wordB s
end Go.Proofs.YtefiebkngpcaoaaDoor
