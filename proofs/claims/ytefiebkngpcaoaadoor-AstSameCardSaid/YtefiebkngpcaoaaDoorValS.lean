/- Values and types of the program's as plain data; what the document says of them. Plain, no program in sight. -/
import Derived.Test.YtefiebkngpcaoaaDoorValA
set_option maxRecDepth 100000
set_option linter.unusedVariables false
set_option linter.unusedSimpArgs false
set_option linter.unusedSectionVars false
namespace Go.Proofs.YtefiebkngpcaoaaDoor
open Go.RowKit

/-- A type, a value. -/
inductive Typ where
  | mk (k : Int) (l : List Typ)
inductive Vlu where
  | mk (k n : Int) (s : ByteArray) (l : List Vlu)
mutual
def Typ.cells : Typ → List D
  | .mk k l => [.int .i64 k, .sl l.length (Typ.cellsL l)]
def Typ.cellsL : List Typ → List D
  | [] => []
  | x :: l => x.cells ++ Typ.cellsL l
end
mutual
def Vlu.cells : Vlu → List D
  | .mk k n s l => [.int .i64 k, .int .i64 n, .str s, .sl l.length (Vlu.cellsL l)]
def Vlu.cellsL : List Vlu → List D
  | [] => []
  | x :: l => x.cells ++ Vlu.cellsL l
end
def rowT : Row Typ := ⟨Typ.cells, 2, fun x => by cases x; rfl⟩
def rowV : Row Vlu := ⟨Vlu.cells, 4, fun x => by cases x; rfl⟩
def rowS : Row ByteArray := ⟨fun s => [.str s], 1, fun _ => rfl⟩
theorem cellsL_T : ∀ l : List Typ, Typ.cellsL l = rowT.cs l
  | [] => rfl
  | x :: l => by rw [Row.cs_cons, Typ.cellsL, cellsL_T l]; rfl
theorem cellsL_V : ∀ l : List Vlu, Vlu.cellsL l = rowV.cs l
  | [] => rfl
  | x :: l => by rw [Row.cs_cons, Vlu.cellsL, cellsL_V l]; rfl
theorem Typ.cells_mk (k : Int) (l : List Typ) : Typ.cells (.mk k l) = [.int .i64 k, .sl l.length (rowT.cs l)] := by rw [Typ.cells, cellsL_T]
theorem Vlu.cells_mk (k n : Int) (s : ByteArray) (l : List Vlu) : Vlu.cells (.mk k n s l) = [.int .i64 k, .int .i64 n, .str s, .sl l.length (rowV.cs l)] := by rw [Vlu.cells, cellsL_V]
/-- As what comes in is. -/
def I64 (n : Int) : Prop := -9223372036854775808 ≤ n ∧ n ≤ 9223372036854775807
inductive Typ.Ok : Typ → Prop
  | mk (k : Int) (l : List Typ) (h1 : I64 k) (h2 : l.length ≤ maxLen) (h3 : ∀ x ∈ l, Typ.Ok x) : Typ.Ok (.mk k l)
inductive Vlu.Ok : Vlu → Prop
  | mk (k n : Int) (s : ByteArray) (l : List Vlu) (h1 : I64 k) (h2 : I64 n) (h3 : s.size ≤ maxLen) (h4 : l.length ≤ maxLen) (h5 : ∀ x ∈ l, Vlu.Ok x) : Vlu.Ok (.mk k n s l)
/-- Is a type right, with so many tuples within one another? -/
def tRight : Nat → Typ → Bool
  | n, .mk k l => if 0 ≤ k ∧ k ≤ 2 then l.length == 0 else if k = 3 ∧ 1 ≤ l.length ∧ l.length ≤ 4 then match n with | 0 => false | n + 1 => l.all (tRight n) else false
/-- Is a text a name? -/
def isLow (b : UInt8) : Bool := decide (97 ≤ b.toNat) && decide (b.toNat ≤ 122)
def isDig (b : UInt8) : Bool := decide (48 ≤ b.toNat) && decide (b.toNat ≤ 57)
def nameB (l : List UInt8) : Bool := match l with
  | [] => false
  | b :: r => decide (r.length < 16) && isLow b && r.all fun b => isLow b || isDig b
def vRight : Nat → Vlu → Bool
  | n, .mk k x s l =>
    if k = 0 then s.toList.isEmpty && l.length == 0
    else if k = 1 then (x == 0 || x == 1) && s.toList.isEmpty && l.length == 0
    else if k = 2 then x == 0 && nameB s.data.toList && l.length == 0
    else if k = 3 ∧ x = 0 ∧ s.toList.isEmpty ∧ 1 ≤ l.length ∧ l.length ≤ 4 then match n with | 0 => false | n + 1 => l.all (vRight n) else false
mutual
def vType : Vlu → Typ
  | .mk k _ _ l => .mk k (vTypeL l)
def vTypeL : List Vlu → List Typ
  | [] => []
  | x :: l => vType x :: vTypeL l
end
theorem vTypeL_map : ∀ l, vTypeL l = l.map vType
  | [] => rfl
  | x :: l => by rw [vTypeL, vTypeL_map l]; rfl
mutual
def sameT : Typ → Typ → Bool
  | .mk k l, .mk k' l' => (k == k') && sameTL l l'
def sameTL : List Typ → List Typ → Bool
  | [], [] => true
  | x :: l, y :: l' => sameT x y && sameTL l l'
  | _, _ => false
end
mutual
def sameV : Vlu → Vlu → Bool
  | .mk k n s l, .mk k' n' s' l' => (k == k') && (n == n') && (s.toList == s'.toList) && sameVL l l'
def sameVL : List Vlu → List Vlu → Bool
  | [], [] => true
  | x :: l, y :: l' => sameV x y && sameVL l l'
  | _, _ => false
end
end Go.Proofs.YtefiebkngpcaoaaDoor
