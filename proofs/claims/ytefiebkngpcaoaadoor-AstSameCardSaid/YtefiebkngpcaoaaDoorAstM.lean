/- Programs as plain data. Plain, no program in sight. -/
import Derived.Test.YtefiebkngpcaoaaDoorAstS
set_option maxRecDepth 100000
set_option linter.unusedVariables false
set_option linter.unusedSimpArgs false
set_option linter.unusedSectionVars false
namespace Go.Proofs.YtefiebkngpcaoaaDoor
open Go.RowKit

structure Prt where
  name : ByteArray
  t : Typ
structure Stt where
  name : ByteArray
  e : Exp
structure Emt where
  port : ByteArray
  e : Exp
  cond : List Exp
structure Pt where
  name : ByteArray
  model : ByteArray
structure En where
  part : ByteArray
  port : ByteArray
structure Lnk where
  src : En
  dst : En
structure Akt where
  kind : Int
  name : ByteArray
  model : ByteArray
  link : Lnk
structure Rul where
  cond : Exp
  acts : List Akt
structure Mdl where
  name : ByteArray
  coupled : Bool
  ins : List Prt
  outs : List Prt
  vars : List Stt
  ta : List Exp
  emits : List Emt
  int : List Stt
  ext : List Stt
  con : Int
  own : List Stt
  parts : List Pt
  links : List Lnk
  rules : List Rul
structure Prg where
  models : List Mdl
  root : ByteArray
def Prt.cells (x : Prt) : List D := .str x.name :: x.t.cells
def Stt.cells (x : Stt) : List D := .str x.name :: x.e.cells
def Emt.cells (x : Emt) : List D := .str x.port :: (x.e.cells ++ [.sl x.cond.length (rowE.cs x.cond)])
def Pt.cells (x : Pt) : List D := [.str x.name, .str x.model]
def En.cells (x : En) : List D := [.str x.part, .str x.port]
def Lnk.cells (x : Lnk) : List D := [.str x.src.part, .str x.src.port, .str x.dst.part, .str x.dst.port]
def Akt.cells (x : Akt) : List D := [.int .i64 x.kind, .str x.name, .str x.model, .str x.link.src.part, .str x.link.src.port, .str x.link.dst.part, .str x.link.dst.port]
theorem Typ.cells_len (x : Typ) : x.cells.length = 2 := rowT.len x
theorem Exp.cells_len (x : Exp) : x.cells.length = 5 := rowE.len x
def rowPrt : Row Prt := ⟨Prt.cells, 3, fun x => by simp [Prt.cells, Typ.cells_len]⟩
def rowStt : Row Stt := ⟨Stt.cells, 6, fun x => by simp [Stt.cells, Exp.cells_len]⟩
def rowEmt : Row Emt := ⟨Emt.cells, 7, fun x => by simp [Emt.cells, Exp.cells_len]⟩
def rowPt : Row Pt := ⟨Pt.cells, 2, fun _ => rfl⟩
def rowLnk : Row Lnk := ⟨Lnk.cells, 4, fun _ => rfl⟩
def rowAkt : Row Akt := ⟨Akt.cells, 7, fun _ => rfl⟩
def Rul.cells (x : Rul) : List D := x.cond.cells ++ [.sl x.acts.length (rowAkt.cs x.acts)]
def rowRul : Row Rul := ⟨Rul.cells, 6, fun x => by simp [Rul.cells, Exp.cells_len]⟩
def Mdl.cells (m : Mdl) : List D := [.str m.name, .bool m.coupled, .sl m.ins.length (rowPrt.cs m.ins), .sl m.outs.length (rowPrt.cs m.outs), .sl m.vars.length (rowStt.cs m.vars), .sl m.ta.length (rowE.cs m.ta), .sl m.emits.length (rowEmt.cs m.emits),
  .sl m.int.length (rowStt.cs m.int), .sl m.ext.length (rowStt.cs m.ext), .int .i64 m.con, .sl m.own.length (rowStt.cs m.own), .sl m.parts.length (rowPt.cs m.parts), .sl m.links.length (rowLnk.cs m.links), .sl m.rules.length (rowRul.cs m.rules)]
def rowMdl : Row Mdl := ⟨Mdl.cells, 14, fun _ => rfl⟩
def Prg.cells (p : Prg) : List D := [.sl p.models.length (rowMdl.cs p.models), .str p.root]
/-! As what comes in is. -/
def Str (s : ByteArray) : Prop := s.size ≤ maxLen
def Lst {α : Type} (ok : α → Prop) (l : List α) : Prop := l.length ≤ maxLen ∧ ∀ x ∈ l, ok x
structure Prt.Ok (x : Prt) : Prop where
  name : Str x.name
  t : x.t.Ok
structure Stt.Ok (x : Stt) : Prop where
  name : Str x.name
  e : x.e.Ok
structure Emt.Ok (x : Emt) : Prop where
  port : Str x.port
  e : x.e.Ok
  cond : Lst Exp.Ok x.cond
structure Pt.Ok (x : Pt) : Prop where
  name : Str x.name
  model : Str x.model
structure En.Ok (x : En) : Prop where
  part : Str x.part
  port : Str x.port
structure Lnk.Ok (x : Lnk) : Prop where
  src : x.src.Ok
  dst : x.dst.Ok
structure Akt.Ok (x : Akt) : Prop where
  kind : I64 x.kind
  name : Str x.name
  model : Str x.model
  link : x.link.Ok
structure Rul.Ok (x : Rul) : Prop where
  cond : x.cond.Ok
  acts : Lst Akt.Ok x.acts
structure Mdl.Ok (m : Mdl) : Prop where
  name : Str m.name
  ins : Lst Prt.Ok m.ins
  outs : Lst Prt.Ok m.outs
  vars : Lst Stt.Ok m.vars
  ta : Lst Exp.Ok m.ta
  emits : Lst Emt.Ok m.emits
  int : Lst Stt.Ok m.int
  ext : Lst Stt.Ok m.ext
  con : I64 m.con
  own : Lst Stt.Ok m.own
  parts : Lst Pt.Ok m.parts
  links : Lst Lnk.Ok m.links
  rules : Lst Rul.Ok m.rules
structure Prg.Ok (p : Prg) : Prop where
  models : Lst Mdl.Ok p.models
  root : Str p.root
end Go.Proofs.YtefiebkngpcaoaaDoor
