/-
  NARROWER THAN 'FOR EVERY INPUT', by the rows' own cells (each row's printed sentence says how): ValueTypes: loops · ValueRights: loops · ValueParts: loops · ValueOrders: loops · ValueCmps: loops.
  DERIVED. THE GIVEN ROWS OF THIS SEAT. 6 by the template 'for every input the law returns true; each argument reads behind the call as it read before'; 0 by the template 'total and deterministic' (their statements: YtandclggkgmpgaaTotals.lean).
  GIVEN WITH THE SEED: the statements are not yours to turn. If you find one false, say at which input.
  Laid BY PROGRAM, IN A SANDBOX (cutbox-rows.mjs): the forced cells as the released guide's own fill.sh prints them over the translation aa08b328db93e48f… (all of the seat's roots in one cut). By AI agents, Wed Nov 11 2026. No macro, syntax, notation, axiom, sorry.
-/
import Derived.Test.YtandclggkgmpgaaChecked
import GoSem.Claim
import GoSem.ClaimJoined
import GoSem.ClaimMapViews
import Derived.JoinedTies
import Derived.KernelRfl
namespace Go.Proofs.Ytandclggkgmpgaa
/- THE CELL 'sum', in the pinned program and in every row, IS THE sha256 OF THE DUMP (.gsa) THAT YtandclggkgmpgaaProg.lean LOADS. Nothing in Lean hashes anything: it is a label: what it is worth is what the hold of that sum in a sandbox is worth. -/
noncomputable def Try.pinned : Pinned := { name := "ytandclggkgmpgaa", sum := "aa08b328db93e48f68b0ef4b971d85d057387bc0cb5beb5fb8b8647f1a561fb0", checked := Try.checked }
namespace Rows
def none {H : Type} : Left H := { results := [], args := [] }

/-- 'gavottelaw02.ValueNames': WHATEVER THE INPUT: true; the input reads as it did. -/
def valueNamesSpec : ChangeSpec := { name := "valueNames", fn := fun _ => fun
  | [d] => { results := [.lit (.bool true)], args := [d] }
  | _ => none }
def valueNamesRow : OpenClaim := { program := "ytandclggkgmpgaa", sum := "aa08b328db93e48f68b0ef4b971d85d057387bc0cb5beb5fb8b8647f1a561fb0", func := "gavotte/gavottelaw02.ValueNames", spec := "valueNames", inPlace := ["internal/abi.NoEscape", "internal/bytealg.MakeNoZero"], unfollowed := true, recurses := true, apart := false }
def ValueNamesSaid : Prop := valueNamesRow.holds Try.pinned (OpenSpec.ofChange valueNamesSpec)

/-- ITS FALSE NEIGHBOUR: 'it returns false'. Refute it at one input. -/
def valueNamesWrong : ChangeSpec := { name := "valueNames", fn := fun _ => fun
  | [d] => { results := [.lit (.bool false)], args := [d] }
  | _ => none }
def ValueNamesWrongFalsely : Prop := valueNamesRow.holds Try.pinned (OpenSpec.ofChange valueNamesWrong)

/-- 'gavottelaw02.ValueTypes': WHATEVER THE INPUT: true; the input reads as it did. -/
def valueTypesSpec : ChangeSpec := { name := "valueTypes", fn := fun _ => fun
  | [d1, d2] => { results := [.lit (.bool true)], args := [d1, d2] }
  | _ => none }
def valueTypesRow : OpenClaim := { program := "ytandclggkgmpgaa", sum := "aa08b328db93e48f68b0ef4b971d85d057387bc0cb5beb5fb8b8647f1a561fb0", func := "gavotte/gavottelaw02.ValueTypes", spec := "valueTypes", inPlace := ["internal/abi.NoEscape", "internal/bytealg.MakeNoZero"], unfollowed := true, recurses := true, loops := true, apart := false }
def ValueTypesSaid : Prop := valueTypesRow.holds Try.pinned (OpenSpec.ofChange valueTypesSpec)

/-- ITS FALSE NEIGHBOUR: 'it returns false'. Refute it at one input. -/
def valueTypesWrong : ChangeSpec := { name := "valueTypes", fn := fun _ => fun
  | [d1, d2] => { results := [.lit (.bool false)], args := [d1, d2] }
  | _ => none }
def ValueTypesWrongFalsely : Prop := valueTypesRow.holds Try.pinned (OpenSpec.ofChange valueTypesWrong)

/-- 'gavottelaw02.ValueRights': WHATEVER THE INPUT: true; the input reads as it did. -/
def valueRightsSpec : ChangeSpec := { name := "valueRights", fn := fun _ => fun
  | [d] => { results := [.lit (.bool true)], args := [d] }
  | _ => none }
def valueRightsRow : OpenClaim := { program := "ytandclggkgmpgaa", sum := "aa08b328db93e48f68b0ef4b971d85d057387bc0cb5beb5fb8b8647f1a561fb0", func := "gavotte/gavottelaw02.ValueRights", spec := "valueRights", inPlace := ["internal/abi.NoEscape", "internal/bytealg.MakeNoZero"], unfollowed := true, recurses := true, loops := true, apart := false }
def ValueRightsSaid : Prop := valueRightsRow.holds Try.pinned (OpenSpec.ofChange valueRightsSpec)

/-- ITS FALSE NEIGHBOUR: 'it returns false'. Refute it at one input. -/
def valueRightsWrong : ChangeSpec := { name := "valueRights", fn := fun _ => fun
  | [d] => { results := [.lit (.bool false)], args := [d] }
  | _ => none }
def ValueRightsWrongFalsely : Prop := valueRightsRow.holds Try.pinned (OpenSpec.ofChange valueRightsWrong)

/-- 'gavottelaw02.ValueParts': WHATEVER THE INPUT: true; the input reads as it did. -/
def valuePartsSpec : ChangeSpec := { name := "valueParts", fn := fun _ => fun
  | [d1, d2] => { results := [.lit (.bool true)], args := [d1, d2] }
  | _ => none }
def valuePartsRow : OpenClaim := { program := "ytandclggkgmpgaa", sum := "aa08b328db93e48f68b0ef4b971d85d057387bc0cb5beb5fb8b8647f1a561fb0", func := "gavotte/gavottelaw02.ValueParts", spec := "valueParts", inPlace := ["internal/abi.NoEscape", "internal/bytealg.MakeNoZero"], unfollowed := true, recurses := true, loops := true, apart := false }
def ValuePartsSaid : Prop := valuePartsRow.holds Try.pinned (OpenSpec.ofChange valuePartsSpec)

/-- ITS FALSE NEIGHBOUR: 'it returns false'. Refute it at one input. -/
def valuePartsWrong : ChangeSpec := { name := "valueParts", fn := fun _ => fun
  | [d1, d2] => { results := [.lit (.bool false)], args := [d1, d2] }
  | _ => none }
def ValuePartsWrongFalsely : Prop := valuePartsRow.holds Try.pinned (OpenSpec.ofChange valuePartsWrong)

/-- 'gavottelaw02.ValueOrders': WHATEVER THE INPUT: true; the input reads as it did. -/
def valueOrdersSpec : ChangeSpec := { name := "valueOrders", fn := fun _ => fun
  | [d1, d2, d3] => { results := [.lit (.bool true)], args := [d1, d2, d3] }
  | _ => none }
def valueOrdersRow : OpenClaim := { program := "ytandclggkgmpgaa", sum := "aa08b328db93e48f68b0ef4b971d85d057387bc0cb5beb5fb8b8647f1a561fb0", func := "gavotte/gavottelaw02.ValueOrders", spec := "valueOrders", inPlace := ["internal/abi.NoEscape", "internal/bytealg.MakeNoZero", "internal/bytealg.abigen_runtime_cmpstring"], unfollowed := true, recurses := true, loops := true, apart := false }
def ValueOrdersSaid : Prop := valueOrdersRow.holds Try.pinned (OpenSpec.ofChange valueOrdersSpec)

/-- ITS FALSE NEIGHBOUR: 'it returns false'. Refute it at one input. -/
def valueOrdersWrong : ChangeSpec := { name := "valueOrders", fn := fun _ => fun
  | [d1, d2, d3] => { results := [.lit (.bool false)], args := [d1, d2, d3] }
  | _ => none }
def ValueOrdersWrongFalsely : Prop := valueOrdersRow.holds Try.pinned (OpenSpec.ofChange valueOrdersWrong)

/-- 'gavottelaw02.ValueCmps': WHATEVER THE INPUT: true; the input reads as it did. -/
def valueCmpsSpec : ChangeSpec := { name := "valueCmps", fn := fun _ => fun
  | [d1, d2] => { results := [.lit (.bool true)], args := [d1, d2] }
  | _ => none }
def valueCmpsRow : OpenClaim := { program := "ytandclggkgmpgaa", sum := "aa08b328db93e48f68b0ef4b971d85d057387bc0cb5beb5fb8b8647f1a561fb0", func := "gavotte/gavottelaw02.ValueCmps", spec := "valueCmps", inPlace := ["internal/abi.NoEscape", "internal/bytealg.MakeNoZero", "internal/bytealg.abigen_runtime_cmpstring"], unfollowed := true, recurses := true, loops := true, apart := false }
def ValueCmpsSaid : Prop := valueCmpsRow.holds Try.pinned (OpenSpec.ofChange valueCmpsSpec)

/-- ITS FALSE NEIGHBOUR: 'it returns false'. Refute it at one input. -/
def valueCmpsWrong : ChangeSpec := { name := "valueCmps", fn := fun _ => fun
  | [d1, d2] => { results := [.lit (.bool false)], args := [d1, d2] }
  | _ => none }
def ValueCmpsWrongFalsely : Prop := valueCmpsRow.holds Try.pinned (OpenSpec.ofChange valueCmpsWrong)

/- THE SECOND FORM. 'bulk': how many values and letters a reading holds, each counted each time it is reached (what is shared counts as often as it is met; a slice's spare places count too). A statement '..UptoSaid' is the law's where the arguments, and the package variables that the reading takes, are together of bulk at most 1048576: NARROWER than '..Said'. Prove '..Said' where nothing that the law and all that it calls make is longer than what came in: it says more and counts as full. Else prove '..UptoSaid'. A law counts once. -/
mutual
def uptoBulk {H : Type} : DataW H → Nat
  | .lit (.string bytes) => bytes.length + 1
  | .lit _ => 1
  | .nil => 1
  | .ptr d => uptoBulk d + 1
  | .slice elems spare => uptoBulkAll elems + uptoBulkAll spare + 1
  | .agg parts => uptoBulkAll parts + 1
  | .iface _ d => uptoBulk d + 1
  | .map entries => uptoBulkEntries entries + 1
  | .held _ => 1
def uptoBulkAll {H : Type} : List (DataW H) → Nat
  | [] => 0
  | d :: r => uptoBulk d + uptoBulkAll r
def uptoBulkEntries {H : Type} : List (Lit × DataW H) → Nat
  | [] => 0
  | x :: r => uptoBulkEntry x + uptoBulkEntries r
def uptoBulkEntry {H : Type} : Lit × DataW H → Nat
  | (.string bytes, d) => bytes.length + uptoBulk d + 1
  | (_, d) => uptoBulk d + 1
 end
def uptoSmall : (H : Type) → List (DataW H) → Bool := fun _ ds => decide (uptoBulkAll ds ≤ 1048576)
def OpenSpec.upto (s : _root_.Go.ChangeSpec) : _root_.Go.OpenSpec := { _root_.Go.OpenSpec.ofChange s with cond := some uptoSmall }

/-- 'gavottelaw02.ValueNames', WHERE WHAT IT READS IS OF BULK AT MOST 1048576: true; the input reads as it did. -/
def valueNamesUptoRow : OpenClaim := { program := "ytandclggkgmpgaa", sum := "aa08b328db93e48f68b0ef4b971d85d057387bc0cb5beb5fb8b8647f1a561fb0", func := "gavotte/gavottelaw02.ValueNames", spec := "valueNames", inPlace := ["internal/abi.NoEscape", "internal/bytealg.MakeNoZero"], unfollowed := true, recurses := true, apart := false, narrowed := true }
def ValueNamesUptoSaid : Prop := valueNamesUptoRow.holds Try.pinned (OpenSpec.upto valueNamesSpec)

/-- 'gavottelaw02.ValueTypes', WHERE WHAT IT READS IS OF BULK AT MOST 1048576: true; the input reads as it did. -/
def valueTypesUptoRow : OpenClaim := { program := "ytandclggkgmpgaa", sum := "aa08b328db93e48f68b0ef4b971d85d057387bc0cb5beb5fb8b8647f1a561fb0", func := "gavotte/gavottelaw02.ValueTypes", spec := "valueTypes", inPlace := ["internal/abi.NoEscape", "internal/bytealg.MakeNoZero"], unfollowed := true, recurses := true, loops := true, apart := false, narrowed := true }
def ValueTypesUptoSaid : Prop := valueTypesUptoRow.holds Try.pinned (OpenSpec.upto valueTypesSpec)

/-- 'gavottelaw02.ValueRights', WHERE WHAT IT READS IS OF BULK AT MOST 1048576: true; the input reads as it did. -/
def valueRightsUptoRow : OpenClaim := { program := "ytandclggkgmpgaa", sum := "aa08b328db93e48f68b0ef4b971d85d057387bc0cb5beb5fb8b8647f1a561fb0", func := "gavotte/gavottelaw02.ValueRights", spec := "valueRights", inPlace := ["internal/abi.NoEscape", "internal/bytealg.MakeNoZero"], unfollowed := true, recurses := true, loops := true, apart := false, narrowed := true }
def ValueRightsUptoSaid : Prop := valueRightsUptoRow.holds Try.pinned (OpenSpec.upto valueRightsSpec)

/-- 'gavottelaw02.ValueParts', WHERE WHAT IT READS IS OF BULK AT MOST 1048576: true; the input reads as it did. -/
def valuePartsUptoRow : OpenClaim := { program := "ytandclggkgmpgaa", sum := "aa08b328db93e48f68b0ef4b971d85d057387bc0cb5beb5fb8b8647f1a561fb0", func := "gavotte/gavottelaw02.ValueParts", spec := "valueParts", inPlace := ["internal/abi.NoEscape", "internal/bytealg.MakeNoZero"], unfollowed := true, recurses := true, loops := true, apart := false, narrowed := true }
def ValuePartsUptoSaid : Prop := valuePartsUptoRow.holds Try.pinned (OpenSpec.upto valuePartsSpec)

/-- 'gavottelaw02.ValueOrders', WHERE WHAT IT READS IS OF BULK AT MOST 1048576: true; the input reads as it did. -/
def valueOrdersUptoRow : OpenClaim := { program := "ytandclggkgmpgaa", sum := "aa08b328db93e48f68b0ef4b971d85d057387bc0cb5beb5fb8b8647f1a561fb0", func := "gavotte/gavottelaw02.ValueOrders", spec := "valueOrders", inPlace := ["internal/abi.NoEscape", "internal/bytealg.MakeNoZero", "internal/bytealg.abigen_runtime_cmpstring"], unfollowed := true, recurses := true, loops := true, apart := false, narrowed := true }
def ValueOrdersUptoSaid : Prop := valueOrdersUptoRow.holds Try.pinned (OpenSpec.upto valueOrdersSpec)

/-- 'gavottelaw02.ValueCmps', WHERE WHAT IT READS IS OF BULK AT MOST 1048576: true; the input reads as it did. -/
def valueCmpsUptoRow : OpenClaim := { program := "ytandclggkgmpgaa", sum := "aa08b328db93e48f68b0ef4b971d85d057387bc0cb5beb5fb8b8647f1a561fb0", func := "gavotte/gavottelaw02.ValueCmps", spec := "valueCmps", inPlace := ["internal/abi.NoEscape", "internal/bytealg.MakeNoZero", "internal/bytealg.abigen_runtime_cmpstring"], unfollowed := true, recurses := true, loops := true, apart := false, narrowed := true }
def ValueCmpsUptoSaid : Prop := valueCmpsUptoRow.holds Try.pinned (OpenSpec.upto valueCmpsSpec)

end Rows
end Go.Proofs.Ytandclggkgmpgaa
