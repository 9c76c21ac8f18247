/-
  No cell of these rows narrows 'for every input' (looked for: loops, veiled, ifaces, maps, wideKeys, modest, calm, conditions, laid).
  DERIVED. THE GIVEN ROWS OF THIS SEAT. 10 by the template 'for every input the law returns true; each argument reads behind the call as it read before'; 0 by the template 'total and deterministic' (their statements: YtjheegdkngkhaaaTotals.lean).
  GIVEN WITH THE SEED: the statements are not yours to turn. If you find one false, say at which input.
  Laid BY PROGRAM, IN A SANDBOX (cutbox-rows.mjs): the forced cells as the released guide's own fill.sh prints them over the translation 3185bc70031c25ca… (all of the seat's roots in one cut). By AI agents, Wed Nov 11 2026. No macro, syntax, notation, axiom, sorry.
-/
import Derived.Test.YtjheegdkngkhaaaChecked
import GoSem.Claim
import GoSem.ClaimJoined
import GoSem.ClaimMapViews
import Derived.JoinedTies
import Derived.KernelRfl
namespace Go.Proofs.Ytjheegdkngkhaaa
/- THE CELL 'sum', in the pinned program and in every row, IS THE sha256 OF THE DUMP (.gsa) THAT YtjheegdkngkhaaaProg.lean LOADS. Nothing in Lean hashes anything: it is a label: what it is worth is what the hold of that sum in a sandbox is worth. -/
noncomputable def Try.pinned : Pinned := { name := "ytjheegdkngkhaaa", sum := "3185bc70031c25ca8b37304cf673ec571ee3aa3705da77bbc48328ea75ac64f2", checked := Try.checked }
namespace Rows
def none {H : Type} : Left H := { results := [], args := [] }

/-- 'gavottelaw01.SpanAsks': WHATEVER THE INPUT: true; the input reads as it did. -/
def spanAsksSpec : ChangeSpec := { name := "spanAsks", fn := fun _ => fun
  | [d1, d2] => { results := [.lit (.bool true)], args := [d1, d2] }
  | _ => none }
def spanAsksRow : OpenClaim := { program := "ytjheegdkngkhaaa", sum := "3185bc70031c25ca8b37304cf673ec571ee3aa3705da77bbc48328ea75ac64f2", func := "gavotte/gavottelaw01.SpanAsks", spec := "spanAsks", apart := false }
def SpanAsksSaid : Prop := spanAsksRow.holds Try.pinned (OpenSpec.ofChange spanAsksSpec)

/-- ITS FALSE NEIGHBOUR: 'it returns false'. Refute it at one input. -/
def spanAsksWrong : ChangeSpec := { name := "spanAsks", fn := fun _ => fun
  | [d1, d2] => { results := [.lit (.bool false)], args := [d1, d2] }
  | _ => none }
def SpanAsksWrongFalsely : Prop := spanAsksRow.holds Try.pinned (OpenSpec.ofChange spanAsksWrong)

/-- 'gavottelaw01.SpanMakes': WHATEVER THE INPUT: true; the input reads as it did. -/
def spanMakesSpec : ChangeSpec := { name := "spanMakes", fn := fun _ => fun
  | [d1, d2] => { results := [.lit (.bool true)], args := [d1, d2] }
  | _ => none }
def spanMakesRow : OpenClaim := { program := "ytjheegdkngkhaaa", sum := "3185bc70031c25ca8b37304cf673ec571ee3aa3705da77bbc48328ea75ac64f2", func := "gavotte/gavottelaw01.SpanMakes", spec := "spanMakes", apart := false }
def SpanMakesSaid : Prop := spanMakesRow.holds Try.pinned (OpenSpec.ofChange spanMakesSpec)

/-- ITS FALSE NEIGHBOUR: 'it returns false'. Refute it at one input. -/
def spanMakesWrong : ChangeSpec := { name := "spanMakes", fn := fun _ => fun
  | [d1, d2] => { results := [.lit (.bool false)], args := [d1, d2] }
  | _ => none }
def SpanMakesWrongFalsely : Prop := spanMakesRow.holds Try.pinned (OpenSpec.ofChange spanMakesWrong)

/-- 'gavottelaw01.SpanTexts': WHATEVER THE INPUT: true; the input reads as it did. -/
def spanTextsSpec : ChangeSpec := { name := "spanTexts", fn := fun _ => fun
  | [d] => { results := [.lit (.bool true)], args := [d] }
  | _ => none }
def spanTextsRow : OpenClaim := { program := "ytjheegdkngkhaaa", sum := "3185bc70031c25ca8b37304cf673ec571ee3aa3705da77bbc48328ea75ac64f2", func := "gavotte/gavottelaw01.SpanTexts", spec := "spanTexts", apart := false }
def SpanTextsSaid : Prop := spanTextsRow.holds Try.pinned (OpenSpec.ofChange spanTextsSpec)

/-- ITS FALSE NEIGHBOUR: 'it returns false'. Refute it at one input. -/
def spanTextsWrong : ChangeSpec := { name := "spanTexts", fn := fun _ => fun
  | [d] => { results := [.lit (.bool false)], args := [d] }
  | _ => none }
def SpanTextsWrongFalsely : Prop := spanTextsRow.holds Try.pinned (OpenSpec.ofChange spanTextsWrong)

/-- 'gavottelaw01.SpanReads': WHATEVER THE INPUT: true; the input reads as it did. -/
def spanReadsSpec : ChangeSpec := { name := "spanReads", fn := fun _ => fun
  | [d] => { results := [.lit (.bool true)], args := [d] }
  | _ => none }
def spanReadsRow : OpenClaim := { program := "ytjheegdkngkhaaa", sum := "3185bc70031c25ca8b37304cf673ec571ee3aa3705da77bbc48328ea75ac64f2", func := "gavotte/gavottelaw01.SpanReads", spec := "spanReads", apart := false }
def SpanReadsSaid : Prop := spanReadsRow.holds Try.pinned (OpenSpec.ofChange spanReadsSpec)

/-- ITS FALSE NEIGHBOUR: 'it returns false'. Refute it at one input. -/
def spanReadsWrong : ChangeSpec := { name := "spanReads", fn := fun _ => fun
  | [d] => { results := [.lit (.bool false)], args := [d] }
  | _ => none }
def SpanReadsWrongFalsely : Prop := spanReadsRow.holds Try.pinned (OpenSpec.ofChange spanReadsWrong)

/-- 'gavottelaw01.SpanMins': WHATEVER THE INPUT: true; the input reads as it did. -/
def spanMinsSpec : ChangeSpec := { name := "spanMins", fn := fun _ => fun
  | [d] => { results := [.lit (.bool true)], args := [d] }
  | _ => none }
def spanMinsRow : OpenClaim := { program := "ytjheegdkngkhaaa", sum := "3185bc70031c25ca8b37304cf673ec571ee3aa3705da77bbc48328ea75ac64f2", func := "gavotte/gavottelaw01.SpanMins", spec := "spanMins", unfollowed := true, recurses := true, apart := false }
def SpanMinsSaid : Prop := spanMinsRow.holds Try.pinned (OpenSpec.ofChange spanMinsSpec)

/-- ITS FALSE NEIGHBOUR: 'it returns false'. Refute it at one input. -/
def spanMinsWrong : ChangeSpec := { name := "spanMins", fn := fun _ => fun
  | [d] => { results := [.lit (.bool false)], args := [d] }
  | _ => none }
def SpanMinsWrongFalsely : Prop := spanMinsRow.holds Try.pinned (OpenSpec.ofChange spanMinsWrong)

/-- 'gavottelaw01.SpanLeast': WHATEVER THE INPUT: true; the input reads as it did. -/
def spanLeastSpec : ChangeSpec := { name := "spanLeast", fn := fun _ => fun
  | [d] => { results := [.lit (.bool true)], args := [d] }
  | _ => none }
def spanLeastRow : OpenClaim := { program := "ytjheegdkngkhaaa", sum := "3185bc70031c25ca8b37304cf673ec571ee3aa3705da77bbc48328ea75ac64f2", func := "gavotte/gavottelaw01.SpanLeast", spec := "spanLeast", unfollowed := true, recurses := true, apart := false }
def SpanLeastSaid : Prop := spanLeastRow.holds Try.pinned (OpenSpec.ofChange spanLeastSpec)

/-- ITS FALSE NEIGHBOUR: 'it returns false'. Refute it at one input. -/
def spanLeastWrong : ChangeSpec := { name := "spanLeast", fn := fun _ => fun
  | [d] => { results := [.lit (.bool false)], args := [d] }
  | _ => none }
def SpanLeastWrongFalsely : Prop := spanLeastRow.holds Try.pinned (OpenSpec.ofChange spanLeastWrong)

/-- 'gavottelaw01.SpanOrders': WHATEVER THE INPUT: true; the input reads as it did. -/
def spanOrdersSpec : ChangeSpec := { name := "spanOrders", fn := fun _ => fun
  | [d1, d2, d3] => { results := [.lit (.bool true)], args := [d1, d2, d3] }
  | _ => none }
def spanOrdersRow : OpenClaim := { program := "ytjheegdkngkhaaa", sum := "3185bc70031c25ca8b37304cf673ec571ee3aa3705da77bbc48328ea75ac64f2", func := "gavotte/gavottelaw01.SpanOrders", spec := "spanOrders", inPlace := ["math/bits.Add64"], named := ["math/bits.divideError", "math/bits.overflowError"], apart := false }
def SpanOrdersSaid : Prop := spanOrdersRow.holds Try.pinned (OpenSpec.ofChange spanOrdersSpec)

/-- ITS FALSE NEIGHBOUR: 'it returns false'. Refute it at one input. -/
def spanOrdersWrong : ChangeSpec := { name := "spanOrders", fn := fun _ => fun
  | [d1, d2, d3] => { results := [.lit (.bool false)], args := [d1, d2, d3] }
  | _ => none }
def SpanOrdersWrongFalsely : Prop := spanOrdersRow.holds Try.pinned (OpenSpec.ofChange spanOrdersWrong)

/-- 'gavottelaw01.SpanThirds': WHATEVER THE INPUT: true; the input reads as it did. -/
def spanThirdsSpec : ChangeSpec := { name := "spanThirds", fn := fun _ => fun
  | [d1, d2, d3] => { results := [.lit (.bool true)], args := [d1, d2, d3] }
  | _ => none }
def spanThirdsRow : OpenClaim := { program := "ytjheegdkngkhaaa", sum := "3185bc70031c25ca8b37304cf673ec571ee3aa3705da77bbc48328ea75ac64f2", func := "gavotte/gavottelaw01.SpanThirds", spec := "spanThirds", inPlace := ["math/bits.Add64"], named := ["math/bits.divideError", "math/bits.overflowError"], apart := false }
def SpanThirdsSaid : Prop := spanThirdsRow.holds Try.pinned (OpenSpec.ofChange spanThirdsSpec)

/-- ITS FALSE NEIGHBOUR: 'it returns false'. Refute it at one input. -/
def spanThirdsWrong : ChangeSpec := { name := "spanThirds", fn := fun _ => fun
  | [d1, d2, d3] => { results := [.lit (.bool false)], args := [d1, d2, d3] }
  | _ => none }
def SpanThirdsWrongFalsely : Prop := spanThirdsRow.holds Try.pinned (OpenSpec.ofChange spanThirdsWrong)

/-- 'gavottelaw01.SpanBack': WHATEVER THE INPUT: true; the input reads as it did. -/
def spanBackSpec : ChangeSpec := { name := "spanBack", fn := fun _ => fun
  | [d1, d2] => { results := [.lit (.bool true)], args := [d1, d2] }
  | _ => none }
def spanBackRow : OpenClaim := { program := "ytjheegdkngkhaaa", sum := "3185bc70031c25ca8b37304cf673ec571ee3aa3705da77bbc48328ea75ac64f2", func := "gavotte/gavottelaw01.SpanBack", spec := "spanBack", inPlace := ["math/bits.Add64", "math/bits.Sub64"], named := ["math/bits.divideError", "math/bits.overflowError"], apart := false }
def SpanBackSaid : Prop := spanBackRow.holds Try.pinned (OpenSpec.ofChange spanBackSpec)

/-- ITS FALSE NEIGHBOUR: 'it returns false'. Refute it at one input. -/
def spanBackWrong : ChangeSpec := { name := "spanBack", fn := fun _ => fun
  | [d1, d2] => { results := [.lit (.bool false)], args := [d1, d2] }
  | _ => none }
def SpanBackWrongFalsely : Prop := spanBackRow.holds Try.pinned (OpenSpec.ofChange spanBackWrong)

/-- 'gavottelaw01.SpanSums': WHATEVER THE INPUT: true; the input reads as it did. -/
def spanSumsSpec : ChangeSpec := { name := "spanSums", fn := fun _ => fun
  | [d1, d2] => { results := [.lit (.bool true)], args := [d1, d2] }
  | _ => none }
def spanSumsRow : OpenClaim := { program := "ytjheegdkngkhaaa", sum := "3185bc70031c25ca8b37304cf673ec571ee3aa3705da77bbc48328ea75ac64f2", func := "gavotte/gavottelaw01.SpanSums", spec := "spanSums", inPlace := ["math/bits.Add64", "math/bits.Sub64"], named := ["math/bits.divideError", "math/bits.overflowError"], apart := false }
def SpanSumsSaid : Prop := spanSumsRow.holds Try.pinned (OpenSpec.ofChange spanSumsSpec)

/-- ITS FALSE NEIGHBOUR: 'it returns false'. Refute it at one input. -/
def spanSumsWrong : ChangeSpec := { name := "spanSums", fn := fun _ => fun
  | [d1, d2] => { results := [.lit (.bool false)], args := [d1, d2] }
  | _ => none }
def SpanSumsWrongFalsely : Prop := spanSumsRow.holds Try.pinned (OpenSpec.ofChange spanSumsWrong)

/- THE SECOND FORM. 'bulk': how many values and letters a reading holds, each counted each time it is reached (what is shared counts as often as it is met; a slice's spare places count too). A statement '..UptoSaid' is the law's where the arguments, and the package variables that the reading takes, are together of bulk at most 1048576: NARROWER than '..Said'. Prove '..Said' where nothing that the law and all that it calls make is longer than what came in: it says more and counts as full. Else prove '..UptoSaid'. A law counts once. -/
mutual
def uptoBulk {H : Type} : DataW H → Nat
  | .lit (.string bytes) => bytes.length + 1
  | .lit _ => 1
  | .nil => 1
  | .ptr d => uptoBulk d + 1
  | .slice elems spare => uptoBulkAll elems + uptoBulkAll spare + 1
  | .agg parts => uptoBulkAll parts + 1
  | .iface _ d => uptoBulk d + 1
  | .map entries => uptoBulkEntries entries + 1
  | .held _ => 1
def uptoBulkAll {H : Type} : List (DataW H) → Nat
  | [] => 0
  | d :: r => uptoBulk d + uptoBulkAll r
def uptoBulkEntries {H : Type} : List (Lit × DataW H) → Nat
  | [] => 0
  | x :: r => uptoBulkEntry x + uptoBulkEntries r
def uptoBulkEntry {H : Type} : Lit × DataW H → Nat
  | (.string bytes, d) => bytes.length + uptoBulk d + 1
  | (_, d) => uptoBulk d + 1
 end
def uptoSmall : (H : Type) → List (DataW H) → Bool := fun _ ds => decide (uptoBulkAll ds ≤ 1048576)
def OpenSpec.upto (s : _root_.Go.ChangeSpec) : _root_.Go.OpenSpec := { _root_.Go.OpenSpec.ofChange s with cond := some uptoSmall }

/-- 'gavottelaw01.SpanAsks', WHERE WHAT IT READS IS OF BULK AT MOST 1048576: true; the input reads as it did. -/
def spanAsksUptoRow : OpenClaim := { program := "ytjheegdkngkhaaa", sum := "3185bc70031c25ca8b37304cf673ec571ee3aa3705da77bbc48328ea75ac64f2", func := "gavotte/gavottelaw01.SpanAsks", spec := "spanAsks", apart := false, narrowed := true }
def SpanAsksUptoSaid : Prop := spanAsksUptoRow.holds Try.pinned (OpenSpec.upto spanAsksSpec)

/-- 'gavottelaw01.SpanMakes', WHERE WHAT IT READS IS OF BULK AT MOST 1048576: true; the input reads as it did. -/
def spanMakesUptoRow : OpenClaim := { program := "ytjheegdkngkhaaa", sum := "3185bc70031c25ca8b37304cf673ec571ee3aa3705da77bbc48328ea75ac64f2", func := "gavotte/gavottelaw01.SpanMakes", spec := "spanMakes", apart := false, narrowed := true }
def SpanMakesUptoSaid : Prop := spanMakesUptoRow.holds Try.pinned (OpenSpec.upto spanMakesSpec)

/-- 'gavottelaw01.SpanTexts', WHERE WHAT IT READS IS OF BULK AT MOST 1048576: true; the input reads as it did. -/
def spanTextsUptoRow : OpenClaim := { program := "ytjheegdkngkhaaa", sum := "3185bc70031c25ca8b37304cf673ec571ee3aa3705da77bbc48328ea75ac64f2", func := "gavotte/gavottelaw01.SpanTexts", spec := "spanTexts", apart := false, narrowed := true }
def SpanTextsUptoSaid : Prop := spanTextsUptoRow.holds Try.pinned (OpenSpec.upto spanTextsSpec)

/-- 'gavottelaw01.SpanReads', WHERE WHAT IT READS IS OF BULK AT MOST 1048576: true; the input reads as it did. -/
def spanReadsUptoRow : OpenClaim := { program := "ytjheegdkngkhaaa", sum := "3185bc70031c25ca8b37304cf673ec571ee3aa3705da77bbc48328ea75ac64f2", func := "gavotte/gavottelaw01.SpanReads", spec := "spanReads", apart := false, narrowed := true }
def SpanReadsUptoSaid : Prop := spanReadsUptoRow.holds Try.pinned (OpenSpec.upto spanReadsSpec)

/-- 'gavottelaw01.SpanMins', WHERE WHAT IT READS IS OF BULK AT MOST 1048576: true; the input reads as it did. -/
def spanMinsUptoRow : OpenClaim := { program := "ytjheegdkngkhaaa", sum := "3185bc70031c25ca8b37304cf673ec571ee3aa3705da77bbc48328ea75ac64f2", func := "gavotte/gavottelaw01.SpanMins", spec := "spanMins", unfollowed := true, recurses := true, apart := false, narrowed := true }
def SpanMinsUptoSaid : Prop := spanMinsUptoRow.holds Try.pinned (OpenSpec.upto spanMinsSpec)

/-- 'gavottelaw01.SpanLeast', WHERE WHAT IT READS IS OF BULK AT MOST 1048576: true; the input reads as it did. -/
def spanLeastUptoRow : OpenClaim := { program := "ytjheegdkngkhaaa", sum := "3185bc70031c25ca8b37304cf673ec571ee3aa3705da77bbc48328ea75ac64f2", func := "gavotte/gavottelaw01.SpanLeast", spec := "spanLeast", unfollowed := true, recurses := true, apart := false, narrowed := true }
def SpanLeastUptoSaid : Prop := spanLeastUptoRow.holds Try.pinned (OpenSpec.upto spanLeastSpec)

/-- 'gavottelaw01.SpanOrders', WHERE WHAT IT READS IS OF BULK AT MOST 1048576: true; the input reads as it did. -/
def spanOrdersUptoRow : OpenClaim := { program := "ytjheegdkngkhaaa", sum := "3185bc70031c25ca8b37304cf673ec571ee3aa3705da77bbc48328ea75ac64f2", func := "gavotte/gavottelaw01.SpanOrders", spec := "spanOrders", inPlace := ["math/bits.Add64"], named := ["math/bits.divideError", "math/bits.overflowError"], apart := false, narrowed := true }
def SpanOrdersUptoSaid : Prop := spanOrdersUptoRow.holds Try.pinned (OpenSpec.upto spanOrdersSpec)

/-- 'gavottelaw01.SpanThirds', WHERE WHAT IT READS IS OF BULK AT MOST 1048576: true; the input reads as it did. -/
def spanThirdsUptoRow : OpenClaim := { program := "ytjheegdkngkhaaa", sum := "3185bc70031c25ca8b37304cf673ec571ee3aa3705da77bbc48328ea75ac64f2", func := "gavotte/gavottelaw01.SpanThirds", spec := "spanThirds", inPlace := ["math/bits.Add64"], named := ["math/bits.divideError", "math/bits.overflowError"], apart := false, narrowed := true }
def SpanThirdsUptoSaid : Prop := spanThirdsUptoRow.holds Try.pinned (OpenSpec.upto spanThirdsSpec)

/-- 'gavottelaw01.SpanBack', WHERE WHAT IT READS IS OF BULK AT MOST 1048576: true; the input reads as it did. -/
def spanBackUptoRow : OpenClaim := { program := "ytjheegdkngkhaaa", sum := "3185bc70031c25ca8b37304cf673ec571ee3aa3705da77bbc48328ea75ac64f2", func := "gavotte/gavottelaw01.SpanBack", spec := "spanBack", inPlace := ["math/bits.Add64", "math/bits.Sub64"], named := ["math/bits.divideError", "math/bits.overflowError"], apart := false, narrowed := true }
def SpanBackUptoSaid : Prop := spanBackUptoRow.holds Try.pinned (OpenSpec.upto spanBackSpec)

/-- 'gavottelaw01.SpanSums', WHERE WHAT IT READS IS OF BULK AT MOST 1048576: true; the input reads as it did. -/
def spanSumsUptoRow : OpenClaim := { program := "ytjheegdkngkhaaa", sum := "3185bc70031c25ca8b37304cf673ec571ee3aa3705da77bbc48328ea75ac64f2", func := "gavotte/gavottelaw01.SpanSums", spec := "spanSums", inPlace := ["math/bits.Add64", "math/bits.Sub64"], named := ["math/bits.divideError", "math/bits.overflowError"], apart := false, narrowed := true }
def SpanSumsUptoSaid : Prop := spanSumsUptoRow.holds Try.pinned (OpenSpec.upto spanSumsSpec)

end Rows
end Go.Proofs.Ytjheegdkngkhaaa
