/- The operations of the pure logic: what each yields of pure data. Definitions alone. -/
import Derived.Test.YtefiebkngpcaoaaDoorPB2
set_option maxRecDepth 100000
set_option linter.unusedVariables false
set_option linter.unusedSimpArgs false
set_option linter.unusedSectionVars false
namespace Go.Proofs.YtefiebkngpcaoaaDoor
open Go.RowKit

/-- Is a type's value of many cells; how many cells. -/
def tyI (P : Program) (t : TypeId) : Option (Bool × Nat) :=
  match P.underlying t, P.info? t with
  | some (.struct _), some i => some (true, i.size)
  | some (.array _ _), some i => some (true, i.size)
  | some _, some i => some (false, i.size)
  | _, _ => none
/-- A slice type's element: number, cells, bytes. -/
def elT (P : Program) (t : TypeId) : Option (TypeId × Nat × Nat) :=
  match P.underlying t with
  | some (.slice e) => match P.info? e with
    | some i => some (e, i.size, i.bytes)
    | none => none
  | _ => none
/-- A struct type's field: where its cells begin, of many cells, how many. -/
def fldT (P : Program) (t : TypeId) (i : Nat) : Option (Nat × Bool × Nat) :=
  match P.underlying t with
  | some (.struct fs) => match fs[i]? with
    | some f => match tyI P f.type with
      | some (ag, n) => some (f.offset, ag, n)
      | none => none
    | none => none
  | _ => none
/-- An array type: how many, of how many cells each. -/
def arrT (P : Program) (t : TypeId) : Option (Nat × Nat) := match P.underlying t with
  | some (.array n e) => match P.info? e with
    | some i => some (n, i.size)
    | none => none
  | _ => none
def isStr (P : Program) (t : TypeId) : Bool := match P.underlying t with | some .string => true | _ => false
def intK (P : Program) (t : TypeId) : Option IntKind := match P.underlying t with | some (.int k) => some k | _ => none
def ofV1 : Value → Option D
  | .bool b => some (.bool b)
  | .int k n => some (.int k n)
  | .string s => some (.str s)
  | .pointer none => some .nilp
  | .slice none 0 0 => some (.sl 0 [])
  | .nilFunc => some .nilf
  | _ => none
def ofVs : List Value → Option (List D)
  | [] => some []
  | v :: vs => match ofV1 v, ofVs vs with
    | some d, some ds => some (d :: ds)
    | _, _ => none
def ofV : Value → Option D
  | .agg cs => (ofVs cs.toList).map .agg
  | .tuple cs => (ofVs cs.toList).map .tup
  | v => ofV1 v
def ofVsN : List Value → Option (List D)
  | [] => some []
  | .slice none 0 0 :: vs => match ofVsN vs with
    | some ds => some (.nils :: ds)
    | none => none
  | v :: vs => match ofV1 v, ofVsN vs with
    | some d, some ds => some (d :: ds)
    | _, _ => none
/-- The cells of a type's zero, nil slices told as such. -/
def zeroTN (P : Program) (t : TypeId) : Option (List D) :=
  match P.info? t with
  | some i => match i.zero with
    | some z => ofVsN z.cells.toList
    | none => none
  | none => none
/-- The cells of a type's zero. -/
def zeroT (P : Program) (t : TypeId) : Option (List D) :=
  match P.info? t with
  | some i => match i.zero with
    | some z => ofVs z.cells.toList
    | none => none
  | none => none
def cst (v : Value) : SV :=
  match v with
  | .slice none 0 0 => .nil
  | v => match ofV v with
    | some x => .d x
    | none => .junk
/-- A zero's cell. -/
def zS : D → SV
  | .sl 0 [] => .nil
  | x => .d x
def ev (f : Frm) : Operand → SV
  | .tmp t => f t
  | .const v => cst v
  | .func k => .d (.fn (.func k) [] [])
  | .global g => match gcells g with
    | some cs => .d (.ep cs)
    | none => .junk
def D.one : D → Bool
  | .agg _ | .tup _ => false
  | _ => true
def SV.cells : SV → Option (List SV)
  | .d (.agg cs) => some (cs.map .d)
  | .d (.tup _) => none
  | .junk => none
  | .trace _ _ _ => none
  | .stop => none
  | x => some [x]
def SV.toSA : SV → Option SA
  | .loc s off => some (.loc s off)
  | x => match x.toD with
    | some y => some (.d y)
    | none => none
def toSAs : List SV → Option (List SA)
  | [] => some []
  | x :: xs => match x.toSA, toSAs xs with
    | some d, some ds => some (d :: ds)
    | _, _ => none
def toDs : List SV → Option (List D)
  | [] => some []
  | x :: xs => match x.toD, toDs xs with
    | some d, some ds => some (d :: ds)
    | _, _ => none
def SV.toDN : SV → Option D
  | .nil => some .nils
  | x => x.toD
def toDsN : List SV → Option (List D)
  | [] => some []
  | x :: xs => match x.toDN, toDsN xs with
    | some d, some ds => some (d :: ds)
    | _, _ => none
/-- The bytes of a slice's cells. -/
def bytesS (n : Nat) (cs : List SV) : Option (List D) := if n ≤ cs.length then toDs (cs.take n) else none
/-- What is read from cells at which a variable of a type begins. -/
def rdD (ag : Bool) (n : Nat) (cs : List D) : Option D :=
  if ag then (if n ≤ cs.length then some (.agg (cs.take n)) else none) else cs.head?
def rdS (ag : Bool) (n : Nat) (cs : List SV) : Option SV :=
  if ag then (if n ≤ cs.length then match toDs (cs.take n) with
      | some l => some (.d (.agg l))
      | none => none
    else none)
  else cs.head?

structure Eff where
  res : SV
  rd : Option Nat
  wr : List (Nat × HO)
def Eff.val (x : SV) : Eff := ⟨x, none, []⟩
def app (H : Hp) : List (Nat × HO) → Hp
  | [] => H
  | (s, o) :: l => app (hup H s o) l

/-- Two integers of one kind under an operator. -/
def pInt (op : BinOp) (k : IntKind) (a b : Int) : Option D :=
  match op with
  | .add => some (.int k (k.wrap (a + b)))
  | .sub => some (.int k (k.wrap (a - b)))
  | .mul => some (.int k (k.wrap (a * b)))
  | .quo => if b = 0 then none else some (.int k (k.wrap (a.tdiv b)))
  | .rem => if b = 0 then none else some (.int k (a.tmod b))
  | .and => some (.int k (k.wrap (BitVec.ofInt k.bits a &&& BitVec.ofInt k.bits b).toNat))
  | .or => some (.int k (k.wrap (BitVec.ofInt k.bits a ||| BitVec.ofInt k.bits b).toNat))
  | .eql => some (.bool (a == b))
  | .neq => some (.bool (a != b))
  | .lss => some (.bool (decide (a < b)))
  | .leq => some (.bool (decide (a ≤ b)))
  | .gtr => some (.bool (decide (a > b)))
  | .geq => some (.bool (decide (a ≥ b)))
  | _ => none
/-- Can two texts be joined? -/
def fits (a b : ByteArray) : Bool := decide (a.size + b.size ≤ 9223372036854775807)
def pStr (op : BinOp) (a b : ByteArray) : Option D :=
  match op with
  | .add => if fits a b = true then some (.str (a ++ b)) else none
  | .eql => some (.bool (a.toList == b.toList))
  | .neq => some (.bool !(a.toList == b.toList))
  | .lss => some (.bool (Op.bytesLess a.toList b.toList))
  | .leq => some (.bool (Op.bytesLess a.toList b.toList || a.toList == b.toList))
  | .gtr => some (.bool !(Op.bytesLess a.toList b.toList || a.toList == b.toList))
  | .geq => some (.bool !(Op.bytesLess a.toList b.toList))
  | _ => none
/-- Values that == tells apart by what they are. -/
def pEq (x y : D) : Option Bool :=
  match x, y with
  | .nilp, .nilp => some true
  | .nilp, .ep _ => some false
  | .ep _, .nilp => some false
  | _, _ => none
def boolT (P : Program) (t : TypeId) : Bool := match P.underlying t with | some .bool => true | _ => false
def pBin (P : Program) (t : TypeId) (op : BinOp) (x y : D) : Option D :=
  match x, y with
  | .int k a, .int k' b =>
    match op with
    | .shl => if b < 0 then none else some (.int k (k.wrap (a * 2 ^ (min b.toNat k.bits))))
    | .shr => if b < 0 then none else some (.int k (a.fdiv (2 ^ (min b.toNat k.bits))))
    | op => if k = k' then pInt op k a b else none
  | .str a, .str b => pStr op a b
  | .bool a, .bool b => if boolT P t then
      match op with
      | .eql => some (.bool (a == b))
      | .neq => some (.bool !(a == b))
      | _ => none
    else none
  | _, _ => none
def pUn (op : UnOp) (x : D) : Option D :=
  match op, x with
  | .neg, .int k n => some (.int k (k.wrap (0 - n)))
  | .not, .bool b => some (.bool !b)
  | _, _ => none
/-- Where a struct's fields lie. -/
def placesT (P : Program) (t : TypeId) : Option (List (Nat × Nat)) :=
  match P.underlying t with
  | some (.struct fields) => fields.toList.mapM (fun f => (P.info? f.type).map fun i => (f.offset, i.size))
  | _ => none
def D.cells : D → Option (List D)
  | .agg cs => some cs
  | .tup _ => none
  | x => some [x]
def pfill (place : Nat → Option (Nat × Nat)) : List D → List (Nat × D) → Option (List D)
  | cs, [] => some cs
  | cs, (i, x) :: rest => match place i, x.cells with
    | some (off, size), some ys => if ys.length = size ∧ off + size ≤ cs.length then pfill place (cs.take off ++ ys ++ cs.drop (off + size)) rest else none
    | _, _ => none
def repD : Nat → List D → List D
  | 0, _ => []
  | n + 1, zs => zs ++ repD n zs
def partsD (f : Frm) : List (Nat × Operand) → Option (List (Nat × D))
  | [] => some []
  | (i, x) :: rest => match (ev f x).toD, partsD f rest with
    | some d, some ds => some ((i, d) :: ds)
    | _, _ => none
/-- A bound of a slice expression. -/
def bndD (f : Frm) (y dflt : Nat) : Option Operand → Option Nat
  | none => some dflt
  | some x => match ev f x with
    | .d (.int _ j) => if 0 ≤ j ∧ j ≤ y then some j.toNat else none
    | _ => none
def bytesD : List D → Option (List UInt8)
  | [] => some []
  | .int .u8 n :: cs => match bytesD cs with
    | some bs => some (UInt8.ofNat n.toNat :: bs)
    | none => none
  | _ => none
/-- The calls of built-ins that only yield. -/
def pBuilt (P : Program) (f : Frm) (H : Hp) (b : Builtin) (as : List Operand) (tys : List TypeId) : Option (SV × Option Nat) :=
  match b, as, tys with
  | .len, [x], [t] => match ev f x with
    | .bs _ _ n _ => match elT P t with
      | some _ => some (.d (.int .i64 n), none)
      | none => none
    | .vec r ver n => match elT P t with
      | some _ => some (.d (.int .i64 n), none)
      | none => none
    | y => match y.toD with
      | some (.str s) => if isStr P t then some (.d (.int .i64 s.size), none) else none
      | some (.sl n _) => match elT P t with
        | some _ => some (.d (.int .i64 n), none)
        | none => none
      | _ => none
  | .max, [x, y], _ => match ev f x, ev f y with
    | .d (.int k a), .d (.int _ b) => some (.d (.int k (if b > a then b else a)), none)
    | _, _ => none
  | .min, [x, y], _ => match ev f x, ev f y with
    | .d (.int k a), .d (.int _ b) => some (.d (.int k (if b < a then b else a)), none)
    | _, _ => none
  | _, _, _ => none
def opB (N : Nat) : Operand → Bool
  | .tmp t => decide (t < N)
  | _ => true
/-- The operations that call nothing. -/
def pstep (P : Program) (o : Oper) (f : Frm) (H : Hp) : Option Eff :=
  match o.op with
  | .move x | .assign x => some (.val (ev f x))
  | .pick c x y => match ev f c with
    | .d (.bool b) => some (.val (if b then ev f x else ev f y))
    | _ => none
  | .alloc t => match o.dst, zeroT P t with
    | some s, some zs => match H s with
      | .none => some ⟨.loc s 0, none, [(s, .box (zs.map zS))]⟩
      | _ => none
    | _, _ => none
  | .box _ x => match o.dst, (ev f x).cells with
    | some s, some cs => match H s with
      | .none => some ⟨.loc s 0, none, [(s, .box cs)]⟩
      | _ => none
    | _, _ => none
  | .load t x => match ev f x, tyI P t with
    | .loc s off, some (ag, n) => match H s with
      | .box cs => match rdS ag n (cs.drop off) with
        | some v => some ⟨v, some s, []⟩
        | none => none
      | _ => none
    | .vptr r ver off, some (ag, n) => match H r with
      | .vec _ _ ver' cs => if ver = ver' then match rdS ag n (cs.drop off) with
          | some v => some ⟨v, some r, []⟩
          | none => none
        else none
      | _ => none
    | .d (.ep cs), some (ag, n) => match rdD ag n cs with
      | some v => some (.val (.d v))
      | none => none
    | _, _ => none
  | .store t x y => match ev f x, tyI P t, (ev f y).cells with
    | .loc s off, some (_, n), some ys => match H s with
      | .box cs => if ys.length = n ∧ off + n ≤ cs.length then some ⟨.d (.tup []), some s, [(s, .box (cs.take off ++ ys ++ cs.drop (off + n)))]⟩ else none
      | _ => none
    | .vptr r ver off, some (_, n), some ys => match H r with
      | .vec e sz ver' cs => if ver = ver' ∧ ys.length = n ∧ off + n ≤ cs.length then some ⟨.d (.tup []), some r, [(r, .vec e sz ver' (cs.take off ++ ys ++ cs.drop (off + n)))]⟩ else none
      | _ => none
    | _, _, _ => none
  | .fieldAddr t x i => match ev f x, fldT P t i with
    | .loc s o, some (off, _, n) => if n = 0 then none else some (.val (.loc s (o + off)))
    | .vptr r ver o, some (off, _, n) => if n = 0 then none else some (.val (.vptr r ver (o + off)))
    | .d (.ep cs), some (off, _, n) => if n = 0 then none else some (.val (.d (.ep (cs.drop off))))
    | _, _ => none
  | .field t x i => match ev f x, fldT P t i with
    | .d (.agg cs), some (off, ag, n) => match rdD ag n (cs.drop off) with
      | some v => some (.val (.d v))
      | none => none
    | _, _ => none
  | .indexAddr t x i => match ev f x, elT P t, ev f i with
    | .bs s off n _, some (_, sz, _), .d (.int _ j) => if 0 ≤ j ∧ j < n then some (.val (.loc s (off + j.toNat * sz))) else none
    | .vec r ver n, some (_, sz, _), .d (.int _ j) => if 0 ≤ j ∧ j < n then some (.val (.vptr r ver (j.toNat * sz))) else none
    | y, some (_, sz, _), .d (.int _ j) => match y.toD with
      | some (.sl n cs) => if 0 ≤ j ∧ j < n then some (.val (.d (.ep (cs.drop (j.toNat * sz))))) else none
      | _ => none
    | _, _, _ => none
  | .index t x i => match ev f x, isStr P t, ev f i with
    | .d (.str s), true, .d (.int _ j) => if 0 ≤ j ∧ j.toNat < s.size then some (.val (.d (.int .u8 (s.data.toList.getD j.toNat 0).toNat))) else none
    | _, _, _ => none
  | .extract x i => match ev f x with
    | .d (.tup ds) => match ds[i]? with
      | some d => some (.val (.d d))
      | none => none
    | _ => none
  | .nilCheck x => match ev f x with
    | .loc s off => some (.val (.loc s off))
    | .d (.ep cs) => some (.val (.d (.ep cs)))
    | _ => none
  | .binOp op t x y _ => match ev f x, ev f y with
    | .d a, .d b => match pBin P t op a b with
      | some r => some (.val (.d r))
      | none => none
    | _, _ => none
  | .unOp op _ x => match ev f x with
    | .d a => match pUn op a with
      | some r => some (.val (.d r))
      | none => none
    | _ => none
  | .convert s t x => match ev f x with
    | .bs r off n _ => match elT P s, isStr P t, H r with
      | some (e, _, _), true, .box cs => match intK P e, bytesS n (cs.drop off) with
        | some .u8, some ds => match bytesD ds with
          | some bs => some ⟨.d (.str ⟨bs.toArray⟩), some r, []⟩
          | none => none
        | _, _ => none
      | _, _, _ => none
    | .vec r ver n => match elT P s, isStr P t, H r with
      | some (e, _, _), true, .vec _ sz ver' cs => if ver = ver' ∧ sz = 1 then match intK P e, toDs cs with
          | some .u8, some ds => match bytesD ds with
            | some bs => some ⟨.d (.str ⟨bs.toArray⟩), some r, []⟩
            | none => none
          | _, _ => none
        else none
      | _, _, _ => none
    | y => match y.toD, tyI P s, intK P t with
      | some (.int _ n), some _, some k => some (.val (.d (.int k (k.wrap n))))
      | some (.sl n cs), _, _ => match elT P s, isStr P t with
        | some (e, _, _), true => match intK P e with
          | some .u8 => if cs.length = n then match bytesD cs with
              | some bs => some (.val (.d (.str ⟨bs.toArray⟩)))
              | none => none
            else none
          | _ => none
        | _, _ => none
      | _, _, _ => none
  | .build t parts => match zeroT P t, placesT P t, partsD f parts.toList with
    | some zs, some pl, some ps => match pfill (fun i => pl[i]?) zs ps with
      | some cs => some (.val (.d (.agg cs)))
      | none => none
    | _, _, _ => none
  | .buildSlice t len parts => match elT P t, partsD f parts.toList with
    | some (e, sz, _), some ps => match zeroT P e with
      | some zs => if zs.length = sz ∧ len * sz ≤ 16777216 ∧ len * sz ≠ 0 then
          match pfill (fun i => some (i * sz, sz)) (repD len zs) ps with
          | some cs => some (.val (.d (.sl len cs)))
          | none => none
        else none
      | none => none
    | _, _ => none
  | .slice t x lo hi none => match (ev f x).toD with
    | some (.str s) => match isStr P t, bndD f s.size s.size hi with
      | true, some h => match bndD f h 0 lo with
        | some l => some (.val (.d (.str (s.extract l h))))
        | none => none
      | _, _ => none
    | some (.sl n cs) => match elT P t, bndD f n n hi with
      | some (_, sz, _), some h => match bndD f h 0 lo with
        | some l => some (.val (.d (.sl (h - l) ((cs.take (h * sz)).drop (l * sz)))))
        | none => none
      | _, _ => none
    | some (.ep cs) => match arrT P t, lo, hi with
      | some (n, _), none, none => some (.val (.d (.sl n cs)))
      | _, _, _ => none
    | _ => none
  | .call { callee := .builtin b, args := as, argTypes := tys } => match pBuilt P f H b as.toList tys.toList with
    | some (v, rd) => some ⟨v, rd, []⟩
    | none => none
  | .makeFunc fn first cap => match toDs (first.toList.map (ev f)), toDs (cap.toList.map (ev f)) with
    | some a, some b => some (.val (.d (.fn fn a b)))
    | _, _ => match toSAs (first.toList.map (ev f)), toSAs (cap.toList.map (ev f)) with
      | some a, some b => some (.val (.clo fn a b))
      | _, _ => none
  | _ => none
end Go.Proofs.YtefiebkngpcaoaaDoor
