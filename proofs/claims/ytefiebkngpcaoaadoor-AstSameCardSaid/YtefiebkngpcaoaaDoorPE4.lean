/- The operations of the pure logic: what each yields of pure data. Definitions alone. The operations of the pure logic are sound. Condition: the slots that they name are the frame's. Each operation of the pure logic is sound. Condition: the slots that it names are the frame's. Each operation of the pure logic is sound, more of them. Condition: the slots that it names are the frame's. Each operation of the pure logic is sound, the rest of them. Condition: the slots that it names are the frame's. Each operation of the pure logic is sound: indexes, arithmetic, comparisons, conversions. Condition: the slots that it names are the frame's. -/
import Derived.Test.YtefiebkngpcaoaaDoorPB2
import Derived.Deep.MidRow
import Derived.Laws.StructEq
import Derived.Laws.Small
set_option maxRecDepth 100000
set_option linter.unusedVariables false
set_option linter.unusedSimpArgs false
set_option linter.unusedSectionVars false
namespace Go.Proofs.YtefiebkngpcaoaaDoor
open Go.RowKit

/-- Is a type's value of many cells; how many cells. -/
def tyI (P : Program) (t : TypeId) : Option (Bool × Nat) :=
  match P.underlying t, P.info? t with
  | some (.struct _), some i => some (true, i.size)
  | some (.array _ _), some i => some (true, i.size)
  | some _, some i => some (false, i.size)
  | _, _ => none
/-- A slice type's element: number, cells, bytes. -/
def elT (P : Program) (t : TypeId) : Option (TypeId × Nat × Nat) :=
  match P.underlying t with
  | some (.slice e) => match P.info? e with
    | some i => some (e, i.size, i.bytes)
    | none => none
  | _ => none
/-- A struct type's field: where its cells begin, of many cells, how many. -/
def fldT (P : Program) (t : TypeId) (i : Nat) : Option (Nat × Bool × Nat) :=
  match P.underlying t with
  | some (.struct fs) => match fs[i]? with
    | some f => match tyI P f.type with
      | some (ag, n) => some (f.offset, ag, n)
      | none => none
    | none => none
  | _ => none
/-- An array type: how many, of how many cells each. -/
def arrT (P : Program) (t : TypeId) : Option (Nat × Nat) := match P.underlying t with
  | some (.array n e) => match P.info? e with
    | some i => some (n, i.size)
    | none => none
  | _ => none
def isStr (P : Program) (t : TypeId) : Bool := match P.underlying t with | some .string => true | _ => false
def intK (P : Program) (t : TypeId) : Option IntKind := match P.underlying t with | some (.int k) => some k | _ => none
def ofV1 : Value → Option D
  | .bool b => some (.bool b)
  | .int k n => some (.int k n)
  | .string s => some (.str s)
  | .pointer none => some .nilp
  | .slice none 0 0 => some (.sl 0 [])
  | .nilFunc => some .nilf
  | _ => none
def ofVs : List Value → Option (List D)
  | [] => some []
  | v :: vs => match ofV1 v, ofVs vs with
    | some d, some ds => some (d :: ds)
    | _, _ => none
def ofV : Value → Option D
  | .agg cs => (ofVs cs.toList).map .agg
  | .tuple cs => (ofVs cs.toList).map .tup
  | v => ofV1 v
def ofVsN : List Value → Option (List D)
  | [] => some []
  | .slice none 0 0 :: vs => match ofVsN vs with
    | some ds => some (.nils :: ds)
    | none => none
  | v :: vs => match ofV1 v, ofVsN vs with
    | some d, some ds => some (d :: ds)
    | _, _ => none
/-- The cells of a type's zero, nil slices told as such. -/
def zeroTN (P : Program) (t : TypeId) : Option (List D) :=
  match P.info? t with
  | some i => match i.zero with
    | some z => ofVsN z.cells.toList
    | none => none
  | none => none
/-- The cells of a type's zero. -/
def zeroT (P : Program) (t : TypeId) : Option (List D) :=
  match P.info? t with
  | some i => match i.zero with
    | some z => ofVs z.cells.toList
    | none => none
  | none => none
def cst (v : Value) : SV :=
  match v with
  | .slice none 0 0 => .nil
  | v => match ofV v with
    | some x => .d x
    | none => .junk
/-- A zero's cell. -/
def zS : D → SV
  | .sl 0 [] => .nil
  | x => .d x
def ev (f : Frm) : Operand → SV
  | .tmp t => f t
  | .const v => cst v
  | .func k => .d (.fn (.func k) [] [])
  | .global g => match gcells g with
    | some cs => .d (.ep cs)
    | none => .junk
def D.one : D → Bool
  | .agg _ | .tup _ => false
  | _ => true
def SV.cells : SV → Option (List SV)
  | .d (.agg cs) => some (cs.map .d)
  | .d (.tup _) => none
  | .junk => none
  | .trace _ _ _ => none
  | .stop => none
  | x => some [x]
def SV.toSA : SV → Option SA
  | .loc s off => some (.loc s off)
  | x => match x.toD with
    | some y => some (.d y)
    | none => none
def toSAs : List SV → Option (List SA)
  | [] => some []
  | x :: xs => match x.toSA, toSAs xs with
    | some d, some ds => some (d :: ds)
    | _, _ => none
def toDs : List SV → Option (List D)
  | [] => some []
  | x :: xs => match x.toD, toDs xs with
    | some d, some ds => some (d :: ds)
    | _, _ => none
def SV.toDN : SV → Option D
  | .nil => some .nils
  | x => x.toD
def toDsN : List SV → Option (List D)
  | [] => some []
  | x :: xs => match x.toDN, toDsN xs with
    | some d, some ds => some (d :: ds)
    | _, _ => none
/-- The bytes of a slice's cells. -/
def bytesS (n : Nat) (cs : List SV) : Option (List D) := if n ≤ cs.length then toDs (cs.take n) else none
/-- What is read from cells at which a variable of a type begins. -/
def rdD (ag : Bool) (n : Nat) (cs : List D) : Option D :=
  if ag then (if n ≤ cs.length then some (.agg (cs.take n)) else none) else cs.head?
def rdS (ag : Bool) (n : Nat) (cs : List SV) : Option SV :=
  if ag then (if n ≤ cs.length then match toDs (cs.take n) with
      | some l => some (.d (.agg l))
      | none => none
    else none)
  else cs.head?

structure Eff where
  res : SV
  rd : Option Nat
  wr : List (Nat × HO)
def Eff.val (x : SV) : Eff := ⟨x, none, []⟩
def app (H : Hp) : List (Nat × HO) → Hp
  | [] => H
  | (s, o) :: l => app (hup H s o) l

/-- Two integers of one kind under an operator. -/
def pInt (op : BinOp) (k : IntKind) (a b : Int) : Option D :=
  match op with
  | .add => some (.int k (k.wrap (a + b)))
  | .sub => some (.int k (k.wrap (a - b)))
  | .mul => some (.int k (k.wrap (a * b)))
  | .quo => if b = 0 then none else some (.int k (k.wrap (a.tdiv b)))
  | .rem => if b = 0 then none else some (.int k (a.tmod b))
  | .and => some (.int k (k.wrap (BitVec.ofInt k.bits a &&& BitVec.ofInt k.bits b).toNat))
  | .or => some (.int k (k.wrap (BitVec.ofInt k.bits a ||| BitVec.ofInt k.bits b).toNat))
  | .eql => some (.bool (a == b))
  | .neq => some (.bool (a != b))
  | .lss => some (.bool (decide (a < b)))
  | .leq => some (.bool (decide (a ≤ b)))
  | .gtr => some (.bool (decide (a > b)))
  | .geq => some (.bool (decide (a ≥ b)))
  | _ => none
/-- Can two texts be joined? -/
def fits (a b : ByteArray) : Bool := decide (a.size + b.size ≤ 9223372036854775807)
def pStr (op : BinOp) (a b : ByteArray) : Option D :=
  match op with
  | .add => if fits a b = true then some (.str (a ++ b)) else none
  | .eql => some (.bool (a.toList == b.toList))
  | .neq => some (.bool !(a.toList == b.toList))
  | .lss => some (.bool (Op.bytesLess a.toList b.toList))
  | .leq => some (.bool (Op.bytesLess a.toList b.toList || a.toList == b.toList))
  | .gtr => some (.bool !(Op.bytesLess a.toList b.toList || a.toList == b.toList))
  | .geq => some (.bool !(Op.bytesLess a.toList b.toList))
  | _ => none
/-- Values that == tells apart by what they are. -/
def pEq (x y : D) : Option Bool :=
  match x, y with
  | .nilp, .nilp => some true
  | .nilp, .ep _ => some false
  | .ep _, .nilp => some false
  | _, _ => none
def boolT (P : Program) (t : TypeId) : Bool := match P.underlying t with | some .bool => true | _ => false
def pBin (P : Program) (t : TypeId) (op : BinOp) (x y : D) : Option D :=
  match x, y with
  | .int k a, .int k' b =>
    match op with
    | .shl => if b < 0 then none else some (.int k (k.wrap (a * 2 ^ (min b.toNat k.bits))))
    | .shr => if b < 0 then none else some (.int k (a.fdiv (2 ^ (min b.toNat k.bits))))
    | op => if k = k' then pInt op k a b else none
  | .str a, .str b => pStr op a b
  | .bool a, .bool b => if boolT P t then
      match op with
      | .eql => some (.bool (a == b))
      | .neq => some (.bool !(a == b))
      | _ => none
    else none
  | _, _ => none
def pUn (op : UnOp) (x : D) : Option D :=
  match op, x with
  | .neg, .int k n => some (.int k (k.wrap (0 - n)))
  | .not, .bool b => some (.bool !b)
  | _, _ => none
/-- Where a struct's fields lie. -/
def placesT (P : Program) (t : TypeId) : Option (List (Nat × Nat)) :=
  match P.underlying t with
  | some (.struct fields) => fields.toList.mapM (fun f => (P.info? f.type).map fun i => (f.offset, i.size))
  | _ => none
def D.cells : D → Option (List D)
  | .agg cs => some cs
  | .tup _ => none
  | x => some [x]
def pfill (place : Nat → Option (Nat × Nat)) : List D → List (Nat × D) → Option (List D)
  | cs, [] => some cs
  | cs, (i, x) :: rest => match place i, x.cells with
    | some (off, size), some ys => if ys.length = size ∧ off + size ≤ cs.length then pfill place (cs.take off ++ ys ++ cs.drop (off + size)) rest else none
    | _, _ => none
def repD : Nat → List D → List D
  | 0, _ => []
  | n + 1, zs => zs ++ repD n zs
def partsD (f : Frm) : List (Nat × Operand) → Option (List (Nat × D))
  | [] => some []
  | (i, x) :: rest => match (ev f x).toD, partsD f rest with
    | some d, some ds => some ((i, d) :: ds)
    | _, _ => none
/-- A bound of a slice expression. -/
def bndD (f : Frm) (y dflt : Nat) : Option Operand → Option Nat
  | none => some dflt
  | some x => match ev f x with
    | .d (.int _ j) => if 0 ≤ j ∧ j ≤ y then some j.toNat else none
    | _ => none
def bytesD : List D → Option (List UInt8)
  | [] => some []
  | .int .u8 n :: cs => match bytesD cs with
    | some bs => some (UInt8.ofNat n.toNat :: bs)
    | none => none
  | _ => none
/-- The calls of built-ins that only yield. -/
def pBuilt (P : Program) (f : Frm) (H : Hp) (b : Builtin) (as : List Operand) (tys : List TypeId) : Option (SV × Option Nat) :=
  match b, as, tys with
  | .len, [x], [t] => match ev f x with
    | .bs _ _ n _ => match elT P t with
      | some _ => some (.d (.int .i64 n), none)
      | none => none
    | .vec r ver n => match elT P t with
      | some _ => some (.d (.int .i64 n), none)
      | none => none
    | y => match y.toD with
      | some (.str s) => if isStr P t then some (.d (.int .i64 s.size), none) else none
      | some (.sl n _) => match elT P t with
        | some _ => some (.d (.int .i64 n), none)
        | none => none
      | _ => none
  | .max, [x, y], _ => match ev f x, ev f y with
    | .d (.int k a), .d (.int _ b) => some (.d (.int k (if b > a then b else a)), none)
    | _, _ => none
  | .min, [x, y], _ => match ev f x, ev f y with
    | .d (.int k a), .d (.int _ b) => some (.d (.int k (if b < a then b else a)), none)
    | _, _ => none
  | _, _, _ => none
def opB (N : Nat) : Operand → Bool
  | .tmp t => decide (t < N)
  | _ => true
/-- The operations that call nothing. -/
def pstep (P : Program) (o : Oper) (f : Frm) (H : Hp) : Option Eff :=
  match o.op with
  | .move x | .assign x => some (.val (ev f x))
  | .pick c x y => match ev f c with
    | .d (.bool b) => some (.val (if b then ev f x else ev f y))
    | _ => none
  | .alloc t => match o.dst, zeroT P t with
    | some s, some zs => match H s with
      | .none => some ⟨.loc s 0, none, [(s, .box (zs.map zS))]⟩
      | _ => none
    | _, _ => none
  | .box _ x => match o.dst, (ev f x).cells with
    | some s, some cs => match H s with
      | .none => some ⟨.loc s 0, none, [(s, .box cs)]⟩
      | _ => none
    | _, _ => none
  | .load t x => match ev f x, tyI P t with
    | .loc s off, some (ag, n) => match H s with
      | .box cs => match rdS ag n (cs.drop off) with
        | some v => some ⟨v, some s, []⟩
        | none => none
      | _ => none
    | .vptr r ver off, some (ag, n) => match H r with
      | .vec _ _ ver' cs => if ver = ver' then match rdS ag n (cs.drop off) with
          | some v => some ⟨v, some r, []⟩
          | none => none
        else none
      | _ => none
    | .d (.ep cs), some (ag, n) => match rdD ag n cs with
      | some v => some (.val (.d v))
      | none => none
    | _, _ => none
  | .store t x y => match ev f x, tyI P t, (ev f y).cells with
    | .loc s off, some (_, n), some ys => match H s with
      | .box cs => if ys.length = n ∧ off + n ≤ cs.length then some ⟨.d (.tup []), some s, [(s, .box (cs.take off ++ ys ++ cs.drop (off + n)))]⟩ else none
      | _ => none
    | .vptr r ver off, some (_, n), some ys => match H r with
      | .vec e sz ver' cs => if ver = ver' ∧ ys.length = n ∧ off + n ≤ cs.length then some ⟨.d (.tup []), some r, [(r, .vec e sz ver' (cs.take off ++ ys ++ cs.drop (off + n)))]⟩ else none
      | _ => none
    | _, _, _ => none
  | .fieldAddr t x i => match ev f x, fldT P t i with
    | .loc s o, some (off, _, n) => if n = 0 then none else some (.val (.loc s (o + off)))
    | .vptr r ver o, some (off, _, n) => if n = 0 then none else some (.val (.vptr r ver (o + off)))
    | .d (.ep cs), some (off, _, n) => if n = 0 then none else some (.val (.d (.ep (cs.drop off))))
    | _, _ => none
  | .field t x i => match ev f x, fldT P t i with
    | .d (.agg cs), some (off, ag, n) => match rdD ag n (cs.drop off) with
      | some v => some (.val (.d v))
      | none => none
    | _, _ => none
  | .indexAddr t x i => match ev f x, elT P t, ev f i with
    | .bs s off n _, some (_, sz, _), .d (.int _ j) => if 0 ≤ j ∧ j < n then some (.val (.loc s (off + j.toNat * sz))) else none
    | .vec r ver n, some (_, sz, _), .d (.int _ j) => if 0 ≤ j ∧ j < n then some (.val (.vptr r ver (j.toNat * sz))) else none
    | y, some (_, sz, _), .d (.int _ j) => match y.toD with
      | some (.sl n cs) => if 0 ≤ j ∧ j < n then some (.val (.d (.ep (cs.drop (j.toNat * sz))))) else none
      | _ => none
    | _, _, _ => none
  | .index t x i => match ev f x, isStr P t, ev f i with
    | .d (.str s), true, .d (.int _ j) => if 0 ≤ j ∧ j.toNat < s.size then some (.val (.d (.int .u8 (s.data.toList.getD j.toNat 0).toNat))) else none
    | _, _, _ => none
  | .extract x i => match ev f x with
    | .d (.tup ds) => match ds[i]? with
      | some d => some (.val (.d d))
      | none => none
    | _ => none
  | .nilCheck x => match ev f x with
    | .loc s off => some (.val (.loc s off))
    | .d (.ep cs) => some (.val (.d (.ep cs)))
    | _ => none
  | .binOp op t x y _ => match ev f x, ev f y with
    | .d a, .d b => match pBin P t op a b with
      | some r => some (.val (.d r))
      | none => none
    | _, _ => none
  | .unOp op _ x => match ev f x with
    | .d a => match pUn op a with
      | some r => some (.val (.d r))
      | none => none
    | _ => none
  | .convert s t x => match ev f x with
    | .bs r off n _ => match elT P s, isStr P t, H r with
      | some (e, _, _), true, .box cs => match intK P e, bytesS n (cs.drop off) with
        | some .u8, some ds => match bytesD ds with
          | some bs => some ⟨.d (.str ⟨bs.toArray⟩), some r, []⟩
          | none => none
        | _, _ => none
      | _, _, _ => none
    | .vec r ver n => match elT P s, isStr P t, H r with
      | some (e, _, _), true, .vec _ sz ver' cs => if ver = ver' ∧ sz = 1 then match intK P e, toDs cs with
          | some .u8, some ds => match bytesD ds with
            | some bs => some ⟨.d (.str ⟨bs.toArray⟩), some r, []⟩
            | none => none
          | _, _ => none
        else none
      | _, _, _ => none
    | y => match y.toD, tyI P s, intK P t with
      | some (.int _ n), some _, some k => some (.val (.d (.int k (k.wrap n))))
      | some (.sl n cs), _, _ => match elT P s, isStr P t with
        | some (e, _, _), true => match intK P e with
          | some .u8 => if cs.length = n then match bytesD cs with
              | some bs => some (.val (.d (.str ⟨bs.toArray⟩)))
              | none => none
            else none
          | _ => none
        | _, _ => none
      | _, _, _ => none
  | .build t parts => match zeroT P t, placesT P t, partsD f parts.toList with
    | some zs, some pl, some ps => match pfill (fun i => pl[i]?) zs ps with
      | some cs => some (.val (.d (.agg cs)))
      | none => none
    | _, _, _ => none
  | .buildSlice t len parts => match elT P t, partsD f parts.toList with
    | some (e, sz, _), some ps => match zeroT P e with
      | some zs => if zs.length = sz ∧ len * sz ≤ 16777216 ∧ len * sz ≠ 0 then
          match pfill (fun i => some (i * sz, sz)) (repD len zs) ps with
          | some cs => some (.val (.d (.sl len cs)))
          | none => none
        else none
      | none => none
    | _, _ => none
  | .slice t x lo hi none => match (ev f x).toD with
    | some (.str s) => match isStr P t, bndD f s.size s.size hi with
      | true, some h => match bndD f h 0 lo with
        | some l => some (.val (.d (.str (s.extract l h))))
        | none => none
      | _, _ => none
    | some (.sl n cs) => match elT P t, bndD f n n hi with
      | some (_, sz, _), some h => match bndD f h 0 lo with
        | some l => some (.val (.d (.sl (h - l) ((cs.take (h * sz)).drop (l * sz)))))
        | none => none
      | _, _ => none
    | some (.ep cs) => match arrT P t, lo, hi with
      | some (n, _), none, none => some (.val (.d (.sl n cs)))
      | _, _, _ => none
    | _ => none
  | .call { callee := .builtin b, args := as, argTypes := tys } => match pBuilt P f H b as.toList tys.toList with
    | some (v, rd) => some ⟨v, rd, []⟩
    | none => none
  | .makeFunc fn first cap => match toDs (first.toList.map (ev f)), toDs (cap.toList.map (ev f)) with
    | some a, some b => some (.val (.d (.fn fn a b)))
    | _, _ => match toSAs (first.toList.map (ev f)), toSAs (cap.toList.map (ev f)) with
      | some a, some b => some (.val (.clo fn a b))
      | _, _ => none
  | _ => none
end Go.Proofs.YtefiebkngpcaoaaDoor
namespace Go.Proofs.YtefiebkngpcaoaaDoor
open Go.RowKit
section
variable {P : Program} {N : Nat} {M0 : MM} {w0 : Ctx} {w : World} {f : Frm} {H : Hp} {mu : Nat → Option Nat} {a : Act}

theorem ofV1_sound {M : Addr → Prop} {v : Value} {d : D} (h : ofV1 v = some d) : Rep M w v d := by
  unfold ofV1 at h
  split at h <;> first | (cases h; done) | skip
  · cases h; exact .bool _
  · cases h; exact .int _ _
  · cases h; exact .str _
  · cases h; exact .nilp
  · cases h; exact .sl none 0 0 [] [] (Nat.le_refl _) (fun _ => ⟨rfl, rfl, rfl⟩) (fun a e => by cases e) .nil
  · cases h; exact .nilf
theorem ofV1_one {v : Value} {d : D} (h : ofV1 v = some d) : v.oneCell' = true := by
  unfold ofV1 at h
  split at h <;> first | (cases h; done) | rfl
theorem ofVs_sound {M : Addr → Prop} : ∀ {vs : List Value} {ds : List D}, ofVs vs = some ds → RepL M w vs ds ∧ ∀ v ∈ vs, v.oneCell' = true
  | [], ds, h => by simp [ofVs] at h; subst h; exact ⟨.nil, by simp⟩
  | v :: vs, ds, h => by
    unfold ofVs at h
    split at h
    · rename_i d ds' h1 h2
      cases h
      obtain ⟨k1, k2⟩ := ofVs_sound (M := M) h2
      refine ⟨.cons _ _ _ _ (ofV1_sound h1) k1, fun x hx => ?_⟩
      rcases List.mem_cons.1 hx with rfl | hx
      · exact ofV1_one h1
      · exact k2 x hx
    · cases h
theorem ofV_sound {M : Addr → Prop} {v : Value} {d : D} (h : ofV v = some d) : Rep M w v d := by
  unfold ofV at h
  split at h
  · rename_i cs
    cases hc : ofVs cs.toList with
    | none => rw [hc] at h; cases h
    | some ds =>
      rw [hc] at h; cases h
      obtain ⟨k1, k2⟩ := ofVs_sound (w := w) (M := M) hc
      exact .agg _ _ k1 k2
  · rename_i cs
    cases hc : ofVs cs.toList with
    | none => rw [hc] at h; cases h
    | some ds =>
      rw [hc] at h; cases h
      exact .tup _ _ (ofVs_sound (w := w) (M := M) hc).1
  · exact ofV1_sound h
theorem ev_sound (h : StM N M0 w0 f H mu a w) {x : Operand} (hx : opB N x = true) : SRep M0 H mu w (a.eval x) (ev f x) := by
  cases x with
  | tmp t => exact h.slots t (by simpa [opB] using hx)
  | const v =>
    simp only [ev, Act.eval, cst]
    split
    · rfl
    · split
      · rename_i d hv
        exact ofV_sound hv
      · exact trivial
  | func k => exact Rep.fn _ _ _ _ _ .nil .nil
  | global g =>
    simp only [ev, Act.eval]
    split
    · rename_i cs hg
      exact h.gl g cs hg
    · exact trivial
theorem Rep.one {M : Addr → Prop} {v : Value} {d : D} (h : Rep M w v d) (hd : d.one = true) : v.oneCell' = true := by
  cases h <;> first | rfl | (simp [D.one] at hd)
theorem SRep.d_agg {v : Value} {ds : List D} (h : SRep M0 H mu w v (.d (.agg ds))) : ∃ vs : Array Value, v = .agg vs ∧ RepL (Mut M0 H mu) w vs.toList ds ∧ ∀ u ∈ vs.toList, u.oneCell' = true := by
  cases (show Rep (Mut M0 H mu) w v (.agg ds) from h) with
  | agg vs ds h h1 => exact ⟨vs, rfl, h, h1⟩
theorem cells_of_one {v : Value} (h : v.oneCell' = true) : v.cells = #[v] := by
  cases v <;> first | rfl | (simp [Value.oneCell'] at h)
/-- The cells of a value. -/
theorem SRep.cells {v : Value} {x : SV} {ys : List SV} (h : SRep M0 H mu w v x) (hc : x.cells = some ys) :
    v.cells.size = ys.length ∧ (∀ j y, ys[j]? = some y → SRep M0 H mu w (v.cells.getD j undef) y ∧ (v.cells.getD j undef).oneCell' = true) ∧ ∀ u ∈ v.cells.toList, u.oneCell' = true := by
  have single : v.oneCell' = true → v.cells = #[v] → ys = [x] → v.cells.size = ys.length ∧ (∀ j y, ys[j]? = some y → SRep M0 H mu w (v.cells.getD j undef) y ∧ (v.cells.getD j undef).oneCell' = true) ∧ ∀ u ∈ v.cells.toList, u.oneCell' = true := by
    intro h1 h2 h3
    subst h3
    rw [h2]
    refine ⟨rfl, fun j y hj => ?_, fun u hu => by simp at hu; subst hu; exact h1⟩
    cases j with
    | zero => simp at hj; subst hj; exact ⟨h, h1⟩
    | succ j => simp at hj
  cases x with
  | d x =>
    cases x with
    | agg ds =>
      obtain ⟨vs, rfl, h1, h2⟩ := SRep.d_agg h
      simp only [SV.cells, Option.some.injEq] at hc
      subst hc
      have hl := h1.length
      refine ⟨by simpa [Value.cells] using hl, fun j y hj => ?_, h2⟩
      simp only [List.getElem?_map, Option.map_eq_some_iff] at hj
      obtain ⟨d, hd, rfl⟩ := hj
      obtain ⟨u, hu, hr⟩ := h1.get hd
      have : (Value.agg vs).cells.getD j undef = u := by
        simp only [Value.cells]
        simp at hu
        simp [hu]
      rw [this]
      exact ⟨hr, h2 u (List.mem_of_getElem? hu)⟩
    | tup ds => simp [SV.cells] at hc
    | bool b => cases (show Rep (Mut M0 H mu) w v _ from h); exact single rfl rfl (by simpa [SV.cells] using hc.symm)
    | int b => cases (show Rep (Mut M0 H mu) w v _ from h); exact single rfl rfl (by simpa [SV.cells] using hc.symm)
    | str b => cases (show Rep (Mut M0 H mu) w v _ from h); exact single rfl rfl (by simpa [SV.cells] using hc.symm)
    | nilp => cases (show Rep (Mut M0 H mu) w v _ from h); exact single rfl rfl (by simpa [SV.cells] using hc.symm)
    | nils => cases (show Rep (Mut M0 H mu) w v _ from h); exact single rfl rfl (by simpa [SV.cells] using hc.symm)
    | ep b => cases (show Rep (Mut M0 H mu) w v _ from h); exact single rfl rfl (by simpa [SV.cells] using hc.symm)
    | sl b => cases (show Rep (Mut M0 H mu) w v _ from h); exact single rfl rfl (by simpa [SV.cells] using hc.symm)
    | fn b => cases (show Rep (Mut M0 H mu) w v _ from h); exact single rfl rfl (by simpa [SV.cells] using hc.symm)
    | nilf => cases (show Rep (Mut M0 H mu) w v _ from h); exact single rfl rfl (by simpa [SV.cells] using hc.symm)
  | loc s off =>
    obtain ⟨cs, b, h1, h2, rfl⟩ := (show ∃ cs b, H s = .box cs ∧ mu s = some b ∧ v = .pointer (some ⟨b, off, none⟩) from h)
    exact single rfl rfl (by simpa [SV.cells] using hc.symm)
  | own r n cs =>
    have h0 : Rep (Mut M0 H mu) w v (.sl n cs) := h.1
    cases h0
    exact single rfl rfl (by simpa [SV.cells] using hc.symm)
  | nil =>
    have h0 : v = .slice none 0 0 := h
    subst h0
    exact single rfl rfl (by simpa [SV.cells] using hc.symm)
  | bs s off n cap =>
    obtain ⟨cs, b, h1, h2, rfl, h5⟩ := h
    exact single rfl rfl (by simpa [SV.cells] using hc.symm)
  | clo g first cap =>
    obtain ⟨vs, us, rfl, h2, h3⟩ := h
    exact single rfl rfl (by simpa [SV.cells] using hc.symm)
  | vec r ver n =>
    obtain ⟨⟨p, cap, rfl, -⟩, -⟩ := h
    exact single rfl rfl (by simpa [SV.cells] using hc.symm)
  | vptr r ver off =>
    obtain ⟨⟨x, rfl⟩, -⟩ := h
    exact single rfl rfl (by simpa [SV.cells] using hc.symm)
  | yld l =>
    have h0 : v = .func (.yield l) #[] #[] := h
    subst h0
    exact single rfl rfl (by simpa [SV.cells] using hc.symm)
  | trace l pre rest => simp [SV.cells] at hc
  | stop => simp [SV.cells] at hc
  | junk => simp [SV.cells] at hc
theorem toSA_sound {v : Value} {x : SV} {y : SA} (h : SRep M0 H mu w v x) (hd : x.toSA = some y) : SARep M0 H mu w v y := by
  have other : ∀ {z : SV}, SRep M0 H mu w v z → (match z.toD with | some y => some (SA.d y) | none => none) = some y → SARep M0 H mu w v y := by
    intro z hz he
    cases hq : z.toD with
    | none => rw [hq] at he; cases he
    | some d => rw [hq] at he; cases he; exact SRep.toD hz hq
  cases x with
  | loc s off => simp [SV.toSA] at hd; subst hd; exact h
  | _ => exact other h hd
theorem toSAs_sound : ∀ {xs : List SV} {ds : List SA} {vs : List Value}, toSAs xs = some ds → vs.length = xs.length → (∀ (j : Nat) (v : Value) (x : SV), vs[j]? = some v → xs[j]? = some x → SRep M0 H mu w v x) → SAL M0 H mu w vs ds
  | [], ds, vs, h, hl, _ => by
    simp [toSAs] at h
    subst h
    exact ⟨by simpa using hl, fun j v x h1 h2 => by simp at h2⟩
  | x :: xs, ds, vs, h, hl, hr => by
    unfold toSAs at h
    split at h
    · rename_i d ds' h1 h2
      cases h
      cases vs with
      | nil => simp at hl
      | cons v vs =>
        have ih := toSAs_sound h2 (by simpa using hl) fun j v x h3 h4 => hr (j + 1) v x (by simpa using h3) (by simpa using h4)
        refine ⟨by simp [ih.1], fun j u y h3 h4 => ?_⟩
        cases j with
        | zero => simp at h3 h4; subst h3 h4; exact toSA_sound (hr 0 _ _ rfl rfl) h1
        | succ j => exact ih.2 j u y (by simpa using h3) (by simpa using h4)
    · cases h
theorem toDs_sound : ∀ {xs : List SV} {ds : List D} {vs : List Value}, toDs xs = some ds → vs.length = xs.length → (∀ (j : Nat) (v : Value) (x : SV), vs[j]? = some v → xs[j]? = some x → SRep M0 H mu w v x) → RepL (Mut M0 H mu) w vs ds
  | [], ds, vs, h, hl, _ => by
    simp [toDs] at h
    subst h
    cases vs with
    | nil => exact .nil
    | cons v vs => simp at hl
  | x :: xs, ds, vs, h, hl, hr => by
    unfold toDs at h
    split at h
    · rename_i d ds' h1 h2
      cases h
      cases vs with
      | nil => simp at hl
      | cons v vs =>
        exact .cons _ _ _ _ (SRep.toD (hr 0 v x rfl rfl) h1) (toDs_sound h2 (by simpa using hl) fun j v x h3 h4 => hr (j + 1) v x (by simpa using h3) (by simpa using h4))
    · cases h

theorem SRep.toDN {v : Value} {x : SV} {y : D} (h : SRep M0 H mu w v x) (hd : x.toDN = some y) : Rep (Mut M0 H mu) w v y := by
  cases x with
  | nil =>
    simp [SV.toDN] at hd
    subst hd
    rw [show v = .slice none 0 0 from h]
    exact .nils
  | _ => exact SRep.toD h hd
theorem toDsN_sound : ∀ {xs : List SV} {ds : List D} {vs : List Value}, toDsN xs = some ds → vs.length = xs.length → (∀ (j : Nat) (v : Value) (x : SV), vs[j]? = some v → xs[j]? = some x → SRep M0 H mu w v x) → RepL (Mut M0 H mu) w vs ds
  | [], ds, vs, h, hl, _ => by
    simp [toDsN] at h
    subst h
    cases vs with
    | nil => exact .nil
    | cons v vs => simp at hl
  | x :: xs, ds, vs, h, hl, hr => by
    unfold toDsN at h
    split at h
    · rename_i d ds' h1 h2
      cases h
      cases vs with
      | nil => simp at hl
      | cons v vs =>
        exact .cons _ _ _ _ (SRep.toDN (hr 0 v x rfl rfl) h1) (toDsN_sound h2 (by simpa using hl) fun j v x h3 h4 => hr (j + 1) v x (by simpa using h3) (by simpa using h4))
    · cases h
/-- What a step comes to. -/
def Goes (P : Program) (N : Nat) (M0 : MM) (w0 : Ctx) (o : Oper) (f : Frm) (H : Hp) (e : Eff) (a : Act) (w : World) : Prop :=
  ∃ v w' mu', ((execOp a.eval o).run P w = .ok (.value v) w' ∨ ((execOp a.eval o).run P w = .ok .skip w' ∧ v = undef)) ∧ StM N M0 w0 (updo f o.dst e.res) (app H e.wr) mu' (a.put o.dst v) w'
theorem goes_val (h : StM N M0 w0 f H mu a w) {o : Oper} (hd : ∀ d, o.dst = some d → d < N ∧ w0.fix d = false) {x : SV} {rd : Option Nat} {v : Value} (hr : (execOp a.eval o).run P w = .ok (.value v) w) (hx : SRep M0 H mu w v x) :
    Goes P N M0 w0 o f H ⟨x, rd, []⟩ a w :=
  ⟨v, w, mu, .inl hr, h.put hd hx⟩

theorem tyI_spec {t : TypeId} {ag : Bool} {n : Nat} (h : tyI P t = some (ag, n)) : (∀ w, (isAgg t).run P w = .ok ag w) ∧ ∀ w, (sizeOf t).run P w = .ok n w := by
  unfold tyI at h
  cases hu : P.underlying t with
  | none => rw [hu] at h; cases h
  | some d =>
    cases hi : P.info? t with
    | none => rw [hu, hi] at h; cases d <;> cases h
    | some i =>
      rw [hu, hi] at h
      have h2 : ∀ w, (sizeOf t).run P w = .ok i.size w := fun w => by simp [sizeOf, typeInfo, hi]
      have h1 : ∀ w, (isAgg t).run P w = .ok (match d with | .struct _ | .array _ _ => true | _ => false) w := fun w => by
        unfold isAgg
        rw [Sem.run_bind, run_underlying hu w]
        cases d <;> rfl
      cases d <;> simp only [Option.some.injEq, Prod.mk.injEq] at h <;> (obtain ⟨rfl, rfl⟩ := h; exact ⟨h1, h2⟩)
end
end Go.Proofs.YtefiebkngpcaoaaDoor
namespace Go.Proofs.YtefiebkngpcaoaaDoor
open Go.RowKit
section
variable {P : Program} {N : Nat} {M0 : MM} {w0 : Ctx} {w : World} {f : Frm} {H : Hp} {mu : Nat → Option Nat} {a : Act}

theorem run_loadAt_agg {t : TypeId} {n : Nat} (h1 : (isAgg t).run P w = .ok true w) (h2 : (sizeOf t).run P w = .ok n w) {x : Addr} {us : List Value} (hn : us.length = n) (hu : ∀ j u, us[j]? = some u → w.cell? (x.add j) = some u) :
    (Instr.loadAt t (.pointer (some x))).run P w = .ok (.agg us.toArray) w := by
  have hl := run_loadCells_list (P := P) w x us hu
  rw [hn] at hl
  simp [Instr.loadAt, Instr.sureAddr, loadVar, Sem.run_bind, h1, h2, hl]
theorem run_loadAt_one {t : TypeId} (h1 : (isAgg t).run P w = .ok false w) {x : Addr} {u : Value} (hu : w.cell? x = some u) :
    (Instr.loadAt t (.pointer (some x))).run P w = .ok u w := by
  simp [Instr.loadAt, Instr.sureAddr, loadVar, Sem.run_bind, h1, load, Sem.run, hu]
theorem Addr.add_zero (x : Addr) : x.add 0 = x := by simp [Addr.add]
/-- A load from data. -/
theorem rdD_sound {M : Addr → Prop} {t : TypeId} {ag : Bool} {n : Nat} (ht : tyI P t = some (ag, n)) {x : Addr} {us : List Value} {cs : List D} (hc : Cells M w x us) (hr : RepL M w us cs) {r : D} (h : rdD ag n cs = some r) :
    ∃ v, (Instr.loadAt t (.pointer (some x))).run P w = .ok v w ∧ Rep M w v r := by
  obtain ⟨h1, h2⟩ := tyI_spec ht
  cases ag with
  | true =>
    simp only [rdD, if_true] at h
    split at h
    · rename_i hn
      cases h
      refine ⟨_, run_loadAt_agg (us := us.take n) (h1 w) (h2 w) (by rw [List.length_take, hr.length]; omega) (fun j u hj => ((hc.take n).2 j u hj).1), ?_⟩
      exact .agg _ _ (by simpa using hr.take n) (fun v hv => by
        simp only [List.mem_iff_getElem?] at hv
        obtain ⟨j, hj⟩ := hv
        exact ((hc.take n).2 j v (by simpa using hj)).2.2)
    · cases h
  | false =>
    simp only [rdD, Bool.false_eq_true, if_false] at h
    cases cs with
    | nil => cases h
    | cons c cs =>
      simp at h
      subst h
      obtain ⟨v, hv, hrv⟩ := hr.get (j := 0) rfl
      have := (hc.2 0 v hv).1
      rw [Addr.add_zero] at this
      exact ⟨v, run_loadAt_one (h1 w) this, hrv⟩
/-- A load from a name's cells. -/
theorem rdS_sound {t : TypeId} {ag : Bool} {n : Nat} (ht : tyI P t = some (ag, n)) {x : Addr} {us : List Value} {cs : List SV} (hl : us.length = cs.length) (hc : ∀ j u, us[j]? = some u → w.cell? (x.add j) = some u ∧ u.oneCell' = true)
    (hr : ∀ (j : Nat) (u : Value) (y : SV), us[j]? = some u → cs[j]? = some y → SRep M0 H mu w u y) {r : SV} (h : rdS ag n cs = some r) :
    ∃ v, (Instr.loadAt t (.pointer (some x))).run P w = .ok v w ∧ SRep M0 H mu w v r := by
  obtain ⟨h1, h2⟩ := tyI_spec ht
  cases ag with
  | true =>
    simp only [rdS, if_true] at h
    split at h
    · rename_i hn
      split at h
      · rename_i ds hds
        cases h
        refine ⟨_, run_loadAt_agg (us := us.take n) (h1 w) (h2 w) (by rw [List.length_take, hl]; omega) (fun j u hj => (hc j u (by rw [List.getElem?_take] at hj; split at hj; exact hj; cases hj)).1), ?_⟩
        refine Rep.agg _ _ ?_ (fun v hv => by
          simp only [List.mem_iff_getElem?] at hv
          obtain ⟨j, hj⟩ := hv
          rw [List.getElem?_take] at hj
          split at hj
          · exact (hc j v (by simpa using hj)).2
          · cases hj)
        refine toDs_sound hds (by simp [hl]) fun j v y h3 h4 => ?_
        simp only [List.getElem?_take] at h3 h4
        split at h3
        · rename_i hj
          rw [if_pos hj] at h4
          exact hr j v y h3 h4
        · cases h3
      · cases h
    · cases h
  | false =>
    simp only [rdS, Bool.false_eq_true, if_false] at h
    cases cs with
    | nil => cases h
    | cons c cs =>
      simp at h
      subst h
      cases us with
      | nil => simp at hl
      | cons u us =>
        have := (hc 0 u rfl).1
        rw [Addr.add_zero] at this
        exact ⟨u, run_loadAt_one (h1 w) this, hr 0 u c rfl rfl⟩

/-- The cells of a name, from an offset on. -/
theorem StM.boxCells (h : StM N M0 w0 f H mu a w) {s : Nat} {cs : List SV} (hs : H s = .box cs) : ∃ b arr e, mu s = some b ∧ w.heap[b]? = some (.cells arr e (0, 0)) ∧ arr.size = cs.length ∧
    (∀ j x, cs[j]? = some x → SRep M0 H mu w (arr.getD j undef) x ∧ (arr.getD j undef).oneCell' = true) ∧
    ∀ off, (∀ (j : Nat) (u : Value), (arr.toList.drop off)[j]? = some u → w.cell? ((⟨b, off, none⟩ : Addr).add j) = some u ∧ u.oneCell' = true) ∧
      (∀ (j : Nat) (u : Value) (y : SV), (arr.toList.drop off)[j]? = some u → (cs.drop off)[j]? = some y → SRep M0 H mu w u y) := by
  obtain ⟨b, arr, e, h1, h2, h3, h4, h5⟩ := h.box s cs hs
  refine ⟨b, arr, e, h1, h3, h4, h5, fun off => ⟨fun j u hj => ?_, fun j u y hj hy => ?_⟩⟩
  · simp only [List.getElem?_drop, Array.getElem?_toList] at hj
    rw [Addr.add_mid, cell_of_row w b (off + j) arr e _ h3]
    refine ⟨hj, ?_⟩
    have hlt : off + j < cs.length := by rw [← h4]; exact (Array.getElem?_eq_some_iff.1 hj).1
    have := (h5 (off + j) _ (List.getElem?_eq_getElem hlt)).2
    simpa [hj] using this
  · simp only [List.getElem?_drop, Array.getElem?_toList] at hj hy
    have := (h5 (off + j) y hy).1
    simpa [hj] using this

/-- The cells of a name that are written here and there, from an offset on. -/
theorem StM.vecCells (h : StM N M0 w0 f H mu a w) {r : Nat} {e : TypeId} {sz ver : Nat} {cs : List SV} (hs : H r = .vec e sz ver cs) {g : Nat} (hm : mu r = some g) : ∃ cur, w.heap[g]? = some (.cells cur e (0, 0)) ∧ cs.length ≤ cur.size ∧ (∀ u ∈ cur.toList, u.oneCell' = true) ∧
    (∀ j x, cs[j]? = some x → SRep M0 H mu w (cur.getD j undef) x) ∧
    ∀ off, ((cur.toList.take cs.length).drop off).length = (cs.drop off).length ∧ (∀ (j : Nat) (u : Value), ((cur.toList.take cs.length).drop off)[j]? = some u → w.cell? ((⟨g, off, none⟩ : Addr).add j) = some u ∧ u.oneCell' = true) ∧
      (∀ (j : Nat) (u : Value) (y : SV), ((cur.toList.take cs.length).drop off)[j]? = some u → (cs.drop off)[j]? = some y → SRep M0 H mu w u y) := by
  rcases h.vec r e sz ver cs hs with ⟨k1, -⟩ | ⟨g', cur, k1, k2, k3, k4, k5, k6⟩
  · rw [hm] at k1; cases k1
  · rw [hm] at k1
    cases k1
    refine ⟨cur, k3, k4, k5, k6, fun off => ⟨by simp; omega, fun j u hj => ?_, fun j u y hj hy => ?_⟩⟩
    · simp only [List.getElem?_drop, List.getElem?_take] at hj
      split at hj
      · rw [Array.getElem?_toList] at hj
        rw [Addr.add_mid, cell_of_row w g (off + j) cur e _ k3]
        exact ⟨hj, k5 u (List.mem_of_getElem? (i := off + j) (by simpa using hj))⟩
      · cases hj
    · simp only [List.getElem?_drop, List.getElem?_take] at hj hy
      split at hj
      · rw [Array.getElem?_toList] at hj
        have := k6 (off + j) y hy
        simpa [hj] using this
      · cases hj
theorem goes_load (h : StM N M0 w0 f H mu a w) {o : Oper} (hd : ∀ d, o.dst = some d → d < N ∧ w0.fix d = false) {t : TypeId} {x : Operand} (ho : o.op = .load t x) (hx : opB N x = true) {e : Eff} (he : pstep P o f H = some e) :
    Goes P N M0 w0 o f H e a w := by
  have hv := ev_sound h hx
  simp only [pstep, ho] at he
  split at he
  · rename_i s off ag n hs ht
    rw [hs] at hv
    obtain ⟨cs0, b, g1, g2, g3⟩ := hv
    split at he
    · rename_i cs hcs
      split at he
      · rename_i v hrd
        cases he
        obtain ⟨b', arr, et, k1, k2, k3, k4, k5⟩ := h.boxCells hcs
        rw [g2] at k1
        cases k1
        obtain ⟨u, hu1, hu2⟩ := rdS_sound (x := ⟨b, off, none⟩) (us := arr.toList.drop off) ht (by simp [k3]) (k5 off).1 (k5 off).2 hrd
        exact goes_val h hd (by simp [execOp, ho, g3, hu1]) hu2
      · cases he
    · cases he
  · rename_i r ver off ag n hs ht
    rw [hs] at hv
    obtain ⟨hv0, e0, sz0, ver1, cs0, g1, g2, g3⟩ := hv
    split at he
    · rename_i e1 sz1 ver2 cs hcs
      split at he
      · rename_i hvv
        split at he
        · rename_i v hrd
          cases he
          rw [hcs] at g1
          cases g1
          obtain ⟨g, g4, g5⟩ := g3 hvv
          obtain ⟨cur, k1, k2, k3, k4, k5⟩ := h.vecCells hcs g4
          obtain ⟨q1, q2, q3⟩ := k5 off
          obtain ⟨u, hu1, hu2⟩ := rdS_sound (x := ⟨g, off, none⟩) (us := (cur.toList.take cs0.length).drop off) ht q1 q2 q3 hrd
          exact goes_val h hd (by simp [execOp, ho, g5, hu1]) hu2
        · cases he
      · cases he
    · cases he
  · rename_i cs ag n hs ht
    rw [hs] at hv
    split at he
    · rename_i v hrd
      cases he
      cases hpv : a.eval x with
      | pointer p =>
        rw [hpv] at hv
        cases (show Rep (Mut M0 H mu) w (.pointer p) (.ep cs) from hv) with
        | ep ad us cs hc hr =>
          obtain ⟨u, hu1, hu2⟩ := rdD_sound ht hc hr hrd
          exact goes_val h hd (by simp [execOp, ho, hpv, hu1]) hu2
      | _ => rw [hpv] at hv; cases (show Rep (Mut M0 H mu) w _ (.ep cs) from hv)
    · cases he
  · cases he
end
end Go.Proofs.YtefiebkngpcaoaaDoor
namespace Go.Proofs.YtefiebkngpcaoaaDoor
open Go.RowKit
section
variable {P : Program} {N : Nat} {M0 : MM} {w0 : Ctx} {w : World} {f : Frm} {H : Hp} {mu : Nat → Option Nat} {a : Act}

/-- A new block of these cells, under a new name. -/
theorem StM.newBox (h : StM N M0 w0 f H mu a w) {s : Nat} (hs : H s = .none) (hsT : s < TR) {v : Value} {ys : List SV} (e : TypeId) (hl : v.cells.size = ys.length)
    (hc : ∀ j y, ys[j]? = some y → SRep M0 H mu w (v.cells.getD j undef) y ∧ (v.cells.getD j undef).oneCell' = true) :
    StM N M0 w0 f (hup H s (.box ys)) (fun t => if t = s then some w.heap.size else mu t) a (w.alloc (.cells v.cells e)) := by
  have hx : Below w.heap.size w (w.alloc (.cells v.cells e)) := (Below.refl _ _).alloc (Nat.le_refl _) _
  refine h.new hs hsT (.box ys) (some w.heap.size) (fun x e => by cases e; exact ⟨Nat.le_refl _, by simp⟩) hx ?_
  intro cs hcs
  cases hcs
  refine ⟨w.heap.size, v.cells, e, rfl, heap_alloc_new w _, hl, fun j x hj => ⟨?_, (hc j x hj).2⟩⟩
  exact (hc j x hj).1.turn (Turn.new h hs (.box ys) (some w.heap.size) (fun x e => by cases e; exact Nat.le_refl _) hx)
theorem goes_newBox (h : StM N M0 w0 f H mu a w) {o : Oper} (hd : ∀ d, o.dst = some d → d < N ∧ w0.fix d = false) {s : Nat} (hs : H s = .none) (hso : o.dst = some s) {v : Value} {ys : List SV} (e : TypeId) (hl : v.cells.size = ys.length)
    (hc : ∀ j y, ys[j]? = some y → SRep M0 H mu w (v.cells.getD j undef) y ∧ (v.cells.getD j undef).oneCell' = true) {rd : Option Nat}
    (hrun : (execOp a.eval o).run P w = .ok (.value (.pointer (some ⟨w.heap.size, 0, none⟩))) (w.alloc (.cells v.cells e))) :
    Goes P N M0 w0 o f H ⟨.loc s 0, rd, [(s, .box ys)]⟩ a w := by
  have h' := h.newBox hs (Nat.lt_of_lt_of_le (hd s hso).1 h.nle) e hl hc
  exact ⟨_, _, _, .inl hrun, h'.put hd ⟨ys, w.heap.size, by simp [hup], by simp, rfl⟩⟩
theorem ofVs_nil : ∀ {vs : List Value} {ds : List D}, ofVs vs = some ds → ∀ {j : Nat} {v : Value}, vs[j]? = some v → ds[j]? = some (.sl 0 []) → v = .slice none 0 0
  | [], ds, h, j, v, hv, hd => by simp at hv
  | u :: vs, ds, h, j, v, hv, hd => by
    unfold ofVs at h
    split at h
    · rename_i d ds' h1 h2
      cases h
      cases j with
      | zero =>
        simp at hv hd
        subst hv hd
        unfold ofV1 at h1
        split at h1 <;> first | rfl | (simp at h1)
      | succ j => exact ofVs_nil h2 (by simpa using hv) (by simpa using hd)
    · cases h
theorem goes_alloc (h : StM N M0 w0 f H mu a w) {o : Oper} (hd : ∀ d, o.dst = some d → d < N ∧ w0.fix d = false) {t : TypeId} (ho : o.op = .alloc t) {e : Eff} (he : pstep P o f H = some e) :
    Goes P N M0 w0 o f H e a w := by
  simp only [pstep, ho] at he
  split at he
  · rename_i s zs hs hz
    split at he
    · rename_i hn
      cases he
      unfold zeroT at hz
      split at hz
      · rename_i i hi
        split at hz
        · rename_i z hzz
          obtain ⟨g1, g2⟩ := ofVs_sound (w := w) (M := Mut M0 H mu) hz
          refine goes_newBox h hd hn hs (v := z) t (by simpa using g1.length) ?_ (by simp [execOp, ho, Instr.alloc, zeroValue, typeInfo, hi, hzz, newVar, newRow])
          intro j y hj
          simp only [List.getElem?_map, Option.map_eq_some_iff] at hj
          obtain ⟨d, hd, rfl⟩ := hj
          obtain ⟨u, hu, hr⟩ := g1.get hd
          have : z.cells.getD j undef = u := by simp at hu; simp [hu]
          rw [this]
          refine ⟨?_, g2 u (List.mem_of_getElem? hu)⟩
          unfold zS
          split
          · exact ofVs_nil hz hu hd
          · exact hr
        · cases hz
      · cases hz
    · cases he
  · cases he
theorem goes_box (h : StM N M0 w0 f H mu a w) {o : Oper} (hd : ∀ d, o.dst = some d → d < N ∧ w0.fix d = false) {t : TypeId} {x : Operand} (ho : o.op = .box t x) (hx : opB N x = true) {e : Eff} (he : pstep P o f H = some e) :
    Goes P N M0 w0 o f H e a w := by
  have hv := ev_sound h hx
  simp only [pstep, ho] at he
  split at he
  · rename_i s cs hs hc
    split at he
    · rename_i hn
      cases he
      obtain ⟨g1, g2, g3⟩ := hv.cells hc
      exact goes_newBox h hd hn hs (v := a.eval x) t g1 g2 (by simp [execOp, ho, Instr.box, newVar, newRow])
    · cases he
  · cases he
/-- A variable that nobody writes any more: a pointer to unchanging cells. -/
theorem goes_ice (h : StM N M0 w0 f H mu a w) {o : Oper} (hd : ∀ d, o.dst = some d → d < N ∧ w0.fix d = false) {t : TypeId} {x : Operand} (ho : o.op = .box t x) (hx : opB N x = true) {ys : List SV} {ds : List D} (hc : (ev f x).cells = some ys) (ht : toDs ys = some ds) :
    Goes P N M0 w0 o f H (.val (.d (.ep ds))) a w := by
  have hv := ev_sound h hx
  obtain ⟨g1, g2, g3⟩ := hv.cells hc
  have hxx : Below w.heap.size w (w.alloc (.cells (a.eval x).cells t)) := (Below.refl _ _).alloc (Nat.le_refl _) _
  have h' := h.grow hxx
  have htn : Turn M0 H mu w H mu (w.alloc (.cells (a.eval x).cells t)) := h.turn_grow hxx
  refine ⟨_, _, mu, .inl (by simp [execOp, ho, Instr.box, newVar, newRow]; rfl), h'.put hd ?_⟩
  refine Rep.ep ⟨w.heap.size, 0, none⟩ (a.eval x).cells.toList ds ⟨fun _ => rfl, fun j u hu => ?_⟩ ?_
  · rw [Addr.add_mid, Nat.zero_add, World.cell?_alloc_at _ _ _ _ rfl]
    exact ⟨by simpa using hu, fun hm => by have := h.mut_lt hm; simp at this, g3 u (List.mem_of_getElem? hu)⟩
  · refine toDs_sound ht (by simpa using g1) fun j v y hj hy => ?_
    obtain ⟨k1, k2⟩ := g2 j y hy
    rw [Array.getElem?_toList] at hj
    have : (a.eval x).cells.getD j undef = v := by simp [hj]
    rw [this] at k1
    exact k1.turn htn
theorem splice_get {α : Type} (l ys : List α) (off j : Nat) (h : off + ys.length ≤ l.length) : (l.take off ++ ys ++ l.drop (off + ys.length))[j]? = if j < off then l[j]? else if j < off + ys.length then ys[j - off]? else l[j]? := by
  have ht : (l.take off).length = off := by rw [List.length_take]; omega
  by_cases h1 : j < off
  · rw [List.append_assoc, List.getElem?_append_left (by omega), if_pos h1, List.getElem?_take, if_pos h1]
  · rw [if_neg h1, List.append_assoc, List.getElem?_append_right (by omega), ht]
    by_cases h2 : j < off + ys.length
    · rw [if_pos h2, List.getElem?_append_left (by omega)]
    · rw [if_neg h2, List.getElem?_append_right (by omega), List.getElem?_drop]
      congr 1
      omega
theorem goes_store (h : StM N M0 w0 f H mu a w) {o : Oper} (hd : ∀ d, o.dst = some d → d < N ∧ w0.fix d = false) {t : TypeId} {x y : Operand} (ho : o.op = .store t x y) (hx : opB N x = true) (hy : opB N y = true) {e : Eff} (he : pstep P o f H = some e) :
    Goes P N M0 w0 o f H e a w := by
  have hv := ev_sound h hx
  have hu := ev_sound h hy
  simp only [pstep, ho] at he
  split at he
  · rename_i s off ag n ys hs ht hc
    rw [hs] at hv
    obtain ⟨cs0, b, g1, g2, g3⟩ := hv
    split at he
    · rename_i cs hcs
      split at he
      · rename_i hb
        cases he
        obtain ⟨k1, k2, k3⟩ := hu.cells hc
        obtain ⟨b', arr, et, q1, q2, q3, q4, -⟩ := h.boxCells hcs
        rw [g2] at q1
        cases q1
        obtain ⟨hb1, hb2⟩ := hb
        obtain ⟨-, t2⟩ := tyI_spec ht
        have hst := run_storeCells_at P b off et (a.eval y).cells.toList 0 arr w q2 (by simp; omega) k3
        simp only [Nat.add_zero] at hst
        have hlen : (a.eval y).cells.toList.length = ys.length := by simpa using k1
        have hrun : (execOp a.eval o).run P w = .ok .skip (w.setRow b (arr.toList.take off ++ (a.eval y).cells.toList ++ arr.toList.drop (off + (a.eval y).cells.toList.length)).toArray) := by
          have hne : (a.eval y).cells.size = n := by omega
          simp [execOp, ho, g3, Instr.storeAt, Instr.sureAddr, storeVar, t2, hne, hst]
        have hsp := splice_get arr.toList (a.eval y).cells.toList off
        rw [hlen] at hsp hrun
        have hsp' := splice_get cs ys off
        have h' := h.setBox (cs' := cs.take off ++ ys ++ cs.drop (off + ys.length)) hcs g2 q2 (arr.toList.take off ++ (a.eval y).cells.toList ++ arr.toList.drop (off + ys.length)).toArray (by simp; omega) (by
          intro j z hj
          rw [hsp' j (by omega)] at hj
          have hgd : (arr.toList.take off ++ (a.eval y).cells.toList ++ arr.toList.drop (off + ys.length)).toArray.getD j undef = if j < off then arr.getD j undef else if j < off + ys.length then (a.eval y).cells.getD (j - off) undef else arr.getD j undef := by
            have := hsp j (by simp; omega)
            simp only [Array.getD_eq_getD_getElem?, List.getElem?_toArray, this, Array.getElem?_toList]
            split
            · rfl
            · split <;> rfl
          rw [hgd]
          by_cases j1 : j < off
          · simp only [if_pos j1] at hj ⊢
            exact q4 j z hj
          · simp only [if_neg j1] at hj ⊢
            by_cases j2 : j < off + ys.length
            · simp only [if_pos j2] at hj ⊢
              exact k2 _ z hj
            · simp only [if_neg j2] at hj ⊢
              exact q4 j z hj)
        rw [← hb1]
        exact ⟨undef, _, _, .inr ⟨hrun, rfl⟩, h'.put hd (Rep.tup #[] [] .nil)⟩
      · cases he
    · cases he
  · rename_i r ver off ag n ys hs ht hc
    rw [hs] at hv
    obtain ⟨hv0, e0, sz0, ver1, cs0, g1, g2, g3⟩ := hv
    split at he
    · rename_i e1 sz1 ver2 cs hcs
      split at he
      · rename_i hb
        cases he
        obtain ⟨hvv, hb1, hb2⟩ := hb
        rw [hcs] at g1
        cases g1
        obtain ⟨g, g4, g5⟩ := g3 hvv
        obtain ⟨k1, k2, k3⟩ := hu.cells hc
        obtain ⟨cur, q2, q3, q5, q4, -⟩ := h.vecCells hcs g4
        obtain ⟨-, t2⟩ := tyI_spec ht
        have hst := run_storeCells_at P g off e0 (a.eval y).cells.toList 0 cur w q2 (by simp; omega) k3
        simp only [Nat.add_zero] at hst
        have hlen : (a.eval y).cells.toList.length = ys.length := by simpa using k1
        have hrun : (execOp a.eval o).run P w = .ok .skip (w.setRow g (cur.toList.take off ++ (a.eval y).cells.toList ++ cur.toList.drop (off + (a.eval y).cells.toList.length)).toArray) := by
          have hne : (a.eval y).cells.size = n := by omega
          simp [execOp, ho, g5, Instr.storeAt, Instr.sureAddr, storeVar, t2, hne, hst]
        have hsp := splice_get cur.toList (a.eval y).cells.toList off
        rw [hlen] at hsp hrun
        have hsp' := splice_get cs0 ys off
        have h' := (h.vecIn (ver' := ver1) (cs' := cs0.take off ++ ys ++ cs0.drop (off + ys.length)) hcs g4 q2 (cur' := (cur.toList.take off ++ (a.eval y).cells.toList ++ cur.toList.drop (off + ys.length)).toArray) (Nat.le_refl _) (fun _ => by simp; omega) (by simp; omega) (by simp; omega) (fun u hu => by
          simp only [List.mem_append] at hu
          rcases hu with (hu | hu) | hu
          · exact q5 u (List.mem_of_mem_take hu)
          · exact k3 u hu
          · exact q5 u (List.mem_of_mem_drop hu)) (by
          intro j z hj
          rw [hsp' j (by omega)] at hj
          have hgd : (cur.toList.take off ++ (a.eval y).cells.toList ++ cur.toList.drop (off + ys.length)).toArray.getD j undef = if j < off then cur.getD j undef else if j < off + ys.length then (a.eval y).cells.getD (j - off) undef else cur.getD j undef := by
            have := hsp j (by simp; omega)
            simp only [Array.getD_eq_getD_getElem?, List.getElem?_toArray, this, Array.getElem?_toList]
            split
            · rfl
            · split <;> rfl
          rw [hgd]
          by_cases j1 : j < off
          · simp only [if_pos j1] at hj ⊢
            exact q4 j z hj
          · simp only [if_neg j1] at hj ⊢
            by_cases j2 : j < off + ys.length
            · simp only [if_pos j2] at hj ⊢
              exact (k2 _ z hj).1
            · simp only [if_neg j2] at hj ⊢
              exact q4 j z hj)).2
        rw [← hb1]
        exact ⟨undef, _, _, .inr ⟨hrun, rfl⟩, h'.put hd (Rep.tup #[] [] .nil)⟩
      · cases he
    · cases he
  · cases he
end
end Go.Proofs.YtefiebkngpcaoaaDoor
namespace Go.Proofs.YtefiebkngpcaoaaDoor
open Go.RowKit
section
variable {P : Program} {N : Nat} {M0 : MM} {w0 : Ctx} {w : World} {f : Frm} {H : Hp} {mu : Nat → Option Nat} {a : Act}

theorem fldT_spec {t : TypeId} {i off : Nat} {ag : Bool} {n : Nat} (h : fldT P t i = some (off, ag, n)) : ∃ fs fd, P.underlying t = some (.struct fs) ∧ fs[i]? = some fd ∧ fd.offset = off ∧ tyI P fd.type = some (ag, n) := by
  unfold fldT at h
  split at h
  · rename_i fs hu
    split at h
    · rename_i fd hf
      split at h
      · rename_i ag' n' ht
        cases h
        exact ⟨fs, fd, hu, hf, rfl, ht⟩
      · cases h
    · cases h
  · cases h
theorem run_fieldAt {t : TypeId} {i off : Nat} {ag : Bool} {n : Nat} (h : fldT P t i = some (off, ag, n)) (hn : n ≠ 0) (x : Addr) : (Instr.fieldAt t (.pointer (some x)) i).run P w = .ok (.pointer (some (x.add off))) w := by
  obtain ⟨fs, fd, h1, h2, h3, h4⟩ := fldT_spec h
  obtain ⟨-, h5⟩ := tyI_spec h4
  simp [Instr.fieldAt, run_underlying h1, h2, Instr.sureAddr, fieldPlace, h5, hn, h3]
theorem rep_ep {M : Addr → Prop} {v : Value} {cs : List D} (h : Rep M w v (.ep cs)) : ∃ x us, v = .pointer (some x) ∧ Cells M w x us ∧ RepL M w us cs := by
  cases h with
  | ep x us cs h hr => exact ⟨x, us, rfl, h, hr⟩
theorem rep_bool {M : Addr → Prop} {v : Value} {b : Bool} (h : Rep M w v (.bool b)) : v = .bool b := by cases h; rfl
theorem rep_int {M : Addr → Prop} {v : Value} {k : IntKind} {n : Int} (h : Rep M w v (.int k n)) : v = .int k n := by cases h; rfl
theorem rep_str {M : Addr → Prop} {v : Value} {s : ByteArray} (h : Rep M w v (.str s)) : v = .string s := by cases h; rfl
theorem rep_nilp {M : Addr → Prop} {v : Value} (h : Rep M w v .nilp) : v = .pointer none := by cases h; rfl
theorem goes_fieldAddr (h : StM N M0 w0 f H mu a w) {o : Oper} (hd : ∀ d, o.dst = some d → d < N ∧ w0.fix d = false) {t : TypeId} {x : Operand} {i : Nat} (ho : o.op = .fieldAddr t x i) (hx : opB N x = true) {e : Eff} (he : pstep P o f H = some e) :
    Goes P N M0 w0 o f H e a w := by
  have hv := ev_sound h hx
  simp only [pstep, ho] at he
  split at he
  · rename_i s off ofs ag n hs ht
    split at he
    · cases he
    · rename_i hn
      cases he
      rw [hs] at hv
      obtain ⟨cs0, b, g1, g2, g3⟩ := hv
      exact goes_val (v := .pointer (some ((⟨b, off, none⟩ : Addr).add ofs))) h hd (by simp [execOp, ho, g3, run_fieldAt ht hn]) ⟨cs0, b, g1, g2, by rw [Addr.add_mid]⟩
  · rename_i r ver off ofs ag n hs ht
    split at he
    · cases he
    · rename_i hn
      cases he
      rw [hs] at hv
      obtain ⟨⟨x, hx0⟩, e0, sz0, ver1, cs0, g1, g2, g3⟩ := hv
      refine goes_val (v := .pointer (some (x.add ofs))) h hd (by simp [execOp, ho, hx0, run_fieldAt ht hn]) ⟨⟨_, rfl⟩, e0, sz0, ver1, cs0, g1, g2, fun hvv => ?_⟩
      obtain ⟨g, g4, g5⟩ := g3 hvv
      rw [hx0] at g5
      cases g5
      exact ⟨g, g4, by rw [Addr.add_mid]⟩
  · rename_i cs ofs ag n hs ht
    split at he
    · cases he
    · rename_i hn
      cases he
      rw [hs] at hv
      obtain ⟨ad, us, g1, g2, g3⟩ := rep_ep (show Rep (Mut M0 H mu) w _ (.ep cs) from hv)
      exact goes_val (v := .pointer (some (ad.add ofs))) h hd (by simp [execOp, ho, g1, run_fieldAt ht hn]) (Rep.ep _ _ _ (g2.drop _) (g3.drop _))
  · cases he
theorem run_part {t : TypeId} {ag : Bool} {n : Nat} (ht : tyI P t = some (ag, n)) {M : Addr → Prop} {vs : Array Value} {ds : List D} (hr : RepL M w vs.toList ds) (h1 : ∀ u ∈ vs.toList, u.oneCell' = true) {off : Nat} {r : D} (h : rdD ag n (ds.drop off) = some r) :
    ∃ v, (part t vs off).run P w = .ok v w ∧ Rep M w v r := by
  obtain ⟨k1, k2⟩ := tyI_spec ht
  cases ag with
  | true =>
    simp only [rdD, if_true] at h
    split at h
    · rename_i hn
      cases h
      refine ⟨.agg (vs.extract off (off + n)), by simp [part, k1, k2], ?_⟩
      have e : (vs.extract off (off + n)).toList = (vs.toList.drop off).take n := by
        rw [Array.toList_extract]; simp [List.take_drop, Nat.add_comm]
      refine .agg _ _ (by rw [e]; exact (hr.drop off).take n) (fun v hv => ?_)
      rw [e] at hv
      exact h1 v (List.mem_of_mem_drop (List.mem_of_mem_take hv))
    · cases h
  | false =>
    simp only [rdD, Bool.false_eq_true, if_false] at h
    have h0 : ds[off]? = some r := by rw [← h]; simp
    obtain ⟨v, hv, hrv⟩ := hr.get h0
    simp at hv
    exact ⟨v, by simp [part, k1, hv], hrv⟩
theorem goes_field (h : StM N M0 w0 f H mu a w) {o : Oper} (hd : ∀ d, o.dst = some d → d < N ∧ w0.fix d = false) {t : TypeId} {x : Operand} {i : Nat} (ho : o.op = .field t x i) (hx : opB N x = true) {e : Eff} (he : pstep P o f H = some e) :
    Goes P N M0 w0 o f H e a w := by
  have hv := ev_sound h hx
  simp only [pstep, ho] at he
  split at he
  · rename_i cs off ag n hs ht
    split at he
    · rename_i v hrd
      cases he
      rw [hs] at hv
      obtain ⟨vs, g1, g2, g3⟩ := SRep.d_agg hv
      obtain ⟨fs, fd, h1, h2, h3, h4⟩ := fldT_spec ht
      subst h3
      obtain ⟨u, hu1, hu2⟩ := run_part h4 g2 g3 hrd
      exact goes_val (v := u) h hd (by simp [execOp, ho, g1, Instr.field, run_underlying h1, h2, asAgg, hu1]) hu2
    · cases he
  · cases he
theorem goes_index (h : StM N M0 w0 f H mu a w) {o : Oper} (hd : ∀ d, o.dst = some d → d < N ∧ w0.fix d = false) {t : TypeId} {x i : Operand} (ho : o.op = .index t x i) (hx : opB N x = true) (hi : opB N i = true) {e : Eff} (he : pstep P o f H = some e) :
    Goes P N M0 w0 o f H e a w := by
  have hv := ev_sound h hx
  have hu := ev_sound h hi
  simp only [pstep, ho] at he
  split at he
  · rename_i s k j hs ht hj
    split at he
    · rename_i hb
      cases he
      rw [hs] at hv
      rw [hj] at hu
      have e1 : a.eval x = .string s := rep_str (show Rep (Mut M0 H mu) w _ (.str s) from hv)
      have e2 : a.eval i = .int k j := rep_int (show Rep (Mut M0 H mu) w _ (.int k j) from hu)
      have e3 : P.underlying t = some .string := by unfold isStr at ht; split at ht <;> first | assumption | cases ht
      refine goes_val h hd ?_ (Rep.int .u8 _)
      have hlt : j.toNat < s.data.size := hb.2
      have e4 : s[j.toNat]? = some (s.data.toList.getD j.toNat 0) := by
        have : s[j.toNat]? = some (s[j.toNat]'hb.2) := getElem?_pos s j.toNat hb.2
        rw [this]
        congr 1
        show s.data[j.toNat]'hlt = _
        simp only [List.getD, Array.getElem?_toList]
        rw [Array.getElem?_eq_getElem hlt]
        rfl
      simp [execOp, ho, e1, e2, Instr.index, asIntOf, run_underlying e3, hb.1, e4]
    · cases he
  · cases he
theorem goes_extract (h : StM N M0 w0 f H mu a w) {o : Oper} (hd : ∀ d, o.dst = some d → d < N ∧ w0.fix d = false) {x : Operand} {i : Nat} (ho : o.op = .extract x i) (hx : opB N x = true) {e : Eff} (he : pstep P o f H = some e) :
    Goes P N M0 w0 o f H e a w := by
  have hv := ev_sound h hx
  simp only [pstep, ho] at he
  split at he
  · rename_i ds hs
    split at he
    · rename_i d hdd
      cases he
      rw [hs] at hv
      generalize hev : a.eval x = v at hv
      cases (show Rep (Mut M0 H mu) w v (.tup ds) from hv) with
      | tup vs ds hr =>
        obtain ⟨u, hu1, hu2⟩ := hr.get hdd
        simp at hu1
        exact goes_val (v := u) h hd (by simp [execOp, ho, hev, Instr.extract, hu1]) hu2
    · cases he
  · cases he
theorem goes_nilCheck (h : StM N M0 w0 f H mu a w) {o : Oper} (hd : ∀ d, o.dst = some d → d < N ∧ w0.fix d = false) {x : Operand} (ho : o.op = .nilCheck x) (hx : opB N x = true) {e : Eff} (he : pstep P o f H = some e) :
    Goes P N M0 w0 o f H e a w := by
  have hv := ev_sound h hx
  simp only [pstep, ho] at he
  split at he
  · rename_i s off hs
    cases he
    rw [hs] at hv
    obtain ⟨cs0, b, g1, g2, g3⟩ := hv
    exact goes_val (v := .pointer (some ⟨b, off, none⟩)) h hd (by simp [execOp, ho, g3]) ⟨cs0, b, g1, g2, rfl⟩
  · rename_i cs hs
    cases he
    rw [hs] at hv
    obtain ⟨ad, us, g1, g2, g3⟩ := rep_ep (show Rep (Mut M0 H mu) w _ (.ep cs) from hv)
    exact goes_val (v := .pointer (some ad)) h hd (by simp [execOp, ho, g1]) (Rep.ep _ _ _ g2 g3)
  · cases he
theorem goes_move (h : StM N M0 w0 f H mu a w) {o : Oper} (hd : ∀ d, o.dst = some d → d < N ∧ w0.fix d = false) {x : Operand} (ho : o.op = .move x ∨ o.op = .assign x) (hx : opB N x = true) {e : Eff} (he : pstep P o f H = some e) :
    Goes P N M0 w0 o f H e a w := by
  have hv := ev_sound h hx
  rcases ho with ho | ho <;> (simp only [pstep, ho] at he; cases he; exact goes_val (v := a.eval x) h hd (by simp [execOp, ho]) hv)
theorem goes_pick (h : StM N M0 w0 f H mu a w) {o : Oper} (hd : ∀ d, o.dst = some d → d < N ∧ w0.fix d = false) {c x y : Operand} (ho : o.op = .pick c x y) (hc : opB N c = true) (hx : opB N x = true) (hy : opB N y = true) {e : Eff} (he : pstep P o f H = some e) :
    Goes P N M0 w0 o f H e a w := by
  have hvc := ev_sound h hc
  have hvx := ev_sound h hx
  have hvy := ev_sound h hy
  simp only [pstep, ho] at he
  split at he
  · rename_i b hs
    cases he
    rw [hs] at hvc
    generalize hev : a.eval c = v at hvc
    cases (show Rep (Mut M0 H mu) w v (.bool b) from hvc)
    cases b with
    | true => exact goes_val (v := a.eval x) h hd (by simp [execOp, ho, hev, asBool]) hvx
    | false => exact goes_val (v := a.eval y) h hd (by simp [execOp, ho, hev, asBool]) hvy
  · cases he
theorem goes_makeFunc (h : StM N M0 w0 f H mu a w) {o : Oper} (hd : ∀ d, o.dst = some d → d < N ∧ w0.fix d = false) {fn : Fn} {first cap : Array Operand} (ho : o.op = .makeFunc fn first cap) (h1 : first.toList.all (opB N) = true) (h2 : cap.toList.all (opB N) = true) {e : Eff} (he : pstep P o f H = some e) :
    Goes P N M0 w0 o f H e a w := by
  have aux : ∀ {l : List Operand} {ds : List D}, l.all (opB N) = true → toDs (l.map (ev f)) = some ds → RepL (Mut M0 H mu) w (l.map a.eval) ds := fun {l ds} hl hds => by
    refine toDs_sound hds (by simp) fun j v x hj hy => ?_
    simp only [List.getElem?_map, Option.map_eq_some_iff] at hj hy
    obtain ⟨q, hq, rfl⟩ := hj
    obtain ⟨q', hq', rfl⟩ := hy
    rw [hq] at hq'
    cases hq'
    exact ev_sound h (List.all_eq_true.1 hl q (List.mem_of_getElem? hq))
  have aux2 : ∀ {l : List Operand} {ds : List SA}, l.all (opB N) = true → toSAs (l.map (ev f)) = some ds → SAL M0 H mu w (l.map a.eval) ds := fun {l ds} hl hds => by
    refine toSAs_sound hds (by simp) fun j v x hj hy => ?_
    simp only [List.getElem?_map, Option.map_eq_some_iff] at hj hy
    obtain ⟨q, hq, rfl⟩ := hj
    obtain ⟨q', hq', rfl⟩ := hy
    rw [hq] at hq'
    cases hq'
    exact ev_sound h (List.all_eq_true.1 hl q (List.mem_of_getElem? hq))
  simp only [pstep, ho] at he
  split at he
  · rename_i ds es hds hes
    cases he
    exact goes_val (v := .func fn (first.map a.eval) (cap.map a.eval)) h hd (by simp [execOp, ho, Instr.makeFunc]) (Rep.fn _ _ _ _ _ (by simpa using aux h1 hds) (by simpa using aux h2 hes))
  · split at he
    · rename_i ds es hds hes
      cases he
      exact goes_val (v := .func fn (first.map a.eval) (cap.map a.eval)) h hd (by simp [execOp, ho, Instr.makeFunc]) ⟨_, _, rfl, by simpa using aux2 h1 hds, by simpa using aux2 h2 hes⟩
    · cases he
end
end Go.Proofs.YtefiebkngpcaoaaDoor
namespace Go.Proofs.YtefiebkngpcaoaaDoor
open Go.RowKit
section
variable {P : Program} {N : Nat} {M0 : MM} {w0 : Ctx} {w : World} {f : Frm} {H : Hp} {mu : Nat → Option Nat} {a : Act}

theorem elT_spec {t e sz by_ : Nat} (h : elT P t = some (e, sz, by_)) : ∃ i, P.underlying t = some (.slice e) ∧ P.info? e = some i ∧ i.size = sz ∧ i.bytes = by_ := by
  unfold elT at h
  split at h
  · rename_i e' hu
    split at h
    · rename_i i hi
      cases h
      exact ⟨i, hu, hi, rfl, rfl⟩
    · cases h
  · cases h
theorem rep_sl {M : Addr → Prop} {v : Value} {n : Nat} {cs : List D} (h : Rep M w v (.sl n cs)) : ∃ p cap us, v = .slice p n cap ∧ n ≤ cap ∧ (p = none → n = 0 ∧ cap = 0 ∧ us = []) ∧ (∀ a, p = some a → Cells M w a us) ∧ RepL M w us cs := by
  cases h with
  | sl p n cap us cs hn hz h hr => exact ⟨p, cap, us, rfl, hn, hz, h, hr⟩
theorem goes_indexAddr (h : StM N M0 w0 f H mu a w) {o : Oper} (hd : ∀ d, o.dst = some d → d < N ∧ w0.fix d = false) {t : TypeId} {x i : Operand} (ho : o.op = .indexAddr t x i) (hx : opB N x = true) (hi : opB N i = true) {e : Eff} (he : pstep P o f H = some e) :
    Goes P N M0 w0 o f H e a w := by
  have hv := ev_sound h hx
  have hu := ev_sound h hi
  simp only [pstep, ho] at he
  split at he
  · rename_i s off n cap et sz by_ k j hs ht hj
    split at he
    · rename_i hb
      cases he
      rw [hj] at hu
      rw [hs] at hv
      have e2 : a.eval i = .int k j := rep_int (show Rep (Mut M0 H mu) w _ (.int k j) from hu)
      obtain ⟨cs, b, g1, g2, g3, g4⟩ := hv
      obtain ⟨inf, q1, q2, q3, -⟩ := elT_spec ht
      have hj0 : 0 ≤ j := hb.1
      have hjn : j < (n : Int) := hb.2
      refine goes_val (v := .pointer (some ((⟨b, off, none⟩ : Addr).add (j.toNat * sz)))) h hd (by simp [execOp, ho, g3, e2, Instr.indexAt, asIntOf, run_underlying q1, hj0, hjn, sizeOf, typeInfo, q2, q3]) ⟨cs, b, g1, g2, by rw [Addr.add_mid]⟩
    · cases he
  · rename_i r ver n et sz by_ k j hs ht hj
    split at he
    · rename_i hb
      cases he
      obtain ⟨hj0, hjn⟩ := hb
      rw [hj] at hu
      rw [hs] at hv
      have e2 : a.eval i = .int k j := rep_int (show Rep (Mut M0 H mu) w _ (.int k j) from hu)
      obtain ⟨⟨p, cap, hx0, hp⟩, e0, sz0, ver1, cs0, g1, g2, g3⟩ := hv
      obtain ⟨inf, q1, q2, q3, -⟩ := elT_spec ht
      cases p with
      | none => have := hp rfl; omega
      | some ad =>
        refine goes_val (v := .pointer (some (ad.add (j.toNat * sz)))) h hd (by simp [execOp, ho, hx0, e2, Instr.indexAt, asIntOf, run_underlying q1, hj0, hjn, sizeOf, typeInfo, q2, q3]) ⟨⟨_, rfl⟩, e0, sz0, ver1, cs0, g1, g2, fun hvv => ?_⟩
        obtain ⟨g4, g5⟩ := g3 hvv
        rcases g5 with ⟨a1, a2, a3⟩ | ⟨g, cap', cur, e', a1, a2, a3, a4, a5, a6⟩
        · omega
        · rw [hx0] at a1
          cases a1
          exact ⟨g, a2, by rw [Addr.add_mid, Nat.zero_add]⟩
    · cases he
  · rename_i et sz by_ k j ht hj hnb hnb2
    split at he
    · rename_i n cs hs
      split at he
      · rename_i hb
        cases he
        rw [hj] at hu
        have e2 : a.eval i = .int k j := rep_int (show Rep (Mut M0 H mu) w _ (.int k j) from hu)
        obtain ⟨p, cap, us, g1, g2, g3, g4, g5⟩ := rep_sl (hv.toD hs)
        obtain ⟨inf, q1, q2, q3, -⟩ := elT_spec ht
        cases p with
        | none => have := (g3 rfl).1; omega
        | some ad =>
          have hc := g4 ad rfl
          refine goes_val (v := .pointer (some (ad.add (j.toNat * sz)))) h hd ?_ (Rep.ep _ _ _ (hc.drop _) (g5.drop _))
          have hj0 : 0 ≤ j := hb.1
          have hjn : j < (n : Int) := hb.2
          simp [execOp, ho, g1, e2, Instr.indexAt, asIntOf, run_underlying q1, hj0, hjn, sizeOf, typeInfo, q2, q3]
      · cases he
    · cases he
  · cases he
theorem run_pInt {op : BinOp} {k : IntKind} {x y : Int} {r : D} (h : pInt op k x y = some r) : ∃ v, (∀ t w, (binOp op t (.int k x) (.int k y)).run P w = .ok v w) ∧ ∀ M w, Rep M w v r := by
  cases op <;> simp only [pInt] at h <;> first
    | (cases h; done)
    | (cases h; exact ⟨_, fun t w => by simp [binOp, Op.intArith, Op.intBits, Op.intCmp]; rfl, fun M w => by constructor⟩)
    | (split at h
       · cases h
       · rename_i hy
         cases h
         exact ⟨_, fun t w => by simp [binOp, Op.intDiv, hy]; rfl, fun M w => by constructor⟩)
theorem run_pStr {op : BinOp} {x y : ByteArray} {r : D} (h : pStr op x y = some r) : ∃ v, (∀ t w, (binOp op t (.string x) (.string y)).run P w = .ok v w) ∧ ∀ M w, Rep M w v r := by
  cases op <;> simp only [pStr] at h <;> first
    | (cases h; done)
    | (cases h; exact ⟨_, fun t w => by simp [binOp, Op.stringOp]; rfl, fun M w => by constructor⟩)
    | (cases h; exact ⟨_, fun t w => by simp only [binOp, Op.stringOp, Sem.run_pure]; rfl, fun M w => by constructor⟩)
    | (split at h
       · rename_i hy
         cases h
         exact ⟨_, fun t w => by simp only [binOp]; exact run_string_add_sum w x y (by simp only [fits, decide_eq_true_eq] at hy; omega), fun M w => by constructor⟩
       · cases h)
theorem boolT_spec {t : TypeId} (h : boolT P t = true) : P.underlying t = some .bool := by
  unfold boolT at h
  split at h <;> first | assumption | cases h
theorem run_equal_bool {t : TypeId} (h : boolT P t = true) (x y : Bool) (w : World) : (Op.equal t (.bool x) (.bool y)).run P w = .ok (x == y) w := by
  exact run_equalIn_bool w 9999 t x y (boolT_spec h)
theorem run_pBin {op : BinOp} {x y r : D} {t0 : TypeId} (h : pBin P t0 op x y = some r) {M : Addr → Prop} {v u : Value} (hv : Rep M w v x) (hu : Rep M w u y) :
    ∃ z, (binOp op t0 v u).run P w = .ok z w ∧ Rep M w z r ∧ (∀ cs, v ≠ .agg cs) ∧ v ≠ .nilIface := by
  unfold pBin at h
  split at h
  · rename_i k a k' b
    have e1 := rep_int hv
    have e2 := rep_int hu
    subst e1 e2
    split at h
    · split at h
      · cases h
      · rename_i hb
        cases h
        exact ⟨_, by simp [binOp, Op.shift, hb]; rfl, by constructor, by simp, by simp⟩
    · split at h
      · cases h
      · rename_i hb
        cases h
        exact ⟨_, by simp [binOp, Op.shift, hb]; rfl, by constructor, by simp, by simp⟩
    · split at h
      · rename_i hk
        subst hk
        obtain ⟨z, h1, h2⟩ := run_pInt (P := P) h
        exact ⟨z, h1 t0 w, h2 M w, by simp, by simp⟩
      · cases h
  · rename_i a b
    have e1 := rep_str hv
    have e2 := rep_str hu
    subst e1 e2
    obtain ⟨z, h1, h2⟩ := run_pStr (P := P) h
    exact ⟨z, h1 t0 w, h2 M w, by simp, by simp⟩
  · rename_i a b
    have e1 := rep_bool hv
    have e2 := rep_bool hu
    subst e1 e2
    split at h
    · rename_i hbt
      split at h <;> first
        | (cases h; done)
        | (cases h; exact ⟨_, by simp [binOp, run_equal_bool hbt]; rfl, by constructor, by simp, by simp⟩)
    · cases h
  · cases h
theorem run_eqGuard {op : BinOp} {t : TypeId} {x y : Operand} {v u : Value} (h1 : ∀ cs, v ≠ .agg cs) (h2 : v ≠ .nilIface) : (eqGuard op t x y v u).run P w = .ok () w := by
  cases v <;> first
    | (exact absurd rfl (h1 _))
    | (exact absurd rfl h2)
    | (cases op <;> simp [eqGuard])
theorem goes_binOp (h : StM N M0 w0 f H mu a w) {o : Oper} (hd : ∀ d, o.dst = some d → d < N ∧ w0.fix d = false) {op : BinOp} {t t' : TypeId} {x y : Operand} (ho : o.op = .binOp op t x y t') (hx : opB N x = true) (hy : opB N y = true) {e : Eff} (he : pstep P o f H = some e) :
    Goes P N M0 w0 o f H e a w := by
  have hv := ev_sound h hx
  have hu := ev_sound h hy
  simp only [pstep, ho] at he
  split at he
  · rename_i p q hs ht
    split at he
    · rename_i r hr
      cases he
      rw [hs] at hv
      rw [ht] at hu
      obtain ⟨z, k1, k2, k3, k4⟩ := run_pBin (P := P) (w := w) hr (show Rep (Mut M0 H mu) w _ p from hv) (show Rep (Mut M0 H mu) w _ q from hu)
      exact goes_val (v := z) h hd (by simp [execOp, ho, run_eqGuard k3 k4, k1]) k2
    · cases he
  · cases he
theorem goes_unOp (h : StM N M0 w0 f H mu a w) {o : Oper} (hd : ∀ d, o.dst = some d → d < N ∧ w0.fix d = false) {op : UnOp} {t : TypeId} {x : Operand} (ho : o.op = .unOp op t x) (hx : opB N x = true) {e : Eff} (he : pstep P o f H = some e) :
    Goes P N M0 w0 o f H e a w := by
  have hv := ev_sound h hx
  simp only [pstep, ho] at he
  split at he
  · rename_i p hs
    split at he
    · rename_i r hr
      cases he
      rw [hs] at hv
      generalize hev : a.eval x = v at hv
      unfold pUn at hr
      split at hr
      · have := rep_int (show Rep (Mut M0 H mu) w _ _ from hv)
        subst this
        cases hr
        exact goes_val h hd (by simp [execOp, ho, hev, Op.unary, Op.intArith]) (Rep.int _ _)
      · have := rep_bool (show Rep (Mut M0 H mu) w _ _ from hv)
        subst this
        cases hr
        exact goes_val h hd (by simp [execOp, ho, hev, Op.unary]) (Rep.bool _)
      · cases hr
    · cases he
  · cases he
end
end Go.Proofs.YtefiebkngpcaoaaDoor
