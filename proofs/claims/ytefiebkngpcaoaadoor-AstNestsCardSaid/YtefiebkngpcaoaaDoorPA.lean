/- A pure logic of the model's code: pure data, how values in memory stand for it, and how that stays. No condition beyond each lemma's own. -/
import Derived.WalkKit
import Derived.WalkSpells
import Derived.WalkLawsBesides
import Derived.Deep.QuietTactic
import Derived.BigQuiet
import Derived.Lib.Hide
import Derived.Deep.LoopGhost
import Derived.Laws.AppendOwnNone
import Derived.Below
import Derived.CallsIn
import Derived.RangeFuncNested
set_option maxRecDepth 100000
set_option linter.unusedVariables false
set_option linter.unusedSimpArgs false
set_option linter.unusedSectionVars false
namespace Go.Proofs.YtefiebkngpcaoaaDoor
open Go.RowKit

/-- Pure data. -/
inductive D where
  | bool (b : Bool)
  | int (k : IntKind) (n : Int)
  | str (s : ByteArray)
  | nilp
  | nils
  | ep (cs : List D)
  | sl (n : Nat) (cs : List D)
  | fn (f : Fn) (first cap : List D)
  | nilf
  | agg (cs : List D)
  | tup (cs : List D)

/-- These cells lie there, each of one cell, none of those that may still be written. -/
def Cells (M : Addr → Prop) (w : World) (a : Addr) (us : List Value) : Prop :=
  (us ≠ [] → a.spot = none) ∧ ∀ j u, us[j]? = some u → w.cell? (a.add j) = some u ∧ ¬ M (a.add j) ∧ u.oneCell' = true

mutual
/-- A value stands for a datum. -/
inductive Rep (M : Addr → Prop) (w : World) : Value → D → Prop
  | bool (b : Bool) : Rep M w (.bool b) (.bool b)
  | int (k : IntKind) (n : Int) : Rep M w (.int k n) (.int k n)
  | str (s : ByteArray) : Rep M w (.string s) (.str s)
  | nilp : Rep M w (.pointer none) .nilp
  | nils : Rep M w (.slice none 0 0) .nils
  | ep (a : Addr) (us : List Value) (cs : List D) (h : Cells M w a us) (hr : RepL M w us cs) : Rep M w (.pointer (some a)) (.ep cs)
  | sl (p : Option Addr) (n cap : Nat) (us : List Value) (cs : List D) (hn : n ≤ cap) (hz : p = none → n = 0 ∧ cap = 0 ∧ us = [])
      (h : ∀ a, p = some a → Cells M w a us) (hr : RepL M w us cs) : Rep M w (.slice p n cap) (.sl n cs)
  | fn (f : Fn) (vs us : Array Value) (ds es : List D) (h1 : RepL M w vs.toList ds) (h2 : RepL M w us.toList es) : Rep M w (.func f vs us) (.fn f ds es)
  | nilf : Rep M w .nilFunc .nilf
  | agg (vs : Array Value) (ds : List D) (h : RepL M w vs.toList ds) (h1 : ∀ v ∈ vs.toList, v.oneCell' = true) : Rep M w (.agg vs) (.agg ds)
  | tup (vs : Array Value) (ds : List D) (h : RepL M w vs.toList ds) : Rep M w (.tuple vs) (.tup ds)
inductive RepL (M : Addr → Prop) (w : World) : List Value → List D → Prop
  | nil : RepL M w [] []
  | cons (v : Value) (d : D) (vs : List Value) (ds : List D) (h : Rep M w v d) (t : RepL M w vs ds) : RepL M w (v :: vs) (d :: ds)
end

/-- What may not be written any more stays. -/
def Stay (M : Addr → Prop) (w : World) (M' : Addr → Prop) (w' : World) : Prop :=
  ∀ a u, w.cell? a = some u → ¬ M a → w'.cell? a = some u ∧ ¬ M' a

theorem Cells.mono {M M' : Addr → Prop} {w w' : World} {a : Addr} {us : List Value} (hs : Stay M w M' w') (h : Cells M w a us) : Cells M' w' a us :=
  ⟨h.1, fun j u hu => have ⟨h1, h2, h3⟩ := h.2 j u hu; have ⟨k1, k2⟩ := hs _ _ h1 h2; ⟨k1, k2, h3⟩⟩
mutual
theorem Rep.mono {M M' : Addr → Prop} {w w' : World} (hs : Stay M w M' w') : ∀ {v : Value} {d : D}, Rep M w v d → Rep M' w' v d
  | _, _, .bool b => .bool b
  | _, _, .int k n => .int k n
  | _, _, .str s => .str s
  | _, _, .nilp => .nilp
  | _, _, .nils => .nils
  | _, _, .ep a us cs h hr => .ep a us cs (h.mono hs) (RepL.mono hs hr)
  | _, _, .sl p n cap us cs hn hz h hr => .sl p n cap us cs hn hz (fun a ha => (h a ha).mono hs) (RepL.mono hs hr)
  | _, _, .fn f vs us ds es h1 h2 => .fn f vs us ds es (RepL.mono hs h1) (RepL.mono hs h2)
  | _, _, .nilf => .nilf
  | _, _, .agg vs ds h h1 => .agg vs ds (RepL.mono hs h) h1
  | _, _, .tup vs ds h => .tup vs ds (RepL.mono hs h)
theorem RepL.mono {M M' : Addr → Prop} {w w' : World} (hs : Stay M w M' w') : ∀ {vs : List Value} {ds : List D}, RepL M w vs ds → RepL M' w' vs ds
  | _, _, .nil => .nil
  | _, _, .cons v d vs ds h t => .cons v d vs ds (Rep.mono hs h) (RepL.mono hs t)
end
theorem RepL.length {M : Addr → Prop} {w : World} : ∀ {vs : List Value} {ds : List D}, RepL M w vs ds → vs.length = ds.length
  | _, _, .nil => rfl
  | _, _, .cons _ _ _ _ _ t => by simp [RepL.length t]
theorem RepL.get {M : Addr → Prop} {w : World} : ∀ {vs : List Value} {ds : List D}, RepL M w vs ds → ∀ {j : Nat} {d : D}, ds[j]? = some d → ∃ v, vs[j]? = some v ∧ Rep M w v d
  | _, _, .nil, j, d, h => by simp at h
  | _, _, .cons v d' vs ds h t, 0, d, hj => by simp at hj; subst hj; exact ⟨v, rfl, h⟩
  | _, _, .cons v d' vs ds h t, j + 1, d, hj => by simp at hj; simpa using RepL.get t hj
theorem RepL.getV {M : Addr → Prop} {w : World} : ∀ {vs : List Value} {ds : List D}, RepL M w vs ds → ∀ {j : Nat} {v : Value}, vs[j]? = some v → ∃ d, ds[j]? = some d ∧ Rep M w v d
  | _, _, .nil, j, d, h => by simp at h
  | _, _, .cons v d' vs ds h t, 0, d, hj => by simp at hj; subst hj; exact ⟨d', rfl, h⟩
  | _, _, .cons v d' vs ds h t, j + 1, d, hj => by simp at hj; simpa using RepL.getV t hj
theorem RepL.of {M : Addr → Prop} {w : World} : ∀ {vs : List Value} {ds : List D}, vs.length = ds.length → (∀ (j : Nat) (v : Value) (d : D), vs[j]? = some v → ds[j]? = some d → Rep M w v d) → RepL M w vs ds
  | [], [], _, _ => .nil
  | v :: vs, d :: ds, hl, h => .cons _ _ _ _ (h 0 v d rfl rfl) (RepL.of (by simpa using hl) fun j v d h1 h2 => h (j + 1) v d (by simpa using h1) (by simpa using h2))
  | [], _ :: _, hl, _ => by simp at hl
  | _ :: _, [], hl, _ => by simp at hl
theorem RepL.append {M : Addr → Prop} {w : World} {vs us : List Value} {ds es : List D} (h : RepL M w vs ds) (h' : RepL M w us es) : RepL M w (vs ++ us) (ds ++ es) := by
  match vs, ds, h with
  | _, _, .nil => exact h'
  | _, _, .cons v d vs ds h t => exact .cons _ _ _ _ h (RepL.append t h')
theorem RepL.take {M : Addr → Prop} {w : World} {vs : List Value} {ds : List D} (h : RepL M w vs ds) (k : Nat) : RepL M w (vs.take k) (ds.take k) := by
  match vs, ds, h, k with
  | _, _, .nil, k => simpa using RepL.nil
  | _, _, .cons v d vs ds h t, 0 => exact .nil
  | _, _, .cons v d vs ds h t, k + 1 => exact .cons _ _ _ _ h (RepL.take t k)
theorem RepL.drop {M : Addr → Prop} {w : World} {vs : List Value} {ds : List D} (h : RepL M w vs ds) (k : Nat) : RepL M w (vs.drop k) (ds.drop k) := by
  match vs, ds, h, k with
  | _, _, .nil, k => simpa using RepL.nil
  | _, _, .cons v d vs ds h t, 0 => exact .cons _ _ _ _ h t
  | _, _, .cons v d vs ds h t, k + 1 => exact RepL.drop t k

theorem Addr.add_plain {a : Addr} (h : a.spot = none) (j : Nat) : a.add j = ⟨a.block, a.off + j, none⟩ := by
  obtain ⟨b, o, s⟩ := a
  simp at h
  subst h
  unfold Addr.add
  split <;> simp_all
theorem Cells.drop {M : Addr → Prop} {w : World} {a : Addr} {us : List Value} (h : Cells M w a us) (k : Nat) : Cells M w (a.add k) (us.drop k) := by
  by_cases hk : us.drop k = []
  · exact ⟨fun h => absurd hk h, fun j u hu => by simp [hk] at hu⟩
  have h0 : us ≠ [] := fun e => hk (by simp [e])
  have e := Addr.add_plain (h.1 h0)
  refine ⟨fun _ => by rw [e], fun j u hu => ?_⟩
  have := h.2 (k + j) u (by simpa using hu)
  rwa [Addr.add_plain (by rw [e]), e, Nat.add_assoc, ← e]
theorem Cells.take {M : Addr → Prop} {w : World} {a : Addr} {us : List Value} (h : Cells M w a us) (k : Nat) : Cells M w a (us.take k) :=
  ⟨fun h0 => h.1 fun e => h0 (by simp [e]), fun j u hu => h.2 j u (by rw [List.getElem?_take] at hu; split at hu; exact hu; cases hu)⟩
theorem cells_lt {M : Addr → Prop} {w : World} {a : Addr} {us : List Value} (h : Cells M w a us) (h0 : us ≠ []) : a.block < w.heap.size := by
  cases us with
  | nil => exact absurd rfl h0
  | cons u us =>
    exact World.block_lt_of_cell? w _ (h.2 0 u rfl).1

/-- The program's tables: what its package-level variables hold, by their numbers. -/
def gt_words : List D := [.str ⟨#[97, 116, 111, 109, 105, 99]⟩, .str ⟨#[99, 111, 117, 112, 108, 101, 100]⟩, .str ⟨#[114, 111, 111, 116]⟩, .str ⟨#[105, 110]⟩, .str ⟨#[111, 117, 116]⟩, .str ⟨#[118, 97, 114]⟩, .str ⟨#[116, 97]⟩, .str ⟨#[101, 109, 105, 116]⟩, .str ⟨#[105, 110, 116]⟩, .str ⟨#[98, 111, 111, 108]⟩, .str ⟨#[115, 121, 109]⟩, .str ⟨#[101, 120, 116]⟩, .str ⟨#[99, 111, 110]⟩, .str ⟨#[112, 97, 114, 116]⟩, .str ⟨#[108, 105, 110, 107]⟩, .str ⟨#[114, 117, 108, 101]⟩, .str ⟨#[97, 100, 100]⟩, .str ⟨#[100, 114, 111, 112]⟩, .str ⟨#[116, 105, 101]⟩, .str ⟨#[99, 117, 116]⟩, .str ⟨#[105, 102]⟩, .str ⟨#[116, 104, 101, 110]⟩, .str ⟨#[101, 108, 115, 101]⟩, .str ⟨#[97, 110, 100]⟩, .str ⟨#[111, 114]⟩, .str ⟨#[110, 111, 116]⟩, .str ⟨#[116, 114, 117, 101]⟩, .str ⟨#[102, 97, 108, 115, 101]⟩, .str ⟨#[99, 111, 117, 110, 116]⟩, .str ⟨#[104, 97, 115]⟩, .str ⟨#[115, 117, 109]⟩, .str ⟨#[108, 101, 97, 115, 116]⟩, .str ⟨#[101, 108, 97, 112, 115, 101, 100]⟩]

def gtab : List (Nat × List D) := [(0, gt_words)]
def gcells (g : Nat) : Option (List D) := (gtab.find? fun p => p.1 == g).map (·.2)
/-- The tables lie there, and nobody writes them. -/
def Globs (M : Addr → Prop) (w : World) : Prop := ∀ g cs, gcells g = some cs → Rep M w (.pointer (some ⟨g, 0, none⟩)) (.ep cs)
theorem Globs.mono {M M' : Addr → Prop} {w w' : World} (h : Globs M w) (hs : Stay M w M' w') : Globs M' w' := fun g cs hg => (h g cs hg).mono hs
theorem Globs.iff {M M' : Addr → Prop} {w : World} (h : Globs M w) (hs : ∀ x, M' x → M x) : Globs M' w := h.mono fun a u h1 h2 => ⟨h1, fun h3 => h2 (hs a h3)⟩

/-- What only the cells that may be written, their blocks and what is new tells apart. -/
structure Keep (M : Addr → Prop) (w : World) (M' : Addr → Prop) (w' : World) : Prop where
  os : w'.os = w.os
  tape : w'.tape = w.tape
  output : w'.output = w.output
  size : w.heap.size ≤ w'.heap.size
  cell : Stay M w M' w'
  blk : ∀ b, b < w.heap.size → (∀ a : Addr, a.block = b → ¬ M a) → w'.heap[b]? = w.heap[b]? ∧ ∀ a : Addr, a.block = b → ¬ M' a
theorem Keep.refl (M : Addr → Prop) (w : World) : Keep M w M w := ⟨rfl, rfl, rfl, Nat.le_refl _, fun _ _ h1 h2 => ⟨h1, h2⟩, fun _ _ h => ⟨rfl, h⟩⟩
theorem Keep.trans {M M' M'' : Addr → Prop} {w w' w'' : World} (h : Keep M w M' w') (k : Keep M' w' M'' w'') : Keep M w M'' w'' where
  os := k.os.trans h.os
  tape := k.tape.trans h.tape
  output := k.output.trans h.output
  size := Nat.le_trans h.size k.size
  cell := fun a u h1 h2 => have ⟨g1, g2⟩ := h.cell a u h1 h2; k.cell a u g1 g2
  blk := fun b hb hm => have ⟨g1, g2⟩ := h.blk b hb hm; have ⟨k1, k2⟩ := k.blk b (Nat.lt_of_lt_of_le hb h.size) g2; ⟨k1.trans g1, k2⟩
/-- Fewer cells may be written. -/
theorem Keep.fewer {M M' M'' : Addr → Prop} {w w' : World} (h : Keep M w M' w') (hm : ∀ a, M'' a → M' a) : Keep M w M'' w' :=
  { h with cell := fun a u h1 h2 => have ⟨g1, g2⟩ := h.cell a u h1 h2; ⟨g1, fun k => g2 (hm a k)⟩, blk := fun b hb h2 => have ⟨g1, g2⟩ := h.blk b hb h2; ⟨g1, fun a ha k => g2 a ha (hm a k)⟩ }
/-- A world that only grows. -/
theorem Keep.below {M : Addr → Prop} {w w' : World} (h : Below w.heap.size w w') : Keep M w M w' :=
  ⟨h.os, h.tape, h.output, h.size, fun a u h1 h2 => ⟨(World.cell?_of_block (h.block _ (World.block_lt_of_cell? w a h1))).trans h1, h2⟩, fun b hb h2 => ⟨h.block b hb, h2⟩⟩

/-- What a closure has taken with it: data, a pointer to a name's cells. -/
inductive SA where
  | d (x : D)
  | loc (s off : Nat)
/-- What a slot holds. -/
inductive SV where
  | d (x : D)
  | loc (s off : Nat)
  | own (r n : Nat) (cs : List D)
  | bs (s off n cap : Nat)
  | vec (r ver n : Nat)
  | vptr (r ver off : Nat)
  | clo (f : Fn) (first cap : List SA)
  | nil
  | yld (l : Nat)
  | trace (l : Nat) (pre rest : List (List D))
  | stop
  | junk
/-- What a name of the call's own memory stands for. -/
inductive HO where
  | none
  | box (cs : List SV)
  | row (e : TypeId) (size n : Nat)
  | vec (e : TypeId) (size ver : Nat) (cs : List SV)
abbrev Frm := Nat → SV
abbrev Hp := Nat → HO
def upd (f : Frm) (t : Nat) (v : SV) : Frm := fun u => if u = t then v else f u
def hup (H : Hp) (t : Nat) (v : HO) : Hp := fun u => if u = t then v else H u
/-- The slot of what an iterator has handed out; no slot of any frame. -/
abbrev TR : Nat := 1000000

/-- The cells that others may write: the caller's; those of iterators that were gone through. -/
structure MM where
  c : Addr → Prop
  x : Addr → Prop
def MM.all (M : MM) (a : Addr) : Prop := M.c a ∨ M.x a
/-- The cells of the names that may still be written. -/
def Named (H : Hp) (mu : Nat → Option Nat) (a : Addr) : Prop :=
  ∃ s, match H s with
    | .none => False
    | .box _ => mu s = some a.block
    | .row _ size n => mu s = some a.block ∧ n * size ≤ a.off
    | .vec _ _ _ _ => mu s = some a.block
/-- The cells that may still be written. -/
def Mut (M0 : MM) (H : Hp) (mu : Nat → Option Nat) (a : Addr) : Prop := M0.all a ∨ Named H mu a

/-- v is the one slice that owns what lies behind its elements. -/
def Owner (mu : Nat → Option Nat) (w : World) (r : Nat) (v : Value) (e : TypeId) (size n : Nat) : Prop :=
  (v = .slice none 0 0 ∧ n = 0 ∧ mu r = none) ∨
  ∃ g cap cur, v = .slice (some ⟨g, 0, none⟩) n cap ∧ mu r = some g ∧ w.heap[g]? = some (.cells cur e (0, 0)) ∧ n ≤ cap ∧ cap ≤ maxLen ∧ cur.size = cap * size ∧ ∀ u ∈ cur.toList, u.oneCell' = true

/-- v is the one slice of a name's cells that are written here and there. -/
def VOwn (mu : Nat → Option Nat) (w : World) (r : Nat) (v : Value) (size n : Nat) : Prop :=
  (v = .slice none 0 0 ∧ n = 0 ∧ mu r = none) ∨
  ∃ g cap cur e, v = .slice (some ⟨g, 0, none⟩) n cap ∧ mu r = some g ∧ w.heap[g]? = some (.cells cur e (0, 0)) ∧ n ≤ cap ∧ cap ≤ maxLen ∧ cur.size = cap * size
def VecRep (H : Hp) (mu : Nat → Option Nat) (w : World) (v : Value) (r ver n : Nat) : Prop := (∃ p cap, v = .slice p n cap ∧ (p = none → n = 0)) ∧ ∃ e sz ver' cs, H r = .vec e sz ver' cs ∧ ver ≤ ver' ∧ (ver = ver' → cs.length = n * sz ∧ VOwn mu w r v sz n)
def VPtr (H : Hp) (mu : Nat → Option Nat) (v : Value) (r ver off : Nat) : Prop := (∃ x, v = .pointer (some x)) ∧ ∃ e sz ver' cs, H r = .vec e sz ver' cs ∧ ver ≤ ver' ∧ (ver = ver' → ∃ g, mu r = some g ∧ v = .pointer (some ⟨g, off, none⟩))
def LocRep (H : Hp) (mu : Nat → Option Nat) (v : Value) (s off : Nat) : Prop := ∃ cs b, H s = .box cs ∧ mu s = some b ∧ v = .pointer (some ⟨b, off, none⟩)
def SARep (M0 : MM) (H : Hp) (mu : Nat → Option Nat) (w : World) (v : Value) : SA → Prop
  | .d x => Rep (Mut M0 H mu) w v x
  | .loc s off => LocRep H mu v s off
def SAL (M0 : MM) (H : Hp) (mu : Nat → Option Nat) (w : World) (vs : List Value) (xs : List SA) : Prop :=
  vs.length = xs.length ∧ ∀ (j : Nat) (v : Value) (x : SA), vs[j]? = some v → xs[j]? = some x → SARep M0 H mu w v x
def SRep (M0 : MM) (H : Hp) (mu : Nat → Option Nat) (w : World) (v : Value) : SV → Prop
  | .d x => Rep (Mut M0 H mu) w v x
  | .loc s off => LocRep H mu v s off
  | .own r n cs => Rep (Mut M0 H mu) w v (.sl n cs) ∧ ∃ e size k, H r = .row e size k ∧ n ≤ k ∧ (n = k → cs.length = n * size ∧ Owner mu w r v e size n)
  | .bs s off n cap => ∃ cs b, H s = .box cs ∧ mu s = some b ∧ v = .slice (some ⟨b, off, none⟩) n cap ∧ n ≤ cap
  | .vec r ver n => VecRep H mu w v r ver n
  | .vptr r ver off => VPtr H mu v r ver off
  | .clo g first cap => ∃ vs us : Array Value, v = .func g vs us ∧ SAL M0 H mu w vs.toList first ∧ SAL M0 H mu w us.toList cap
  | .nil => v = .slice none 0 0
  | .yld l => v = .func (.yield l) #[] #[]
  | .trace _ _ _ => True
  | .stop => True
  | .junk => True

/-- How memory may turn under the slots. -/
structure Turn (M0 : MM) (H : Hp) (mu : Nat → Option Nat) (w : World) (H' : Hp) (mu' : Nat → Option Nat) (w' : World) : Prop where
  own : Keep (Named H mu) w (Named H' mu') w'
  box : ∀ s cs, H s = .box cs → (∃ cs', H' s = .box cs') ∧ mu' s = mu s
  row : ∀ r e size k, H r = .row e size k → ∃ k', k ≤ k' ∧ H' r = .row e size k' ∧ (k' = k → mu' r = mu r ∧ ∀ g, mu r = some g → w'.heap[g]? = w.heap[g]?)
  vec : ∀ r e sz ver cs, H r = .vec e sz ver cs → ∃ ver' cs', H' r = .vec e sz ver' cs' ∧ ver ≤ ver' ∧ (ver = ver' → cs'.length = cs.length ∧ mu' r = mu r ∧
    ∀ g cur e', mu r = some g → w.heap[g]? = some (.cells cur e' (0, 0)) → ∃ cur', w'.heap[g]? = some (.cells cur' e' (0, 0)) ∧ cur'.size = cur.size)
/-- How names may turn, seen from their start: what was laid stays what it is, or is no more told of. -/
structure Steps (H : Hp) (mu : Nat → Option Nat) (w : World) (H' : Hp) (mu' : Nat → Option Nat) (w' : World) : Prop where
  no : ∀ s, H s = .none → H' s = .none ∨ s < TR
  box : ∀ s cs, H s = .box cs → H' s = .none ∨ ((∃ cs', H' s = .box cs') ∧ mu' s = mu s)
  vec : ∀ r e sz ver cs, H r = .vec e sz ver cs → H' r = .none ∨ ∃ ver' cs', H' r = .vec e sz ver' cs' ∧ ver ≤ ver' ∧ (ver = ver' → cs'.length = cs.length ∧ mu' r = mu r ∧
    ∀ g cur e', mu r = some g → w.heap[g]? = some (.cells cur e' (0, 0)) → ∃ cur', w'.heap[g]? = some (.cells cur' e' (0, 0)) ∧ cur'.size = cur.size)
theorem Steps.of {M0 : MM} {H H' : Hp} {mu mu' : Nat → Option Nat} {w w' : World} (h : Turn M0 H mu w H' mu' w') (hn : ∀ s, H s = .none → H' s = .none ∨ s < TR) : Steps H mu w H' mu' w' :=
  ⟨hn, fun s cs hs => .inr (h.box s cs hs), fun r e sz ver cs hr => .inr (h.vec r e sz ver cs hr)⟩
theorem Steps.same {H : Hp} {mu : Nat → Option Nat} {w w' : World} (hb : ∀ s b, H s ≠ .none → mu s = some b → w'.heap[b]? = w.heap[b]?) : Steps H mu w H mu w' :=
  ⟨fun s hs => .inl hs, fun s cs hs => .inr ⟨⟨cs, hs⟩, rfl⟩, fun r e sz ver cs hr => .inr ⟨ver, cs, hr, Nat.le_refl _, fun _ => ⟨rfl, rfl, fun g cur e' hg hc => ⟨cur, (hb r g (by rw [hr]; simp) hg).trans hc, rfl⟩⟩⟩⟩
theorem Steps.trans {H0 H H' : Hp} {mu0 mu mu' : Nat → Option Nat} {w0 w w' : World} (fp : ∀ s, s < TR → H0 s = .none) (h : Steps H0 mu0 w0 H mu w) (k : Steps H mu w H' mu' w') : Steps H0 mu0 w0 H' mu' w' where
  no := fun s hs => (h.no s hs).elim (k.no s) .inr
  box := fun s cs hs => by
    have hge : ¬ s < TR := fun hlt => by rw [fp s hlt] at hs; cases hs
    rcases h.box s cs hs with h1 | ⟨⟨cs1, h1⟩, h2⟩
    · exact .inl ((k.no s h1).resolve_right hge)
    · rcases k.box s cs1 h1 with k1 | ⟨k1, k2⟩
      · exact .inl k1
      · exact .inr ⟨k1, k2.trans h2⟩
  vec := fun r e sz ver cs hr => by
    have hge : ¬ r < TR := fun hlt => by rw [fp r hlt] at hr; cases hr
    rcases h.vec r e sz ver cs hr with h1 | ⟨v1, c1, h1, h2, h3⟩
    · exact .inl ((k.no r h1).resolve_right hge)
    · rcases k.vec r e sz v1 c1 h1 with k1 | ⟨v2, c2, k1, k2, k3⟩
      · exact .inl k1
      · refine .inr ⟨v2, c2, k1, Nat.le_trans h2 k2, fun e1 => ?_⟩
        obtain ⟨a1, a2, a3⟩ := h3 (by omega)
        obtain ⟨b1, b2, b3⟩ := k3 (by omega)
        refine ⟨b1.trans a1, b2.trans a2, fun g cur e' hg hc => ?_⟩
        obtain ⟨cur1, q1, q2⟩ := a3 g cur e' hg hc
        obtain ⟨cur2, q3, q4⟩ := b3 g cur1 e' (a2.trans hg) q1
        exact ⟨cur2, q3, q4.trans q2⟩
theorem Stay.mut {M0 : MM} {H H' : Hp} {mu mu' : Nat → Option Nat} {w w' : World} (h : Stay (Named H mu) w (Named H' mu') w') : Stay (Mut M0 H mu) w (Mut M0 H' mu') w' :=
  fun a u h1 h2 => have ⟨g1, g2⟩ := h a u h1 fun h => h2 (.inr h); ⟨g1, fun h3 => h3.elim (fun h => h2 (.inl h)) g2⟩
theorem Turn.stay {M0 : MM} {H H' : Hp} {mu mu' : Nat → Option Nat} {w w' : World} (ht : Turn M0 H mu w H' mu' w') : Stay (Mut M0 H mu) w (Mut M0 H' mu') w' := ht.own.cell.mut
theorem LocRep.turn {M0 : MM} {H H' : Hp} {mu mu' : Nat → Option Nat} {w w' : World} (ht : Turn M0 H mu w H' mu' w') {v : Value} {s off : Nat} (h : LocRep H mu v s off) : LocRep H' mu' v s off := by
  obtain ⟨cs, b, h1, h2, rfl⟩ := h
  obtain ⟨⟨cs', h3⟩, h4⟩ := ht.box s cs h1
  exact ⟨cs', b, h3, h4.trans h2, rfl⟩
theorem SAL.turn {M0 : MM} {H H' : Hp} {mu mu' : Nat → Option Nat} {w w' : World} (ht : Turn M0 H mu w H' mu' w') {vs : List Value} {xs : List SA} (h : SAL M0 H mu w vs xs) : SAL M0 H' mu' w' vs xs :=
  ⟨h.1, fun j v x h1 h2 => by
    have := h.2 j v x h1 h2
    cases x with
    | d x => exact Rep.mono ht.stay this
    | loc s off => exact LocRep.turn ht this⟩
theorem SRep.turn {M0 : MM} {H H' : Hp} {mu mu' : Nat → Option Nat} {w w' : World} (ht : Turn M0 H mu w H' mu' w') {v : Value} {x : SV} (h : SRep M0 H mu w v x) : SRep M0 H' mu' w' v x := by
  cases x with
  | d x => exact Rep.mono ht.stay h
  | loc s off => exact LocRep.turn ht h
  | own r n cs =>
    obtain ⟨h0, e, size, k, h1, h2, h3⟩ := h
    obtain ⟨k', h4, h5, h6⟩ := ht.row r e size k h1
    refine ⟨Rep.mono ht.stay h0, e, size, k', h5, Nat.le_trans h2 h4, fun hk => ?_⟩
    obtain rfl : n = k := by omega
    obtain ⟨h7, h8⟩ := h6 hk.symm
    obtain ⟨h9, h3⟩ := h3 rfl
    refine ⟨h9, ?_⟩
    rcases h3 with ⟨a1, a2, a3⟩ | ⟨g, cap, cur, a1, a2, a3, a4, a5, a6⟩
    · exact .inl ⟨a1, a2, h7.trans a3⟩
    · exact .inr ⟨g, cap, cur, a1, h7.trans a2, (h8 g a2).trans a3, a4, a5, a6⟩
  | bs s off n cap =>
    obtain ⟨cs, b, h1, h2, rfl, h5⟩ := h
    obtain ⟨⟨cs', h3⟩, h4⟩ := ht.box s cs h1
    exact ⟨cs', b, h3, h4.trans h2, rfl, h5⟩
  | vec r ver n =>
    obtain ⟨h0, e, sz, ver1, cs, h1, h2, h3⟩ := h
    obtain ⟨ver2, cs2, k1, k2, k3⟩ := ht.vec r e sz ver1 cs h1
    refine ⟨h0, e, sz, ver2, cs2, k1, Nat.le_trans h2 k2, fun hv => ?_⟩
    obtain ⟨g1, g2⟩ := h3 (by omega)
    obtain ⟨q1, q2, q3⟩ := k3 (by omega)
    refine ⟨q1.trans g1, ?_⟩
    rcases g2 with ⟨a1, a2, a3⟩ | ⟨g, cap, cur, e', a1, a2, a3, a4, a5, a6⟩
    · exact .inl ⟨a1, a2, q2.trans a3⟩
    · obtain ⟨cur', p1, p2⟩ := q3 g cur e' a2 a3
      exact .inr ⟨g, cap, cur', e', a1, q2.trans a2, p1, a4, a5, p2.trans a6⟩
  | vptr r ver off =>
    obtain ⟨h0, e, sz, ver1, cs, h1, h2, h3⟩ := h
    obtain ⟨ver2, cs2, k1, k2, k3⟩ := ht.vec r e sz ver1 cs h1
    refine ⟨h0, e, sz, ver2, cs2, k1, Nat.le_trans h2 k2, fun hv => ?_⟩
    obtain ⟨g, g1, g2⟩ := h3 (by omega)
    obtain ⟨q1, q2, q3⟩ := k3 (by omega)
    exact ⟨g, q2.trans g1, g2⟩
  | clo g first cap =>
    obtain ⟨vs, us, h1, h2, h3⟩ := h
    exact ⟨vs, us, h1, h2.turn ht, h3.turn ht⟩
  | nil => exact h
  | yld l => exact h
  | trace l pre rest => trivial
  | stop => trivial
  | junk => trivial
/-- The datum that a slot's value is to others. -/
def SA.toD : SA → Option D
  | .d x => some x
  | .loc _ _ => none
def saDs : List SA → Option (List D)
  | [] => some []
  | x :: xs => match x.toD, saDs xs with
    | some d, some ds => some (d :: ds)
    | _, _ => none
def SV.toD : SV → Option D
  | .d x => some x
  | .own _ n cs => some (.sl n cs)
  | .nil => some (.sl 0 [])
  | _ => none
theorem SRep.toD {M0 : MM} {H : Hp} {mu : Nat → Option Nat} {w : World} {v : Value} {x : SV} {y : D} (h : SRep M0 H mu w v x) (hd : x.toD = some y) : Rep (Mut M0 H mu) w v y := by
  cases x with
  | d x => simp [SV.toD] at hd; subst hd; exact h
  | own r n cs => simp [SV.toD] at hd; subst hd; exact h.1
  | nil =>
    simp [SV.toD] at hd
    subst hd
    rw [show v = .slice none 0 0 from h]
    exact .sl none 0 0 [] [] (Nat.le_refl _) (fun _ => ⟨rfl, rfl, rfl⟩) (fun a e => by cases e) .nil
  | _ => simp [SV.toD] at hd
end Go.Proofs.YtefiebkngpcaoaaDoor
