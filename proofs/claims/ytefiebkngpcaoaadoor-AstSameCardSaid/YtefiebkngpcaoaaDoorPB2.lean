/- A pure logic of the model's code: pure data, how values in memory stand for it, and how that stays. No condition beyond each lemma's own. The state of a call under the pure logic, and how each kind of step turns it. No condition beyond each lemma's own. The state of a call under the pure logic: a store into a name's cells; a row that grows. No condition beyond each lemma's own. -/
import Derived.WalkKit
import Derived.WalkSpells
import Derived.WalkLawsBesides
import Derived.Deep.QuietTactic
import Derived.BigQuiet
import Derived.Lib.Hide
import Derived.Deep.LoopGhost
import Derived.Laws.AppendOwnNone
import Derived.Below
import Derived.CallsIn
import Derived.RangeFuncNested
set_option maxRecDepth 100000
set_option linter.unusedVariables false
set_option linter.unusedSimpArgs false
set_option linter.unusedSectionVars false
namespace Go.Proofs.YtefiebkngpcaoaaDoor
open Go.RowKit

/-- Pure data. -/
inductive D where
  | bool (b : Bool)
  | int (k : IntKind) (n : Int)
  | str (s : ByteArray)
  | nilp
  | nils
  | ep (cs : List D)
  | sl (n : Nat) (cs : List D)
  | fn (f : Fn) (first cap : List D)
  | nilf
  | agg (cs : List D)
  | tup (cs : List D)

/-- These cells lie there, each of one cell, none of those that may still be written. -/
def Cells (M : Addr → Prop) (w : World) (a : Addr) (us : List Value) : Prop :=
  (us ≠ [] → a.spot = none) ∧ ∀ j u, us[j]? = some u → w.cell? (a.add j) = some u ∧ ¬ M (a.add j) ∧ u.oneCell' = true

mutual
/-- A value stands for a datum. -/
inductive Rep (M : Addr → Prop) (w : World) : Value → D → Prop
  | bool (b : Bool) : Rep M w (.bool b) (.bool b)
  | int (k : IntKind) (n : Int) : Rep M w (.int k n) (.int k n)
  | str (s : ByteArray) : Rep M w (.string s) (.str s)
  | nilp : Rep M w (.pointer none) .nilp
  | nils : Rep M w (.slice none 0 0) .nils
  | ep (a : Addr) (us : List Value) (cs : List D) (h : Cells M w a us) (hr : RepL M w us cs) : Rep M w (.pointer (some a)) (.ep cs)
  | sl (p : Option Addr) (n cap : Nat) (us : List Value) (cs : List D) (hn : n ≤ cap) (hz : p = none → n = 0 ∧ cap = 0 ∧ us = [])
      (h : ∀ a, p = some a → Cells M w a us) (hr : RepL M w us cs) : Rep M w (.slice p n cap) (.sl n cs)
  | fn (f : Fn) (vs us : Array Value) (ds es : List D) (h1 : RepL M w vs.toList ds) (h2 : RepL M w us.toList es) : Rep M w (.func f vs us) (.fn f ds es)
  | nilf : Rep M w .nilFunc .nilf
  | agg (vs : Array Value) (ds : List D) (h : RepL M w vs.toList ds) (h1 : ∀ v ∈ vs.toList, v.oneCell' = true) : Rep M w (.agg vs) (.agg ds)
  | tup (vs : Array Value) (ds : List D) (h : RepL M w vs.toList ds) : Rep M w (.tuple vs) (.tup ds)
inductive RepL (M : Addr → Prop) (w : World) : List Value → List D → Prop
  | nil : RepL M w [] []
  | cons (v : Value) (d : D) (vs : List Value) (ds : List D) (h : Rep M w v d) (t : RepL M w vs ds) : RepL M w (v :: vs) (d :: ds)
end

/-- What may not be written any more stays. -/
def Stay (M : Addr → Prop) (w : World) (M' : Addr → Prop) (w' : World) : Prop :=
  ∀ a u, w.cell? a = some u → ¬ M a → w'.cell? a = some u ∧ ¬ M' a

theorem Cells.mono {M M' : Addr → Prop} {w w' : World} {a : Addr} {us : List Value} (hs : Stay M w M' w') (h : Cells M w a us) : Cells M' w' a us :=
  ⟨h.1, fun j u hu => have ⟨h1, h2, h3⟩ := h.2 j u hu; have ⟨k1, k2⟩ := hs _ _ h1 h2; ⟨k1, k2, h3⟩⟩
mutual
theorem Rep.mono {M M' : Addr → Prop} {w w' : World} (hs : Stay M w M' w') : ∀ {v : Value} {d : D}, Rep M w v d → Rep M' w' v d
  | _, _, .bool b => .bool b
  | _, _, .int k n => .int k n
  | _, _, .str s => .str s
  | _, _, .nilp => .nilp
  | _, _, .nils => .nils
  | _, _, .ep a us cs h hr => .ep a us cs (h.mono hs) (RepL.mono hs hr)
  | _, _, .sl p n cap us cs hn hz h hr => .sl p n cap us cs hn hz (fun a ha => (h a ha).mono hs) (RepL.mono hs hr)
  | _, _, .fn f vs us ds es h1 h2 => .fn f vs us ds es (RepL.mono hs h1) (RepL.mono hs h2)
  | _, _, .nilf => .nilf
  | _, _, .agg vs ds h h1 => .agg vs ds (RepL.mono hs h) h1
  | _, _, .tup vs ds h => .tup vs ds (RepL.mono hs h)
theorem RepL.mono {M M' : Addr → Prop} {w w' : World} (hs : Stay M w M' w') : ∀ {vs : List Value} {ds : List D}, RepL M w vs ds → RepL M' w' vs ds
  | _, _, .nil => .nil
  | _, _, .cons v d vs ds h t => .cons v d vs ds (Rep.mono hs h) (RepL.mono hs t)
end
theorem RepL.length {M : Addr → Prop} {w : World} : ∀ {vs : List Value} {ds : List D}, RepL M w vs ds → vs.length = ds.length
  | _, _, .nil => rfl
  | _, _, .cons _ _ _ _ _ t => by simp [RepL.length t]
theorem RepL.get {M : Addr → Prop} {w : World} : ∀ {vs : List Value} {ds : List D}, RepL M w vs ds → ∀ {j : Nat} {d : D}, ds[j]? = some d → ∃ v, vs[j]? = some v ∧ Rep M w v d
  | _, _, .nil, j, d, h => by simp at h
  | _, _, .cons v d' vs ds h t, 0, d, hj => by simp at hj; subst hj; exact ⟨v, rfl, h⟩
  | _, _, .cons v d' vs ds h t, j + 1, d, hj => by simp at hj; simpa using RepL.get t hj
theorem RepL.getV {M : Addr → Prop} {w : World} : ∀ {vs : List Value} {ds : List D}, RepL M w vs ds → ∀ {j : Nat} {v : Value}, vs[j]? = some v → ∃ d, ds[j]? = some d ∧ Rep M w v d
  | _, _, .nil, j, d, h => by simp at h
  | _, _, .cons v d' vs ds h t, 0, d, hj => by simp at hj; subst hj; exact ⟨d', rfl, h⟩
  | _, _, .cons v d' vs ds h t, j + 1, d, hj => by simp at hj; simpa using RepL.getV t hj
theorem RepL.of {M : Addr → Prop} {w : World} : ∀ {vs : List Value} {ds : List D}, vs.length = ds.length → (∀ (j : Nat) (v : Value) (d : D), vs[j]? = some v → ds[j]? = some d → Rep M w v d) → RepL M w vs ds
  | [], [], _, _ => .nil
  | v :: vs, d :: ds, hl, h => .cons _ _ _ _ (h 0 v d rfl rfl) (RepL.of (by simpa using hl) fun j v d h1 h2 => h (j + 1) v d (by simpa using h1) (by simpa using h2))
  | [], _ :: _, hl, _ => by simp at hl
  | _ :: _, [], hl, _ => by simp at hl
theorem RepL.append {M : Addr → Prop} {w : World} {vs us : List Value} {ds es : List D} (h : RepL M w vs ds) (h' : RepL M w us es) : RepL M w (vs ++ us) (ds ++ es) := by
  match vs, ds, h with
  | _, _, .nil => exact h'
  | _, _, .cons v d vs ds h t => exact .cons _ _ _ _ h (RepL.append t h')
theorem RepL.take {M : Addr → Prop} {w : World} {vs : List Value} {ds : List D} (h : RepL M w vs ds) (k : Nat) : RepL M w (vs.take k) (ds.take k) := by
  match vs, ds, h, k with
  | _, _, .nil, k => simpa using RepL.nil
  | _, _, .cons v d vs ds h t, 0 => exact .nil
  | _, _, .cons v d vs ds h t, k + 1 => exact .cons _ _ _ _ h (RepL.take t k)
theorem RepL.drop {M : Addr → Prop} {w : World} {vs : List Value} {ds : List D} (h : RepL M w vs ds) (k : Nat) : RepL M w (vs.drop k) (ds.drop k) := by
  match vs, ds, h, k with
  | _, _, .nil, k => simpa using RepL.nil
  | _, _, .cons v d vs ds h t, 0 => exact .cons _ _ _ _ h t
  | _, _, .cons v d vs ds h t, k + 1 => exact RepL.drop t k

theorem Addr.add_plain {a : Addr} (h : a.spot = none) (j : Nat) : a.add j = ⟨a.block, a.off + j, none⟩ := by
  obtain ⟨b, o, s⟩ := a
  simp at h
  subst h
  unfold Addr.add
  split <;> simp_all
theorem Cells.drop {M : Addr → Prop} {w : World} {a : Addr} {us : List Value} (h : Cells M w a us) (k : Nat) : Cells M w (a.add k) (us.drop k) := by
  by_cases hk : us.drop k = []
  · exact ⟨fun h => absurd hk h, fun j u hu => by simp [hk] at hu⟩
  have h0 : us ≠ [] := fun e => hk (by simp [e])
  have e := Addr.add_plain (h.1 h0)
  refine ⟨fun _ => by rw [e], fun j u hu => ?_⟩
  have := h.2 (k + j) u (by simpa using hu)
  rwa [Addr.add_plain (by rw [e]), e, Nat.add_assoc, ← e]
theorem Cells.take {M : Addr → Prop} {w : World} {a : Addr} {us : List Value} (h : Cells M w a us) (k : Nat) : Cells M w a (us.take k) :=
  ⟨fun h0 => h.1 fun e => h0 (by simp [e]), fun j u hu => h.2 j u (by rw [List.getElem?_take] at hu; split at hu; exact hu; cases hu)⟩
theorem cells_lt {M : Addr → Prop} {w : World} {a : Addr} {us : List Value} (h : Cells M w a us) (h0 : us ≠ []) : a.block < w.heap.size := by
  cases us with
  | nil => exact absurd rfl h0
  | cons u us =>
    exact World.block_lt_of_cell? w _ (h.2 0 u rfl).1

/-- The program's tables: what its package-level variables hold, by their numbers. -/
def gt_words : List D := [.str ⟨#[97, 116, 111, 109, 105, 99]⟩, .str ⟨#[99, 111, 117, 112, 108, 101, 100]⟩, .str ⟨#[114, 111, 111, 116]⟩, .str ⟨#[105, 110]⟩, .str ⟨#[111, 117, 116]⟩, .str ⟨#[118, 97, 114]⟩, .str ⟨#[116, 97]⟩, .str ⟨#[101, 109, 105, 116]⟩, .str ⟨#[105, 110, 116]⟩, .str ⟨#[98, 111, 111, 108]⟩, .str ⟨#[115, 121, 109]⟩, .str ⟨#[101, 120, 116]⟩, .str ⟨#[99, 111, 110]⟩, .str ⟨#[112, 97, 114, 116]⟩, .str ⟨#[108, 105, 110, 107]⟩, .str ⟨#[114, 117, 108, 101]⟩, .str ⟨#[97, 100, 100]⟩, .str ⟨#[100, 114, 111, 112]⟩, .str ⟨#[116, 105, 101]⟩, .str ⟨#[99, 117, 116]⟩, .str ⟨#[105, 102]⟩, .str ⟨#[116, 104, 101, 110]⟩, .str ⟨#[101, 108, 115, 101]⟩, .str ⟨#[97, 110, 100]⟩, .str ⟨#[111, 114]⟩, .str ⟨#[110, 111, 116]⟩, .str ⟨#[116, 114, 117, 101]⟩, .str ⟨#[102, 97, 108, 115, 101]⟩, .str ⟨#[99, 111, 117, 110, 116]⟩, .str ⟨#[104, 97, 115]⟩, .str ⟨#[115, 117, 109]⟩, .str ⟨#[108, 101, 97, 115, 116]⟩, .str ⟨#[101, 108, 97, 112, 115, 101, 100]⟩]

def gtab : List (Nat × List D) := [(0, gt_words)]
def gcells (g : Nat) : Option (List D) := (gtab.find? fun p => p.1 == g).map (·.2)
/-- The tables lie there, and nobody writes them. -/
def Globs (M : Addr → Prop) (w : World) : Prop := ∀ g cs, gcells g = some cs → Rep M w (.pointer (some ⟨g, 0, none⟩)) (.ep cs)
theorem Globs.mono {M M' : Addr → Prop} {w w' : World} (h : Globs M w) (hs : Stay M w M' w') : Globs M' w' := fun g cs hg => (h g cs hg).mono hs
theorem Globs.iff {M M' : Addr → Prop} {w : World} (h : Globs M w) (hs : ∀ x, M' x → M x) : Globs M' w := h.mono fun a u h1 h2 => ⟨h1, fun h3 => h2 (hs a h3)⟩

/-- What only the cells that may be written, their blocks and what is new tells apart. -/
structure Keep (M : Addr → Prop) (w : World) (M' : Addr → Prop) (w' : World) : Prop where
  os : w'.os = w.os
  tape : w'.tape = w.tape
  output : w'.output = w.output
  size : w.heap.size ≤ w'.heap.size
  cell : Stay M w M' w'
  blk : ∀ b, b < w.heap.size → (∀ a : Addr, a.block = b → ¬ M a) → w'.heap[b]? = w.heap[b]? ∧ ∀ a : Addr, a.block = b → ¬ M' a
theorem Keep.refl (M : Addr → Prop) (w : World) : Keep M w M w := ⟨rfl, rfl, rfl, Nat.le_refl _, fun _ _ h1 h2 => ⟨h1, h2⟩, fun _ _ h => ⟨rfl, h⟩⟩
theorem Keep.trans {M M' M'' : Addr → Prop} {w w' w'' : World} (h : Keep M w M' w') (k : Keep M' w' M'' w'') : Keep M w M'' w'' where
  os := k.os.trans h.os
  tape := k.tape.trans h.tape
  output := k.output.trans h.output
  size := Nat.le_trans h.size k.size
  cell := fun a u h1 h2 => have ⟨g1, g2⟩ := h.cell a u h1 h2; k.cell a u g1 g2
  blk := fun b hb hm => have ⟨g1, g2⟩ := h.blk b hb hm; have ⟨k1, k2⟩ := k.blk b (Nat.lt_of_lt_of_le hb h.size) g2; ⟨k1.trans g1, k2⟩
/-- Fewer cells may be written. -/
theorem Keep.fewer {M M' M'' : Addr → Prop} {w w' : World} (h : Keep M w M' w') (hm : ∀ a, M'' a → M' a) : Keep M w M'' w' :=
  { h with cell := fun a u h1 h2 => have ⟨g1, g2⟩ := h.cell a u h1 h2; ⟨g1, fun k => g2 (hm a k)⟩, blk := fun b hb h2 => have ⟨g1, g2⟩ := h.blk b hb h2; ⟨g1, fun a ha k => g2 a ha (hm a k)⟩ }
/-- A world that only grows. -/
theorem Keep.below {M : Addr → Prop} {w w' : World} (h : Below w.heap.size w w') : Keep M w M w' :=
  ⟨h.os, h.tape, h.output, h.size, fun a u h1 h2 => ⟨(World.cell?_of_block (h.block _ (World.block_lt_of_cell? w a h1))).trans h1, h2⟩, fun b hb h2 => ⟨h.block b hb, h2⟩⟩

/-- What a closure has taken with it: data, a pointer to a name's cells. -/
inductive SA where
  | d (x : D)
  | loc (s off : Nat)
/-- What a slot holds. -/
inductive SV where
  | d (x : D)
  | loc (s off : Nat)
  | own (r n : Nat) (cs : List D)
  | bs (s off n cap : Nat)
  | vec (r ver n : Nat)
  | vptr (r ver off : Nat)
  | clo (f : Fn) (first cap : List SA)
  | nil
  | yld (l : Nat)
  | trace (l : Nat) (pre rest : List (List D))
  | stop
  | junk
/-- What a name of the call's own memory stands for. -/
inductive HO where
  | none
  | box (cs : List SV)
  | row (e : TypeId) (size n : Nat)
  | vec (e : TypeId) (size ver : Nat) (cs : List SV)
abbrev Frm := Nat → SV
abbrev Hp := Nat → HO
def upd (f : Frm) (t : Nat) (v : SV) : Frm := fun u => if u = t then v else f u
def hup (H : Hp) (t : Nat) (v : HO) : Hp := fun u => if u = t then v else H u
/-- The slot of what an iterator has handed out; no slot of any frame. -/
abbrev TR : Nat := 1000000

/-- The cells that others may write: the caller's; those of iterators that were gone through. -/
structure MM where
  c : Addr → Prop
  x : Addr → Prop
def MM.all (M : MM) (a : Addr) : Prop := M.c a ∨ M.x a
/-- The cells of the names that may still be written. -/
def Named (H : Hp) (mu : Nat → Option Nat) (a : Addr) : Prop :=
  ∃ s, match H s with
    | .none => False
    | .box _ => mu s = some a.block
    | .row _ size n => mu s = some a.block ∧ n * size ≤ a.off
    | .vec _ _ _ _ => mu s = some a.block
/-- The cells that may still be written. -/
def Mut (M0 : MM) (H : Hp) (mu : Nat → Option Nat) (a : Addr) : Prop := M0.all a ∨ Named H mu a

/-- v is the one slice that owns what lies behind its elements. -/
def Owner (mu : Nat → Option Nat) (w : World) (r : Nat) (v : Value) (e : TypeId) (size n : Nat) : Prop :=
  (v = .slice none 0 0 ∧ n = 0 ∧ mu r = none) ∨
  ∃ g cap cur, v = .slice (some ⟨g, 0, none⟩) n cap ∧ mu r = some g ∧ w.heap[g]? = some (.cells cur e (0, 0)) ∧ n ≤ cap ∧ cap ≤ maxLen ∧ cur.size = cap * size ∧ ∀ u ∈ cur.toList, u.oneCell' = true

/-- v is the one slice of a name's cells that are written here and there. -/
def VOwn (mu : Nat → Option Nat) (w : World) (r : Nat) (v : Value) (size n : Nat) : Prop :=
  (v = .slice none 0 0 ∧ n = 0 ∧ mu r = none) ∨
  ∃ g cap cur e, v = .slice (some ⟨g, 0, none⟩) n cap ∧ mu r = some g ∧ w.heap[g]? = some (.cells cur e (0, 0)) ∧ n ≤ cap ∧ cap ≤ maxLen ∧ cur.size = cap * size
def VecRep (H : Hp) (mu : Nat → Option Nat) (w : World) (v : Value) (r ver n : Nat) : Prop := (∃ p cap, v = .slice p n cap ∧ (p = none → n = 0)) ∧ ∃ e sz ver' cs, H r = .vec e sz ver' cs ∧ ver ≤ ver' ∧ (ver = ver' → cs.length = n * sz ∧ VOwn mu w r v sz n)
def VPtr (H : Hp) (mu : Nat → Option Nat) (v : Value) (r ver off : Nat) : Prop := (∃ x, v = .pointer (some x)) ∧ ∃ e sz ver' cs, H r = .vec e sz ver' cs ∧ ver ≤ ver' ∧ (ver = ver' → ∃ g, mu r = some g ∧ v = .pointer (some ⟨g, off, none⟩))
def LocRep (H : Hp) (mu : Nat → Option Nat) (v : Value) (s off : Nat) : Prop := ∃ cs b, H s = .box cs ∧ mu s = some b ∧ v = .pointer (some ⟨b, off, none⟩)
def SARep (M0 : MM) (H : Hp) (mu : Nat → Option Nat) (w : World) (v : Value) : SA → Prop
  | .d x => Rep (Mut M0 H mu) w v x
  | .loc s off => LocRep H mu v s off
def SAL (M0 : MM) (H : Hp) (mu : Nat → Option Nat) (w : World) (vs : List Value) (xs : List SA) : Prop :=
  vs.length = xs.length ∧ ∀ (j : Nat) (v : Value) (x : SA), vs[j]? = some v → xs[j]? = some x → SARep M0 H mu w v x
def SRep (M0 : MM) (H : Hp) (mu : Nat → Option Nat) (w : World) (v : Value) : SV → Prop
  | .d x => Rep (Mut M0 H mu) w v x
  | .loc s off => LocRep H mu v s off
  | .own r n cs => Rep (Mut M0 H mu) w v (.sl n cs) ∧ ∃ e size k, H r = .row e size k ∧ n ≤ k ∧ (n = k → cs.length = n * size ∧ Owner mu w r v e size n)
  | .bs s off n cap => ∃ cs b, H s = .box cs ∧ mu s = some b ∧ v = .slice (some ⟨b, off, none⟩) n cap ∧ n ≤ cap
  | .vec r ver n => VecRep H mu w v r ver n
  | .vptr r ver off => VPtr H mu v r ver off
  | .clo g first cap => ∃ vs us : Array Value, v = .func g vs us ∧ SAL M0 H mu w vs.toList first ∧ SAL M0 H mu w us.toList cap
  | .nil => v = .slice none 0 0
  | .yld l => v = .func (.yield l) #[] #[]
  | .trace _ _ _ => True
  | .stop => True
  | .junk => True

/-- How memory may turn under the slots. -/
structure Turn (M0 : MM) (H : Hp) (mu : Nat → Option Nat) (w : World) (H' : Hp) (mu' : Nat → Option Nat) (w' : World) : Prop where
  own : Keep (Named H mu) w (Named H' mu') w'
  box : ∀ s cs, H s = .box cs → (∃ cs', H' s = .box cs') ∧ mu' s = mu s
  row : ∀ r e size k, H r = .row e size k → ∃ k', k ≤ k' ∧ H' r = .row e size k' ∧ (k' = k → mu' r = mu r ∧ ∀ g, mu r = some g → w'.heap[g]? = w.heap[g]?)
  vec : ∀ r e sz ver cs, H r = .vec e sz ver cs → ∃ ver' cs', H' r = .vec e sz ver' cs' ∧ ver ≤ ver' ∧ (ver = ver' → cs'.length = cs.length ∧ mu' r = mu r ∧
    ∀ g cur e', mu r = some g → w.heap[g]? = some (.cells cur e' (0, 0)) → ∃ cur', w'.heap[g]? = some (.cells cur' e' (0, 0)) ∧ cur'.size = cur.size)
/-- How names may turn, seen from their start: what was laid stays what it is, or is no more told of. -/
structure Steps (H : Hp) (mu : Nat → Option Nat) (w : World) (H' : Hp) (mu' : Nat → Option Nat) (w' : World) : Prop where
  no : ∀ s, H s = .none → H' s = .none ∨ s < TR
  box : ∀ s cs, H s = .box cs → H' s = .none ∨ ((∃ cs', H' s = .box cs') ∧ mu' s = mu s)
  vec : ∀ r e sz ver cs, H r = .vec e sz ver cs → H' r = .none ∨ ∃ ver' cs', H' r = .vec e sz ver' cs' ∧ ver ≤ ver' ∧ (ver = ver' → cs'.length = cs.length ∧ mu' r = mu r ∧
    ∀ g cur e', mu r = some g → w.heap[g]? = some (.cells cur e' (0, 0)) → ∃ cur', w'.heap[g]? = some (.cells cur' e' (0, 0)) ∧ cur'.size = cur.size)
theorem Steps.of {M0 : MM} {H H' : Hp} {mu mu' : Nat → Option Nat} {w w' : World} (h : Turn M0 H mu w H' mu' w') (hn : ∀ s, H s = .none → H' s = .none ∨ s < TR) : Steps H mu w H' mu' w' :=
  ⟨hn, fun s cs hs => .inr (h.box s cs hs), fun r e sz ver cs hr => .inr (h.vec r e sz ver cs hr)⟩
theorem Steps.same {H : Hp} {mu : Nat → Option Nat} {w w' : World} (hb : ∀ s b, H s ≠ .none → mu s = some b → w'.heap[b]? = w.heap[b]?) : Steps H mu w H mu w' :=
  ⟨fun s hs => .inl hs, fun s cs hs => .inr ⟨⟨cs, hs⟩, rfl⟩, fun r e sz ver cs hr => .inr ⟨ver, cs, hr, Nat.le_refl _, fun _ => ⟨rfl, rfl, fun g cur e' hg hc => ⟨cur, (hb r g (by rw [hr]; simp) hg).trans hc, rfl⟩⟩⟩⟩
theorem Steps.trans {H0 H H' : Hp} {mu0 mu mu' : Nat → Option Nat} {w0 w w' : World} (fp : ∀ s, s < TR → H0 s = .none) (h : Steps H0 mu0 w0 H mu w) (k : Steps H mu w H' mu' w') : Steps H0 mu0 w0 H' mu' w' where
  no := fun s hs => (h.no s hs).elim (k.no s) .inr
  box := fun s cs hs => by
    have hge : ¬ s < TR := fun hlt => by rw [fp s hlt] at hs; cases hs
    rcases h.box s cs hs with h1 | ⟨⟨cs1, h1⟩, h2⟩
    · exact .inl ((k.no s h1).resolve_right hge)
    · rcases k.box s cs1 h1 with k1 | ⟨k1, k2⟩
      · exact .inl k1
      · exact .inr ⟨k1, k2.trans h2⟩
  vec := fun r e sz ver cs hr => by
    have hge : ¬ r < TR := fun hlt => by rw [fp r hlt] at hr; cases hr
    rcases h.vec r e sz ver cs hr with h1 | ⟨v1, c1, h1, h2, h3⟩
    · exact .inl ((k.no r h1).resolve_right hge)
    · rcases k.vec r e sz v1 c1 h1 with k1 | ⟨v2, c2, k1, k2, k3⟩
      · exact .inl k1
      · refine .inr ⟨v2, c2, k1, Nat.le_trans h2 k2, fun e1 => ?_⟩
        obtain ⟨a1, a2, a3⟩ := h3 (by omega)
        obtain ⟨b1, b2, b3⟩ := k3 (by omega)
        refine ⟨b1.trans a1, b2.trans a2, fun g cur e' hg hc => ?_⟩
        obtain ⟨cur1, q1, q2⟩ := a3 g cur e' hg hc
        obtain ⟨cur2, q3, q4⟩ := b3 g cur1 e' (a2.trans hg) q1
        exact ⟨cur2, q3, q4.trans q2⟩
theorem Stay.mut {M0 : MM} {H H' : Hp} {mu mu' : Nat → Option Nat} {w w' : World} (h : Stay (Named H mu) w (Named H' mu') w') : Stay (Mut M0 H mu) w (Mut M0 H' mu') w' :=
  fun a u h1 h2 => have ⟨g1, g2⟩ := h a u h1 fun h => h2 (.inr h); ⟨g1, fun h3 => h3.elim (fun h => h2 (.inl h)) g2⟩
theorem Turn.stay {M0 : MM} {H H' : Hp} {mu mu' : Nat → Option Nat} {w w' : World} (ht : Turn M0 H mu w H' mu' w') : Stay (Mut M0 H mu) w (Mut M0 H' mu') w' := ht.own.cell.mut
theorem LocRep.turn {M0 : MM} {H H' : Hp} {mu mu' : Nat → Option Nat} {w w' : World} (ht : Turn M0 H mu w H' mu' w') {v : Value} {s off : Nat} (h : LocRep H mu v s off) : LocRep H' mu' v s off := by
  obtain ⟨cs, b, h1, h2, rfl⟩ := h
  obtain ⟨⟨cs', h3⟩, h4⟩ := ht.box s cs h1
  exact ⟨cs', b, h3, h4.trans h2, rfl⟩
theorem SAL.turn {M0 : MM} {H H' : Hp} {mu mu' : Nat → Option Nat} {w w' : World} (ht : Turn M0 H mu w H' mu' w') {vs : List Value} {xs : List SA} (h : SAL M0 H mu w vs xs) : SAL M0 H' mu' w' vs xs :=
  ⟨h.1, fun j v x h1 h2 => by
    have := h.2 j v x h1 h2
    cases x with
    | d x => exact Rep.mono ht.stay this
    | loc s off => exact LocRep.turn ht this⟩
theorem SRep.turn {M0 : MM} {H H' : Hp} {mu mu' : Nat → Option Nat} {w w' : World} (ht : Turn M0 H mu w H' mu' w') {v : Value} {x : SV} (h : SRep M0 H mu w v x) : SRep M0 H' mu' w' v x := by
  cases x with
  | d x => exact Rep.mono ht.stay h
  | loc s off => exact LocRep.turn ht h
  | own r n cs =>
    obtain ⟨h0, e, size, k, h1, h2, h3⟩ := h
    obtain ⟨k', h4, h5, h6⟩ := ht.row r e size k h1
    refine ⟨Rep.mono ht.stay h0, e, size, k', h5, Nat.le_trans h2 h4, fun hk => ?_⟩
    obtain rfl : n = k := by omega
    obtain ⟨h7, h8⟩ := h6 hk.symm
    obtain ⟨h9, h3⟩ := h3 rfl
    refine ⟨h9, ?_⟩
    rcases h3 with ⟨a1, a2, a3⟩ | ⟨g, cap, cur, a1, a2, a3, a4, a5, a6⟩
    · exact .inl ⟨a1, a2, h7.trans a3⟩
    · exact .inr ⟨g, cap, cur, a1, h7.trans a2, (h8 g a2).trans a3, a4, a5, a6⟩
  | bs s off n cap =>
    obtain ⟨cs, b, h1, h2, rfl, h5⟩ := h
    obtain ⟨⟨cs', h3⟩, h4⟩ := ht.box s cs h1
    exact ⟨cs', b, h3, h4.trans h2, rfl, h5⟩
  | vec r ver n =>
    obtain ⟨h0, e, sz, ver1, cs, h1, h2, h3⟩ := h
    obtain ⟨ver2, cs2, k1, k2, k3⟩ := ht.vec r e sz ver1 cs h1
    refine ⟨h0, e, sz, ver2, cs2, k1, Nat.le_trans h2 k2, fun hv => ?_⟩
    obtain ⟨g1, g2⟩ := h3 (by omega)
    obtain ⟨q1, q2, q3⟩ := k3 (by omega)
    refine ⟨q1.trans g1, ?_⟩
    rcases g2 with ⟨a1, a2, a3⟩ | ⟨g, cap, cur, e', a1, a2, a3, a4, a5, a6⟩
    · exact .inl ⟨a1, a2, q2.trans a3⟩
    · obtain ⟨cur', p1, p2⟩ := q3 g cur e' a2 a3
      exact .inr ⟨g, cap, cur', e', a1, q2.trans a2, p1, a4, a5, p2.trans a6⟩
  | vptr r ver off =>
    obtain ⟨h0, e, sz, ver1, cs, h1, h2, h3⟩ := h
    obtain ⟨ver2, cs2, k1, k2, k3⟩ := ht.vec r e sz ver1 cs h1
    refine ⟨h0, e, sz, ver2, cs2, k1, Nat.le_trans h2 k2, fun hv => ?_⟩
    obtain ⟨g, g1, g2⟩ := h3 (by omega)
    obtain ⟨q1, q2, q3⟩ := k3 (by omega)
    exact ⟨g, q2.trans g1, g2⟩
  | clo g first cap =>
    obtain ⟨vs, us, h1, h2, h3⟩ := h
    exact ⟨vs, us, h1, h2.turn ht, h3.turn ht⟩
  | nil => exact h
  | yld l => exact h
  | trace l pre rest => trivial
  | stop => trivial
  | junk => trivial
/-- The datum that a slot's value is to others. -/
def SA.toD : SA → Option D
  | .d x => some x
  | .loc _ _ => none
def saDs : List SA → Option (List D)
  | [] => some []
  | x :: xs => match x.toD, saDs xs with
    | some d, some ds => some (d :: ds)
    | _, _ => none
def SV.toD : SV → Option D
  | .d x => some x
  | .own _ n cs => some (.sl n cs)
  | .nil => some (.sl 0 [])
  | _ => none
theorem SRep.toD {M0 : MM} {H : Hp} {mu : Nat → Option Nat} {w : World} {v : Value} {x : SV} {y : D} (h : SRep M0 H mu w v x) (hd : x.toD = some y) : Rep (Mut M0 H mu) w v y := by
  cases x with
  | d x => simp [SV.toD] at hd; subst hd; exact h
  | own r n cs => simp [SV.toD] at hd; subst hd; exact h.1
  | nil =>
    simp [SV.toD] at hd
    subst hd
    rw [show v = .slice none 0 0 from h]
    exact .sl none 0 0 [] [] (Nat.le_refl _) (fun _ => ⟨rfl, rfl, rfl⟩) (fun a e => by cases e) .nil
  | _ => simp [SV.toD] at hd
end Go.Proofs.YtefiebkngpcaoaaDoor
namespace Go.Proofs.YtefiebkngpcaoaaDoor
open Go.RowKit

/-- Old blocks that were not handed in by name lie as they lay. -/
structure BelowX (foot : Nat → Prop) (w w' : World) : Prop where
  os : w'.os = w.os
  tape : w'.tape = w.tape
  output : w'.output = w.output
  size : w.heap.size ≤ w'.heap.size
  block : ∀ k, k < w.heap.size → ¬ foot k → w'.heap[k]? = w.heap[k]?
theorem BelowX.refl (foot : Nat → Prop) (w : World) : BelowX foot w w := ⟨rfl, rfl, rfl, Nat.le_refl _, fun _ _ _ => rfl⟩
theorem BelowX.below {foot : Nat → Prop} {w w' : World} (h : BelowX foot w w') (hf : ∀ k, ¬ foot k) : Below w.heap.size w w' := ⟨h.os, h.tape, h.output, h.size, fun k hk => h.block k hk (hf k)⟩

/-- A call of yield: a round; whether it goes on. -/
def YieldGo (P : Program) (l : Nat) (args : Array Value) (W : World) (R : Bool → World → Prop) : Prop :=
  ∃ fn tmps assign body, (Instr.yield l args).run P W = .ok (.round l fn tmps assign body) W ∧ RoundIn Fence.wide 0 P l fn tmps assign body W fun e W' => ∃ b, e = .returned (.bool b) ∧ R b W'
/-- What stands around a call: the world at its start; the blocks handed in by name; whether old blocks stay; since when what is asked to be kept; what others' cells there were then; the slots that stay; the round; what those who are told of an iterator's parts have told. -/
structure Ctx where
  P : Program
  w : World
  foot : Nat → Prop
  pure : Prop
  c0 : Addr → Prop
  R : Addr → Prop
  w1 : World
  X : Addr → Prop
  fix : Nat → Bool
  tm : Array Value
  ro : Option Nat
  H0 : Hp
  mu0 : Nat → Option Nat
  fp : ∀ s, s < TR → H0 s = .none
  J : Nat → List (List D) → List (List D) → (Addr → Prop) → (Addr → Prop) → World → Prop
  Jx : (Addr → Prop) → (Addr → Prop) → World → Prop
  jst : ∀ l pre rest Mc Mi Mi' w w', J l pre rest Mc Mi w → Keep Mi w Mi' w' → (∀ x, Mi' x → x.block < w'.heap.size) → J l pre rest Mc Mi' w'
  jxst : ∀ Mc Mi Mi' w w', Jx Mc Mi w → Keep Mi w Mi' w' → (∀ x, Mi' x → x.block < w'.heap.size) → Jx Mc Mi' w'
  hy : ∀ l pre x rest Mc Mi W (args : Array Value), J l pre (x :: rest) Mc Mi W → RepL (fun a => Mc a ∨ Mi a) W args.toList x →
    YieldGo P l args W fun b W' => ∃ Mc', Keep Mc W Mc' W' ∧ (∀ x, Mc' x → x.block < W'.heap.size) ∧ if b then J l (pre ++ [x]) rest Mc' Mi W' else Jx Mc' Mi W'
/-- What an iterator may write. -/
def Mine (M0 : MM) (H : Hp) (mu : Nat → Option Nat) (a : Addr) : Prop := M0.x a ∨ Named H mu a
/-- The marks of the loops over iterators. -/
def MarkOk (M0 : MM) (C : Ctx) (w : World) (d : Deferred) : Prop :=
  ∃ D, d = { target := .collected D, args := #[] } ∧ C.w.heap.size ≤ D ∧ w.heap[D]? = some (.deferred (some [])) ∧ ∀ y : Addr, y.block = D → M0.x y
/-- What may have turned since. -/
def MN (C : Ctx) (M0 : MM) (H : Hp) (mu : Nat → Option Nat) (y : Addr) : Prop := M0.c y ∨ Named H mu y ∨ (M0.x y ∧ C.w1.heap.size ≤ y.block)

structure StM (N : Nat) (M0 : MM) (C : Ctx) (f : Frm) (H : Hp) (mu : Nat → Option Nat) (a : Act) (w : World) : Prop where
  marks : ∀ d ∈ a.defers, MarkOk M0 C w d
  nodup : a.defers.Nodup
  rdef : C.ro ≠ Option.none → a.defers = []
  size : a.tmps.size = N
  nle : N ≤ TR
  slots : ∀ t, t < N → SRep M0 H mu w (a.tmps.getD t undef) (f t)
  base : C.w.heap.size ≤ w.heap.size
  osq : w.os = C.w.os ∧ w.tape = C.w.tape ∧ w.output = C.w.output
  below : C.pure → BelowX C.foot C.w w
  cp : C.pure → M0.c = C.c0
  keep : Keep C.R C.w1 (MN C M0 H mu) w
  xeq : ∀ y : Addr, y.block < C.w1.heap.size → (M0.x y ↔ C.X y)
  xc : ∀ x, M0.x x → ∀ y : Addr, y.block = x.block → ¬ M0.c y
  old : ∀ x, M0.all x → x.block < w.heap.size
  sep : ∀ s b, H s ≠ .none → mu s = some b → ∀ x : Addr, x.block = b → ¬ M0.all x
  box : ∀ s cs, H s = .box cs → ∃ b arr e, mu s = some b ∧ (C.w.heap.size ≤ b ∨ C.foot b) ∧ w.heap[b]? = some (.cells arr e (0, 0)) ∧ arr.size = cs.length ∧
    ∀ j x, cs[j]? = some x → SRep M0 H mu w (arr.getD j undef) x ∧ (arr.getD j undef).oneCell' = true
  row : ∀ r e size k, H r = .row e size k → mu r = none ∨ ∃ g, mu r = some g ∧ C.w.heap.size ≤ g ∧ g < w.heap.size
  vec : ∀ r e sz ver cs, H r = .vec e sz ver cs → (mu r = none ∧ cs = []) ∨ ∃ g cur, mu r = some g ∧ (C.w.heap.size ≤ g ∨ C.foot g) ∧ w.heap[g]? = some (.cells cur e (0, 0)) ∧ cs.length ≤ cur.size ∧ (∀ u ∈ cur.toList, u.oneCell' = true) ∧
    ∀ j x, cs[j]? = some x → SRep M0 H mu w (cur.getD j undef) x
  inj : ∀ s s' b, H s ≠ .none → H s' ≠ .none → mu s = some b → mu s' = some b → s = s'
  same : ∀ t, C.fix t = true → a.tmps.getD t undef = C.tm.getD t undef
  tr : ∀ l pre rest, f TR = .trace l pre rest → ¬ C.pure ∧ C.J l pre rest M0.c (Mine M0 H mu) w
  st : f TR = .stop → ¬ C.pure ∧ C.Jx M0.c (Mine M0 H mu) w
  rnd : ∀ l, C.ro = some l → (∃ r, w.heap[l]? = some (.loop r)) ∧ ∀ y : Addr, y.block = l → M0.x y
  mono : Steps C.H0 C.mu0 C.w H mu w
  gl : Globs (Mut M0 H mu) w
def St (N : Nat) (C : Ctx) (f : Frm) (H : Hp) (a : Act) (w : World) : Prop := ∃ M0 mu, StM N M0 C f H mu a w

def updo (f : Frm) (dst : Option Tmp) (x : SV) : Frm := match dst with | some t => upd f t x | none => f
section
variable {N : Nat} {M0 : MM} {w0 : Ctx} {w w' : World} {f f' : Frm} {H H' : Hp} {mu mu' : Nat → Option Nat} {a a' : Act}

theorem put_getD (a : Act) (d t : Nat) (v : Value) (hd : d < a.tmps.size) : (a.put (some d) v).tmps.getD t undef = if t = d then v else a.tmps.getD t undef := by
  simp only [Act.put]
  by_cases h : t = d
  · subst h; simp [hd]
  · simp [h, Array.getElem?_setIfInBounds_ne (Ne.symm h)]
theorem put_size (a : Act) (dst : Option Tmp) (v : Value) : (a.put dst v).tmps.size = a.tmps.size := by cases dst <;> simp [Act.put]
theorem put_defers (a : Act) (dst : Option Tmp) (v : Value) : (a.put dst v).defers = a.defers := by cases dst <;> rfl

theorem StM.named_lt (h : StM N M0 w0 f H mu a w) {x : Addr} (hx : Named H mu x) : (w0.w.heap.size ≤ x.block ∨ w0.foot x.block) ∧ x.block < w.heap.size := by
  obtain ⟨s, hs⟩ := hx
  cases hh : H s with
  | none => rw [hh] at hs; exact hs.elim
  | box cs =>
    rw [hh] at hs
    obtain ⟨b', arr, e, h1, h2, h3, _⟩ := h.box s cs hh
    have := hs.symm.trans h1
    cases this
    exact ⟨h2, (Array.getElem?_eq_some_iff.1 h3).1⟩
  | row e size k =>
    rw [hh] at hs
    rcases h.row s e size k hh with h1 | ⟨g, h1, h2, h3⟩
    · have := hs.1.symm.trans h1; cases this
    · have := hs.1.symm.trans h1; cases this; exact ⟨.inl h2, h3⟩
  | vec e sz ver cs =>
    rw [hh] at hs
    rcases h.vec s e sz ver cs hh with h1 | ⟨g, cur, h1, h2, h3, _⟩
    · have := hs.symm.trans h1.1; cases this
    · have := hs.symm.trans h1; cases this; exact ⟨h2, (Array.getElem?_eq_some_iff.1 h3).1⟩
theorem StM.mut_lt (h : StM N M0 w0 f H mu a w) {x : Addr} (hx : Mut M0 H mu x) : x.block < w.heap.size := hx.elim (h.old x) fun h1 => (h.named_lt h1).2
theorem StM.mu_lt (h : StM N M0 w0 f H mu a w) {s b : Nat} (hs : H s ≠ .none) (hm : mu s = some b) : b < w.heap.size := by
  cases hh : H s with
  | none => exact absurd hh hs
  | box cs =>
    obtain ⟨b', arr, e, h1, h2, h3, _⟩ := h.box s cs hh
    rw [hm] at h1; cases h1
    exact (Array.getElem?_eq_some_iff.1 h3).1
  | row e size k =>
    rcases h.row s e size k hh with h1 | ⟨g, h1, h2, h3⟩
    · rw [hm] at h1; cases h1
    · rw [hm] at h1; cases h1
      exact h3
  | vec e sz ver cs =>
    rcases h.vec s e sz ver cs hh with h1 | ⟨g, cur, h1, h2, h3, _⟩
    · rw [hm] at h1; cases h1.1
    · rw [hm] at h1; cases h1
      exact (Array.getElem?_eq_some_iff.1 h3).1

/-- A block in which others may write bears no name. -/
theorem StM.not_named (h : StM N M0 w0 f H mu a w) {x : Addr} (hx : M0.all x) {y : Addr} (hy : y.block = x.block) : ¬ Named H mu y := by
  rintro ⟨s, hs⟩
  cases hh : H s with
  | none => rw [hh] at hs; exact hs
  | box cs => rw [hh] at hs; exact h.sep s _ (by rw [hh]; simp) hs x hy.symm hx
  | row e size k => rw [hh] at hs; exact h.sep s _ (by rw [hh]; simp) hs.1 x hy.symm hx
  | vec e sz ver cs => rw [hh] at hs; exact h.sep s _ (by rw [hh]; simp) hs x hy.symm hx
/-- What is kept since some time goes on through a step of one's own. -/
theorem keep_own {R : Addr → Prop} {w1 : World} (hk : Keep R w1 (MN w0 M0 H mu) w) (own : Keep (Named H mu) w (Named H' mu') w') : Keep R w1 (MN w0 M0 H' mu') w' where
  os := own.os.trans hk.os
  tape := own.tape.trans hk.tape
  output := own.output.trans hk.output
  size := Nat.le_trans hk.size own.size
  cell := fun x u h1 h2 => by
    obtain ⟨g1, g2⟩ := hk.cell x u h1 h2
    have ⟨k1, k2⟩ := own.cell x u g1 fun h3 => g2 (.inr (.inl h3))
    exact ⟨k1, fun h3 => h3.elim (fun h4 => g2 (.inl h4)) fun h4 => h4.elim k2 fun h5 => g2 (.inr (.inr h5))⟩
  blk := fun b hb hm => by
    obtain ⟨g1, g2⟩ := hk.blk b hb hm
    obtain ⟨k1, k2⟩ := own.blk b (Nat.lt_of_lt_of_le hb hk.size) fun y hy h3 => g2 y hy (.inr (.inl h3))
    exact ⟨k1.trans g1, fun y hy h3 => h3.elim (fun h4 => g2 y hy (.inl h4)) fun h4 => h4.elim (k2 y hy) fun h5 => g2 y hy (.inr (.inr h5))⟩
theorem keep_mine (own : Keep (Named H mu) w (Named H' mu') w') : Keep (Mine M0 H mu) w (Mine M0 H' mu') w' :=
  ⟨own.os, own.tape, own.output, own.size, fun x u h1 h2 => have ⟨g1, g2⟩ := own.cell x u h1 fun h => h2 (.inr h); ⟨g1, fun h => h.elim (fun h => h2 (.inl h)) g2⟩,
    fun b hb hm => have ⟨g1, g2⟩ := own.blk b hb fun y hy h => hm y hy (.inr h); ⟨g1, fun y hy h => h.elim (fun h => hm y hy (.inl h)) (g2 y hy)⟩⟩

/-- A step of one's own: what its lemma owes, and no more. -/
theorem StM.move (h : StM N M0 w0 f H mu a w) (own : Keep (Named H mu) w (Named H' mu') w') (hsteps : Steps H mu w H' mu' w') (hdef : a'.defers = a.defers) (hsize : a'.tmps.size = N)
    (hnew : ∀ s b, H' s ≠ .none → mu' s = some b → (∃ s0, H s0 ≠ .none ∧ mu s0 = some b) ∨ w.heap.size ≤ b)
    (hslots : ∀ t, t < N → SRep M0 H' mu' w' (a'.tmps.getD t undef) (f' t))
    (hbox : ∀ s cs, H' s = .box cs → ∃ b arr e, mu' s = some b ∧ (w0.w.heap.size ≤ b ∨ w0.foot b) ∧ w'.heap[b]? = some (.cells arr e (0, 0)) ∧ arr.size = cs.length ∧
      ∀ j x, cs[j]? = some x → SRep M0 H' mu' w' (arr.getD j undef) x ∧ (arr.getD j undef).oneCell' = true)
    (hrow : ∀ r e size k, H' r = .row e size k → mu' r = none ∨ ∃ g, mu' r = some g ∧ w0.w.heap.size ≤ g ∧ g < w'.heap.size)
    (hvec : ∀ r e sz ver cs, H' r = .vec e sz ver cs → (mu' r = none ∧ cs = []) ∨ ∃ g cur, mu' r = some g ∧ (w0.w.heap.size ≤ g ∨ w0.foot g) ∧ w'.heap[g]? = some (.cells cur e (0, 0)) ∧ cs.length ≤ cur.size ∧ (∀ u ∈ cur.toList, u.oneCell' = true) ∧
      ∀ j x, cs[j]? = some x → SRep M0 H' mu' w' (cur.getD j undef) x)
    (hinj : ∀ s s' b, H' s ≠ .none → H' s' ≠ .none → mu' s = some b → mu' s' = some b → s = s')
    (hsame : ∀ t, w0.fix t = true → a'.tmps.getD t undef = a.tmps.getD t undef) (hTR : f' TR = f TR ∨ f' TR = .junk ∨ ∃ x, f' TR = .d x) : StM N M0 w0 f' H' mu' a' w' := by
  have hlt' : ∀ x, Named H' mu' x → x.block < w'.heap.size := by
    rintro x ⟨s, hs⟩
    cases hh : H' s with
    | none => rw [hh] at hs; exact hs.elim
    | box cs =>
      rw [hh] at hs
      obtain ⟨b', arr, e, h1, h2, h3, _⟩ := hbox s cs hh
      have := hs.symm.trans h1
      cases this
      exact (Array.getElem?_eq_some_iff.1 h3).1
    | row e size k =>
      rw [hh] at hs
      rcases hrow s e size k hh with h1 | ⟨g, h1, h2, h3⟩
      · have := hs.1.symm.trans h1; cases this
      · have := hs.1.symm.trans h1; cases this; exact h3
    | vec e sz ver cs =>
      rw [hh] at hs
      rcases hvec s e sz ver cs hh with h1 | ⟨g, cur, h1, h2, h3, _⟩
      · have := hs.symm.trans h1.1; cases this
      · have := hs.symm.trans h1; cases this; exact (Array.getElem?_eq_some_iff.1 h3).1
  have hold : ∀ x, M0.all x → x.block < w'.heap.size := fun x hx => Nat.lt_of_lt_of_le (h.old x hx) own.size
  have hmine : ∀ x, Mine M0 H' mu' x → x.block < w'.heap.size := fun x hx => hx.elim (fun h1 => hold x (.inr h1)) (hlt' x)
  refine ⟨fun d hd => ?_, by rw [hdef]; exact h.nodup, fun h1 => hdef.trans (h.rdef h1), hsize, h.nle, hslots, Nat.le_trans h.base own.size, ⟨own.os.trans h.osq.1, own.tape.trans h.osq.2.1, own.output.trans h.osq.2.2⟩, fun hp => ?_, h.cp, keep_own h.keep own, h.xeq, h.xc, hold,
    fun s b hs hm x hx => ?_, hbox, hrow, hvec, hinj, fun t ht => (hsame t ht).trans (h.same t ht), fun l pre rest ht => ?_, fun ht => ?_, fun l hl => ?_, h.mono.trans w0.fp hsteps, h.gl.mono own.cell.mut⟩
  · rw [hdef] at hd
    obtain ⟨D, e1, e2, e3, e4⟩ := h.marks d hd
    obtain ⟨k1, k2⟩ := own.blk D (Array.getElem?_eq_some_iff.1 e3).1 fun y hy hn => h.not_named (.inr (e4 y hy)) rfl hn
    exact ⟨D, e1, e2, k1.trans e3, e4⟩
  · have hb := h.below hp
    refine ⟨own.os.trans hb.os, own.tape.trans hb.tape, own.output.trans hb.output, Nat.le_trans hb.size own.size, fun k hk hf => ?_⟩
    exact (own.blk k (Nat.lt_of_lt_of_le hk hb.size) fun y hy hn => by
      have := (h.named_lt hn).1
      rw [hy] at this
      exact this.elim (fun h => by omega) hf).1.trans (hb.block k hk hf)
  · rcases hnew s b hs hm with ⟨s0, g1, g2⟩ | hge
    · exact h.sep s0 b g1 g2 x hx
    · intro hx2
      have := h.old x hx2
      omega
  · rcases hTR with hT | hT | ⟨x, hT⟩
    · exact ⟨(h.tr l pre rest (hT.symm.trans ht)).1, w0.jst _ _ _ _ _ _ _ _ (h.tr l pre rest (hT.symm.trans ht)).2 (keep_mine own) hmine⟩
    · rw [hT] at ht; cases ht
    · rw [hT] at ht; cases ht
  · rcases hTR with hT | hT | ⟨x, hT⟩
    · exact ⟨(h.st (hT.symm.trans ht)).1, w0.jxst _ _ _ _ _ (h.st (hT.symm.trans ht)).2 (keep_mine own) hmine⟩
    · rw [hT] at ht; cases ht
    · rw [hT] at ht; cases ht
  · obtain ⟨⟨r, g1⟩, g2⟩ := h.rnd l hl
    obtain ⟨k1, k2⟩ := own.blk l (Array.getElem?_eq_some_iff.1 g1).1 fun y hy hn => h.not_named (.inr (g2 y hy)) rfl hn
    exact ⟨⟨r, k1.trans g1⟩, g2⟩

/-- The slots behind one operation. -/
theorem StM.slots_put {dst : Option Tmp} (hd : ∀ d, dst = some d → d < N ∧ w0.fix d = false) (hs : a.tmps.size = N) (hsl : ∀ t, t < N → SRep M0 H mu w (a.tmps.getD t undef) (f t)) {v : Value} {x : SV} (hv : SRep M0 H mu w v x) :
    ∀ t, t < N → SRep M0 H mu w ((a.put dst v).tmps.getD t undef) (updo f dst x t) := by
  intro t ht
  cases dst with
  | none => exact hsl t ht
  | some d =>
    rw [put_getD a d t v (by rw [hs]; exact (hd d rfl).1)]
    simp only [updo, upd]
    split
    · exact hv
    · exact hsl t ht
/-- A step that leaves the world and the names alone. -/
theorem StM.put (h : StM N M0 w0 f H mu a w) {dst : Option Tmp} (hd : ∀ d, dst = some d → d < N ∧ w0.fix d = false) {v : Value} {x : SV} (hv : SRep M0 H mu w v x) : StM N M0 w0 (updo f dst x) H mu (a.put dst v) w := by
  have hT : updo f dst x TR = f TR := by
    cases dst with
    | none => rfl
    | some d =>
      have h1 := (hd d rfl).1
      have h2 : N ≤ 1000000 := h.nle
      have h3 : (1000000 : Nat) ≠ d := Nat.ne_of_gt (Nat.lt_of_lt_of_le h1 h2)
      simp only [updo, upd]
      exact if_neg h3
  exact { h with
    marks := by rw [put_defers]; exact h.marks
    nodup := by rw [put_defers]; exact h.nodup
    rdef := by rw [put_defers]; exact h.rdef
    size := by rw [put_size]; exact h.size
    slots := StM.slots_put hd h.size h.slots hv
    same := fun t ht => by
      cases dst with
      | none => exact h.same t ht
      | some d =>
        obtain ⟨h1, h2⟩ := hd d rfl
        rw [put_getD a d t v (by rw [h.size]; exact h1), if_neg (by intro e; subst e; rw [h2] at ht; cases ht)]
        exact h.same t ht
    tr := fun l pre rest ht => h.tr l pre rest (hT.symm.trans ht)
    st := fun ht => h.st (hT.symm.trans ht) }

/-- A world that only grows, the names the same. -/
theorem Turn.grow {w w' : World} (hb : Below w.heap.size w w') (hr : ∀ r e size k g, H r = .row e size k → mu r = some g → g < w.heap.size) : Turn M0 H mu w H mu w' where
  vec := fun r e sz ver cs h => ⟨ver, cs, h, Nat.le_refl _, fun _ => ⟨rfl, rfl, fun g cur e' _ hg => ⟨cur, (hb.block g (Array.getElem?_eq_some_iff.1 hg).1).trans hg, rfl⟩⟩⟩
  own := Keep.below hb
  box := fun s cs h => ⟨⟨cs, h⟩, rfl⟩
  row := fun r e size k h => ⟨k, Nat.le_refl _, h, fun _ => ⟨rfl, fun g hg => hb.block g (hr r e size k g h hg)⟩⟩
theorem StM.turn_grow (h : StM N M0 w0 f H mu a w) (hx : Below w.heap.size w w') : Turn M0 H mu w H mu w' := Turn.grow hx fun r e size k g h1 h2 => h.mu_lt (by rw [h1]; simp) h2
/-- Names of cells written here and there that a step leaves alone. -/
theorem StM.vecs (h : StM N M0 w0 f H mu a w) (ht : Turn M0 H mu w H' mu' w') (hv : ∀ r e sz ver cs, H' r = .vec e sz ver cs → H r = .vec e sz ver cs ∧ mu' r = mu r ∧ ∀ g, mu r = some g → w'.heap[g]? = w.heap[g]?) :
    ∀ r e sz ver cs, H' r = .vec e sz ver cs → (mu' r = none ∧ cs = []) ∨ ∃ g cur, mu' r = some g ∧ (w0.w.heap.size ≤ g ∨ w0.foot g) ∧ w'.heap[g]? = some (.cells cur e (0, 0)) ∧ cs.length ≤ cur.size ∧ (∀ u ∈ cur.toList, u.oneCell' = true) ∧
      ∀ j x, cs[j]? = some x → SRep M0 H' mu' w' (cur.getD j undef) x := fun r e sz ver cs hr => by
  obtain ⟨h1, h2, h3⟩ := hv r e sz ver cs hr
  rcases h.vec r e sz ver cs h1 with ⟨k1, k2⟩ | ⟨g, cur, k1, k2, k3, k4, k5, k6⟩
  · exact .inl ⟨h2.trans k1, k2⟩
  · exact .inr ⟨g, cur, h2.trans k1, k2, (h3 g k1).trans k3, k4, k5, fun j x hj => (k6 j x hj).turn ht⟩
theorem StM.grow (h : StM N M0 w0 f H mu a w) (hx : Below w.heap.size w w') : StM N M0 w0 f H mu a w' := by
  have ht : Turn M0 H mu w H mu w' := h.turn_grow hx
  refine h.move ht.own (Steps.of ht fun s hs => .inl hs) rfl h.size (fun s b h1 h2 => .inl ⟨s, h1, h2⟩) (fun t ht' => (h.slots t ht').turn ht) ?_ ?_ (h.vecs ht fun r e sz ver cs hr => ⟨hr, rfl, fun g hg => hx.block g (h.mu_lt (by rw [hr]; simp) hg)⟩) h.inj (fun _ _ => rfl) (.inl rfl)
  · intro s cs hs
    obtain ⟨b, arr, e, h1, h2, h3, h4, h5⟩ := h.box s cs hs
    exact ⟨b, arr, e, h1, h2, (hx.block b (Array.getElem?_eq_some_iff.1 h3).1).trans h3, h4, fun j x hj => ⟨(h5 j x hj).1.turn ht, (h5 j x hj).2⟩⟩
  · intro r e size k hr
    rcases h.row r e size k hr with h1 | ⟨g, h1, h2, h3⟩
    · exact .inl h1
    · exact .inr ⟨g, h1, h2, Nat.lt_of_lt_of_le h3 hx.size⟩
theorem StM.drew (h : StM N M0 w0 f H mu a w) : StM N M0 w0 f H mu a w.drew := h.grow (Below.refl _ _).drew

theorem named_new {s : Nat} (o : HO) (b : Option Nat) {x : Addr} (hx : Named (hup H s o) (fun t => if t = s then b else mu t) x) : Named H mu x ∨ b = some x.block := by
  obtain ⟨t, h3⟩ := hx
  by_cases hts : t = s
  · subst hts
    simp only [hup, if_true] at h3
    split at h3
    · exact h3.elim
    · exact .inr h3
    · exact .inr h3.1
    · exact .inr h3
  · simp only [hup, hts, if_false] at h3
    exact .inl ⟨t, h3⟩
theorem Turn.new (h : StM N M0 w0 f H mu a w) {s : Nat} (hs : H s = .none) (o : HO) (b : Option Nat) (hb : ∀ x, b = some x → w.heap.size ≤ x) (hw : Below w.heap.size w w') :
    Turn M0 H mu w (hup H s o) (fun t => if t = s then b else mu t) w' where
  own := by
    refine ⟨hw.os, hw.tape, hw.output, hw.size, fun x u h1 h2 => ?_, fun k hk hm => ⟨hw.block k hk, fun y hy hn => ?_⟩⟩
    · have hlt := World.block_lt_of_cell? w x h1
      refine ⟨(World.cell?_of_block (hw.block _ hlt)).trans h1, fun h3 => ?_⟩
      rcases named_new o b h3 with h4 | h4
      · exact h2 h4
      · have := hb _ h4; omega
    · rcases named_new o b hn with h4 | h4
      · exact hm y hy h4
      · have := hb _ h4; omega
  box := by
    intro t cs ht
    have hts : t ≠ s := by intro e; subst e; rw [hs] at ht; cases ht
    exact ⟨⟨cs, by simp [hup, hts, ht]⟩, by simp [hts]⟩
  row := by
    intro t e size k ht
    have hts : t ≠ s := by intro e; subst e; rw [hs] at ht; cases ht
    refine ⟨k, Nat.le_refl _, by simp [hup, hts, ht], fun _ => ⟨by simp [hts], fun g hg => hw.block g ?_⟩⟩
    exact h.mu_lt (by rw [ht]; simp) hg
  vec := by
    intro t e sz ver cs ht
    have hts : t ≠ s := by intro e; subst e; rw [hs] at ht; cases ht
    exact ⟨ver, cs, by simp [hup, hts, ht], Nat.le_refl _, fun _ => ⟨rfl, by simp [hts], fun g cur e' _ hg => ⟨cur, (hw.block g (Array.getElem?_eq_some_iff.1 hg).1).trans hg, rfl⟩⟩⟩

theorem hup_new {s t : Nat} {o : HO} (hsT : s < TR) (h1 : H t = .none) : hup H s o t = .none ∨ t < TR := by
  by_cases h : t = s
  · subst h; exact .inr hsT
  · exact .inl (by simp [hup, h, h1])
/-- The rest of the state when a name is laid anew. -/
theorem StM.new (h : StM N M0 w0 f H mu a w) {s : Nat} (hs : H s = .none) (hsT : s < TR) (o : HO) (b : Option Nat) (hb : ∀ x, b = some x → w.heap.size ≤ x ∧ x < w'.heap.size) (hx : Below w.heap.size w w')
    (hbox : ∀ cs, o = .box cs → ∃ b' arr e, b = some b' ∧ w'.heap[b']? = some (.cells arr e (0, 0)) ∧ arr.size = cs.length ∧
      ∀ j x, cs[j]? = some x → SRep M0 (hup H s o) (fun t => if t = s then b else mu t) w' (arr.getD j undef) x ∧ (arr.getD j undef).oneCell' = true)
    (hvec : ∀ e sz ver cs, o = .vec e sz ver cs → (b = none ∧ cs = []) ∨ ∃ g cur, b = some g ∧ w'.heap[g]? = some (.cells cur e (0, 0)) ∧ cs.length ≤ cur.size ∧ (∀ u ∈ cur.toList, u.oneCell' = true) ∧
      ∀ j x, cs[j]? = some x → SRep M0 (hup H s o) (fun t => if t = s then b else mu t) w' (cur.getD j undef) x := by intro e sz ver cs h; cases h) :
    StM N M0 w0 f (hup H s o) (fun t => if t = s then b else mu t) a w' := by
  have ht : Turn M0 H mu w (hup H s o) (fun t => if t = s then b else mu t) w' := Turn.new h hs o b (fun x e => (hb x e).1) hx
  refine h.move ht.own (Steps.of ht fun t h1 => hup_new hsT h1) rfl h.size ?_ (fun t ht' => (h.slots t ht').turn ht) ?_ ?_ (fun t e sz ver cs ht2 => ?_) ?_ (fun _ _ => rfl) (.inl rfl)
  rotate_left 3
  · by_cases hts : t = s
    · subst hts
      simp only [hup, if_true] at ht2
      rcases hvec e sz ver cs ht2 with ⟨k1, k2⟩ | ⟨g, cur, k1, k2⟩
      · exact .inl ⟨by simp [k1], k2⟩
      · exact .inr ⟨g, cur, by simp [k1], .inl (Nat.le_trans h.base (hb g k1).1), k2⟩
    · simp only [hup, hts, if_false] at ht2
      rcases h.vec t e sz ver cs ht2 with ⟨k1, k2⟩ | ⟨g, cur, k1, k2, k3, k4, k5, k6⟩
      · exact .inl ⟨by simp [hts, k1], k2⟩
      · exact .inr ⟨g, cur, by simp [hts, k1], k2, (hx.block g (Array.getElem?_eq_some_iff.1 k3).1).trans k3, k4, k5, fun j x hj => (k6 j x hj).turn ht⟩
  rotate_left 1
  · intro t b' h1 h2
    by_cases hts : t = s
    · subst hts
      simp only [if_true] at h2
      exact .inr (hb b' h2).1
    · simp only [hup, hts, if_false] at h1 h2
      exact .inl ⟨t, h1, h2⟩
  · intro t cs hcs
    by_cases hts : t = s
    · subst hts
      simp only [hup, if_true] at hcs
      obtain ⟨b', arr, e, h1, h2, h3, h4⟩ := hbox cs hcs
      exact ⟨b', arr, e, by simp [h1], .inl (Nat.le_trans h.base (hb b' h1).1), h2, h3, h4⟩
    · simp only [hup, hts, if_false] at hcs
      obtain ⟨b', arr, e, h1, h2, h3, h4, h5⟩ := h.box t cs hcs
      exact ⟨b', arr, e, by simp [hts, h1], h2, (hx.block b' (Array.getElem?_eq_some_iff.1 h3).1).trans h3, h4, fun j x hj => ⟨(h5 j x hj).1.turn ht, (h5 j x hj).2⟩⟩
  · intro t e size k hr
    by_cases hts : t = s
    · subst hts
      simp only [if_true]
      cases b with
      | none => exact .inl rfl
      | some x => exact .inr ⟨x, rfl, Nat.le_trans h.base (hb x rfl).1, (hb x rfl).2⟩
    · simp only [hup, hts, if_false] at hr ⊢
      rcases h.row t e size k hr with h1 | ⟨g, h1, h2, h3⟩
      · exact .inl h1
      · exact .inr ⟨g, h1, h2, Nat.lt_of_lt_of_le h3 hx.size⟩
  · intro t t' x h1 h2 h3 h4
    by_cases hts : t = s <;> by_cases hts' : t' = s
    · exact hts.trans hts'.symm
    · simp only [hup, hts, hts', if_true, if_false] at h1 h2 h3 h4
      have := h.mu_lt h2 h4
      have := (hb x h3).1
      omega
    · simp only [hup, hts, hts', if_true, if_false] at h1 h2 h3 h4
      have := h.mu_lt h1 h3
      have := (hb x h4).1
      omega
    · simp only [hup, hts, hts', if_false] at h1 h2 h3 h4
      exact h.inj t t' x h1 h2 h3 h4
end
end Go.Proofs.YtefiebkngpcaoaaDoor
namespace Go.Proofs.YtefiebkngpcaoaaDoor
open Go.RowKit
section
variable {N : Nat} {M0 : MM} {w0 : Ctx} {w w' : World} {f : Frm} {H H' : Hp} {mu mu' : Nat → Option Nat} {a : Act}

theorem hup_none {H : Hp} {s t : Nat} {o : HO} (hs : H s ≠ .none) (ht : H t = .none) : hup H s o t = .none := by
  by_cases h : t = s
  · subst h; exact absurd ht hs
  · simp [hup, h, ht]
theorem setRow_size (w : World) (g : Nat) (cs : Array Value) : (w.setRow g cs).heap.size = w.heap.size := by simp [World.setRow]
theorem setRow_keep {M M' : Addr → Prop} (w : World) (g : Nat) (cur' : Array Value) (hcell : ∀ x u, x.block = g → w.cell? x = some u → ¬ M x → (w.setRow g cur').cell? x = some u) (hmu : ∀ x, M' x → M x) (hg : ∃ x : Addr, x.block = g ∧ M x) : Keep M w M' (w.setRow g cur') where
  os := rfl
  tape := rfl
  output := rfl
  size := by rw [setRow_size]; exact Nat.le_refl _
  cell := fun x u h1 h2 => ⟨by
    by_cases hb : x.block = g
    · exact hcell x u hb h1 h2
    · exact (World.cell?_of_block (setRow_other w g x.block cur' hb)).trans h1, fun h3 => h2 (hmu x h3)⟩
  blk := fun b _ hm => ⟨setRow_other w g b cur' fun e => by subst e; obtain ⟨x, hx, hx2⟩ := hg; exact hm x hx hx2, fun y hy h3 => hm y hy (hmu y h3)⟩

/-- A store into a name's cells. -/
theorem StM.setBox (h : StM N M0 w0 f H mu a w) {s : Nat} {cs cs' : List SV} (hs : H s = .box cs) {b : Nat} {arr : Array Value} {e : TypeId} (hm : mu s = some b) (hb : w.heap[b]? = some (.cells arr e (0, 0)))
    (arr' : Array Value) (hlen : arr'.size = cs'.length) (hc : ∀ j x, cs'[j]? = some x → SRep M0 H mu w (arr'.getD j undef) x ∧ (arr'.getD j undef).oneCell' = true) :
    StM N M0 w0 f (hup H s (.box cs')) mu a (w.setRow b arr') := by
  have hmu : ∀ x, Named (hup H s (.box cs')) mu x → Named H mu x := by
    rintro x ⟨t, hx⟩
    refine ⟨t, ?_⟩
    by_cases hts : t = s
    · subst hts; simp only [hup, if_true] at hx; rw [hs]; exact hx
    · simpa only [hup, hts, if_false] using hx
  have hnb : ∀ x : Addr, x.block = b → Named H mu x := fun x hx => ⟨s, by rw [hs, hx]; exact hm⟩
  have hkp : Keep (Named H mu) w (Named (hup H s (.box cs')) mu) (w.setRow b arr') := setRow_keep w b arr' (fun x u hx _ hn => absurd (hnb x hx) hn) hmu ⟨⟨b, 0, none⟩, rfl, hnb _ rfl⟩
  have ht : Turn M0 H mu w (hup H s (.box cs')) mu (w.setRow b arr') := by
    have hvv : ∀ r e sz ver ds, H r = .vec e sz ver ds → r ≠ s ∧ ∀ g, mu r = some g → (w.setRow b arr').heap[g]? = w.heap[g]? := fun r e sz ver ds hr => by
      have hts : r ≠ s := by intro e; subst e; rw [hs] at hr; cases hr
      exact ⟨hts, fun g hg => setRow_other w b g arr' fun e => by subst e; exact hts (h.inj r s _ (by rw [hr]; simp) (by rw [hs]; simp) hg hm)⟩
    refine ⟨hkp, fun t ds hd => ?_, fun r e size k hr => ?_, fun r e sz ver ds hr => ⟨ver, ds, by simp [hup, (hvv r e sz ver ds hr).1, hr], Nat.le_refl _, fun _ => ⟨rfl, rfl, fun g cur e' hg hc => ⟨cur, ((hvv r e sz ver ds hr).2 g hg).trans hc, rfl⟩⟩⟩⟩
    · by_cases hts : t = s
      · subst hts; exact ⟨⟨cs', by simp [hup]⟩, rfl⟩
      · exact ⟨⟨ds, by simp [hup, hts, hd]⟩, rfl⟩
    · have hts : r ≠ s := by intro e; subst e; rw [hs] at hr; cases hr
      refine ⟨k, Nat.le_refl _, by simp [hup, hts, hr], fun _ => ⟨rfl, fun g hg => setRow_other w b g arr' ?_⟩⟩
      intro e
      subst e
      exact hts (h.inj r s _ (by rw [hr]; simp) (by rw [hs]; simp) hg hm)
  refine h.move hkp (Steps.of ht fun t h1 => .inl (hup_none (by rw [hs]; simp) h1)) rfl h.size (fun t b' h1 h2 => .inl ⟨t, ?_, h2⟩) (fun t ht' => (h.slots t ht').turn ht) ?_ ?_ (h.vecs ht fun r e sz ver ds hr => by
    have hts : r ≠ s := by intro e; subst e; simp [hup] at hr
    simp only [hup, hts, if_false] at hr
    exact ⟨hr, rfl, fun g hg => setRow_other w b g arr' fun e => by subst e; exact hts (h.inj r s _ (by rw [hr]; simp) (by rw [hs]; simp) hg hm)⟩) ?_ (fun _ _ => rfl) (.inl rfl)
  · by_cases hts : t = s
    · subst hts; rw [hs]; simp
    · simpa only [hup, hts, if_false] using h1
  · intro t ds hd
    by_cases hts : t = s
    · subst hts
      simp only [hup, if_true, HO.box.injEq] at hd
      subst hd
      obtain ⟨b', arr2, e2, h1, h2, -⟩ := h.box t cs hs
      have := h1.symm.trans hm
      cases this
      exact ⟨b, arr', e, hm, h2, setRow_heap w b arr arr' e _ hb, hlen, fun j x hj => ⟨(hc j x hj).1.turn ht, (hc j x hj).2⟩⟩
    · simp only [hup, hts, if_false] at hd
      obtain ⟨b', arr2, e2, h1, h2, h3, h4, h5⟩ := h.box t ds hd
      have hne : b' ≠ b := by intro e; subst e; exact hts (h.inj t s _ (by rw [hd]; simp) (by rw [hs]; simp) h1 hm)
      exact ⟨b', arr2, e2, h1, h2, (setRow_other w b b' arr' hne).trans h3, h4, fun j x hj => ⟨(h5 j x hj).1.turn ht, (h5 j x hj).2⟩⟩
  · intro r e size k hr
    have hts : r ≠ s := by intro e; subst e; simp [hup] at hr
    simp only [hup, hts, if_false] at hr
    rw [setRow_size]
    exact h.row r e size k hr
  · intro t t' x h1 h2 h3 h4
    refine h.inj t t' x ?_ ?_ h3 h4
    · by_cases hts : t = s
      · subst hts; rw [hs]; simp
      · simpa only [hup, hts, if_false] using h1
    · by_cases hts : t' = s
      · subst hts; rw [hs]; simp
      · simpa only [hup, hts, if_false] using h2

theorem rowIn_keep {r n k : Nat} {e : TypeId} {size : Nat} (hr : H r = .row e size n) (hk : n ≤ k) {g : Nat} (hm : mu r = some g) {cur cur' : Array Value} {et : TypeId} (hg : w.heap[g]? = some (.cells cur et (0, 0)))
    (hsame : ∀ j, j < n * size → cur'[j]? = cur[j]?) : Keep (Named H mu) w (Named (hup H r (.row e size k)) mu) (w.setRow g cur') := by
  have hmu : ∀ x, Named (hup H r (.row e size k)) mu x → Named H mu x := by
    rintro x ⟨t, hx⟩
    refine ⟨t, ?_⟩
    by_cases hts : t = r
    · subst hts
      simp only [hup, if_true] at hx
      rw [hr]
      exact ⟨hx.1, Nat.le_trans (Nat.mul_le_mul_right _ hk) hx.2⟩
    · simpa only [hup, hts, if_false] using hx
  refine setRow_keep w g cur' (fun x u hb h1 h2 => ?_) hmu ⟨⟨g, n * size, none⟩, rfl, r, by rw [hr]; exact ⟨hm, Nat.le_refl _⟩⟩
  have hoff : ¬ n * size ≤ x.off := fun ho => h2 ⟨r, by rw [hr]; exact ⟨by rw [hm, hb], ho⟩⟩
  obtain ⟨xb, xo, xs⟩ := x
  simp only at hb hoff
  subst hb
  have e1 := setRow_heap w xb cur cur' et _ hg
  simp only [World.cell?, hg] at h1
  simp only [World.cell?, e1]
  split at h1
  · cases h1
  · rename_i hsp
    rw [hsame xo (by omega), if_neg hsp]; exact h1
/-- A row that grows where it lies. -/
theorem StM.rowIn (h : StM N M0 w0 f H mu a w) {r n k : Nat} {e : TypeId} {size : Nat} (hr : H r = .row e size n) (hk : n < k) {g : Nat} (hm : mu r = some g) {cur cur' : Array Value} {et : TypeId} (hg : w.heap[g]? = some (.cells cur et (0, 0)))
    (hsame : ∀ j, j < n * size → cur'[j]? = cur[j]?) :
    StM N M0 w0 f (hup H r (.row e size k)) mu a (w.setRow g cur') := by
  have hkp := rowIn_keep (e := e) hr (Nat.le_of_lt hk) hm hg hsame
  have ht : Turn M0 H mu w (hup H r (.row e size k)) mu (w.setRow g cur') := by
    have hvv : ∀ t e sz ver ds, H t = .vec e sz ver ds → t ≠ r ∧ ∀ b, mu t = some b → (w.setRow g cur').heap[b]? = w.heap[b]? := fun t e sz ver ds ht => by
      have hts : t ≠ r := by intro e; subst e; rw [hr] at ht; cases ht
      exact ⟨hts, fun b hb => setRow_other w g b cur' fun e => by subst e; exact hts (h.inj t r _ (by rw [ht]; simp) (by rw [hr]; simp) hb hm)⟩
    refine ⟨hkp, fun t ds hd => ?_, fun t e2 size2 k2 ht => ?_, fun t e sz ver ds ht => ⟨ver, ds, by simp [hup, (hvv t e sz ver ds ht).1, ht], Nat.le_refl _, fun _ => ⟨rfl, rfl, fun b cur e' hb hc => ⟨cur, ((hvv t e sz ver ds ht).2 b hb).trans hc, rfl⟩⟩⟩⟩
    · have hts : t ≠ r := by intro e; subst e; rw [hr] at hd; cases hd
      exact ⟨⟨ds, by simp [hup, hts, hd]⟩, rfl⟩
    · by_cases hts : t = r
      · subst hts
        rw [hr] at ht
        cases ht
        exact ⟨k, Nat.le_of_lt hk, by simp [hup], fun e => by omega⟩
      · refine ⟨k2, Nat.le_refl _, by simp [hup, hts, ht], fun _ => ⟨rfl, fun b hb => setRow_other w g b cur' ?_⟩⟩
        intro e
        subst e
        exact hts (h.inj t r _ (by rw [ht]; simp) (by rw [hr]; simp) hb hm)
  refine h.move hkp (Steps.of ht fun t h1 => .inl (hup_none (by rw [hr]; simp) h1)) rfl h.size (fun t b' h1 h2 => .inl ⟨t, ?_, h2⟩) (fun t ht' => (h.slots t ht').turn ht) ?_ ?_ (h.vecs ht fun t e sz ver ds hq => by
    have hts : t ≠ r := by intro e; subst e; simp [hup] at hq
    simp only [hup, hts, if_false] at hq
    exact ⟨hq, rfl, fun b hb => setRow_other w g b cur' fun e => by subst e; exact hts (h.inj t r _ (by rw [hq]; simp) (by rw [hr]; simp) hb hm)⟩) ?_ (fun _ _ => rfl) (.inl rfl)
  · by_cases hts : t = r
    · subst hts; rw [hr]; simp
    · simpa only [hup, hts, if_false] using h1
  · intro t ds hd
    have hts : t ≠ r := by intro e; subst e; simp [hup] at hd
    simp only [hup, hts, if_false] at hd
    obtain ⟨b', arr2, e2, h1, h2, h3, h4, h5⟩ := h.box t ds hd
    have hne : b' ≠ g := by intro e; subst e; exact hts (h.inj t r _ (by rw [hd]; simp) (by rw [hr]; simp) h1 hm)
    exact ⟨b', arr2, e2, h1, h2, (setRow_other w g b' cur' hne).trans h3, h4, fun j x hj => ⟨(h5 j x hj).1.turn ht, (h5 j x hj).2⟩⟩
  · intro t e2 size2 k2 ht2
    rw [setRow_size]
    by_cases hts : t = r
    · subst hts
      exact h.row t e size n hr
    · simp only [hup, hts, if_false] at ht2
      exact h.row t e2 size2 k2 ht2
  · intro t t' x h1 h2 h3 h4
    refine h.inj t t' x ?_ ?_ h3 h4
    · by_cases hts : t = r
      · subst hts; rw [hr]; simp
      · simpa only [hup, hts, if_false] using h1
    · by_cases hts : t' = r
      · subst hts; rw [hr]; simp
      · simpa only [hup, hts, if_false] using h2

/-- A row that goes on in a new block. -/
theorem rowNew_keep (r : Nat) {k : Nat} {e : TypeId} {size : Nat} {g : Nat} (hg : w.heap.size ≤ g) (hx : Below w.heap.size w w') :
    Keep (Named H mu) w (Named (hup H r (.row e size k)) (fun t => if t = r then some g else mu t)) w' := by
  refine ⟨hx.os, hx.tape, hx.output, hx.size, fun x u h1 h2 => ?_, fun b hb hm => ⟨hx.block b hb, fun y hy hn => ?_⟩⟩
  · have hlt := World.block_lt_of_cell? w x h1
    refine ⟨(World.cell?_of_block (hx.block _ hlt)).trans h1, fun h3 => ?_⟩
    rcases named_new _ (some g) h3 with h4 | h4
    · exact h2 h4
    · simp at h4; omega
  · rcases named_new _ (some g) hn with h4 | h4
    · exact hm y hy h4
    · simp at h4; omega
theorem StM.rowNew (h : StM N M0 w0 f H mu a w) {r n k : Nat} {e : TypeId} {size : Nat} (hr : H r = .row e size n) (hk : n < k) {g : Nat} (hg : w.heap.size ≤ g) (hg' : g < w'.heap.size) (hx : Below w.heap.size w w') :
    StM N M0 w0 f (hup H r (.row e size k)) (fun t => if t = r then some g else mu t) a w' := by
  have hkp : Keep (Named H mu) w (Named (hup H r (.row e size k)) (fun t => if t = r then some g else mu t)) w' := rowNew_keep r hg hx
  have ht : Turn M0 H mu w (hup H r (.row e size k)) (fun t => if t = r then some g else mu t) w' := by
    refine ⟨hkp, fun t ds hd => ?_, fun t e2 size2 k2 ht => ?_, fun t e sz ver ds ht => ?_⟩
    rotate_left 2
    · have hts : t ≠ r := by intro e; subst e; rw [hr] at ht; cases ht
      exact ⟨ver, ds, by simp [hup, hts, ht], Nat.le_refl _, fun _ => ⟨rfl, by simp [hts], fun b cur e' hb hc => ⟨cur, (hx.block b (Array.getElem?_eq_some_iff.1 hc).1).trans hc, rfl⟩⟩⟩
    · have hts : t ≠ r := by intro e; subst e; rw [hr] at hd; cases hd
      exact ⟨⟨ds, by simp [hup, hts, hd]⟩, by simp [hts]⟩
    · by_cases hts : t = r
      · subst hts
        rw [hr] at ht
        cases ht
        exact ⟨k, Nat.le_of_lt hk, by simp [hup], fun e => by omega⟩
      · exact ⟨k2, Nat.le_refl _, by simp [hup, hts, ht], fun _ => ⟨by simp [hts], fun b hb => hx.block b (h.mu_lt (by rw [ht]; simp) hb)⟩⟩
  refine h.move hkp (Steps.of ht fun t h1 => .inl (hup_none (by rw [hr]; simp) h1)) rfl h.size (fun t b' h1 h2 => ?_) (fun t ht' => (h.slots t ht').turn ht) ?_ ?_ (h.vecs ht fun t e sz ver ds hq => by
    have hts : t ≠ r := by intro e; subst e; simp [hup] at hq
    simp only [hup, hts, if_false] at hq
    exact ⟨hq, by simp [hts], fun b hb => hx.block b (h.mu_lt (by rw [hq]; simp) hb)⟩) ?_ (fun _ _ => rfl) (.inl rfl)
  · by_cases hts : t = r
    · subst hts
      simp only [if_true, Option.some.injEq] at h2
      exact .inr (by omega)
    · simp only [hup, hts, if_false] at h1 h2
      exact .inl ⟨t, h1, h2⟩
  · intro t ds hd
    have hts : t ≠ r := by intro e; subst e; simp [hup] at hd
    simp only [hup, hts, if_false] at hd
    obtain ⟨b', arr2, e2, h1, h2, h3, h4, h5⟩ := h.box t ds hd
    exact ⟨b', arr2, e2, by simp [hts, h1], h2, (hx.block b' (Array.getElem?_eq_some_iff.1 h3).1).trans h3, h4, fun j x hj => ⟨(h5 j x hj).1.turn ht, (h5 j x hj).2⟩⟩
  · intro t e2 size2 k2 ht2
    by_cases hts : t = r
    · subst hts
      exact .inr ⟨g, by simp, Nat.le_trans h.base hg, hg'⟩
    · simp only [hup, hts, if_false] at ht2 ⊢
      rcases h.row t e2 size2 k2 ht2 with h1 | ⟨g2, h1, h2, h3⟩
      · exact .inl h1
      · exact .inr ⟨g2, h1, h2, Nat.lt_of_lt_of_le h3 hx.size⟩
  · intro t t' x h1 h2 h3 h4
    by_cases hts : t = r <;> by_cases hts' : t' = r
    · exact hts.trans hts'.symm
    · simp only [hup, hts, hts', if_true, if_false, Option.some.injEq] at h1 h2 h3 h4
      have := h.mu_lt h2 h4
      omega
    · simp only [hup, hts, hts', if_true, if_false, Option.some.injEq] at h1 h2 h3 h4
      have := h.mu_lt h1 h3
      omega
    · simp only [hup, hts, hts', if_false] at h1 h2 h3 h4
      exact h.inj t t' x h1 h2 h3 h4
/-- Cells that are written here and there: written where they lie. -/
theorem StM.vecIn (h : StM N M0 w0 f H mu a w) {r : Nat} {e : TypeId} {sz ver ver' : Nat} {cs cs' : List SV} (hr : H r = .vec e sz ver cs) {g : Nat} (hm : mu r = some g) {cur cur' : Array Value} {et : TypeId} (hg : w.heap[g]? = some (.cells cur et (0, 0)))
    (hv : ver ≤ ver') (hvl : ver = ver' → cs'.length = cs.length) (hsz : cur'.size = cur.size) (hlen : cs'.length ≤ cur'.size) (h1 : ∀ u ∈ cur'.toList, u.oneCell' = true) (hc : ∀ j x, cs'[j]? = some x → SRep M0 H mu w (cur'.getD j undef) x) :
    Turn M0 H mu w (hup H r (.vec e sz ver' cs')) mu (w.setRow g cur') ∧ StM N M0 w0 f (hup H r (.vec e sz ver' cs')) mu a (w.setRow g cur') := by
  have hmu : ∀ x, Named (hup H r (.vec e sz ver' cs')) mu x → Named H mu x := by
    rintro x ⟨t, hx⟩
    refine ⟨t, ?_⟩
    by_cases hts : t = r
    · subst hts; simp only [hup, if_true] at hx; rw [hr]; exact hx
    · simpa only [hup, hts, if_false] using hx
  have hnb : ∀ x : Addr, x.block = g → Named H mu x := fun x hx => ⟨r, by rw [hr, hx]; exact hm⟩
  have hkp : Keep (Named H mu) w (Named (hup H r (.vec e sz ver' cs')) mu) (w.setRow g cur') := setRow_keep w g cur' (fun x u hx _ hn => absurd (hnb x hx) hn) hmu ⟨⟨g, 0, none⟩, rfl, hnb _ rfl⟩
  have hother : ∀ t, t ≠ r → H t ≠ .none → ∀ b, mu t = some b → (w.setRow g cur').heap[b]? = w.heap[b]? := fun t ht hn b hb => setRow_other w g b cur' fun e => by
    subst e; exact ht (h.inj t r _ hn (by rw [hr]; simp) hb hm)
  have hsame : (w.setRow g cur').heap[g]? = some (.cells cur' et (0, 0)) := setRow_heap w g cur cur' et _ hg
  have ht : Turn M0 H mu w (hup H r (.vec e sz ver' cs')) mu (w.setRow g cur') := by
    refine ⟨hkp, fun t ds hd => ?_, fun t e2 size k hrr => ?_, fun t e2 sz2 ver2 ds htv => ?_⟩
    · have hts : t ≠ r := by intro e; subst e; rw [hr] at hd; cases hd
      exact ⟨⟨ds, by simp [hup, hts, hd]⟩, rfl⟩
    · have hts : t ≠ r := by intro e; subst e; rw [hr] at hrr; cases hrr
      exact ⟨k, Nat.le_refl _, by simp [hup, hts, hrr], fun _ => ⟨rfl, fun b hb => hother t hts (by rw [hrr]; simp) b hb⟩⟩
    · by_cases hts : t = r
      · subst hts
        rw [hr] at htv
        cases htv
        refine ⟨ver', cs', by simp [hup], hv, fun e1 => ⟨hvl e1, rfl, fun b cur2 e' hb hc2 => ?_⟩⟩
        rw [hm] at hb
        cases hb
        rw [hg] at hc2
        cases hc2
        exact ⟨cur', hsame, hsz⟩
      · exact ⟨ver2, ds, by simp [hup, hts, htv], Nat.le_refl _, fun _ => ⟨rfl, rfl, fun b cur2 e' hb hc2 => ⟨cur2, (hother t hts (by rw [htv]; simp) b hb).trans hc2, rfl⟩⟩⟩
  have hold := h.vec r e sz ver cs hr
  refine ⟨ht, h.move hkp (Steps.of ht fun t h1 => .inl (hup_none (by rw [hr]; simp) h1)) rfl h.size (fun t b' h1 h2 => .inl ⟨t, ?_, h2⟩) (fun t ht' => (h.slots t ht').turn ht) ?_ ?_ ?_ ?_ (fun _ _ => rfl) (.inl rfl)⟩
  · by_cases hts : t = r
    · subst hts; rw [hr]; simp
    · simpa only [hup, hts, if_false] using h1
  · intro t ds hd
    have hts : t ≠ r := by intro e; subst e; simp [hup] at hd
    simp only [hup, hts, if_false] at hd
    obtain ⟨b', arr2, e2, h1, h2, h3, h4, h5⟩ := h.box t ds hd
    exact ⟨b', arr2, e2, h1, h2, (hother t hts (by rw [hd]; simp) b' h1).trans h3, h4, fun j x hj => ⟨(h5 j x hj).1.turn ht, (h5 j x hj).2⟩⟩
  · intro t e2 size k htr
    have hts : t ≠ r := by intro e; subst e; simp [hup] at htr
    simp only [hup, hts, if_false] at htr
    rw [setRow_size]
    exact h.row t e2 size k htr
  · intro t e2 sz2 ver2 ds htv
    by_cases hts : t = r
    · subst hts
      simp only [hup, if_true, HO.vec.injEq] at htv
      obtain ⟨rfl, rfl, rfl, rfl⟩ := htv
      rcases hold with ⟨k1, -⟩ | ⟨g2, cur2, k1, k2, k3, -⟩
      · rw [hm] at k1; cases k1
      · rw [hm] at k1
        cases k1
        rw [hg] at k3
        cases k3
        exact .inr ⟨g, cur', hm, k2, hsame, hlen, h1, fun j x hj => (hc j x hj).turn ht⟩
    · simp only [hup, hts, if_false] at htv
      rcases h.vec t e2 sz2 ver2 ds htv with ⟨k1, k2⟩ | ⟨g2, cur2, k1, k2, k3, k4, k5, k6⟩
      · exact .inl ⟨k1, k2⟩
      · exact .inr ⟨g2, cur2, k1, k2, (hother t hts (by rw [htv]; simp) g2 k1).trans k3, k4, k5, fun j x hj => (k6 j x hj).turn ht⟩
  · intro t t' x h1 h2 h3 h4
    refine h.inj t t' x ?_ ?_ h3 h4
    · by_cases hts : t = r
      · subst hts; rw [hr]; simp
      · simpa only [hup, hts, if_false] using h1
    · by_cases hts : t' = r
      · subst hts; rw [hr]; simp
      · simpa only [hup, hts, if_false] using h2
/-- Cells that are written here and there: they go on in a new block. -/
theorem StM.vecNew (h : StM N M0 w0 f H mu a w) {r : Nat} {e : TypeId} {sz ver ver' : Nat} {cs cs' : List SV} (hr : H r = .vec e sz ver cs) (hv : ver < ver') {g : Nat} (hg : w.heap.size ≤ g) (hg' : g < w'.heap.size) (hx : Below w.heap.size w w') {cur' : Array Value}
    (hcur : w'.heap[g]? = some (.cells cur' e (0, 0))) (hlen : cs'.length ≤ cur'.size) (h1 : ∀ u ∈ cur'.toList, u.oneCell' = true) (hc : ∀ j x, cs'[j]? = some x → SRep M0 H mu w (cur'.getD j undef) x) :
    Turn M0 H mu w (hup H r (.vec e sz ver' cs')) (fun t => if t = r then some g else mu t) w' ∧ StM N M0 w0 f (hup H r (.vec e sz ver' cs')) (fun t => if t = r then some g else mu t) a w' := by
  have hkp : Keep (Named H mu) w (Named (hup H r (.vec e sz ver' cs')) (fun t => if t = r then some g else mu t)) w' := by
    refine ⟨hx.os, hx.tape, hx.output, hx.size, fun x u h1 h2 => ?_, fun b hb hm => ⟨hx.block b hb, fun y hy hn => ?_⟩⟩
    · have hlt := World.block_lt_of_cell? w x h1
      refine ⟨(World.cell?_of_block (hx.block _ hlt)).trans h1, fun h3 => ?_⟩
      rcases named_new _ (some g) h3 with h4 | h4
      · exact h2 h4
      · simp at h4; omega
    · rcases named_new _ (some g) hn with h4 | h4
      · exact hm y hy h4
      · simp at h4; omega
  have ht : Turn M0 H mu w (hup H r (.vec e sz ver' cs')) (fun t => if t = r then some g else mu t) w' := by
    refine ⟨hkp, fun t ds hd => ?_, fun t e2 size2 k2 ht => ?_, fun t e2 sz2 ver2 ds ht => ?_⟩
    · have hts : t ≠ r := by intro e; subst e; rw [hr] at hd; cases hd
      exact ⟨⟨ds, by simp [hup, hts, hd]⟩, by simp [hts]⟩
    · have hts : t ≠ r := by intro e; subst e; rw [hr] at ht; cases ht
      exact ⟨k2, Nat.le_refl _, by simp [hup, hts, ht], fun _ => ⟨by simp [hts], fun b hb => hx.block b (h.mu_lt (by rw [ht]; simp) hb)⟩⟩
    · by_cases hts : t = r
      · subst hts
        rw [hr] at ht
        cases ht
        exact ⟨ver', cs', by simp [hup], Nat.le_of_lt hv, fun e => by omega⟩
      · exact ⟨ver2, ds, by simp [hup, hts, ht], Nat.le_refl _, fun _ => ⟨rfl, by simp [hts], fun b cur2 e' hb hc2 => ⟨cur2, (hx.block b (Array.getElem?_eq_some_iff.1 hc2).1).trans hc2, rfl⟩⟩⟩
  refine ⟨ht, h.move hkp (Steps.of ht fun t h1 => .inl (hup_none (by rw [hr]; simp) h1)) rfl h.size (fun t b' h1 h2 => ?_) (fun t ht' => (h.slots t ht').turn ht) ?_ ?_ ?_ ?_ (fun _ _ => rfl) (.inl rfl)⟩
  · by_cases hts : t = r
    · subst hts
      simp only [if_true, Option.some.injEq] at h2
      exact .inr (by omega)
    · simp only [hup, hts, if_false] at h1 h2
      exact .inl ⟨t, h1, h2⟩
  · intro t ds hd
    have hts : t ≠ r := by intro e; subst e; simp [hup] at hd
    simp only [hup, hts, if_false] at hd
    obtain ⟨b', arr2, e2, h1, h2, h3, h4, h5⟩ := h.box t ds hd
    exact ⟨b', arr2, e2, by simp [hts, h1], h2, (hx.block b' (Array.getElem?_eq_some_iff.1 h3).1).trans h3, h4, fun j x hj => ⟨(h5 j x hj).1.turn ht, (h5 j x hj).2⟩⟩
  · intro t e2 size2 k2 ht2
    have hts : t ≠ r := by intro e; subst e; simp [hup] at ht2
    simp only [hup, hts, if_false] at ht2 ⊢
    rcases h.row t e2 size2 k2 ht2 with h1 | ⟨g2, h1, h2, h3⟩
    · exact .inl h1
    · exact .inr ⟨g2, h1, h2, Nat.lt_of_lt_of_le h3 hx.size⟩
  · intro t e2 sz2 ver2 ds htv
    by_cases hts : t = r
    · subst hts
      simp only [hup, if_true, HO.vec.injEq] at htv
      obtain ⟨rfl, rfl, rfl, rfl⟩ := htv
      exact .inr ⟨g, cur', by simp, .inl (Nat.le_trans h.base hg), hcur, hlen, h1, fun j x hj => (hc j x hj).turn ht⟩
    · simp only [hup, hts, if_false] at htv
      rcases h.vec t e2 sz2 ver2 ds htv with ⟨k1, k2⟩ | ⟨g2, cur2, k1, k2, k3, k4, k5, k6⟩
      · exact .inl ⟨by simp [hts, k1], k2⟩
      · exact .inr ⟨g2, cur2, by simp [hts, k1], k2, (hx.block g2 (Array.getElem?_eq_some_iff.1 k3).1).trans k3, k4, k5, fun j x hj => (k6 j x hj).turn ht⟩
  · intro t t' x h1 h2 h3 h4
    by_cases hts : t = r <;> by_cases hts' : t' = r
    · exact hts.trans hts'.symm
    · simp only [hup, hts, hts', if_true, if_false, Option.some.injEq] at h1 h2 h3 h4
      have := h.mu_lt h2 h4
      omega
    · simp only [hup, hts, hts', if_true, if_false, Option.some.injEq] at h1 h2 h3 h4
      have := h.mu_lt h1 h3
      omega
    · simp only [hup, hts, hts', if_false] at h1 h2 h3 h4
      exact h.inj t t' x h1 h2 h3 h4
end
end Go.Proofs.YtefiebkngpcaoaaDoor
